/- The walk of awake (stores). -/
import Derived.Test.YtgcfiiidhihkaaaStoW
namespace Go.Proofs.Ytgcfiiidhihkaaa.C
open Go.RowKit
set_option linter.unusedVariables false
/-- A packet of noughts but for its number and its length. -/
def pkOf (s n : Int) : Array Value := ([Value.int .i64 s, Value.bool false, Value.int .u8 0] ++ List.replicate 32 (Value.int .u8 0) ++ [Value.int .u16 0, Value.int .u16 0, Value.bool false] ++ List.replicate 7 (Value.int .u8 0) ++ [Value.int .i64 n]).toArray
theorem pkOf_ok (s n : Int) : PkL (pkOf s n) n := ⟨⟨by rfl, by kernel_rfl⟩, by rfl⟩
theorem build_len (n : Int) (w : World) : (Instr.build 79 #[(3, .int .i64 n)]).run Try.prog w = .ok (.agg (pkOf 0 n)) w := run_build w 79 _ _ (by kernel_rfl)
theorem build_seq (s n : Int) (w : World) : (Instr.build 79 #[(0, .int .i64 s), (3, .int .i64 n)]).run Try.prog w = .ok (.agg (pkOf s n)) w := run_build w 79 _ _ (by kernel_rfl)
set_option maxRecDepth 100000 in
theorem st_awake (w : World) : Calls Try.prog 41 #[] w fun e w' => e = .returned (.bool true) ∧ Below w.heap.size w w' := by
  have C1 := Lib.hid (st_new 1 1 w (by omega) (by omega) (by omega) (by omega))
  go_enter Try.func41, Try.ntmps41
  go_wp2_with fail
  refine C1.out.mono ?_
  rintro e w1 ⟨a, rfl, hge, hS, hB⟩
  have HGE := Lib.hid hge
  have HB := Lib.hid hB
  have HS := Lib.hid hS
  have hbl := build_len 5 w1
  clear C1 hge hB hS
  go_upto_region 3 with (first
    | ((with_reducible refine arm_build 8 79 #[(3, .const (.int .i64 5))] #[(3, .int .i64 5)] (.agg (pkOf 0 5)) hbl ?_ ?_); rfl)
    | ((with_reducible refine arm_alloc 3 79 PZ 46 pz_zero ?_); intro w2 HB2 HX HS2; have hst := pkt_store HX.out (pkOf_ok 0 5).pk)
    | ((with_reducible refine arm_store 3 8 79 (.pointer (some ⟨w1.heap.size, 0, none⟩)) (.agg (pkOf 0 5)) _ hst ?_ ?_ ?_); rfl; rfl))
  clear hst hbl
  have hbx := box_whole HX.out (cs := pkOf 0 5) rfl
  have hB3 := below_setCells (b := w1.heap.size) (Nat.le_refl _) (pkOf 0 5).toList 0 HB2.out
  have hS3 := HS.out.below hB3
  have HB3 := Lib.hid (HB.out.trans (hB3.mono HB.out.size))
  have hs := HB.out.size
  have hge1 : ∀ x ∈ a.bs, x < w1.heap.size := fun x hx => HS.out.lt x (by simp [hx])
  have hn1 : w1.heap.size ∉ a.bs := fun hm => absurd (hge1 _ hm) (Nat.lt_irrefl _)
  generalize w2.setCells w1.heap.size 0 (pkOf 0 5).toList = w3 at *
  generalize w1.heap.size = b at *
  have C2 : Hid (Calls Try.prog 43 #[.pointer (some ⟨a.sb, 0, none⟩), .int .i64 0, .agg (pkOf 0 5)] w3 _) := push_yes 0 5 (pkOf 0 5) [] hS3 (pkOf_ok 0 5) rfl (by omega) (by simp [total])
  have hld := pkt_load hbx (pkOf_ok 0 5).pk
  have HX3 := Lib.hid hbx
  have HN1 := Lib.hid hn1
  clear hB3 hS3 hge1 hbx hn1 HS HB HB2 HX HS2
  go_wp2_with ((with_reducible refine arm_loadg 13 3 79 (.pointer (some ⟨b, 0, none⟩)) (.agg (pkOf 0 5)) hld ?_ ?_ ?_); rfl; rfl)
  refine C2.out.mono ?_
  rintro e w4 ⟨rfl, hS4, hA4⟩
  have hS4 : Sto w4 a [[pkOf 0 5]] 1 := hS4
  have hX4 := hA4.keep HX3.out HN1.out
  have hB4 := HB3.out.trans (hA4.below (B := w.heap.size) HB3.out.size fun x hx => HGE.out x (by simp [hx]))
  have C3 : Hid (Calls Try.prog 43 #[.pointer (some ⟨a.sb, 0, none⟩), .int .i64 0, .agg (pkOf 0 5)] w4 _) := push_full 0 5 (pkOf 0 5) hS4 (pkOf_ok 0 5) (by simp) (by omega) (by simp [total])
  have hld := pkt_load hX4 (pkOf_ok 0 5).pk
  have HS4 := Lib.hid hS4
  have HB4 := Lib.hid hB4
  clear C2 hS4 hA4 hX4 hB4 HX3 HB3 hs HN1 HGE
  go_wp2_with ((with_reducible refine arm_loadg 18 3 79 (.pointer (some ⟨b, 0, none⟩)) (.agg (pkOf 0 5)) hld ?_ ?_ ?_); rfl; rfl)
  refine C3.out.mono ?_
  rintro e w5 ⟨rfl, hB5⟩
  have hS5 := HS4.out.below hB5
  have C4 : Hid (Calls Try.prog 48 #[.pointer (some ⟨a.sb, 0, none⟩), .int .i64 0] w5 fun e w' => e = .returned (.int .i64 5) ∧ Below w5.heap.size w5 w') := st_head 0 hS5
  have HS5 := Lib.hid hS5
  have HB5 := Lib.hid (HB4.out.trans (hB5.mono HB4.out.size))
  clear C3 hB5 hS5 HS4 HB4 hld
  go_wp2_with fail
  refine C4.out.mono ?_
  rintro e w6 ⟨rfl, hB6⟩
  have hS6 := HS5.out.below hB6
  have C5 : Hid (Calls Try.prog 46 #[.pointer (some ⟨a.sb, 0, none⟩), .int .i64 0] w6 fun e w' => e = .returned (.int .i64 5) ∧ w' = w6) := st_bytes 0 [pkOf 0 5] hS6 rfl
  have C6 : Hid (Calls Try.prog 45 #[.pointer (some ⟨a.sb, 0, none⟩)] w6 fun e w' => e = .returned (.int .i64 0) ∧ w' = w6) := st_free hS6
  have HB6 := Lib.hid (HB5.out.trans (hB6.mono HB5.out.size))
  clear C4 hB6 hS6 HS5 HB5
  go_wp2_with fail
  refine C5.out.mono ?_
  rintro e w7 ⟨rfl, rfl⟩
  go_wp2_with fail
  refine C6.out.mono ?_
  rintro e w8 ⟨rfl, rfl⟩
  go_wp2
  go_ret
  exact ⟨rfl, HB6.out⟩
end Go.Proofs.Ytgcfiiidhihkaaa.C
