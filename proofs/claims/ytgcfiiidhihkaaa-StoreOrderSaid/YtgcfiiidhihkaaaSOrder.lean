/- The walk of StoreOrder. -/
import Derived.Test.YtgcfiiidhihkaaaStoA
import Derived.Test.YtgcfiiidhihkaaaPkA
namespace Go.Proofs.Ytgcfiiidhihkaaa.C
open Go.RowKit
set_option linter.unusedVariables false
theorem sorder_many (b : Option Addr) (len cap : Nat) (w : World) (h : 60 < len) (hm : len ≤ 9223372036854775807) :
    Calls Try.prog 12 #[.slice b len cap] w fun e w' => e = .returned (.bool true) ∧ Below w.heap.size w w' := by
  have Ha := Lib.hid st_awake
  go_enter Try.func12, Try.ntmps12
  go_wp2_with fail
  refine (Ha.out _).mono ?_
  rintro e w1 ⟨rfl, hB1⟩
  go_wp2_with fail
  refine (Ha.out _).mono ?_
  rintro e w2 ⟨rfl, hB2⟩
  go_wp2
  go_ret
  exact ⟨rfl, hB1.trans (hB2.mono hB1.size)⟩
/-- The first k packets; those from the k-th on. -/
def firstF (F : Nat → Array Value) (k : Nat) : List (Array Value) := (List.range k).map F
def restF (F : Nat → Array Value) (len k : Nat) : List (Array Value) := (List.range' k (len - k)).map F
theorem firstF_succ (F : Nat → Array Value) (k : Nat) : firstF F k ++ [F k] = firstF F (k + 1) := by simp [firstF, List.range_succ]
theorem firstF_length (F : Nat → Array Value) (k : Nat) : (firstF F k).length = k := by simp [firstF]
theorem restF_zero (F : Nat → Array Value) (len : Nat) : restF F len 0 = firstF F len := by simp [restF, firstF, List.range_eq_range']
theorem restF_length (F : Nat → Array Value) (len k : Nat) : (restF F len k).length = len - k := by simp [restF]
theorem restF_cons (F : Nat → Array Value) {len k : Nat} (h : k < len) : restF F len k = F k :: restF F len (k + 1) := by
  unfold restF
  rw [show len - k = (len - (k + 1)) + 1 by omega, List.range'_succ, List.map_cons]
theorem restF_end (F : Nat → Array Value) (len : Nat) : restF F len len = [] := by simp [restF]
theorem sumL_cons (x : Array Value) (l : List (Array Value)) : sumL (x :: l) = lenP x + sumL l := by simp [sumL]
/-- The class of worlds in which StoreOrder compares. -/
structure OC (w0 : World) (a : Adr) (F : Nat → Array Value) (k j : Nat) (x : Addr) (b : Nat) (w : World) : Prop where
  st : Sto w a [[], restF F k (j + 1)] 60
  box : w.heap[b]? = some (.cells (F j) 79 (0, 0))
  below : Below w0.heap.size w0 w
set_option maxRecDepth 100000 in
set_option maxHeartbeats 2000000 in
theorem sorder_main (b : Option Addr) (len cap : Nat) (F : Nat → Array Value) (w : World) (h : len ≤ 60) (hF : Pkts w b len F) :
    Calls Try.prog 12 #[.slice b len cap] w fun e w' => e = .returned (.bool true) ∧ Below w.heap.size w w' := by
  have d1 : decide (60 < len) = false := by simp; omega
  have Ha := Lib.hid (st_awake w)
  have HF := Lib.hid hF
  clear hF
  go_enter Try.func12, Try.ntmps12
  go_wp2_with fail
  refine Ha.out.mono ?_
  rintro e w1 ⟨rfl, hB1⟩
  have CN : Hid (Calls Try.prog 42 #[.int .i64 2, .int .i64 60] w1 _) := st_new 2 60 w1 (by omega) (by omega) (by omega) (by omega)
  clear Ha
  go_wp2_with fail
  refine CN.out.mono ?_
  rintro e w2 ⟨a, rfl, hge, hS, hB2⟩
  have HB := Lib.hid (hB1.trans (hB2.mono hB1.size))
  have HGE := Lib.hid (fun x hx => Nat.le_trans hB1.size (hge x hx))
  have HS : Hid (Sto w2 a [[], firstF F 0] 60) := hS
  clear CN hB1 hB2 hge hS
  go_wp2_with fail
  go_loopw [5, 24] (fun s t wr => ∃ (k : Nat) (z : Int), k ≤ len ∧ t = .int .i64 k ∧ s = .int .i64 z ∧ z = sumL (firstF F k) ∧ (0 ≤ z ∧ z ≤ 9216 * (k : Int)) ∧ Sto wr a [[], firstF F k] 60 ∧ Below w.heap.size w wr) (fun _ t _ => len - (intOf t).toNat)
  case atStart => exact ⟨0, 0, by omega, rfl, rfl, by simp [firstF, sumL], by omega, HS.out, HB.out⟩
  case round =>
    obtain ⟨k, z, hk, rfl, rfl, hz, ⟨hz0, hz1⟩, hS, hB⟩ := hrel
    clear HS HB
    by_cases hlt : k < len
    · obtain ⟨x, n, rfl, hx, hfl, hpk, ⟨hn0, hn1⟩, hld⟩ := HF.out k hlt
      have hld' := laid_keep hld hB hx
      have hcl := laid_len hld' hpk.len
      have hrl := laid_pkt hld' hpk.pk.size
      have HB' := Lib.hid hB
      by_cases hlow : n < 1
      · clear hrl hS hfl hpk hld hld' hB hz
        go_wp2_with fail
        go_ret
        exact ⟨rfl, HB'.out⟩
      · by_cases hhi : 9216 < n
        · have hlow' : 1 ≤ n := by omega
          clear hrl hS hfl hpk hld hld' hB hz
          go_wp2_with fail
          go_ret
          exact ⟨rfl, HB'.out⟩
        · have hl1 : 1 ≤ n := by omega
          have hl2 : n ≤ 9216 := by omega
          have C1 : Hid (Calls Try.prog 43 #[.pointer (some ⟨a.sb, 0, none⟩), .int .i64 1, .agg (F k)] wr _) := push_yes 1 n (F k) (firstF F k) hS hpk rfl ⟨hl1, hl2⟩ (by simp [total, firstF_length]; omega)
          have HZ : Hid (z + n = sumL (firstF F (k + 1))) := by
            have : z + n = sumL (firstF F (k + 1)) := by rw [← firstF_succ, sumL_append, hpk.lenP, hz]
            exact Lib.hid this
          clear hS hfl hpk hld hld' hB hz hlow hhi
          go_wp2_with ((with_reducible refine arm_load 52 51 79 (.pointer (some (x.add (k * 46)))) (.agg (F k)) hrl ?_ ?_); rfl)
          refine C1.out.mono ?_
          rintro e w3 ⟨rfl, hS3, hA3⟩
          have hS3 : Sto w3 a [[], firstF F k ++ [F k]] 60 := hS3
          rw [firstF_succ] at hS3
          have C2 : Hid (Calls Try.prog 46 #[.pointer (some ⟨a.sb, 0, none⟩), .int .i64 1] w3 fun e w' => e = .returned (.int .i64 (z + n)) ∧ w' = w3) := by
            have := st_bytes 1 (firstF F (k + 1)) hS3 rfl
            rw [← HZ.out] at this
            exact Lib.hid this
          have HB3 := Lib.hid (HB'.out.trans (hA3.below HB'.out.size fun y hy => HGE.out y (by simp [hy])))
          have HS3 := Lib.hid hS3
          clear C1 hS3 hA3 hrl hcl HB'
          go_wp2_with fail
          refine C2.out.mono ?_
          rintro e w4 ⟨rfl, rfl⟩
          go_wp2_with fail
          go_roundw
          case rel => exact ⟨k + 1, z + n, by omega, by go_num, rfl, HZ.out, by omega, HS3.out, HB3.out⟩
          case measure => simp [intOf]; omega
    · obtain rfl : k = len := by omega
      rw [← restF_zero] at hz hS
      have HS := Lib.hid hS
      have HB := Lib.hid hB
      have HZ := Lib.hid hz
      clear hS hB hz hlt hk
      go_wp2_with fail
      go_loopw [5, 64] (fun s t wr => ∃ (j : Nat) (z : Int), j ≤ k ∧ t = .int .i64 j ∧ s = .int .i64 z ∧ z = sumL (restF F k j) ∧ (0 ≤ z ∧ z ≤ 9216 * 60) ∧ Sto wr a [[], restF F k j] 60 ∧ Below w.heap.size w wr) (fun _ t _ => k - (intOf t).toNat)
      case atStart => exact ⟨0, z, by omega, rfl, rfl, HZ.out, by omega, HS.out, HB.out⟩
      case round =>
        obtain ⟨j, z, hj, rfl, rfl, hz, ⟨hz0, hz1⟩, hS, hB⟩ := hrel
        by_cases hlt : j < k
        · obtain ⟨x, n, hxx, hx, hfl, hpk, ⟨hn0, hn1⟩, hld⟩ := HF.out j hlt
          obtain rfl := hxx
          rw [restF_cons F hlt] at hS hz
          rw [sumL_cons, hpk.lenP] at hz
          have hat : atS [[], F j :: restF F k (j + 1)] 1 0 = some (F j) := rfl
          have hcut : cutS [[], F j :: restF F k (j + 1)] 1 0 = [[], restF F k (j + 1)] := rfl
          have hok := (atS_pk hS hat).2.2
          rw [hpk.lenP] at hok
          obtain ⟨n1, n2⟩ := hok
          have hnn : 0 ≤ sumL (restF F k (j + 1)) := (sumL_bound _ fun y hy => by
            obtain ⟨A, fl, Q, hQ⟩ := hS
            exact hQ.lk.ok (F j :: restF F k (j + 1)) (by simp) y (by simp [hy])).1
          have hzn : z - n = sumL (restF F k (j + 1)) := by omega
          have hz2 : 0 ≤ z - n := by omega
          have CP : Hid (Calls Try.prog 44 #[.pointer (some ⟨a.sb, 0, none⟩), .int .i64 1] wr _) := st_pop 1 hS
          rw [hat, hcut] at CP
          have hld' := laid_keep hld hB hx
          have hcl := laid_len hld' hpk.len
          have HB' := Lib.hid hB
          have HFL := Lib.hid hfl
          have HPK := Lib.hid hpk
          have HLD := Lib.hid hld
          have HXB := Lib.hid hx
          have HZ := Lib.hid hzn
          have hw1 : IntKind.i64.wrap (z - n) = z - n := IntWalk.i64_in _ (by omega)
          have hle1 : (j : Int) < (k : Int) := by omega
          clear hS hB hz hnn hzn hat hcut hld hld' hfl hpk hx HB HS
          go_wp2_with fail
          refine CP.out.mono ?_
          rintro e w3 ⟨rfl, hS3, hA3⟩
          have HS3 := Lib.hid hS3
          have HB3 := Lib.hid (HB'.out.trans (hA3.below HB'.out.size fun y hy => HGE.out y (by simp [hy])))
          clear CP hS3 hA3 HB' hcl
          go_upto_region 19 with (first
            | ((with_reducible refine arm_alloc 8 79 PZ 46 pz_zero ?_); intro w4 HB4 HX4 HS4; have hst := pkt_store HX4.out HPK.out.pk)
            | ((with_reducible refine arm_store 8 77 79 (.pointer (some ⟨w3.heap.size, 0, none⟩)) (.agg (F j)) _ hst ?_ ?_ ?_); rfl; rfl))
          have hbx := box_whole HX4.out (cs := F j) HPK.out.pk.size
          have hB5 := below_setCells (b := w3.heap.size) (Nat.le_refl _) (F j).toList 0 HB4.out
          have hS5 := HS3.out.below hB5
          have HB5 := Lib.hid (HB3.out.trans (hB5.mono HB3.out.size))
          clear hst hB5 HS3 HB3 HB4 HX4 HS4
          generalize w4.setCells w3.heap.size 0 (F j).toList = w5 at *
          generalize w3.heap.size = b5 at *
          have HOC : Hid (OC w a F k j x b5 w5.drew) := Lib.hid ⟨hS5.drewN 1, hbx, below_drewN HB5.out 1⟩
          have C46 : Hid (∀ w', OC w a F k j x b5 w' → Calls Try.prog 46 #[.pointer (some ⟨a.sb, 0, none⟩), .int .i64 1] w' fun e w'' => e = .returned (.int .i64 (z - n)) ∧ OC w a F k j x b5 w'') := by
            rw [HZ.out]
            exact Lib.hid fun w' ho => (st_bytes 1 _ ho.st rfl).mono fun e w'' ⟨h1, h2⟩ => ⟨h1, h2 ▸ ho⟩
          have C47 : Hid (∀ w', OC w a F k j x b5 w' → Calls Try.prog 47 #[.pointer (some ⟨a.sb, 0, none⟩), .int .i64 1] w' fun e w'' => e = .returned (.int .i64 ((k : Int) - 1 - (j : Int))) ∧ OC w a F k j x b5 w'') := by
            exact Lib.hid fun w' ho => (st_len 1 _ ho.st rfl).mono fun e w'' ⟨h1, h2⟩ => ⟨by rw [h1, restF_length]; congr 2; omega, h2 ▸ ho⟩
          have hq : (!eqA (F j) (F j)) = false := by rw [eqA_self]; rfl
          have hw2 : IntKind.i64.wrap ((k : Int) - 1) = (k : Int) - 1 := IntWalk.i64_in _ (by omega)
          have hw3 : IntKind.i64.wrap ((k : Int) - 1 - (j : Int)) = (k : Int) - 1 - (j : Int) := IntWalk.i64_in _ (by omega)
          clear hS5 hbx
          refine wp_region_cls (OC w a F k j x b5) (by kernel_rfl) (by kernel_rfl) HOC.out ?_
          refine wpQuiet_step (fun K hK => ?_)
          rw [if_pos (by rfl)]
          refine ⟨?_, fun w hSw => ?_, hK _ ?_⟩
          rotate_left
          · clear hSw
            go_simp
            try with_reducible rfl
          clear hK K
          try simp only [Act.put, List.setIfInBounds_toArray, List.set_cons_zero, List.set_cons_succ]
          refine wpQuiet_step (fun K hK => ?_)
          rw [if_pos (by rfl)]
          refine ⟨?_, fun w hSw => ?_, hK _ ?_⟩
          rotate_left
          · clear hSw
            go_simp
            try with_reducible rfl
          clear hK K
          try simp only [Act.put, List.setIfInBounds_toArray, List.set_cons_zero, List.set_cons_succ]
          refine wpQuiet_step (fun K hK => ?_)
          rw [if_pos (by rfl)]
          refine ⟨?_, fun w hSw => ?_, hK _ ?_⟩
          rotate_left
          · clear hSw
            go_simp
            try with_reducible rfl
          clear hK K
          try simp only [Act.put, List.setIfInBounds_toArray, List.set_cons_zero, List.set_cons_succ]
          refine wpQuiet_step (fun K hK => ?_)
          rw [if_pos (by rfl)]
          refine ⟨(.agg (F j)), fun w hSw => quietAt_by (exec_load rfl (pkt_load hSw.box HPK.out.pk)), hK _ ?_⟩
          clear hK K
          try simp only [Act.put, List.setIfInBounds_toArray, List.set_cons_zero, List.set_cons_succ]
          refine wpQuiet_step (fun K hK => ?_)
          rw [if_pos (by rfl)]
          refine ⟨?_, fun w hSw => ?_, hK _ ?_⟩
          rotate_left
          · clear hSw
            go_simp
            try with_reducible rfl
          clear hK K
          try simp only [Act.put, List.setIfInBounds_toArray, List.set_cons_zero, List.set_cons_succ]
          refine wpQuiet_step (fun K hK => ?_)
          rw [if_pos (by rfl)]
          refine ⟨?_, fun w hSw => ?_, hK _ ?_⟩
          rotate_left
          · clear hSw
            go_simp
            try with_reducible rfl
          clear hK K
          try simp only [Act.put, List.setIfInBounds_toArray, List.set_cons_zero, List.set_cons_succ]
          refine wpQuiet_step (fun K hK => ?_)
          rw [if_pos (by rfl)]
          refine ⟨?_, fun w hSw => ?_, hK _ ?_⟩
          rotate_left
          · clear hSw
            go_simp
            try with_reducible rfl
          clear hK K
          try simp only [Act.put, List.setIfInBounds_toArray, List.set_cons_zero, List.set_cons_succ]
          refine wpQuiet_step (fun K hK => ?_)
          rw [if_pos (by rfl)]
          refine ⟨(.agg (F j)), fun w hSw => quietAt_by (exec_load rfl (laid_pkt (laid_keep HLD.out hSw.below HXB.out) HPK.out.pk.size)), hK _ ?_⟩
          clear hK K
          try simp only [Act.put, List.setIfInBounds_toArray, List.set_cons_zero, List.set_cons_succ]
          refine wpQuiet_step (fun K hK => ?_)
          rw [if_pos (by rfl)]
          refine ⟨(.bool false), fun w hSw => quietAt_by (exec_neq_self rfl rfl HFL.out), hK _ ?_⟩
          clear hK K
          try simp only [Act.put, List.setIfInBounds_toArray, List.set_cons_zero, List.set_cons_succ]
          refine wpQuiet_step (fun K hK => ?_)
          rw [if_pos (by rfl)]
          refine ⟨?_, fun w hSw => ?_, hK _ ?_⟩
          rotate_left
          · clear hSw
            go_simp
            try with_reducible rfl
          clear hK K
          try simp only [Act.put, List.setIfInBounds_toArray, List.set_cons_zero, List.set_cons_succ]
          refine wpQuiet_step (fun K hK => ?_)
          rw [if_pos (by rfl)]
          refine ⟨?_, fun w hSw => ?_, hK _ ?_⟩
          rotate_left
          · clear hSw
            go_simp
            try with_reducible rfl
          clear hK K
          try simp only [Act.put, List.setIfInBounds_toArray, List.set_cons_zero, List.set_cons_succ]
          refine wpQuiet_step (fun K hK => ?_)
          rw [if_pos (by rfl)]
          refine ⟨?_, fun w hSw => ?_, hK _ ?_⟩
          rotate_left
          · clear hSw
            go_simp
            try with_reducible rfl
          clear hK K
          try simp only [Act.put, List.setIfInBounds_toArray, List.set_cons_zero, List.set_cons_succ]
          refine wpQuiet_step (fun K hK => ?_)
          rw [if_pos (by rfl)]
          refine ⟨?_, fun w hSw => ?_, hK _ ?_⟩
          rotate_left
          · go_simp
            go_at_call 46
            with_reducible exact C46.out w hSw
          clear hK K
          try simp only [Act.put, List.setIfInBounds_toArray, List.set_cons_zero, List.set_cons_succ]
          refine wpQuiet_step (fun K hK => ?_)
          rw [if_pos (by rfl)]
          refine ⟨?_, fun w hSw => ?_, hK _ ?_⟩
          rotate_left
          · clear hSw
            go_simp
            try with_reducible rfl
          clear hK K
          try simp only [Act.put, List.setIfInBounds_toArray, List.set_cons_zero, List.set_cons_succ]
          refine wpQuiet_step (fun K hK => ?_)
          rw [if_pos (by rfl)]
          refine ⟨?_, fun w hSw => ?_, hK _ ?_⟩
          rotate_left
          · clear hSw
            go_simp
            try with_reducible rfl
          clear hK K
          try simp only [Act.put, List.setIfInBounds_toArray, List.set_cons_zero, List.set_cons_succ]
          refine wpQuiet_step (fun K hK => ?_)
          rw [if_pos (by rfl)]
          refine ⟨?_, fun w hSw => ?_, hK _ ?_⟩
          rotate_left
          · clear hSw
            go_simp
            try with_reducible rfl
          clear hK K
          try simp only [Act.put, List.setIfInBounds_toArray, List.set_cons_zero, List.set_cons_succ]
          refine wpQuiet_step (fun K hK => ?_)
          rw [if_pos (by rfl)]
          refine ⟨?_, fun w hSw => ?_, hK _ ?_⟩
          rotate_left
          · clear hSw
            go_simp
            try with_reducible rfl
          clear hK K
          try simp only [Act.put, List.setIfInBounds_toArray, List.set_cons_zero, List.set_cons_succ]
          refine wpQuiet_step (fun K hK => ?_)
          rw [if_pos (by rfl)]
          refine ⟨?_, fun w hSw => ?_, hK _ ?_⟩
          rotate_left
          · clear hSw
            go_simp
            try with_reducible rfl
          clear hK K
          try simp only [Act.put, List.setIfInBounds_toArray, List.set_cons_zero, List.set_cons_succ]
          refine wpQuiet_step (fun K hK => ?_)
          rw [if_pos (by rfl)]
          refine ⟨?_, fun w hSw => ?_, hK _ ?_⟩
          rotate_left
          · go_simp
            go_at_call 47
            with_reducible exact C47.out w hSw
          clear hK K
          try simp only [Act.put, List.setIfInBounds_toArray, List.set_cons_zero, List.set_cons_succ]
          refine wpQuiet_step (fun K hK => ?_)
          rw [if_pos (by rfl)]
          refine ⟨?_, fun w hSw => ?_, hK _ ?_⟩
          rotate_left
          · clear hSw
            go_simp
            try with_reducible rfl
          clear hK K
          try simp only [Act.put, List.setIfInBounds_toArray, List.set_cons_zero, List.set_cons_succ]
          refine wpQuiet_step (fun K hK => ?_)
          rw [if_pos (by rfl)]
          refine ⟨?_, fun w hSw => ?_, hK _ ?_⟩
          rotate_left
          · clear hSw
            go_simp
            try with_reducible rfl
          clear hK K
          try simp only [Act.put, List.setIfInBounds_toArray, List.set_cons_zero, List.set_cons_succ]
          refine wpQuiet_step (fun K hK => ?_)
          rw [if_pos (by rfl)]
          refine ⟨?_, fun w hSw => ?_, hK _ ?_⟩
          rotate_left
          · clear hSw
            go_simp
            try with_reducible rfl
          clear hK K
          try simp only [Act.put, List.setIfInBounds_toArray, List.set_cons_zero, List.set_cons_succ]
          refine wpQuiet_step (fun K hK => ?_)
          rw [if_pos (by rfl)]
          refine ⟨?_, fun w hSw => ?_, hK _ ?_⟩
          rotate_left
          · clear hSw
            go_simp
            try with_reducible rfl
          clear hK K
          try simp only [Act.put, List.setIfInBounds_toArray, List.set_cons_zero, List.set_cons_succ]
          refine wpQuiet_step (fun K hK => ?_)
          rw [if_pos (by rfl)]
          refine ⟨?_, fun w hSw => ?_, hK _ ?_⟩
          rotate_left
          · clear hSw
            go_simp
            try with_reducible rfl
          clear hK K
          try simp only [Act.put, List.setIfInBounds_toArray, List.set_cons_zero, List.set_cons_succ]
          refine wpQuiet_step (fun K hK => ?_)
          rw [if_pos (by rfl)]
          refine ⟨?_, fun w hSw => ?_, hK _ ?_⟩
          rotate_left
          · clear hSw
            go_simp
            try with_reducible rfl
          clear hK K
          try simp only [Act.put, List.setIfInBounds_toArray, List.set_cons_zero, List.set_cons_succ]
          refine wpQuiet_step (fun K hK => ?_)
          rw [if_pos (by rfl)]
          refine ⟨?_, fun w hSw => ?_, hK _ ?_⟩
          rotate_left
          · clear hSw
            go_simp
            try with_reducible rfl
          clear hK K
          try simp only [Act.put, List.setIfInBounds_toArray, List.set_cons_zero, List.set_cons_succ]
          refine wpQuiet_nil ?_
          intro w9 hHeld
          have HH := Lib.hid hHeld
          clear hHeld hq hw2 hw3 hw1
          go_wp2_with fail
          go_roundw
          case rel => exact ⟨j + 1, z - n, by omega, by go_num, rfl, HZ.out, by omega, HH.out.st, HH.out.below⟩
          case measure => simp [intOf]; omega
        · obtain rfl : j = k := by omega
          rw [restF_end] at hS
          have C45 : Hid (Calls Try.prog 45 #[.pointer (some ⟨a.sb, 0, none⟩)] wr fun e w' => e = .returned (.int .i64 60) ∧ w' = wr) := st_free hS
          have C46 : Hid (Calls Try.prog 46 #[.pointer (some ⟨a.sb, 0, none⟩), .int .i64 0] wr fun e w' => e = .returned (.int .i64 0) ∧ w' = wr) := st_bytes 0 [] hS rfl
          have HB9 := Lib.hid hB
          clear hS hB hz HS HB
          go_wp2_with fail
          refine C45.out.mono ?_
          rintro e w8 ⟨rfl, rfl⟩
          go_wp2_with fail
          refine C46.out.mono ?_
          rintro e w9 ⟨rfl, rfl⟩
          go_wp2
          go_ret
          exact ⟨rfl, HB9.out⟩
theorem walk_sorder (b : Option Addr) (len cap : Nat) (w : World) (hb : (∃ F, Pkts w b len F) ∧ len ≤ 9223372036854775807) :
    Calls Try.prog 12 #[.slice b len cap] w fun e w' => e = .returned (.bool true) ∧ Below w.heap.size w w' := by
  obtain ⟨⟨F, hF⟩, hm⟩ := hb
  rcases Nat.lt_or_ge 60 len with h | h
  · exact sorder_many b len cap w h hm
  · exact sorder_main b len cap F w h hF
end Go.Proofs.Ytgcfiiidhihkaaa.C
