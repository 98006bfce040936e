/- Frames: nothing is too short; a packet of IPv4, of UDP. · A frame of a flow of UDP, so long. · SipHash: its rounds. · SipHash: numbers of bytes, words; a copy of the parts. · SipHash: the sum. -/
import Derived.Test.YtpanmfdbdgecaaaGreatV5
import Derived.Lib.AppendZerosOnto
import Derived.StillTailTactics
namespace Go.Proofs.YtpanmfdbdgecaaaGreat.C
open Go.RowKit
set_option linter.unusedVariables false
theorem pk_size : (Tryz.prog.info? 68).map (·.size) = some PZ.size := by kernel_rfl
set_option maxRecDepth 100000 in
theorem frame_nil (w : World) : Calls Tryz.prog 30 #[.slice none 0 0] w fun e w' => e = .returned (.tuple #[.agg PZ, .int .i64 1]) ∧ Below w.heap.size w w' := by
  have hz := pz_zero
  have hzs := pk_size
  have hz1 := pk_zero
  have hzb : ∀ w : World, (Instr.build 68 #[]).run Tryz.prog w = .ok (.agg PZ) w := fun w => run_build w 68 _ _ pz_built
  generalize PZ = Z at *
  have HZ := Lib.hid hz
  have HZS := Lib.hid hzs
  have HZ1 := Lib.hid hz1
  have HZB := Lib.hid hzb
  clear hz hzs hz1 hzb
  have C := Lib.hid ether_nil
  go_enter Tryz.func30, Tryz.ntmps30
  go_upto_region 1 with ((with_reducible refine arm_alloc 2 68 Z 46 HZ.out ?_); intro w1 HB HX HS)
  have hlt := HB.out.size
  go_wp2_with fail
  refine (C.out w1).mono ?_
  rintro e w2 ⟨rfl, hb⟩
  have B2 := Lib.hid (HB.out.trans (hb.mono hlt))
  have X2 := Lib.hid (keep_block hb HX.out)
  clear hb C
  have hp := Lib.hid (((Below.refl w2.heap.size w2).alloc (Nat.le_refl _) (.cells #[.bool false, .int .i64 0] 165)))
  go_upto_region 4 with (fail)
  have X3 := keep_block hp.out X2.out
  have hst := box_store (t := 68) (x := Z) X3 HZS.out HZ1.out.one rfl
  have hbx := box_whole (cs := Z) X3 rfl
  have hfb := below_setCells (b := w.heap.size) (Nat.le_refl _) Z.toList 0 (B2.out.trans (hp.out.mono B2.out.size))
  have hbl := HZB.out (w2.alloc (.cells #[.bool false, .int .i64 0] 165))
  have HBX := Lib.hid hbx
  have HFB := Lib.hid hfb
  clear X3 hp hbx hfb B2
  generalize World.setCells _ w.heap.size 0 Z.toList = W9 at *
  generalize w2.alloc (.cells #[.bool false, .int .i64 0] 165) = w3 at *
  go_wp2_with (first | ((with_reducible refine arm_build 22 68 #[] #[] (.agg Z) hbl ?_ ?_); simp) | ((with_reducible refine arm_store 2 22 68 _ _ _ hst ?_ ?_ ?_); rfl; rfl))
  refine bodyPost_ret (results_row_tmp rfl _ _ _ _ _ _ _ rfl HBX.out Tryz.underlying68 rfl HZS.out) rfl ?_
  exact ⟨rfl, HFB.out⟩
/-- The flow of a packet of UDP. -/
def flowX (s0 s1 s2 s3 d0 d1 d2 d3 sp dp : Nat) : Array Value := ([Value.bool false, .int .u8 17, .int .u8 (s0 : Nat), .int .u8 (s1 : Nat), .int .u8 (s2 : Nat), .int .u8 (s3 : Nat)] ++ List.replicate 12 (Value.int .u8 0) ++ [Value.int .u8 (d0 : Nat), Value.int .u8 (d1 : Nat), Value.int .u8 (d2 : Nat), Value.int .u8 (d3 : Nat)] ++ List.replicate 12 (Value.int .u8 0) ++ [Value.int .u16 (sp : Nat), Value.int .u16 (dp : Nat)]).toArray
/-- The packet: no number yet. -/
def pktX (s0 s1 s2 s3 d0 d1 d2 d3 sp dp n : Nat) : Array Value := #[Value.int .i64 0] ++ flowX s0 s1 s2 s3 d0 d1 d2 d3 sp dp ++ pfx s0 s1 s2 ++ #[Value.int .i64 (n : Nat)]
def arr4 (s0 s1 s2 s3 : Nat) : Array Value := ([Value.int .u8 (s0 : Nat), .int .u8 (s1 : Nat), .int .u8 (s2 : Nat), .int .u8 (s3 : Nat)] ++ List.replicate 12 (Value.int .u8 0)).toArray
theorem flow_size : (Tryz.prog.info? 58).map (·.size) = some 36 := by kernel_rfl
def FlZ : Array Value := ([Value.bool false, Value.int .u8 0] ++ List.replicate 32 (Value.int .u8 0) ++ [Value.int .u16 0, Value.int .u16 0]).toArray
theorem fl_zero : (Tryz.prog.info? 58).map (fun i => (i.zero, i.size)) = some (some (.agg FlZ), 36) := by kernel_rfl
theorem build_flow (s0 s1 s2 s3 d0 d1 d2 d3 sp dp : Nat) (w : World) : (Instr.build 58 #[(0, .bool false), (1, .int .u8 17), (2, .agg (arr4 s0 s1 s2 s3)), (3, .agg (arr4 d0 d1 d2 d3)), (4, .int .u16 (sp : Nat)), (5, .int .u16 (dp : Nat))]).run Tryz.prog w = .ok (.agg (flowX s0 s1 s2 s3 d0 d1 d2 d3 sp dp)) w := run_build w 58 _ _ (by kernel_rfl)
theorem build_pkt (s0 s1 s2 s3 d0 d1 d2 d3 sp dp n : Nat) (w : World) : (Instr.build 68 #[(1, .agg (flowX s0 s1 s2 s3 d0 d1 d2 d3 sp dp)), (2, .agg (pfx s0 s1 s2)), (3, .int .i64 (n : Nat))]).run Tryz.prog w = .ok (.agg (pktX s0 s1 s2 s3 d0 d1 d2 d3 sp dp n)) w := run_build w 68 _ _ (by kernel_rfl)
theorem flow_all (s0 s1 s2 s3 d0 d1 d2 d3 sp dp : Nat) : (flowX s0 s1 s2 s3 d0 d1 d2 d3 sp dp).all (·.oneCell') = true := by kernel_rfl
theorem pkt_all (s0 s1 s2 s3 d0 d1 d2 d3 sp dp n : Nat) : (pktX s0 s1 s2 s3 d0 d1 d2 d3 sp dp n).all (·.oneCell') = true := by kernel_rfl
theorem pktX_pk (s0 s1 s2 s3 d0 d1 d2 d3 sp dp n : Nat) : Pk (pktX s0 s1 s2 s3 d0 d1 d2 d3 sp dp n) := ⟨by kernel_rfl, pkt_all ..⟩
theorem box_load_mid {t : TypeId} {w : World} {b o : Nat} {x y : Array Value} {t' : TypeId} (h : w.heap[b]? = some (.cells x t' (0, 0))) (hx : ∀ j v, y.toList[j]? = some v → x[o + j]? = some v) (d : TypeDesc) (hd : Tryz.prog.underlying t = some d) (hr : d.isRow = true) (hi : (Tryz.prog.info? t).map (·.size) = some y.size) : (Instr.loadAt t (.pointer (some ⟨b, o, none⟩))).run Tryz.prog w = .ok (.agg y) w := by
  have := run_loadAt_mid (P := Tryz.prog) w b o t y.toList d (range_of_block h hx) hd hr (by rw [hi, Array.length_toList])
  simpa using this
theorem of_extract {x y : Array Value} {o m : Nat} (h : x.extract o (o + m) = y) : ∀ (j : Nat) (v : Value), y.toList[j]? = some v → x[o + j]? = some v := fun j v hv => by
  rw [Array.getElem?_toList, ← h, Array.getElem?_extract] at hv
  split at hv
  · exact hv
  · cases hv
theorem netX_src (p s0 s1 s2 s3 d0 d1 d2 d3 : Nat) (v : Value) : (netX p s0 s1 s2 s3 d0 d1 d2 d3 v).extract 1 (1 + 16) = arr4 s0 s1 s2 s3 := by kernel_rfl
theorem netX_dst (p s0 s1 s2 s3 d0 d1 d2 d3 : Nat) (v : Value) : (netX p s0 s1 s2 s3 d0 d1 d2 d3 v).extract 17 (17 + 16) = arr4 d0 d1 d2 d3 := by kernel_rfl
theorem arr16_size : (Tryz.prog.info? 22).map (·.size) = some 16 := by kernel_rfl
/-- The bytes of a frame of IPv4, of UDP, that is whole. -/
structure UdpB (B : Nat → Nat) (n : Nat) : Prop where
  long : 42 ≤ n ∧ n ≤ 9216
  kind : B 12 = 8 ∧ B 13 = 0 ∧ B 14 = 69
  all : B 16 * 256 + B 17 = n - 14
  first : B 20 = 0 ∧ B 21 = 0
  udp : B 23 = 17
  sum : wsum (fun j => B (14 + j)) 10 % 65535 = 0
  sum1 : 1 ≤ wsum (fun j => B (14 + j)) 10
/-- The packet that is parsed of it. -/
def pktB (B : Nat → Nat) (n : Nat) : Array Value := pktX (B 26) (B 27) (B 28) (B 29) (B 30) (B 31) (B 32) (B 33) (B 34 * 256 + B 35) (B 36 * 256 + B 37) n
theorem bytesN_four (B : Nat → Nat) (f m : Nat) (hm : 4 ≤ m) : ∃ R, bytesN B f m = B f :: B (f + 1) :: B (f + 2) :: B (f + 3) :: R := by
  obtain ⟨k, rfl⟩ : ∃ k, m = k + 4 := ⟨m - 4, by omega⟩
  refine ⟨(List.range' 4 k).map fun j => B (f + j), ?_⟩
  simp [bytesN, List.range_eq_range', List.range'_succ]
set_option maxRecDepth 100000 in
set_option maxHeartbeats 4000000 in
theorem frame_udp (g o n c : Nat) (B : Nat → Nat) (w : World) (h : FrAt w g o n c B) (hu : UdpB B n) :
    Calls Tryz.prog 30 #[.slice (some ⟨g, o, none⟩) n c] w fun e w' => e = .returned (.tuple #[.agg (pktB B n), .int .i64 0]) ∧ Below w.heap.size w w' := by
  have hz := pz_zero
  have hzs := pk_size
  generalize PZ = Z at *
  have HZ := Lib.hid hz
  have HZS := Lib.hid hzs
  clear hz hzs
  have HF := Lib.hid h
  have HU := Lib.hid hu
  have hlong := hu.long
  have hcap := h.cap
  simp only [maxLen] at hcap
  have hg := h.blk
  clear h hu
  go_enter Tryz.func30, Tryz.ntmps30
  go_upto_region 1 with ((with_reducible refine arm_alloc 2 68 Z 46 HZ.out ?_); intro w1 HB HX HS)
  have hlt := HB.out.size
  have F1 := HF.out.below hg HB.out (Nat.le_refl _)
  have CE : Hid (Calls Tryz.prog 52 #[.slice (some ⟨g, o, none⟩) n c] w1 fun e w' => e = .returned (.tuple #[.agg #[.bool false, .int .i64 14], .int .i64 0]) ∧ Below w1.heap.size w1 w') := Lib.hid <| by
    refine ether_ip4 ⟨g, o, none⟩ n c ((List.range n).map B) ((List.range' 14 (n - 14)).map B) w1 (by simp) ?_ (fun j u hj => ?_) (by omega) F1.blk
    · obtain ⟨k, rfl⟩ : ∃ k, n = k + 14 := ⟨n - 14, by omega⟩
      obtain ⟨e1, e2, _⟩ := HU.out.kind
      simp [List.range_eq_range', List.range'_succ, e1, e2]
    · rw [OW.addr_off]
      have hj2 := (List.getElem?_eq_some_iff.1 hj).1
      simp only [bv, List.length_map, List.length_range] at hj2
      simp only [bv, List.map_map, List.getElem?_map, List.getElem?_range hj2, Option.map_some, Option.some.injEq] at hj
      rw [← hj]
      exact F1.cell j hj2
  have hn1 : (n : Int) ≤ 9216 := by omega
  go_wp2_with fail
  refine CE.out.mono ?_
  rintro e w2 ⟨rfl, hb⟩
  have B2 := Lib.hid (HB.out.trans (hb.mono hlt))
  have X2 := Lib.hid (keep_block hb HX.out)
  clear hb CE
  have hp := Lib.hid (((Below.refl w2.heap.size w2).alloc (Nat.le_refl _) (.cells #[.bool false, .int .i64 14] 165)))
  have l0 := Go.heap_alloc_new w2 (.cells #[.bool false, .int .i64 14] 165)
  go_upto_region 3 with (fail)
  generalize w2.alloc (.cells #[.bool false, .int .i64 14] 165) = w3 at *
  have hs2 := B2.out.size
  have X3 := Lib.hid (keep_block hp.out X2.out)
  have B3 := Lib.hid (B2.out.trans (hp.out.mono hs2))
  have hlk2 : w.heap.size ≤ w2.heap.size := hs2
  generalize w2.heap.size = lb at *
  have L3 := Lib.hid l0
  clear l0 hp X2 B2 HX
  have F3 := HF.out.below hg B3.out (Nat.le_refl _)
  have F14 : FrAt w3 g (o + 14) (n - 14) (c - 14) (fun j => B (14 + j)) := ⟨fun j hj => by rw [Nat.add_assoc]; exact F3.cell (14 + j) (by omega), fun j => F3.byte _, by simp only [maxLen]; omega, F3.blk⟩
  have CI := Lib.hid (inet_parse g (o + 14) (n - 14) (c - 14) (fun j => B (14 + j)) w3 F14 (by omega) (by omega) HU.out.kind.2.2 HU.out.all HU.out.sum HU.out.sum1 HU.out.first)
  have k0 := cells_of_row L3.out 0 _ rfl
  have k1 := cells_of_row L3.out 1 _ rfl
  have hi14 : (14 : Int) ≤ (n : Int) := by omega
  have hinc : (n : Int) ≤ (c : Int) := by omega
  have hc14 : ¬ c = 14 := by omega
  go_wp2_with fail
  refine CI.out.mono ?_
  rintro e w4 ⟨A, c4, rfl, ho, hb⟩
  have hs3 := B3.out.size
  have B4 := Lib.hid (B3.out.trans (hb.mono hs3))
  have X4 := Lib.hid (keep_block hb X3.out)
  have L4 := Lib.hid (keep_block hb L3.out)
  have O4 := Lib.hid ho
  clear ho hb CI k0 k1 F3 F14 X3 L3 B3
  have hub := HU.out.udp
  have e9 : B (14 + 9) = 17 := hub
  rw [e9]
  have hnp := netX_src 17 (B (14 + 12)) (B (14 + 13)) (B (14 + 14)) (B (14 + 15)) (B (14 + 16)) (B (14 + 17)) (B (14 + 18)) (B (14 + 19)) (.slice A (n - 14 - 20) c4)
  have hnd := netX_dst 17 (B (14 + 12)) (B (14 + 13)) (B (14 + 14)) (B (14 + 15)) (B (14 + 16)) (B (14 + 17)) (B (14 + 18)) (B (14 + 19)) (.slice A (n - 14 - 20) c4)
  have hn0 : (netX 17 (B (14 + 12)) (B (14 + 13)) (B (14 + 14)) (B (14 + 15)) (B (14 + 16)) (B (14 + 17)) (B (14 + 18)) (B (14 + 19)) (.slice A (n - 14 - 20) c4))[0]? = some (.int .u8 17) := by kernel_rfl
  have hn33 : (netX 17 (B (14 + 12)) (B (14 + 13)) (B (14 + 14)) (B (14 + 15)) (B (14 + 16)) (B (14 + 17)) (B (14 + 18)) (B (14 + 19)) (.slice A (n - 14 - 20) c4))[33]? = some (.slice A (n - 14 - 20) c4) := by kernel_rfl
  have hn34 : (netX 17 (B (14 + 12)) (B (14 + 13)) (B (14 + 14)) (B (14 + 15)) (B (14 + 16)) (B (14 + 17)) (B (14 + 18)) (B (14 + 19)) (.slice A (n - 14 - 20) c4))[34]? = some (.bool true) := by kernel_rfl
  have hns : (Tryz.prog.info? 170).map (·.size) = some (netX 17 (B (14 + 12)) (B (14 + 13)) (B (14 + 14)) (B (14 + 15)) (B (14 + 16)) (B (14 + 17)) (B (14 + 18)) (B (14 + 19)) (.slice A (n - 14 - 20) c4)).size := nz_size
  have hna := netX_all 17 (B (14 + 12)) (B (14 + 13)) (B (14 + 14)) (B (14 + 15)) (B (14 + 16)) (B (14 + 17)) (B (14 + 18)) (B (14 + 19)) A (n - 14 - 20) c4
  generalize netX 17 (B (14 + 12)) (B (14 + 13)) (B (14 + 14)) (B (14 + 15)) (B (14 + 16)) (B (14 + 17)) (B (14 + 18)) (B (14 + 19)) (.slice A (n - 14 - 20) c4) = nx at *
  have HNX := Lib.hid (And.intro hn0 (And.intro hn33 hn34))
  have HNP := Lib.hid (of_extract hnp)
  have HND := Lib.hid (of_extract hnd)
  have HNS := Lib.hid hns
  have HNA := Lib.hid hna
  have hn35 : nx.size = 35 := by
    have := hns.symm.trans nz_size
    exact Option.some.inj this
  clear hn0 hn33 hn34 hnp hnd hns hna
  have hz := HZ.out
  have NZ0 : Hid (NZ.size = nx.size) := Lib.hid (by rw [hn35]; rfl)
  have hnz := nz_zero
  generalize NZ = N0 at *
  have HNZ := Lib.hid hnz
  clear hnz hz
  have hs4 := B4.out.size
  go_upto_region 10 with (first | ((with_reducible refine arm_alloc 7 170 N0 35 HNZ.out ?_); intro w5 HB5 HX5 HS5; have hst := box_store (t := 170) (x := nx) HX5.out HNS.out HNA.out NZ0.out; have hbx := Lib.hid (box_whole (cs := nx) HX5.out NZ0.out.symm); have hf5 := Lib.hid (below_setCells (b := w4.heap.size) (Nat.le_refl _) nx.toList 0 HB5.out)) | ((with_reducible refine arm_store 7 33 170 _ _ _ hst ?_ ?_ ?_); rfl; rfl))
  have B5 := Lib.hid (B4.out.trans (hf5.out.mono hs4))
  have X6 := Lib.hid (keep_block hf5.out X4.out)
  have L6 := Lib.hid (keep_block hf5.out L4.out)
  have O6 := Lib.hid (OW.below O4.out hf5.out)
  clear hst HX5 HB5 HS5 hf5 X4 L4 O4
  generalize World.setCells w5 _ 0 nx.toList = w6 at *
  generalize w4.heap.size = nb at *
  have k0 := cells_of_row L6.out 0 _ rfl
  have hld := box_load (t := 170) hbx.out _ Tryz.underlying170 rfl HNS.out
  obtain ⟨R, hR⟩ := bytesN_four (fun j => B (14 + j)) 20 (n - 14 - 20) (by omega)
  obtain ⟨q0, q33, q34⟩ := HNX.out
  obtain ⟨ga, hA, hcA⟩ : ∃ ga, A = some ⟨ga, 0, none⟩ ∧ ga < w6.heap.size := by
    rcases O6.out.2 with ⟨h0, h1⟩ | ⟨g2, cap, cur, hv, _, hh, _⟩
    · exact absurd h1 (by omega)
    · injection hv with h4 h5 h6
      exact ⟨g2, h4, (Array.getElem?_eq_some_iff.1 hh).1⟩
  subst hA
  have CP := Lib.hid (ports_parse nx ga 0 (n - 14 - 20) c4 (B (14 + 20)) (B (14 + (20 + 1))) (B (14 + (20 + 2))) (B (14 + (20 + 3))) R w6 q0 q33 q34 (by rw [← hR]; simp [bytesN]) (fun j u hu => by
    rw [← hR] at hu
    have := O6.out.cells (g := ga) rfl j u hu
    rwa [OW.addr_off] at this) (by omega) hcA (HF.out.byte _) (HF.out.byte _) (HF.out.byte _) (HF.out.byte _))
  clear q0 q33 q34 hR
  go_wp2_with ((with_reducible refine arm_load 42 7 170 _ _ hld ?_ ?_); rfl)
  refine CP.out.mono ?_
  rintro e w7 ⟨rfl, hb⟩
  have hs6 := B5.out.size
  have B7 := Lib.hid (B5.out.trans (hb.mono hs6))
  have X7 := Lib.hid (keep_block hb X6.out)
  have L7 := Lib.hid (keep_block hb L6.out)
  have N7 := Lib.hid (keep_block hb hbx.out)
  clear hb CP hld k0 X6 L6 O6 B5 hbx
  have k0 := cells_of_row L7.out 0 _ rfl
  have kn0 := cells_of_row N7.out 0 _ HNX.out.1
  have hl1 := box_load_mid (t := 22) N7.out HNP.out _ Tryz.underlying22 rfl arr16_size
  have hl2 := box_load_mid (t := 22) N7.out HND.out _ Tryz.underlying22 rfl arr16_size
  have hbf := build_flow (B (14 + 12)) (B (14 + 13)) (B (14 + 14)) (B (14 + 15)) (B (14 + 16)) (B (14 + 17)) (B (14 + 18)) (B (14 + 19)) (B (14 + 20) * 256 + B (14 + (20 + 1))) (B (14 + (20 + 2)) * 256 + B (14 + (20 + 3))) w7
  have hfs : (Tryz.prog.info? 58).map (·.size) = some (flowX (B (14 + 12)) (B (14 + 13)) (B (14 + 14)) (B (14 + 15)) (B (14 + 16)) (B (14 + 17)) (B (14 + 18)) (B (14 + 19)) (B (14 + 20) * 256 + B (14 + (20 + 1))) (B (14 + (20 + 2)) * 256 + B (14 + (20 + 3)))).size := flow_size
  have hfa := flow_all (B (14 + 12)) (B (14 + 13)) (B (14 + 14)) (B (14 + 15)) (B (14 + 16)) (B (14 + 17)) (B (14 + 18)) (B (14 + 19)) (B (14 + 20) * 256 + B (14 + (20 + 1))) (B (14 + (20 + 2)) * 256 + B (14 + (20 + 3)))
  have hfz : FlZ.size = (flowX (B (14 + 12)) (B (14 + 13)) (B (14 + 14)) (B (14 + 15)) (B (14 + 16)) (B (14 + 17)) (B (14 + 18)) (B (14 + 19)) (B (14 + 20) * 256 + B (14 + (20 + 1))) (B (14 + (20 + 2)) * 256 + B (14 + (20 + 3)))).size := rfl
  have hbp := build_pkt (B (14 + 12)) (B (14 + 13)) (B (14 + 14)) (B (14 + 15)) (B (14 + 16)) (B (14 + 17)) (B (14 + 18)) (B (14 + 19)) (B (14 + 20) * 256 + B (14 + (20 + 1))) (B (14 + (20 + 2)) * 256 + B (14 + (20 + 3))) n
  have hpk := pktX_pk (B (14 + 12)) (B (14 + 13)) (B (14 + 14)) (B (14 + 15)) (B (14 + 16)) (B (14 + 17)) (B (14 + 18)) (B (14 + 19)) (B (14 + 20) * 256 + B (14 + (20 + 1))) (B (14 + (20 + 2)) * 256 + B (14 + (20 + 3))) n
  have hpb : pktB B n = pktX (B (14 + 12)) (B (14 + 13)) (B (14 + 14)) (B (14 + 15)) (B (14 + 16)) (B (14 + 17)) (B (14 + 18)) (B (14 + 19)) (B (14 + 20) * 256 + B (14 + (20 + 1))) (B (14 + (20 + 2)) * 256 + B (14 + (20 + 3))) n := rfl
  have hcp : ∀ w : World, Calls Tryz.prog 56 #[.agg (flowX (B (14 + 12)) (B (14 + 13)) (B (14 + 14)) (B (14 + 15)) (B (14 + 16)) (B (14 + 17)) (B (14 + 18)) (B (14 + 19)) (B (14 + 20) * 256 + B (14 + (20 + 1))) (B (14 + (20 + 2)) * 256 + B (14 + (20 + 3))))] w fun e w' => e = .returned (.agg (pfx (B (14 + 12)) (B (14 + 13)) (B (14 + 14)))) ∧ Below w.heap.size w w' := fun w => frame_prefix _ _ _ _ w (by kernel_rfl) (by kernel_rfl) (by kernel_rfl) (by kernel_rfl)
  generalize arr4 (B (14 + 12)) (B (14 + 13)) (B (14 + 14)) (B (14 + 15)) = a1 at *
  generalize arr4 (B (14 + 16)) (B (14 + 17)) (B (14 + 18)) (B (14 + 19)) = a2 at *
  generalize flowX (B (14 + 12)) (B (14 + 13)) (B (14 + 14)) (B (14 + 15)) (B (14 + 16)) (B (14 + 17)) (B (14 + 18)) (B (14 + 19)) (B (14 + 20) * 256 + B (14 + (20 + 1))) (B (14 + (20 + 2)) * 256 + B (14 + (20 + 3))) = fl at *
  generalize pktX (B (14 + 12)) (B (14 + 13)) (B (14 + 14)) (B (14 + 15)) (B (14 + 16)) (B (14 + 17)) (B (14 + 18)) (B (14 + 19)) (B (14 + 20) * 256 + B (14 + (20 + 1))) (B (14 + (20 + 2)) * 256 + B (14 + (20 + 3))) n = pk at *
  generalize pfx (B (14 + 12)) (B (14 + 13)) (B (14 + 14)) = px at *
  generalize B (14 + 20) * 256 + B (14 + (20 + 1)) = sp at *
  generalize B (14 + (20 + 2)) * 256 + B (14 + (20 + 3)) = dp at *
  have HFS := Lib.hid hfs
  have HFA := Lib.hid hfa
  have HFZ := Lib.hid hfz
  have HBP := Lib.hid hbp
  have HPK := Lib.hid hpk
  have HPB := Lib.hid hpb
  have HCP := Lib.hid hcp
  have hflz := fl_zero
  generalize FlZ = FZ at *
  have HFLZ := Lib.hid hflz
  clear hfs hfa hfz hbp hpk hpb hcp hflz HNP HND HNX HNS HNA e9
  have hs7 := B7.out.size
  have hl7 := (Array.getElem?_eq_some_iff.1 X7.out).1
  go_upto_region 16 with (first
    | ((with_reducible refine arm_load 56 55 22 _ _ hl1 ?_ ?_); rfl)
    | ((with_reducible refine arm_load 58 57 22 _ _ hl2 ?_ ?_); rfl)
    | ((with_reducible refine arm_build 61 58 _ _ (.agg fl) hbf ?_ ?_); simp [Act.eval])
    | ((with_reducible refine arm_alloc 10 58 FZ 36 HFLZ.out ?_); intro w8 HB8 HX8 HS8; have hst := box_store (t := 58) (x := fl) HX8.out HFS.out HFA.out HFZ.out; have hbx := Lib.hid (box_whole (cs := fl) HX8.out HFZ.out.symm); have hf8 := Lib.hid (below_setCells (b := w7.heap.size) (Nat.le_refl _) fl.toList 0 HB8.out))
    | ((with_reducible refine arm_store 10 61 58 _ _ _ hst ?_ ?_ ?_); rfl; rfl))
  have B9 := Lib.hid (B7.out.trans (hf8.out.mono hs7))
  have X9 := Lib.hid (keep_block hf8.out X7.out)
  have hb9 := hbx.out
  clear hst HX8 HB8 HS8 hf8 k0 kn0 hl1 hl2 hbf hbx X7 L7 N7
  generalize World.setCells w8 _ 0 fl.toList = w9 at *
  have hnf : w7.heap.size ≠ w.heap.size := by omega
  generalize w7.heap.size = fb at *
  have HNE := Lib.hid hnf
  have FL9 := Lib.hid hb9
  clear hb9 hnf
  have HLD : Hid (∀ w', (Two w.heap.size w.heap.size w9 w' ∧ ∃ C, w'.heap[w.heap.size]? = some (.cells C 68 (0, 0)) ∧ C.size = 46) → (Instr.loadAt 58 (.pointer (some ⟨fb, 0, none⟩))).run Tryz.prog w' = .ok (.agg fl) w') := Lib.hid fun w' p =>
    box_load (t := 58) ((p.1.block fb (Array.getElem?_eq_some_iff.1 FL9.out).1 HNE.out HNE.out).trans FL9.out) _ Tryz.underlying58 rfl HFS.out
  have hz46 : Z.size = 46 := Option.some.inj (HZS.out.symm.trans (by kernel_rfl : (Tryz.prog.info? 68).map (·.size) = some 46))
  have HZ46 := Lib.hid hz46
  have HPKS : Hid ((Tryz.prog.info? 68).map (·.size) = some pk.size) := Lib.hid (by rw [HPK.out.size]; kernel_rfl)
  clear hz46
  have hd0 : (Two w.heap.size w.heap.size w9 w9.drew ∧ ∃ C, w9.drew.heap[w.heap.size]? = some (.cells C 68 (0, 0)) ∧ C.size = 46) := ⟨(Two.refl _ _ w9).drewN 1, Z, X9.out, HZ46.out⟩
  refine wp_region_held_drew (S := fun w' => Two w.heap.size w.heap.size w9 w' ∧ ∃ C, w'.heap[w.heap.size]? = some (.cells C 68 (0, 0)) ∧ C.size = 46) (by kernel_rfl) hd0 (fun hHeld => ?_)
  refine wpAnyH_take (i := 0) (oi := ⟨some 62, _, _, _, _, _⟩) (v := .agg fl) rfl (by kernel_rfl) (by kernel_rfl) (by kernel_rfl) (fun _ _ _ h => h) (Or.inl ⟨by rfl, fun w hSw => exec_load rfl (HLD.out w hSw)⟩) hHeld ?_
  try simp only [Act.put, List.setIfInBounds_toArray, List.set_cons_zero, List.set_cons_succ]
  refine wpAnyH_take (i := 1) (oi := ⟨some 63, _, _, _, _, _⟩) (v := .agg fl) rfl (by kernel_rfl) (by kernel_rfl) (by kernel_rfl) (fun _ _ _ h => h) (Or.inl ⟨by rfl, fun w hSw => exec_load rfl (HLD.out w hSw)⟩) hHeld ?_
  try simp only [Act.put, List.setIfInBounds_toArray, List.set_cons_zero, List.set_cons_succ]
  refine wpAnyH_take (i := 3) (oi := ⟨some 65, _, _, _, _, _⟩) (v := ?_) rfl (by kernel_rfl) (by kernel_rfl) (by kernel_rfl) (fun _ _ _ h => h) (Or.inl ⟨by rfl, ?_⟩) hHeld ?_
  rotate_left
  · intro w hSw
    go_simp
    try with_reducible rfl
  try simp only [Act.put, List.setIfInBounds_toArray, List.set_cons_zero, List.set_cons_succ]
  refine wpAnyH_take (i := 4) (oi := ⟨some 66, _, _, _, _, _⟩) (v := ?_) rfl (by kernel_rfl) (by kernel_rfl) (by kernel_rfl) (fun _ _ _ h => h) (Or.inl ⟨by rfl, ?_⟩) hHeld ?_
  rotate_left
  · intro w hSw
    go_simp
    try with_reducible rfl
  try simp only [Act.put, List.setIfInBounds_toArray, List.set_cons_zero, List.set_cons_succ]
  refine wpAnyH_ready (rs := [2]) (by kernel_rfl) (by simp) ?_
  refine AllReadyH.cons rfl (fun K hK => ?_) AllReadyH.nil
  go_simp
  go_wp2_with (go_at_call 56; go_must (refine (HCP.out _).mono ?_; rintro e w2 ⟨rfl, hB⟩))
  refine hK.out _ _ (⟨two_next hHeld.1 hB, hHeld.2.imp fun C h => ⟨keep_block hB h.1, h.2⟩⟩) (fun hHeld => ?_)
  clear hK K
  refine wpAnyH_take (i := 5) (oi := ⟨some 67, _, _, _, _, _⟩) (v := .agg pk) rfl (by kernel_rfl) (by kernel_rfl) (by kernel_rfl) (fun _ _ _ h => h) (Or.inl ⟨by rfl, fun w hSw => exec_build (vals := #[(1, .agg fl), (2, .agg px), (3, .int .i64 (n : Nat))]) (by simp [Act.eval]) (HBP.out w)⟩) hHeld ?_
  try simp only [Act.put, List.setIfInBounds_toArray, List.set_cons_zero, List.set_cons_succ]
  refine wpAnyH_ready (rs := [6]) (by kernel_rfl) (by simp) ?_
  refine AllReadyH.cons rfl (fun K hK => ?_) AllReadyH.nil
  obtain ⟨t6, C6, hX6, hC6⟩ := hHeld; have HBX := Lib.hid (box_whole (cs := pk) hX6 (HPK.out.size.trans hC6.symm)); refine step_store 2 67 68 _ _ _ (box_store (x := pk) hX6 HPKS.out HPK.out.one (hC6.trans HPK.out.size.symm)) rfl rfl ?_
  refine hK.out _ _ (⟨Two.setCells (.inl rfl) _ _ t6, pk, HBX.out, HPK.out.size⟩) (fun hHeld => ?_)
  clear hK K
  refine wpAnyH_take (i := 7) (oi := ⟨some 3, _, _, _, _, _⟩) (v := ?_) rfl (by kernel_rfl) (by kernel_rfl) (by kernel_rfl) (fun _ _ _ h => h) (Or.inl ⟨by rfl, ?_⟩) hHeld ?_
  rotate_left
  · intro w hSw
    go_simp
    try with_reducible rfl
  try simp only [Act.put, List.setIfInBounds_toArray, List.set_cons_zero, List.set_cons_succ]
  refine wpAnyH_done (by kernel_rfl) ?_ _
  have HFB := Lib.hid (two_below B9.out hHeld.1 (Nat.le_refl _) B9.out.size)
  clear hHeld
  try simp only [Act.put, List.setIfInBounds_toArray, List.set_cons_zero, List.set_cons_succ]
  generalize World.setCells _ w.heap.size 0 pk.toList = W9 at *
  go_wp2
  refine bodyPost_ret (results_row_tmp rfl _ _ _ _ _ _ _ rfl HBX.out Tryz.underlying68 rfl HPKS.out) rfl ?_
  exact ⟨by rw [HPB.out]; rfl, HFB.out⟩
end Go.Proofs.YtpanmfdbdgecaaaGreat.C

namespace Go.Proofs.YtpanmfdbdgecaaaGreat.C
open Go.RowKit
set_option linter.unusedVariables false
/-- The head's bytes, without its sum. -/
def pbL (nn hi lo : Nat) : List Nat := [0, 0, 0, 0, 0, 0, 0, 0, 0, 0, 0, 0, 8, 0, 69, 0, hi, lo, 0, 0, 0, 0, 64, 17, 0, 0, 10, 1, nn, 7, 9, 0, 0, 0, 3, 232, 0, 53]
def pb0 (nn all : Nat) : List Nat := pbL nn (all / 256) (all % 256)
def ckS (nn all : Nat) : Nat := if 65535 < 38937 + all + nn * 256 then 131070 - (38937 + all + nn * 256) else 65535 - (38937 + all + nn * 256)
/-- All bytes of such a frame. -/
def pbB (nn all : Nat) (j : Nat) : Nat := if j = 24 then ckS nn all / 256 else if j = 25 then ckS nn all % 256 else (pb0 nn all).getD j 0
theorem ckS_lt {nn all : Nat} (hn : nn < 256) (h0 : 28 ≤ all) (h1 : all ≤ 9202) : ckS nn all < 65536 := by unfold ckS; split <;> omega
theorem pb0_lt {nn all : Nat} (hn : nn < 256) (h1 : all ≤ 9202) (j : Nat) : (pb0 nn all).getD j 0 < 256 := by
  have h3 : all / 256 < 256 := by omega
  have h4 : all % 256 < 256 := by omega
  by_cases hj : j < 38
  · have : ∀ x ∈ pb0 nn all, x < 256 := by
      intro x hx
      simp only [pb0, pbL, List.mem_cons, List.not_mem_nil, or_false] at hx
      omega
    rw [List.getD_eq_getElem?_getD, List.getElem?_eq_getElem (show j < (pb0 nn all).length by simpa [pb0, pbL] using hj)]
    exact this _ (List.getElem_mem _)
  · rw [List.getD_eq_getElem?_getD, List.getElem?_eq_none (show (pb0 nn all).length ≤ j by simp [pb0, pbL]; omega)]
    exact Nat.zero_lt_succ _
theorem pbB_lt {nn all : Nat} (hn : nn < 256) (h0 : 28 ≤ all) (h1 : all ≤ 9202) (j : Nat) : pbB nn all j < 256 := by
  have := ckS_lt hn h0 h1
  have := pb0_lt hn h1 j
  unfold pbB
  split
  · omega
  · split <;> omega
theorem pb_sum0 (nn all : Nat) : wsum (fun j => (pb0 nn all).getD (14 + j) 0) 10 = 38937 + all + nn * 256 := by
  simp [wsum, pb0, pbL]
  omega
theorem pb_sum (nn all : Nat) : wsum (fun j => pbB nn all (14 + j)) 10 = 38937 + all + nn * 256 + ckS nn all := by
  simp [wsum, pb0, pbL, pbB]
  omega
theorem pb_udp {nn all : Nat} (hn : nn < 256) (h0 : 28 ≤ all) (h1 : all ≤ 9202) : UdpB (pbB nn all) (all + 14) := by
  refine ⟨by omega, ⟨rfl, rfl, rfl⟩, ?_, ⟨rfl, rfl⟩, rfl, ?_, ?_⟩
  · show all / 256 * 256 + all % 256 = all + 14 - 14
    omega
  · rw [pb_sum]
    unfold ckS
    split <;> omega
  · rw [pb_sum]
    omega
/-- The packet that is parsed of it. -/
theorem pb_pkt (nn all : Nat) : pktB (pbB nn all) (all + 14) = pktX 10 1 nn 7 9 0 0 0 1000 53 (all + 14) := by
  unfold pktB
  simp [pbB, pb0, pbL]
/-- The head's bytes as they lie, and noughts behind them. -/
theorem append_zeros (w : World) (g : Nat) (C : Array Value) (F : Nat → Nat) (k : Nat) (ty : TypeId) (hX : w.heap[g]? = some (.cells C 5 (0, 0))) (hC : ∀ j, j < 38 → C[j]? = some (.int .u8 (F j : Nat))) (hF : ∀ j, 38 ≤ j → F j = 0) (hb : ∀ j, F j < 256) (h0 : 1 ≤ k) (h1 : k ≤ 65536) :
    ∃ g' c W, (Builtin.append_ #[37, 3] ty #[.slice (some ⟨g, 0, none⟩) 38 38, .int .i64 (k : Nat)]).run Tryz.prog w = .ok (.slice (some ⟨g', 0, none⟩) (38 + k) c) W ∧ FrAt W g' 0 (38 + k) c F ∧ Below w.heap.size w W ∧ w.heap.size ≤ g' := by
  obtain ⟨i0, hi, hz0, hz1, hz2⟩ := info_parts u8_info
  have hold : (Builtin.firstCells i0.size 38 (.slice (some ⟨g, 0, none⟩) 38 38)).run Tryz.prog w.drew = .ok (bv ((List.range 38).map F)).toArray w.drew := by
    have := run_loadCells_list (P := Tryz.prog) w.drew ⟨g, 0, none⟩ (bv ((List.range 38).map F)) (fun j v hv => by
      have hj := (List.getElem?_eq_some_iff.1 hv).1
      simp only [bv, List.length_map, List.length_range] at hj
      rw [OW.addr_off, Nat.zero_add]
      simp only [bv, List.map_map, List.getElem?_map, List.getElem?_range hj, Option.map_some, Option.some.injEq] at hv
      rw [← hv]
      exact cells_of_row (w := w.drew) hX j _ (hC j hj))
    rw [show (bv ((List.range 38).map F)).length = 38 by simp [bv]] at this
    show (Builtin.firstCells i0.size 38 _).run Tryz.prog w.drew = _
    rw [hz1]
    exact this
  have hn1 : Builtin.nextslicecap (38 + k) 38 ≤ 2 * (38 + k) := nextslicecap_le (by omega)
  have hr := Lib.run_append_grow_zeros (P := Tryz.prog) w 37 3 ty 5 i0 (.int .u8 0) .i64 .i64 Tryz.underlying37 Tryz.underlying3 hi hz0 (some ⟨g, 0, none⟩) 38 38 (bv ((List.range 38).map F)) hold k (by omega) (by rw [hz1]; omega) (by omega) (by omega) (by rw [hz2]; omega) (by rw [hz2]; omega)
  have hge := grownCap_ge w (38 + k) 38 5
  have hle := grownCap_le_maxLen w (38 + k) 38 5 (by simp only [maxLen]; omega)
  refine ⟨_, _, _, hr, ⟨fun j hj => ?_, hb, ⟨hge, hle⟩, by simp⟩, ((Below.refl _ _).drew).alloc (by simp) _, Nat.le_refl _⟩
  have hX2 := Go.heap_alloc_new w.drew (.cells ((bv ((List.range 38).map F)).toArray ++ Builtin.zeroCells (Value.cells (.int .u8 0)) k ++ Builtin.zeroCells (Value.cells (.int .u8 0)) (grownCap w (38 + k) 38 5 - (38 + k))) 5)
  rw [Nat.zero_add]
  refine cells_of_row hX2 j _ ?_
  have hlen : (bv ((List.range 38).map F)).length = 38 := by simp [bv]
  have hzc : Builtin.zeroCells (Value.cells (.int .u8 0)) k = (List.replicate k (Value.int .u8 0)).toArray := by
    simp only [Builtin.zeroCells, Value.cells]
    apply Array.ext
    · simp
    · intro i h1 h2
      simp [Nat.mod_one]
  rw [Array.getElem?_append_left (by rw [Array.size_append, hzc]; simp [hlen]; omega), hzc]
  by_cases h38 : j < 38
  · rw [Array.getElem?_append_left (by simpa [hlen] using h38), List.getElem?_toArray]
    simp only [bv, List.map_map, List.getElem?_map, List.getElem?_range h38, Option.map_some]
    rfl
  · rw [Array.getElem?_append_right (by simp [hlen]; omega), hF j (by omega)]
    simp [hlen, show j - 38 < k by omega]
set_option maxRecDepth 100000 in
set_option maxHeartbeats 2000000 in
theorem packet_made (nn all : Nat) (w : World) (hn : nn < 256) (h0 : 28 ≤ all) (h1 : all ≤ 9202) :
    Calls Tryz.prog 12 #[.int .u8 (nn : Nat), .int .i64 ((all + 14 : Nat) : Int)] w fun e w' => ∃ g c, e = .returned (.slice (some ⟨g, 0, none⟩) (all + 14) c) ∧ FrAt w' g 0 (all + 14) c (pbB nn all) ∧ Below w.heap.size w w' ∧ w.heap.size ≤ g := by
  have hu := pb_udp hn h0 h1
  obtain ⟨long, hlong⟩ : ∃ long, long = all + 14 := ⟨_, rfl⟩
  obtain ⟨hi, hhi⟩ : ∃ x, x = all / 256 := ⟨_, rfl⟩
  obtain ⟨lo, hlo⟩ : ∃ x, x = all % 256 := ⟨_, rfl⟩
  rw [← hlong]
  have hw0 : IntKind.i64.wrap ((long : Int) - 14) = ((all : Nat) : Int) := by rw [IntWalk.i64_in _ (by omega)]; omega
  have hw1 : IntKind.u8.wrap ((all : Int) / 256) = ((hi : Nat) : Int) := by rw [IntKind.wrap_u8']; omega
  have hw2 : IntKind.u8.wrap (all : Int) = ((lo : Nat) : Int) := by rw [IntKind.wrap_u8']; omega
  have hmin : (if (9216 : Int) < (long : Int) then (9216 : Int) else (long : Int)) = long := if_neg (by omega)
  have hmax : (if (42 : Int) < (long : Int) then (long : Int) else (42 : Int)) = long := by split <;> omega
  have hl1 : ¬ (9216 : Int) < (long : Int) := by omega
  have HLONG := Lib.hid hlong
  have HHI := Lib.hid hhi
  have HLO := Lib.hid hlo
  have HU := Lib.hid hu
  clear hlong hhi hlo hu
  go_enter Tryz.func12, Tryz.ntmps12
  go_upto_region 6 with (fail)
  change Code.wp _ _ _ _ (w.alloc (.cells (bv (pbL nn hi lo)).toArray 5))
  have x0 := Go.heap_alloc_new w (.cells (bv (pbL nn hi lo)).toArray 5)
  have b0 : Below w.heap.size w (w.alloc (.cells (bv (pbL nn hi lo)).toArray 5)) := (Below.refl _ _).alloc (Nat.le_refl _) _
  have hpb : pbL nn hi lo = pb0 nn all := by rw [HHI.out, HLO.out]; rfl
  rw [hpb] at x0 b0 ⊢
  generalize w.alloc (.cells (bv (pb0 nn all)).toArray 5) = w1 at *
  have HB := Lib.hid b0
  have HX := Lib.hid x0
  have hle : w.heap.size ≤ w.heap.size := Nat.le_refl _
  clear b0 x0 hpb hmin hmax hw1 hw2 hw0
  obtain ⟨g, hg⟩ : ∃ g, g = w.heap.size := ⟨_, rfl⟩
  rw [← hg] at HX ⊢
  have HG := Lib.hid hg
  clear hg hle
  have HC : Hid (∀ (m j : Nat), j < 38 → (w1.drewN m).cell? ⟨g, j, none⟩ = some (.int .u8 ((pb0 nn all).getD j 0 : Nat))) := Lib.hid fun m j hj => by
    have h := cells_of_row (w := w1.drewN m) HX.out j (.int .u8 ((pb0 nn all).getD j 0 : Nat)) (by
      have hlen : (pb0 nn all).length = 38 := rfl
      rw [List.getElem?_toArray, bv, List.getElem?_map, List.getD_eq_getElem?_getD, List.getElem?_eq_getElem (by omega)]
      rfl)
    exact h
  have HLT := Lib.hid (pb0_lt hn h1)
  have HWL := Lib.hid (wsum_le (fun j => (pb0 nn all).getD (14 + j) 0) (fun j => HLT.out (14 + j)))
  go_loopw [7, 8] (fun s t wr => ∃ k : Nat, k ≤ 10 ∧ s = .int .i64 (wsum (fun j => (pb0 nn all).getD (14 + j) 0) k : Nat) ∧ t = .int .i64 ((14 + 2 * k : Nat) : Int) ∧ ∃ m, wr = w1.drewN m) (fun _ t _ => (34 - intOf t).toNat)
  case atStart => exact ⟨0, by omega, rfl, rfl, 0, rfl⟩
  case round =>
    obtain ⟨k, hk, rfl, rfl, m, hm⟩ := hrel
    have HM := Lib.hid hm
    have hwl := HWL.out k
    by_cases hk10 : k = 10
    · subst hk10
      rw [pb_sum0] at hwl ⊢
      obtain ⟨S, hS⟩ : ∃ S, S = 38937 + all + nn * 256 := ⟨_, rfl⟩
      rw [← hS] at hwl ⊢
      have HS := Lib.hid hS
      clear hS
      go_wp2_with fail
      go_loopw [7] (fun s wq => ∃ v : Nat, (v = S ∨ (65535 < S ∧ v = S - 65535)) ∧ s = .int .i64 (v : Nat) ∧ wq = wr) (fun s _ => (intOf s).toNat)
      case atStart => exact ⟨S, .inl rfl, rfl, by rw [hm]⟩
      case round =>
        obtain ⟨v, hv, rfl, rfl⟩ := hrel
        by_cases hgt : 65535 < v
        · have hgtI : (65535 : Int) < (v : Int) := by omega
          have hvw : IntKind.i64.wrap ((v : Int) - 65535) = ((v - 65535 : Nat) : Int) := by rw [IntWalk.i64_in _ (by omega)]; omega
          have hs2 : v = S := by
            have := HS.out
            omega
          have HV := Lib.hid hs2
          clear hs2 hv
          go_wp2_with fail
          refine ⟨⟨v - 65535, .inr ?_, rfl, hm.symm⟩, ?_⟩
          · have := HV.out
            omega
          · simp only [intOf, Int.toNat_natCast]
            omega
        · have hgtI : (v : Int) ≤ 65535 := by omega
          obtain ⟨ck, hck⟩ : ∃ ck, ck = 65535 - v := ⟨_, rfl⟩
          have hvw : IntKind.i64.wrap (65535 - (v : Int)) = ((ck : Nat) : Int) := by rw [IntWalk.i64_in _ (by omega)]; omega
          have hckS : ck = ckS nn all := by
            have := HS.out
            unfold ckS
            split <;> omega
          obtain ⟨ch, hch⟩ : ∃ x, x = ck / 256 := ⟨_, rfl⟩
          obtain ⟨cl, hcl⟩ : ∃ x, x = ck % 256 := ⟨_, rfl⟩
          have hck16 : ck ≤ 65535 := by omega
          have hw1 : IntKind.u8.wrap ((ck : Int) / 256) = ((ch : Nat) : Int) := by rw [IntKind.wrap_u8']; omega
          have hw2 : IntKind.u8.wrap (ck : Int) = ((cl : Nat) : Int) := by rw [IntKind.wrap_u8']; omega
          have HCK := Lib.hid hckS
          have HCH := Lib.hid hch
          have HCL := Lib.hid hcl
          clear hckS hch hcl hck hv
          have hX : wr.heap[g]? = some (.cells (bv (pb0 nn all)).toArray 5 (0, 0)) := by rw [hm]; exact HX.out
          have c24 := cells_of_row hX 24 _ rfl
          have c25 := cells_of_row hX 25 _ rfl
          have f24 := frozen_of_row _ _ 24 _ _ hX
          have f25 := frozen_of_row _ _ 25 _ _ hX
          have hX2 := heap_setCell_same _ _ 25 _ _ (.int .u8 (cl : Nat)) (heap_setCell_same _ _ 24 _ _ (.int .u8 (ch : Nat)) hX)
          have hB2 := Lib.hid (((below_drewN HB.out m).setCell (p := ⟨g, 24, none⟩) (Nat.le_of_eq HG.out.symm) (.int .u8 (ch : Nat))).setCell (p := ⟨g, 25, none⟩) (Nat.le_of_eq HG.out.symm) (.int .u8 (cl : Nat)))
          rw [← HM.out] at hB2
          have hC2 : ∀ j, j < 38 → ((((bv (pb0 nn all)).toArray).setIfInBounds 24 (.int .u8 (ch : Nat))).setIfInBounds 25 (.int .u8 (cl : Nat)))[j]? = some (.int .u8 (pbB nn all j : Nat)) := by
            intro j hj
            have hlen : (bv (pb0 nn all)).length = 38 := rfl
            unfold pbB
            by_cases e25 : j = 25
            · subst e25
              rw [Array.getElem?_setIfInBounds_self_of_lt (by simp [hlen]), if_neg (by omega), if_pos rfl, HCL.out, HCK.out]
            · rw [Array.getElem?_setIfInBounds_ne (by omega)]
              by_cases e24 : j = 24
              · subst e24
                rw [Array.getElem?_setIfInBounds_self_of_lt (by simp [hlen]), if_pos rfl, HCH.out, HCK.out]
              · rw [Array.getElem?_setIfInBounds_ne (by omega), if_neg e24, if_neg e25, List.getElem?_toArray, bv, List.getElem?_map, List.getD_eq_getElem?_getD, List.getElem?_eq_getElem (show j < (pb0 nn all).length from hj)]
                rfl
          obtain ⟨g', c', W, hap, hfr, hbW, hge⟩ := append_zeros (((wr.setCell ⟨g, 24, none⟩ (.int .u8 (ch : Nat))).setCell ⟨g, 25, none⟩ (.int .u8 (cl : Nat)))) g _ (pbB nn all) (long - 38) 3 hX2 hC2 (fun j hj => by
            unfold pbB
            rw [if_neg (by omega), if_neg (by omega), List.getD_eq_getElem?_getD, List.getElem?_eq_none (show (pb0 nn all).length ≤ j from hj)]
            rfl) (pbB_lt hn h0 h1) (by have := HLONG.out; omega) (by have := HLONG.out; omega)
          have hlk : IntKind.i64.wrap ((long : Int) - 38) = ((long - 38 : Nat) : Int) := by
            have := HLONG.out
            rw [IntWalk.i64_in _ (by omega)]
            omega
          have hl38 : 38 + (long - 38) = long := by
            have := HLONG.out
            omega
          rw [hl38] at hap hfr
          have HFR := Lib.hid hfr
          have HBW := Lib.hid (hB2.out.trans (hbW.mono hB2.out.size))
          have HGE := Lib.hid (Nat.le_trans hB2.out.size hge)
          clear hge hfr hbW hX2 hC2 hX hm hl38
          go_wp2_with (at_builtin; go_must (refine Lib.wpList_append_run _ rfl (.tmp 55) (.tmp 59) 37 3 rfl _ _ rfl rfl _ _ hap ?_))
          go_ret
          exact ⟨g', c', rfl, HFR.out, HBW.out, HGE.out⟩
    · have hx : wr.drew.cell? ⟨g, 14 + 2 * k, none⟩ = some (.int .u8 ((pb0 nn all).getD (14 + 2 * k) 0 : Nat)) := by rw [hm]; exact HC.out m (14 + 2 * k) (by omega)
      have hy : wr.drew.cell? ⟨g, 14 + 2 * k + 1, none⟩ = some (.int .u8 ((pb0 nn all).getD (14 + (2 * k + 1)) 0 : Nat)) := by rw [hm]; exact HC.out m (14 + 2 * k + 1) (by omega)
      have hxl := HLT.out (14 + 2 * k)
      have hyl := HLT.out (14 + (2 * k + 1))
      have hstep : wsum (fun j => (pb0 nn all).getD (14 + j) 0) (k + 1) = wsum (fun j => (pb0 nn all).getD (14 + j) 0) k + ((pb0 nn all).getD (14 + 2 * k) 0 * 256 + (pb0 nn all).getD (14 + (2 * k + 1)) 0) := rfl
      have HST := Lib.hid hstep
      clear hstep hm
      generalize (pb0 nn all).getD (14 + 2 * k) 0 = x at *
      generalize (pb0 nn all).getD (14 + (2 * k + 1)) 0 = y at *
      generalize wsum (fun j => (pb0 nn all).getD (14 + j) 0) k = S at *
      obtain ⟨p, hp⟩ : ∃ p, p = 14 + 2 * k := ⟨_, rfl⟩
      rw [← hp] at hx hy ⊢
      have hp1 : (p : Int) < 38 := by omega
      have hp2 : (p : Int) + 1 < 38 := by omega
      have hp3 : (p : Int) < 34 := by omega
      have hq1 : IntKind.i64.wrap ((p : Int) + 1) = ((p + 1 : Nat) : Int) := by rw [IntWalk.i64_in _ (by omega)]; omega
      have hq2 : IntKind.i64.wrap ((p : Int) + 2) = ((p + 2 : Nat) : Int) := by rw [IntWalk.i64_in _ (by omega)]; omega
      have hq3 : IntKind.i64.wrap ((S : Int) + (x : Int) * 256) = (S : Int) + (x : Int) * 256 := IntWalk.i64_in _ (by omega)
      have hq4 : IntKind.i64.wrap ((S : Int) + (x : Int) * 256 + (y : Int)) = (S : Int) + (x : Int) * 256 + (y : Int) := IntWalk.i64_in _ (by omega)
      have HP := Lib.hid hp
      clear hp
      go_wp2_with fail
      go_region
      go_wp2_with fail
      refine ⟨⟨k + 1, by omega, ?_, ?_, m + 1, ?_⟩, ?_⟩
      · rw [HST.out]
        congr 1
        omega
      · congr 1
        have := HP.out
        omega
      · rw [HM.out]
        rfl
      · simp only [intOf]
        omega
end Go.Proofs.YtpanmfdbdgecaaaGreat.C

namespace Go.Proofs.YtpanmfdbdgecaaaGreat.C
open Go.RowKit
set_option linter.unusedVariables false
def rotl13 (x : Int) : Int := bits BinOp.or IntKind.u64 (IntKind.u64.wrap (x * 8192)) (x / 2251799813685248)
theorem rot13 (x : Int) (w : World) : Calls Tryz.prog 198 #[.int .u64 x, .int .i64 13] w fun e w' => e = .returned (.int .u64 (rotl13 x)) ∧ w' = w := by
  have hk : bits BinOp.and IntKind.u64 13 63 = 13 := by decide
  unfold rotl13
  go_enter Tryz.func198, Tryz.ntmps198
  go_wp2
  go_ret
  exact ⟨rfl, rfl⟩
def rotl16 (x : Int) : Int := bits BinOp.or IntKind.u64 (IntKind.u64.wrap (x * 65536)) (x / 281474976710656)
theorem rot16 (x : Int) (w : World) : Calls Tryz.prog 198 #[.int .u64 x, .int .i64 16] w fun e w' => e = .returned (.int .u64 (rotl16 x)) ∧ w' = w := by
  have hk : bits BinOp.and IntKind.u64 16 63 = 16 := by decide
  unfold rotl16
  go_enter Tryz.func198, Tryz.ntmps198
  go_wp2
  go_ret
  exact ⟨rfl, rfl⟩
def rotl17 (x : Int) : Int := bits BinOp.or IntKind.u64 (IntKind.u64.wrap (x * 131072)) (x / 140737488355328)
theorem rot17 (x : Int) (w : World) : Calls Tryz.prog 198 #[.int .u64 x, .int .i64 17] w fun e w' => e = .returned (.int .u64 (rotl17 x)) ∧ w' = w := by
  have hk : bits BinOp.and IntKind.u64 17 63 = 17 := by decide
  unfold rotl17
  go_enter Tryz.func198, Tryz.ntmps198
  go_wp2
  go_ret
  exact ⟨rfl, rfl⟩
def rotl21 (x : Int) : Int := bits BinOp.or IntKind.u64 (IntKind.u64.wrap (x * 2097152)) (x / 8796093022208)
theorem rot21 (x : Int) (w : World) : Calls Tryz.prog 198 #[.int .u64 x, .int .i64 21] w fun e w' => e = .returned (.int .u64 (rotl21 x)) ∧ w' = w := by
  have hk : bits BinOp.and IntKind.u64 21 63 = 21 := by decide
  unfold rotl21
  go_enter Tryz.func198, Tryz.ntmps198
  go_wp2
  go_ret
  exact ⟨rfl, rfl⟩
def rotl32 (x : Int) : Int := bits BinOp.or IntKind.u64 (IntKind.u64.wrap (x * 4294967296)) (x / 4294967296)
theorem rot32 (x : Int) (w : World) : Calls Tryz.prog 198 #[.int .u64 x, .int .i64 32] w fun e w' => e = .returned (.int .u64 (rotl32 x)) ∧ w' = w := by
  have hk : bits BinOp.and IntKind.u64 32 63 = 32 := by decide
  unfold rotl32
  go_enter Tryz.func198, Tryz.ntmps198
  go_wp2
  go_ret
  exact ⟨rfl, rfl⟩
structure SipS where
  a : Int
  b : Int
  c : Int
  d : Int
/-- A round. -/
def sipR (s : SipS) : SipS :=
  let a1 := IntKind.u64.wrap (s.a + s.b)
  let b1 := bits BinOp.xor IntKind.u64 (rotl13 s.b) a1
  let a2 := rotl32 a1
  let c1 := IntKind.u64.wrap (s.c + s.d)
  let d1 := bits BinOp.xor IntKind.u64 (rotl16 s.d) c1
  let a3 := IntKind.u64.wrap (a2 + d1)
  let d2 := bits BinOp.xor IntKind.u64 (rotl21 d1) a3
  let c2 := IntKind.u64.wrap (c1 + b1)
  let b2 := bits BinOp.xor IntKind.u64 (rotl17 b1) c2
  let c3 := rotl32 c2
  ⟨a3, b2, c3, d2⟩
def sipN : Nat → SipS → SipS
  | 0, s => s
  | n + 1, s => sipR (sipN n s)
/-- The four numbers in memory. -/
structure S4 (w : World) (sb : Nat) (a b c d : Int) : Prop where
  row : w.heap[sb]? = some (.cells #[.int .u64 a, .int .u64 b, .int .u64 c, .int .u64 d] 341 (0, 0))
section
variable {w : World} {sb : Nat} {a b c d : Int}
theorem S4.cells (h : S4 w sb a b c d) : w.cell? ⟨sb, 0, none⟩ = some (.int .u64 a) ∧ w.cell? ⟨sb, 1, none⟩ = some (.int .u64 b) ∧ w.cell? ⟨sb, 2, none⟩ = some (.int .u64 c) ∧ w.cell? ⟨sb, 3, none⟩ = some (.int .u64 d) ∧ w.frozen? ⟨sb, 0, none⟩ = false ∧ w.frozen? ⟨sb, 1, none⟩ = false ∧ w.frozen? ⟨sb, 2, none⟩ = false ∧ w.frozen? ⟨sb, 3, none⟩ = false := by
  rw [cell_of_row _ _ _ _ _ _ h.row, cell_of_row _ _ _ _ _ _ h.row, cell_of_row _ _ _ _ _ _ h.row, cell_of_row _ _ _ _ _ _ h.row]
  exact ⟨rfl, rfl, rfl, rfl, frozen_of_row _ _ _ _ _ h.row, frozen_of_row _ _ _ _ _ h.row, frozen_of_row _ _ _ _ _ h.row, frozen_of_row _ _ _ _ _ h.row⟩
theorem S4.drew (h : S4 w sb a b c d) : S4 w.drew sb a b c d := ⟨h.row⟩
theorem S4.set0 (h : S4 w sb a b c d) (x : Int) : S4 (w.setCell ⟨sb, 0, none⟩ (.int .u64 x)) sb x b c d := ⟨heap_setCell_same _ _ 0 _ _ _ h.row⟩
theorem S4.set1 (h : S4 w sb a b c d) (x : Int) : S4 (w.setCell ⟨sb, 1, none⟩ (.int .u64 x)) sb a x c d := ⟨heap_setCell_same _ _ 1 _ _ _ h.row⟩
theorem S4.set2 (h : S4 w sb a b c d) (x : Int) : S4 (w.setCell ⟨sb, 2, none⟩ (.int .u64 x)) sb a b x d := ⟨heap_setCell_same _ _ 2 _ _ _ h.row⟩
theorem S4.set3 (h : S4 w sb a b c d) (x : Int) : S4 (w.setCell ⟨sb, 3, none⟩ (.int .u64 x)) sb a b c x := ⟨heap_setCell_same _ _ 3 _ _ _ h.row⟩
end
set_option maxRecDepth 100000 in
set_option maxHeartbeats 4000000 in
theorem sip_round (sb n : Nat) (s : SipS) (w : World) (hn : n ≤ 4) (h : S4 w sb s.a s.b s.c s.d) :
    Calls Tryz.prog 185 #[.pointer (some ⟨sb, 0, none⟩), .int .i64 (n : Nat)] w fun e w' => e = .returned (.tuple #[]) ∧ S4 w' sb (sipN n s).a (sipN n s).b (sipN n s).c (sipN n s).d ∧ Two sb sb w w' := by
  obtain ⟨w0, hw0⟩ : ∃ w0, w0 = w := ⟨_, rfl⟩
  have t00 := Two.refl sb sb w0
  have HH := Lib.hid h
  have HT := Lib.hid t00
  have HW0 := Lib.hid hw0
  clear h t00 hw0
  go_enter Tryz.func185, Tryz.ntmps185
  go_wp2_with fail
  go_loopw [5] (fun t wr => ∃ k : Nat, k ≤ n ∧ t = .int .i64 (k : Nat) ∧ S4 wr sb (sipN k s).a (sipN k s).b (sipN k s).c (sipN k s).d ∧ Two sb sb w0 wr) (fun t _ => n - (intOf t).toNat)
  case atStart => exact ⟨0, by omega, rfl, HH.out, by rw [← HW0.out]; exact HT.out⟩
  case round =>
    obtain ⟨k, hk, rfl, h0, t0⟩ := hrel
    by_cases hkn : k = n
    · subst hkn
      have H0 := Lib.hid h0
      have T0 := Lib.hid t0
      clear h0 t0
      go_wp2
      go_end0
      exact ⟨rfl, H0.out, by rw [← HW0.out]; exact T0.out⟩
    · have hklt : (k : Int) < (n : Int) := by omega
      have hkw : IntKind.i64.wrap ((k : Int) + 1) = ((k + 1 : Nat) : Int) := by rw [IntWalk.i64_in _ (by omega)]; omega
      have hst : sipN (k + 1) s = sipR (sipN k s) := rfl
      have HST := Lib.hid hst
      clear hst
      generalize sipN k s = s0 at *
      obtain ⟨a0, b0, c0, d0⟩ := s0
      obtain ⟨e0, e1, e2, e3, f0, f1, f2, f3⟩ := h0.cells
      obtain ⟨a1, q0⟩ : ∃ x, IntKind.u64.wrap (a0 + b0) = x := ⟨_, rfl⟩
      go_wp2_with fail
      go_region
      have h1 : S4 (wr.setCell ⟨sb, 0, none⟩ (.int .u64 a1)).drew sb a1 b0 c0 d0 := (h0.set0 a1).drew
      have t1 : Two sb sb w0 (wr.setCell ⟨sb, 0, none⟩ (.int .u64 a1)).drew := (Two.setCell (x := ⟨sb, 0, none⟩) t0 (.inl rfl) _).drewN 1
      have HQ0 := Lib.hid q0
      clear q0
      clear e0 e1 e2 e3 f0 f1 f2 f3 h0 t0
      generalize (wr.setCell ⟨sb, 0, none⟩ (.int .u64 a1)).drew = v0 at *
      skip
      obtain ⟨e0, e1, e2, e3, f0, f1, f2, f3⟩ := h1.cells
      obtain ⟨r1, p1⟩ : ∃ x, rotl13 b0 = x := ⟨_, rfl⟩
      obtain ⟨b1, q1⟩ : ∃ x, bits BinOp.xor IntKind.u64 r1 a1 = x := ⟨_, rfl⟩
      have C1 := rot13 b0
      rw [p1] at C1
      have HC1 := Lib.hid C1
      have HP1 := Lib.hid p1
      clear C1 p1
      go_wp2_with fail
      refine wp_region_still_tail 13 (by kernel_rfl) (by kernel_rfl) ?_
      simp only [List.take_succ_cons, List.take_zero, List.drop_succ_cons, List.drop_zero]
      iterate 5 still_step
      still_call (HC1.out _)
      iterate 7 still_step
      refine wpStill_nil ?_
      change wpList _ _ _ _ _ v0.drew
      have h2 : S4 (v0.setCell ⟨sb, 1, none⟩ (.int .u64 b1)).drew sb a1 b1 c0 d0 := (h1.set1 b1).drew
      have t2 : Two sb sb w0 (v0.setCell ⟨sb, 1, none⟩ (.int .u64 b1)).drew := (Two.setCell (x := ⟨sb, 1, none⟩) t1 (.inl rfl) _).drewN 1
      have HQ1 := Lib.hid q1
      go_upto_region 4 with (fail)
      clear q1
      clear e0 e1 e2 e3 f0 f1 f2 f3 h1 t1
      generalize (v0.setCell ⟨sb, 1, none⟩ (.int .u64 b1)).drew = v1 at *
      skip
      obtain ⟨e0, e1, e2, e3, f0, f1, f2, f3⟩ := h2.cells
      obtain ⟨a2, q2⟩ : ∃ x, rotl32 a1 = x := ⟨_, rfl⟩
      have C2 := rot32 a1
      rw [q2] at C2
      have HC2 := Lib.hid C2
      clear C2
      have HQ2 := Lib.hid q2
      clear q2
      go_wp2_with fail
      refine (HC2.out _).mono ?_
      rintro e w2 ⟨rfl, rfl⟩
      have h3 : S4 (w2.setCell ⟨sb, 0, none⟩ (.int .u64 a2)) sb a2 b1 c0 d0 := (h2.set0 a2)
      have t3 : Two sb sb w0 (w2.setCell ⟨sb, 0, none⟩ (.int .u64 a2)) := (Two.setCell (x := ⟨sb, 0, none⟩) t2 (.inl rfl) _)
      go_upto_region 5 with (fail)
      clear e0 e1 e2 e3 f0 f1 f2 f3 h2 t2
      generalize (w2.setCell ⟨sb, 0, none⟩ (.int .u64 a2)) = v2 at *
      skip
      obtain ⟨e0, e1, e2, e3, f0, f1, f2, f3⟩ := h3.cells
      obtain ⟨c1, q3⟩ : ∃ x, IntKind.u64.wrap (c0 + d0) = x := ⟨_, rfl⟩
      go_wp2_with fail
      go_region
      have h4 : S4 (v2.setCell ⟨sb, 2, none⟩ (.int .u64 c1)).drew sb a2 b1 c1 d0 := (h3.set2 c1).drew
      have t4 : Two sb sb w0 (v2.setCell ⟨sb, 2, none⟩ (.int .u64 c1)).drew := (Two.setCell (x := ⟨sb, 2, none⟩) t3 (.inl rfl) _).drewN 1
      have HQ3 := Lib.hid q3
      clear q3
      clear e0 e1 e2 e3 f0 f1 f2 f3 h3 t3
      generalize (v2.setCell ⟨sb, 2, none⟩ (.int .u64 c1)).drew = v3 at *
      skip
      obtain ⟨e0, e1, e2, e3, f0, f1, f2, f3⟩ := h4.cells
      obtain ⟨r4, p4⟩ : ∃ x, rotl16 d0 = x := ⟨_, rfl⟩
      obtain ⟨d1, q4⟩ : ∃ x, bits BinOp.xor IntKind.u64 r4 c1 = x := ⟨_, rfl⟩
      have C4 := rot16 d0
      rw [p4] at C4
      have HC4 := Lib.hid C4
      have HP4 := Lib.hid p4
      clear C4 p4
      go_wp2_with fail
      refine wp_region_still_tail 13 (by kernel_rfl) (by kernel_rfl) ?_
      simp only [List.take_succ_cons, List.take_zero, List.drop_succ_cons, List.drop_zero]
      iterate 5 still_step
      still_call (HC4.out _)
      iterate 7 still_step
      refine wpStill_nil ?_
      change wpList _ _ _ _ _ v3.drew
      have h5 : S4 (v3.setCell ⟨sb, 3, none⟩ (.int .u64 d1)).drew sb a2 b1 c1 d1 := (h4.set3 d1).drew
      have t5 : Two sb sb w0 (v3.setCell ⟨sb, 3, none⟩ (.int .u64 d1)).drew := (Two.setCell (x := ⟨sb, 3, none⟩) t4 (.inl rfl) _).drewN 1
      have HQ4 := Lib.hid q4
      go_upto_region 7 with (fail)
      clear q4
      clear e0 e1 e2 e3 f0 f1 f2 f3 h4 t4
      generalize (v3.setCell ⟨sb, 3, none⟩ (.int .u64 d1)).drew = v4 at *
      skip
      obtain ⟨e0, e1, e2, e3, f0, f1, f2, f3⟩ := h5.cells
      obtain ⟨a3, q5⟩ : ∃ x, IntKind.u64.wrap (a2 + d1) = x := ⟨_, rfl⟩
      go_wp2_with fail
      go_region
      have h6 : S4 (v4.setCell ⟨sb, 0, none⟩ (.int .u64 a3)).drew sb a3 b1 c1 d1 := (h5.set0 a3).drew
      have t6 : Two sb sb w0 (v4.setCell ⟨sb, 0, none⟩ (.int .u64 a3)).drew := (Two.setCell (x := ⟨sb, 0, none⟩) t5 (.inl rfl) _).drewN 1
      have HQ5 := Lib.hid q5
      clear q5
      clear e0 e1 e2 e3 f0 f1 f2 f3 h5 t5
      generalize (v4.setCell ⟨sb, 0, none⟩ (.int .u64 a3)).drew = v5 at *
      skip
      obtain ⟨e0, e1, e2, e3, f0, f1, f2, f3⟩ := h6.cells
      obtain ⟨r6, p6⟩ : ∃ x, rotl21 d1 = x := ⟨_, rfl⟩
      obtain ⟨d2, q6⟩ : ∃ x, bits BinOp.xor IntKind.u64 r6 a3 = x := ⟨_, rfl⟩
      have C6 := rot21 d1
      rw [p6] at C6
      have HC6 := Lib.hid C6
      have HP6 := Lib.hid p6
      clear C6 p6
      go_wp2_with fail
      refine wp_region_still_tail 13 (by kernel_rfl) (by kernel_rfl) ?_
      simp only [List.take_succ_cons, List.take_zero, List.drop_succ_cons, List.drop_zero]
      iterate 5 still_step
      still_call (HC6.out _)
      iterate 7 still_step
      refine wpStill_nil ?_
      change wpList _ _ _ _ _ v5.drew
      have h7 : S4 (v5.setCell ⟨sb, 3, none⟩ (.int .u64 d2)).drew sb a3 b1 c1 d2 := (h6.set3 d2).drew
      have t7 : Two sb sb w0 (v5.setCell ⟨sb, 3, none⟩ (.int .u64 d2)).drew := (Two.setCell (x := ⟨sb, 3, none⟩) t6 (.inl rfl) _).drewN 1
      have HQ6 := Lib.hid q6
      go_upto_region 9 with (fail)
      clear q6
      clear e0 e1 e2 e3 f0 f1 f2 f3 h6 t6
      generalize (v5.setCell ⟨sb, 3, none⟩ (.int .u64 d2)).drew = v6 at *
      skip
      obtain ⟨e0, e1, e2, e3, f0, f1, f2, f3⟩ := h7.cells
      obtain ⟨c2, q7⟩ : ∃ x, IntKind.u64.wrap (c1 + b1) = x := ⟨_, rfl⟩
      go_wp2_with fail
      go_region
      have h8 : S4 (v6.setCell ⟨sb, 2, none⟩ (.int .u64 c2)).drew sb a3 b1 c2 d2 := (h7.set2 c2).drew
      have t8 : Two sb sb w0 (v6.setCell ⟨sb, 2, none⟩ (.int .u64 c2)).drew := (Two.setCell (x := ⟨sb, 2, none⟩) t7 (.inl rfl) _).drewN 1
      have HQ7 := Lib.hid q7
      clear q7
      clear e0 e1 e2 e3 f0 f1 f2 f3 h7 t7
      generalize (v6.setCell ⟨sb, 2, none⟩ (.int .u64 c2)).drew = v7 at *
      skip
      obtain ⟨e0, e1, e2, e3, f0, f1, f2, f3⟩ := h8.cells
      obtain ⟨r8, p8⟩ : ∃ x, rotl17 b1 = x := ⟨_, rfl⟩
      obtain ⟨b2, q8⟩ : ∃ x, bits BinOp.xor IntKind.u64 r8 c2 = x := ⟨_, rfl⟩
      have C8 := rot17 b1
      rw [p8] at C8
      have HC8 := Lib.hid C8
      have HP8 := Lib.hid p8
      clear C8 p8
      go_wp2_with fail
      refine wp_region_still_tail 13 (by kernel_rfl) (by kernel_rfl) ?_
      simp only [List.take_succ_cons, List.take_zero, List.drop_succ_cons, List.drop_zero]
      iterate 5 still_step
      still_call (HC8.out _)
      iterate 7 still_step
      refine wpStill_nil ?_
      change wpList _ _ _ _ _ v7.drew
      have h9 : S4 (v7.setCell ⟨sb, 1, none⟩ (.int .u64 b2)).drew sb a3 b2 c2 d2 := (h8.set1 b2).drew
      have t9 : Two sb sb w0 (v7.setCell ⟨sb, 1, none⟩ (.int .u64 b2)).drew := (Two.setCell (x := ⟨sb, 1, none⟩) t8 (.inl rfl) _).drewN 1
      have HQ8 := Lib.hid q8
      go_upto_region 11 with (fail)
      clear q8
      clear e0 e1 e2 e3 f0 f1 f2 f3 h8 t8
      generalize (v7.setCell ⟨sb, 1, none⟩ (.int .u64 b2)).drew = v8 at *
      skip
      obtain ⟨e0, e1, e2, e3, f0, f1, f2, f3⟩ := h9.cells
      obtain ⟨c3, q9⟩ : ∃ x, rotl32 c2 = x := ⟨_, rfl⟩
      have C9 := rot32 c2
      rw [q9] at C9
      have HC9 := Lib.hid C9
      clear C9
      have HQ9 := Lib.hid q9
      clear q9
      go_wp2_with fail
      refine (HC9.out _).mono ?_
      rintro e w9 ⟨rfl, rfl⟩
      have h10 : S4 (w9.setCell ⟨sb, 2, none⟩ (.int .u64 c3)) sb a3 b2 c3 d2 := (h9.set2 c3)
      have t10 : Two sb sb w0 (w9.setCell ⟨sb, 2, none⟩ (.int .u64 c3)) := (Two.setCell (x := ⟨sb, 2, none⟩) t9 (.inl rfl) _)
      go_wp2_with fail
      clear e0 e1 e2 e3 f0 f1 f2 f3 h9 t9
      skip
      have e : sipR ⟨a0, b0, c0, d0⟩ = ⟨a3, b2, c3, d2⟩ := by
        simp only [sipR, HQ0.out, HP1.out, HQ1.out, HQ2.out, HQ3.out, HP4.out, HQ4.out, HQ5.out, HP6.out, HQ6.out, HQ7.out, HP8.out, HQ8.out, HQ9.out]
      refine ⟨⟨k + 1, by omega, by congr 1, ?_, t10⟩, ?_⟩
      · rw [HST.out, e]
        exact h10
      · simp only [intOf]
        omega
end Go.Proofs.YtpanmfdbdgecaaaGreat.C

namespace Go.Proofs.YtpanmfdbdgecaaaGreat.C
open Go.RowKit
set_option linter.unusedVariables false
/-- The number of the first bytes, the lowest first. -/
def numP (F : Nat → Nat) : Nat → Int
  | 0 => 0
  | k + 1 => bits BinOp.or IntKind.u64 (numP F k) (IntKind.u64.wrap (IntKind.u64.wrap (F k : Int) * 2 ^ (8 * k)))
set_option maxRecDepth 100000 in
theorem sip_number (A : Option Addr) (g o n c : Nat) (F : Nat → Nat) (w : World) (hA : n ≠ 0 → A = some ⟨g, o, none⟩) (hc : ∀ j, j < n → w.cell? ⟨g, o + j, none⟩ = some (.int .u8 (F j : Nat))) (hn : n ≤ 8) :
    Calls Tryz.prog 182 #[.slice A n c] w fun e w' => e = .returned (.int .u64 (numP F n)) ∧ w' = w := by
  have HC := Lib.hid hc
  have HA := Lib.hid hA
  clear hc hA
  go_enter Tryz.func182, Tryz.ntmps182
  go_wp2_with fail
  go_loopw [3, 8] (fun s t wr => ∃ k : Nat, k ≤ n ∧ t = .int .i64 (k : Nat) ∧ s = .int .u64 (numP F k) ∧ wr = w) (fun _ t _ => n - (intOf t).toNat)
  case atStart => exact ⟨0, by omega, rfl, rfl, rfl⟩
  case round =>
    obtain ⟨k, hk, rfl, rfl, rfl⟩ := hrel
    by_cases hkn : k = n
    · subst hkn
      go_wp2
      go_ret
      exact ⟨rfl, rfl⟩
    · obtain rfl := HA.out (by omega)
      have ck := HC.out k (by omega)
      have hlt : (k : Int) < (n : Int) := by omega
      have hkw : IntKind.i64.wrap ((k : Int) + 1) = ((k + 1 : Nat) : Int) := by rw [IntWalk.i64_in _ (by omega)]; omega
      have hk8 : IntKind.i64.wrap (8 * (k : Int)) = ((8 * k : Nat) : Int) := by rw [IntWalk.i64_in _ (by omega)]; omega
      go_wp2_with fail
      refine ⟨⟨k + 1, by omega, by congr 1, rfl, by first | rfl | trivial⟩, ?_⟩
      simp only [intOf]
      omega
def xorU (x y : Int) : Int := bits BinOp.xor IntKind.u64 x y
/-- Eight bytes are taken. -/
def sipW (s : SipS) (m : Int) : SipS := ⟨xorU (sipN 2 ⟨s.a, s.b, s.c, xorU s.d m⟩).a m, (sipN 2 ⟨s.a, s.b, s.c, xorU s.d m⟩).b, (sipN 2 ⟨s.a, s.b, s.c, xorU s.d m⟩).c, (sipN 2 ⟨s.a, s.b, s.c, xorU s.d m⟩).d⟩
set_option maxRecDepth 100000 in
theorem sip_word (sb : Nat) (m : Int) (s : SipS) (w : World) (h : S4 w sb s.a s.b s.c s.d) :
    Calls Tryz.prog 184 #[.pointer (some ⟨sb, 0, none⟩), .int .u64 m] w fun e w' => e = .returned (.tuple #[]) ∧ S4 w' sb (sipW s m).a (sipW s m).b (sipW s m).c (sipW s m).d ∧ Two sb sb w w' := by
  obtain ⟨x1, hx1⟩ : ∃ x, xorU s.d m = x := ⟨_, rfl⟩
  obtain ⟨s2, hs2⟩ : ∃ z, sipN 2 ⟨s.a, s.b, s.c, x1⟩ = z := ⟨_, rfl⟩
  obtain ⟨x3, hx3⟩ : ∃ x, xorU s2.a m = x := ⟨_, rfl⟩
  have e : sipW s m = ⟨x3, s2.b, s2.c, s2.d⟩ := by
    unfold sipW
    rw [hx1, hs2, hx3]
  rw [e]
  have h1 := h.set3 x1
  have C := Lib.hid (sip_round sb 2 ⟨s.a, s.b, s.c, x1⟩ _ (by omega) h1)
  rw [hs2] at C
  obtain ⟨e0, e1, e2, e3, f0, f1, f2, f3⟩ := h.cells
  have T1 := Lib.hid (Two.setCell (g := sb) (h := sb) (x := ⟨sb, 3, none⟩) (Two.refl sb sb w) (.inl rfl) (.int .u64 x1))
  have q1 : bits BinOp.xor IntKind.u64 s.d m = x1 := hx1
  have q3 : bits BinOp.xor IntKind.u64 s2.a m = x3 := hx3
  clear e hx1 hs2 hx3 h h1
  obtain ⟨a2, b2, c2, d2⟩ := s2
  go_enter Tryz.func184, Tryz.ntmps184
  go_wp2_with fail
  refine C.out.mono ?_
  rintro e w2 ⟨rfl, h2, t2⟩
  obtain ⟨e0, e1, e2, e3, f0, f1, f2, f3⟩ := h2.cells
  have H3 := Lib.hid (h2.set0 x3)
  have T3 := Lib.hid (Two.setCell (g := sb) (h := sb) (x := ⟨sb, 0, none⟩) (T1.out.trans t2) (.inl rfl) (.int .u64 x3))
  clear h2 t2 C T1
  go_wp2
  go_end0
  exact ⟨rfl, H3.out, T3.out⟩
set_option maxRecDepth 100000 in
/-- Room of its own for so many bytes. -/
theorem grow_nil (n : Nat) (w : World) (h0 : 1 ≤ n) (h1 : n ≤ 65536) :
    Calls Tryz.prog 197 #[.slice none 0 0, .int .i64 (n : Nat)] w fun e w' => ∃ u, e = .returned u ∧ w'.ownsRow w.heap.size 5 1 u 0 [] ∧ Below w.heap.size w w' := by
  obtain ⟨i0, hi, hz0, hz1, hz2⟩ := info_parts u8_info
  have hr := Lib.run_append_nil_zeros (P := Tryz.prog) w 37 3 37 5 i0 (.int .u8 0) .i64 .i64 Tryz.underlying37 Tryz.underlying3 hi hz0 n (by omega) (by rw [hz1]; omega) (by omega) (by rw [hz2]; omega)
  have hge := grownCap_ge w n 0 5
  have hle := grownCap_le_maxLen w n 0 5 (by simp only [maxLen]; omega)
  have hX := Go.heap_alloc_new w.drew (.cells (Builtin.zeroCells (Value.cells (.int .u8 0)) n ++ Builtin.zeroCells (Value.cells (.int .u8 0)) (grownCap w n 0 5 - n)) 5)
  have hB : Below w.heap.size w (w.drew.alloc (.cells (Builtin.zeroCells (Value.cells (.int .u8 0)) n ++ Builtin.zeroCells (Value.cells (.int .u8 0)) (grownCap w n 0 5 - n)) 5)) := ((Below.refl _ _).drew).alloc (by simp) _
  have hsz : (Builtin.zeroCells (Value.cells (.int .u8 0)) n ++ Builtin.zeroCells (Value.cells (.int .u8 0)) (grownCap w n 0 5 - n)).size = grownCap w n 0 5 := by
    rw [Array.size_append, size_zeroCells, size_zeroCells]
    simp [Value.cells]
    omega
  generalize w.drew.alloc (.cells (Builtin.zeroCells (Value.cells (.int .u8 0)) n ++ Builtin.zeroCells (Value.cells (.int .u8 0)) (grownCap w n 0 5 - n)) 5) = W at *
  generalize Builtin.zeroCells (Value.cells (.int .u8 0)) n ++ Builtin.zeroCells (Value.cells (.int .u8 0)) (grownCap w n 0 5 - n) = Z at *
  generalize grownCap w n 0 5 = cap at *
  have HX := Lib.hid hX
  have HB := Lib.hid hB
  have HSZ := Lib.hid hsz
  clear hX hB hsz hi hz0 hz1 hz2
  have hpos : ¬ ((n : Int) < 0) := by omega
  have hw : IntKind.i64.wrap ((n : Int) - 0) = (n : Nat) := by rw [Int.sub_zero]; exact IntWalk.i64_in _ (by omega)
  have h0n : (0 : Int) < (n : Int) := by omega
  go_enter Tryz.func197, Tryz.ntmps197
  go_wp2_with (at_builtin; go_must (refine Lib.wpList_append_run _ rfl (.tmp 20) (.tmp 21) 37 3 rfl _ _ rfl rfl _ _ hr ?_))
  go_ret
  exact ⟨_, rfl, ⟨by simp, .inr ⟨w.heap.size, cap, Z, rfl, Nat.le_refl _, HX.out, Nat.zero_le _, hle, by rw [HSZ.out, Nat.mul_one], by simp⟩⟩, HB.out⟩
set_option maxRecDepth 100000 in
set_option maxHeartbeats 1000000 in
/-- One part is copied. -/
theorem concat_one (pg g o n c : Nat) (F : Nat → Nat) (w : World) (hp : w.cell? ⟨pg, 0, none⟩ = some (.slice (some ⟨g, o, none⟩) n c)) (h : FrAt w g o n c F) (h0 : 1 ≤ n) (h1 : n ≤ 64) :
    Calls Tryz.prog 183 #[.slice (some ⟨pg, 0, none⟩) 1 1] w fun e w' => ∃ g' c', e = .returned (.slice (some ⟨g', 0, none⟩) n c') ∧ FrAt w' g' 0 n c' F ∧ Below w.heap.size w w' := by
  obtain ⟨i0, hi, hz0, hz1, hz2⟩ := info_parts u8_info
  have Hi := Lib.hid hi
  have Hz0 := Lib.hid hz0
  have Hz1 := Lib.hid hz1
  have Hz2 := Lib.hid hz2
  have HF := Lib.hid h
  have hpb := World.block_lt_of_cell? w _ hp
  simp only at hpb
  have HP := Lib.hid hp
  have CG := Lib.hid (grow_nil n w h0 (by omega))
  have hw : IntKind.i64.wrap (0 + (n : Int)) = (n : Nat) := by rw [Int.zero_add]; exact IntWalk.i64_in _ (by omega)
  have hn0 : ¬ ((n : Int) < 0) := by omega
  clear h hi hz0 hz1 hz2
  go_enter Tryz.func183, Tryz.ntmps183
  go_wp2_with fail
  go_loopw [3, 11] (fun s t wr => ∃ k : Nat, k ≤ 1 ∧ t = .int .i64 (k : Nat) ∧ s = .int .i64 ((if k = 0 then 0 else n : Nat) : Int) ∧ w = wr) (fun _ t _ => 1 - (intOf t).toNat)
  case atStart => exact ⟨0, by omega, rfl, rfl, rfl⟩
  case round =>
    obtain ⟨k, hk, rfl, rfl, rfl⟩ := hrel
    rcases (show k = 0 ∨ k = 1 by omega) with rfl | rfl
    · go_wp2_with fail
      refine ⟨⟨1, by omega, rfl, ?_, by first | rfl | trivial⟩, ?_⟩
      · simp
      · simp [intOf]
    · rw [if_neg (by omega)]
      go_wp2_with fail
      refine CG.out.mono ?_
      rintro e w2 ⟨u, rfl, ho, hb⟩
      obtain ⟨A2, c2, rfl⟩ := OW.slice ho
      have HO := Lib.hid ho
      have HB := Lib.hid hb
      have hp2 : w2.cell? ⟨pg, 0, none⟩ = some (.slice (some ⟨g, o, none⟩) n c) := by rw [hb.cell (p := ⟨pg, 0, none⟩) hpb]; exact HP.out
      have HP2 := Lib.hid hp2
      have HF2 := Lib.hid (HF.out.below HF.out.blk hb (Nat.le_refl _))
      clear ho hb CG hp hp2
      go_wp2_with fail
      go_loopw [6, 27] (fun s t wr => ∃ k : Nat, k ≤ 1 ∧ t = .int .i64 (k : Nat) ∧ wr.ownsRow w.heap.size 5 1 s (if k = 0 then 0 else n) (if k = 0 then [] else bv ((List.range n).map F)) ∧ Below w.heap.size w wr ∧ (k = 0 → s = .slice A2 0 c2 ∧ w2 = wr)) (fun _ t _ => 1 - (intOf t).toNat)
      case atStart => exact ⟨0, by omega, rfl, HO.out, HB.out, fun _ => ⟨rfl, rfl⟩⟩
      case round =>
        obtain ⟨k, hk, rfl, ho, hb, hz⟩ := hrel
        rcases (show k = 0 ∨ k = 1 by omega) with rfl | rfl
        · obtain ⟨rfl, rfl⟩ := hz rfl
          clear ho hb hz
          have hp2 := HP2.out
          go_wp2_with (at_builtin; go_must (refine wpList_append_own_at _ rfl (.tmp 31) (.tmp 32) 37 rfl w.heap.size 5 i0 (.int .u8 0) 1 1 Tryz.underlying37 Hi.out Hz0.out Hz1.out Hz2.out rfl (by omega) (.slice A2 0 c2) 0 [] rfl HO.out ⟨g, o, none⟩ n c (bv ((List.range n).map F)) rfl ?hl ?hn bv_one ?h63 ?hb ?hbase ?next))
          case hl => simp [bv]
          case hn =>
            intro j v hv
            have hj := (List.getElem?_eq_some_iff.1 hv).1
            simp only [bv, List.length_map, List.length_range] at hj
            simp only [bv, List.map_map, List.getElem?_map, List.getElem?_range hj, Option.map_some, Option.some.injEq] at hv
            rw [OW.addr_off, ← hv]
            exact HF2.out.cell j hj
          case h63 => simp only [maxLen]; omega
          case hb => omega
          case hbase => exact HB.out.size
          case next =>
            intro v' w' hown hg _ hat
            have hB : Below w.heap.size w w' := HB.out.grown hg HB.out.size (fun q hq => (World.ownsRow.lt HO.out q hq).1)
            have HO4 := Lib.hid hown
            have HB4 := Lib.hid hB
            clear hown hg hat hB
            go_wp2_with fail
            refine ⟨⟨1, by omega, rfl, ?_, HB4.out, by simp⟩, by simp [intOf]⟩
            have := HO4.out
            simpa using this
        · simp only [Nat.one_ne_zero, if_false] at ho
          obtain ⟨A3, c3, rfl⟩ := OW.slice ho
          obtain ⟨g3, rfl, hcap⟩ : ∃ g3, A3 = some ⟨g3, 0, none⟩ ∧ g3 < wr.heap.size := by
            rcases ho.2 with ⟨h0, h1⟩ | ⟨g2, cap, cur, hv, _, hh, _⟩
            · exact absurd h1 (by omega)
            · injection hv with h4 h5 h6
              exact ⟨g2, h4, (Array.getElem?_eq_some_iff.1 hh).1⟩
          have hfr : FrAt wr g3 0 n c3 F := by
            refine ⟨fun j hj => ?_, HF.out.byte, OW.cap ho, hcap⟩
            have := ho.cells (g := g3) rfl j (.int .u8 (F j : Nat)) (by simp [bv, List.getElem?_range hj])
            rw [OW.addr_off] at this
            exact this
          have HFR := Lib.hid hfr
          have HB5 := Lib.hid hb
          clear ho hb hz hfr
          go_wp2
          go_ret
          exact ⟨g3, c3, rfl, HFR.out, HB5.out⟩
/-- The four numbers at the beginning. -/
def sipI (k0 k1 : Int) : SipS := ⟨xorU k0 8317987319222330741, xorU k1 7237128888997146477, xorU k0 7816392313619706465, xorU k1 8387220255154660723⟩
/-- .. behind so many words. -/
def sipB (F : Nat → Nat) (s : SipS) : Nat → SipS
  | 0 => s
  | k + 1 => sipW (sipB F s k) (numP (fun j => F (8 * k + j)) 8)
def sipE (s : SipS) : Int := xorU (xorU (xorU (sipN 4 ⟨s.a, s.b, xorU s.c 255, s.d⟩).a (sipN 4 ⟨s.a, s.b, xorU s.c 255, s.d⟩).b) (sipN 4 ⟨s.a, s.b, xorU s.c 255, s.d⟩).c) (sipN 4 ⟨s.a, s.b, xorU s.c 255, s.d⟩).d
/-- The sum of bytes. -/
def sipSum (K F : Nat → Nat) (n : Nat) : Int := sipE (sipW (sipB F (sipI (numP K 8) (numP (fun j => K (8 + j)) 8)) (n / 8)) (bits BinOp.or IntKind.u64 (numP (fun j => F (8 * (n / 8) + j)) (n % 8)) (IntKind.u64.wrap ((n : Int) * 72057594037927936))))
theorem sipSum_range (K F : Nat → Nat) (n : Nat) : 0 ≤ sipSum K F n ∧ sipSum K F n < 18446744073709551616 := by
  have key : ∀ x y : Int, 0 ≤ xorU x y ∧ xorU x y < 18446744073709551616 := fun x y => by
    unfold xorU bits
    rw [IntKind.wrap_u64]
    omega
  exact key _ _
end Go.Proofs.YtpanmfdbdgecaaaGreat.C

namespace Go.Proofs.YtpanmfdbdgecaaaGreat.C
open Go.RowKit
set_option linter.unusedVariables false
theorem s4_below {w w' : World} {sb : Nat} {a b c d : Int} (h : S4 w sb a b c d) (p : Below w.heap.size w w') : S4 w' sb a b c d := ⟨keep_block p h.row⟩
theorem FrAt.two {w w' : World} {g o n c b : Nat} {B : Nat → Nat} (h : FrAt w g o n c B) (t : Two b b w w') (hne : g ≠ b) : FrAt w' g o n c B :=
  ⟨fun j hj => by rw [World.cell?_of_block (t.block g h.blk hne hne)]; exact h.cell j hj, h.byte, h.cap, Nat.lt_of_lt_of_le h.blk t.size⟩
set_option maxRecDepth 100000 in
set_option maxHeartbeats 1000000 in
theorem sip_sum (kv : Array Value) (K : Nat → Nat) (pg g o n c : Nat) (F : Nat → Nat) (w : World) (hk : ∀ j, j < 16 → kv[j]? = some (.int .u8 (K j : Nat))) (hp : w.cell? ⟨pg, 0, none⟩ = some (.slice (some ⟨g, o, none⟩) n c)) (h : FrAt w g o n c F) (h0 : 1 ≤ n) (h1 : n ≤ 64) :
    Calls Tryz.prog 166 #[.agg kv, .slice (some ⟨pg, 0, none⟩) 1 1] w fun e w' => e = .returned (.int .u64 (sipSum K F n)) ∧ Below w.heap.size w w' := by
  have HK := Lib.hid hk
  have HF := Lib.hid h
  have hpb := World.block_lt_of_cell? w _ hp
  simp only at hpb
  have HP := Lib.hid hp
  clear h hk hp
  obtain ⟨k0, hk0⟩ : ∃ x, numP K 8 = x := ⟨_, rfl⟩
  obtain ⟨k1, hk1⟩ : ∃ x, numP (fun j => K (8 + j)) 8 = x := ⟨_, rfl⟩
  have HK0 := Lib.hid hk0
  have HK1 := Lib.hid hk1
  clear hk0 hk1
  go_enter Tryz.func166, Tryz.ntmps166
  go_upto_region 1 with ((with_reducible refine arm_box 2 0 22 kv ?_ ?_); rfl; intro w1 HB HX HS)
  have N0 : Hid (Calls Tryz.prog 182 #[.slice (some ⟨w.heap.size, 0, none⟩) 8 16] w1.drew fun e w' => e = .returned (.int .u64 k0) ∧ w' = w1.drew) := Lib.hid (by
    have := sip_number (some ⟨w.heap.size, 0, none⟩) w.heap.size 0 8 16 K w1.drew (fun _ => rfl) (fun j hj => by rw [Nat.zero_add]; exact cells_of_row (w := w1.drew) HX.out j _ (HK.out j (by omega))) (by omega)
    rw [HK0.out] at this
    exact this)
  have N1 : Hid (Calls Tryz.prog 182 #[.slice (some ⟨w.heap.size, 8, none⟩) 8 8] w1.drew fun e w' => e = .returned (.int .u64 k1) ∧ w' = w1.drew) := Lib.hid (by
    have := sip_number (some ⟨w.heap.size, 8, none⟩) w.heap.size 8 8 8 (fun j => K (8 + j)) w1.drew (fun _ => rfl) (fun j hj => cells_of_row (w := w1.drew) HX.out (8 + j) _ (HK.out (8 + j) (by omega))) (by omega)
    rw [HK1.out] at this
    exact this)
  go_wp2_with fail
  refine wp_region_held_drew (S := fun w' => w' = w1.drew) (by kernel_rfl) rfl (fun hHeld => ?_)
  refine wpAnyH_take (i := 0) (oi := ⟨some 10, _, _, _, _, _⟩) (v := ?_) rfl (by kernel_rfl) (by kernel_rfl) (by kernel_rfl) (fun _ _ _ h => h) (Or.inl ⟨by rfl, ?_⟩) hHeld ?_
  rotate_left
  · intro w hSw
    go_simp
    try with_reducible rfl
  try simp only [Act.put, List.setIfInBounds_toArray, List.set_cons_zero, List.set_cons_succ]
  refine wpAnyH_take (i := 2) (oi := ⟨some 12, _, _, _, _, _⟩) (v := ?_) rfl (by kernel_rfl) (by kernel_rfl) (by kernel_rfl) (fun _ _ _ h => h) (Or.inl ⟨by rfl, ?_⟩) hHeld ?_
  rotate_left
  · intro w hSw
    go_simp
    try with_reducible rfl
  try simp only [Act.put, List.setIfInBounds_toArray, List.set_cons_zero, List.set_cons_succ]
  refine wpAnyH_ready (rs := [1]) (by kernel_rfl) (by simp) ?_
  refine AllReadyH.cons rfl (fun K hK => ?_) AllReadyH.nil
  go_simp
  go_wp2_with (go_at_call 182; go_must (refine (N0.out).mono ?_; rintro e w1 ⟨rfl, rfl⟩))
  refine hK.out _ _ (rfl) (fun hHeld => ?_)
  clear hK K
  refine wpAnyH_ready (rs := [3]) (by kernel_rfl) (by simp) ?_
  refine AllReadyH.cons rfl (fun K hK => ?_) AllReadyH.nil
  go_simp
  go_wp2_with (go_at_call 182; go_must (refine (N1.out).mono ?_; rintro e w3 ⟨rfl, rfl⟩))
  refine hK.out _ _ (rfl) (fun hHeld => ?_)
  clear hK K
  refine wpAnyH_take (i := 4) (oi := ⟨some 5, _, _, _, _, _⟩) (v := ?_) rfl (by kernel_rfl) (by kernel_rfl) (by kernel_rfl) (fun _ _ _ h => h) (Or.inl ⟨by rfl, ?_⟩) hHeld ?_
  rotate_left
  · intro w hSw
    go_simp
    try with_reducible rfl
  try simp only [Act.put, List.setIfInBounds_toArray, List.set_cons_zero, List.set_cons_succ]
  refine wpAnyH_take (i := 5) (oi := ⟨some 6, _, _, _, _, _⟩) (v := ?_) rfl (by kernel_rfl) (by kernel_rfl) (by kernel_rfl) (fun _ _ _ h => h) (Or.inl ⟨by rfl, ?_⟩) hHeld ?_
  rotate_left
  · intro w hSw
    go_simp
    try with_reducible rfl
  try simp only [Act.put, List.setIfInBounds_toArray, List.set_cons_zero, List.set_cons_succ]
  refine wpAnyH_done (by kernel_rfl) ?_ _
  obtain ⟨x0, q0⟩ : ∃ x, bits BinOp.xor IntKind.u64 k0 8317987319222330741 = x := ⟨_, rfl⟩
  obtain ⟨x1, q1⟩ : ∃ x, bits BinOp.xor IntKind.u64 k1 7237128888997146477 = x := ⟨_, rfl⟩
  obtain ⟨x2, q2⟩ : ∃ x, bits BinOp.xor IntKind.u64 k0 7816392313619706465 = x := ⟨_, rfl⟩
  obtain ⟨x3, q3⟩ : ∃ x, bits BinOp.xor IntKind.u64 k1 8387220255154660723 = x := ⟨_, rfl⟩
  have hI : sipI k0 k1 = ⟨x0, x1, x2, x3⟩ := by
    unfold sipI xorU
    rw [q0, q1, q2, q3]
  have HI := Lib.hid hI
  clear hI hHeld
  have hsl := HB.out.size
  have hX2 := Go.heap_alloc_new w1 (.cells #[.int .u64 x0, .int .u64 x1, .int .u64 x2, .int .u64 x3] 341)
  have hB2 : Below w.heap.size w (w1.alloc (.cells #[.int .u64 x0, .int .u64 x1, .int .u64 x2, .int .u64 x3] 341)).drew := (HB.out.alloc hsl _).drew
  have hS2 : S4 (w1.alloc (.cells #[.int .u64 x0, .int .u64 x1, .int .u64 x2, .int .u64 x3] 341)).drew w1.heap.size x0 x1 x2 x3 := ⟨hX2⟩
  have HB2 := Lib.hid hB2
  have HS2 := Lib.hid hS2
  clear hX2 hB2 hS2
  go_upto_region 3 with (fail)
  generalize (w1.alloc (.cells #[.int .u64 x0, .int .u64 x1, .int .u64 x2, .int .u64 x3] 341)).drew = w2 at *
  generalize w1.heap.size = sb at *
  clear q0 q1 q2 q3 N0 N1
  have hp2 : w2.cell? ⟨pg, 0, none⟩ = some (.slice (some ⟨g, o, none⟩) n c) := by rw [HB2.out.cell (p := ⟨pg, 0, none⟩) hpb]; exact HP.out
  have CC := Lib.hid (concat_one pg g o n c F w2 hp2 (HF.out.below HF.out.blk HB2.out (Nat.le_refl _)) h0 h1)
  clear hp2
  go_wp2_with fail
  refine CC.out.mono ?_
  rintro e w3 ⟨g3, c3, rfl, hfr, hb⟩
  have hs2 := HB2.out.size
  have HB3 := Lib.hid (HB2.out.trans (hb.mono hs2))
  have hS3 := s4_below HS2.out hb
  have hgne : g3 ≠ sb := by
    rintro rfl
    have a1 := hfr.cell 0 (by omega)
    have a2 := hS3.cells.1
    rw [Nat.zero_add, a2] at a1
    injection a1 with a1
    injection a1 with a1 _
    cases a1
  have HS3 := Lib.hid hS3
  have HF3 := Lib.hid hfr
  clear hfr hb hS3 CC HS2
  have hcap3 := HF3.out.cap
  simp only [maxLen] at hcap3
  go_wp2_with fail
  go_loopw [8] (fun s wr => ∃ (k : Nat) (A' : Option Addr) (c' : Nat), k ≤ n / 8 ∧ s = .slice A' (n - 8 * k) c' ∧ (n - 8 * k ≠ 0 → A' = some ⟨g3, 8 * k, none⟩) ∧ (n - 8 * k ≤ c' ∧ c' ≤ 9223372036854775807) ∧ S4 wr sb (sipB F ⟨x0, x1, x2, x3⟩ k).a (sipB F ⟨x0, x1, x2, x3⟩ k).b (sipB F ⟨x0, x1, x2, x3⟩ k).c (sipB F ⟨x0, x1, x2, x3⟩ k).d ∧ Below w.heap.size w wr ∧ FrAt wr g3 0 n c3 F) (fun s _ => match s with | .slice _ m _ => m | _ => 0)
  case atStart => exact ⟨0, some ⟨g3, 0, none⟩, c3, by omega, rfl, fun _ => rfl, ⟨by omega, by omega⟩, HS3.out, HB3.out, HF3.out⟩
  case round =>
    obtain ⟨k, A', c', hk, rfl, hA, hc', hS, hB, hF⟩ := hrel
    by_cases hk8 : k = n / 8
    · subst hk8
      obtain ⟨r, hr⟩ : ∃ r, n - 8 * (n / 8) = r := ⟨_, rfl⟩
      have hrm : n % 8 = r := by omega
      have hr8 : r < 8 := by omega
      have hnI : r ≤ n := by omega
      obtain ⟨u, hu⟩ : ∃ u, u = 8 * (n / 8) := ⟨_, rfl⟩
      have hur : u + r = n := by omega
      obtain ⟨s0, hs0⟩ : ∃ s, sipB F ⟨x0, x1, x2, x3⟩ (n / 8) = s := ⟨_, rfl⟩
      rw [hs0] at hS
      rw [hr] at hA hc' ⊢
      rw [← hu] at hA
      obtain ⟨m1, hm1⟩ : ∃ m, numP (fun j => F (u + j)) r = m := ⟨_, rfl⟩
      have N := Lib.hid (sip_number A' g3 u r c' (fun j => F (u + j)) wr hA (fun j hj => by
        have := hF.cell (u + j) (by omega)
        rwa [Nat.zero_add] at this) (by omega))
      rw [hm1] at N
      obtain ⟨m2, hm2⟩ : ∃ m, bits BinOp.or IntKind.u64 m1 ((n : Int) * 72057594037927936) = m := ⟨_, rfl⟩
      have hwr : IntKind.u64.wrap ((n : Int) * 72057594037927936) = (n : Int) * 72057594037927936 := by rw [IntKind.wrap_u64]; omega
      have W := Lib.hid (sip_word sb m2 s0 wr hS)
      have hcv : IntKind.u64.wrap (n : Int) = (n : Int) := by rw [IntKind.wrap_u64]; omega
      obtain ⟨s5, hs5⟩ : ∃ s, sipW s0 m2 = s := ⟨_, rfl⟩
      rw [hs5] at W
      obtain ⟨x5, hx5⟩ : ∃ x, xorU s5.c 255 = x := ⟨_, rfl⟩
      obtain ⟨s7, hs7⟩ : ∃ s, sipN 4 ⟨s5.a, s5.b, x5, s5.d⟩ = s := ⟨_, rfl⟩
      have hsum : sipSum K F n = xorU (xorU (xorU s7.a s7.b) s7.c) s7.d := by
        unfold sipSum sipE
        rw [HK0.out, HK1.out, HI.out, hs0, hrm, ← hu, hm1, hwr, hm2, hs5, hx5, hs7]
      have HSUM := Lib.hid hsum
      have HS7 := Lib.hid hs7
      have hq5 : bits BinOp.xor IntKind.u64 s5.c 255 = x5 := hx5
      have HB4 := Lib.hid hB
      clear hwr hsum hs7 hs5 hs0 hm1 hS hF hA hc' hx5 hB hur hu hr hrm hnI
      have hrI : (r : Int) < 8 := by omega
      go_wp2_with fail
      refine N.out.mono ?_
      rintro e w5 ⟨rfl, rfl⟩
      go_wp2_with fail
      refine W.out.mono ?_
      rintro e w6 ⟨rfl, hS6, t6⟩
      obtain ⟨e0, e1, e2, e3, f0, f1, f2, f3⟩ := hS6.cells
      have C7 := Lib.hid (sip_round sb 4 ⟨s5.a, s5.b, x5, s5.d⟩ _ (by omega) (hS6.set2 x5))
      rw [HS7.out] at C7
      have HB6 := Lib.hid (two_below HB4.out (Two.setCell (g := sb) (h := sb) (x := ⟨sb, 2, none⟩) t6 (.inl rfl) (.int .u64 x5)) hsl HB4.out.size)
      clear hS6 t6 W N hm2
      go_wp2_with fail
      refine C7.out.mono ?_
      rintro e w8 ⟨rfl, hS8, t8⟩
      obtain ⟨e0, e1, e2, e3, f0, f1, f2, f3⟩ := hS8.cells
      have HB8 := Lib.hid (two_below HB6.out t8 hsl HB6.out.size)
      clear hS8 t8 C7 hq5
      obtain ⟨y1, hy1⟩ : ∃ y, bits BinOp.xor IntKind.u64 s7.a s7.b = y := ⟨_, rfl⟩
      obtain ⟨y2, hy2⟩ : ∃ y, bits BinOp.xor IntKind.u64 y1 s7.c = y := ⟨_, rfl⟩
      obtain ⟨y3, hy3⟩ : ∃ y, bits BinOp.xor IntKind.u64 y2 s7.d = y := ⟨_, rfl⟩
      have hfin : sipSum K F n = y3 := by
        rw [HSUM.out]
        unfold xorU
        rw [hy1, hy2, hy3]
      have HFIN := Lib.hid hfin
      clear hfin
      go_wp2_with fail
      go_region
      go_wp2
      go_ret
      exact ⟨by rw [HFIN.out]; rfl, HB8.out.drew⟩
    · have hlt8 : (8 : Int) ≤ ((n - 8 * k : Nat) : Int) := by omega
      have hcI : ((n - 8 * k : Nat) : Int) ≤ (c' : Int) := by omega
      obtain rfl := hA (by omega)
      have N := Lib.hid (sip_number (some ⟨g3, 8 * k, none⟩) g3 (8 * k) 8 c' (fun j => F (8 * k + j)) wr (fun _ => rfl) (fun j hj => by
        have := hF.cell (8 * k + j) (by omega)
        rwa [Nat.zero_add] at this) (by omega))
      have W := Lib.hid (sip_word sb (numP (fun j => F (8 * k + j)) 8) (sipB F ⟨x0, x1, x2, x3⟩ k) wr hS)
      have hst : sipB F ⟨x0, x1, x2, x3⟩ (k + 1) = sipW (sipB F ⟨x0, x1, x2, x3⟩ k) (numP (fun j => F (8 * k + j)) 8) := rfl
      rw [← hst] at W
      have HB4 := Lib.hid hB
      have HF4 := Lib.hid hF
      clear hS hB hF hA hst
      generalize numP (fun j => F (8 * k + j)) 8 = m at *
      have hm8 : (8 : Int) ≤ (c' : Int) := by omega
      go_wp2_with fail
      refine N.out.mono ?_
      rintro e w5 ⟨rfl, rfl⟩
      go_wp2_with fail
      refine W.out.mono ?_
      rintro e w6 ⟨rfl, hS6, t6⟩
      have HS6 := Lib.hid hS6
      have HT6 := Lib.hid t6
      clear hS6 t6 W N
      go_wp2_with fail
      refine ⟨⟨k + 1, (if c' = 8 then some ⟨g3, 8 * k, none⟩ else some ⟨g3, 8 * k + 8, none⟩), c' - 8, by omega, ?_, ?_, ⟨by omega, by omega⟩, HS6.out, two_below HB4.out HT6.out hsl HB4.out.size, HF4.out.two HT6.out hgne⟩, ?_⟩
      · rw [show n - 8 * k - 8 = n - 8 * (k + 1) by omega]
      · intro hne
        rw [if_neg (by omega), show 8 * k + 8 = 8 * (k + 1) by omega]
      · show n - 8 * k - 8 < n - 8 * k
        omega
end Go.Proofs.YtpanmfdbdgecaaaGreat.C
