/- The police: somebody who isn't in the box, whatever becomes of the packet. (Printed by freeany.py.) · The police: Arrive of somebody light, whatever becomes of the packet. (Printed by anyout.py.) · The reference's SipHash: turns to the left, words. -/
import Derived.Test.YtpanmfdbdgecaaaGreatV18
namespace Go.Proofs.YtpanmfdbdgecaaaGreat.C
open Go.RowKit
set_option linter.unusedVariables false
section
variable {w : World} {A : PAd} {F : PCf} {S : PSt}
set_option maxRecDepth 100000 in
set_option maxHeartbeats 4000000 in
theorem free_any (K FK : Nat → Nat) (x fl dr : Array Value) (cl k vb d0 nn : Nat) (n now d1 ar : Int) (l : List (Array Value)) (b : Bin) (R : Int → Int → Int → PSt → Prop)
    (h : Pol w A F S) (hv : Lv1 F K) (hx : PkL x n) (hxf : PkF x fl) (hf : KeyOf fl FK) (hn : 1 ≤ n ∧ n ≤ 9216) (hcl : fallV K FK 0 (F.c 0).toNat = cl) (hk : fallV K FK 1 (F.c 3).toNat = k) (hb : S.b0[k]? = some b) (hbo : BinOk b) (hnow : 0 ≤ now ∧ now ≤ 4611686018427387903) (hl : S.L[cl]? = some l) (hdr : dr.size = 2) (hd00 : dr[0]? = some (.int .u64 (d0 : Nat))) (hd : dr[1]? = some (.int .u64 d1)) (hd0 : 0 ≤ d1)
    (hfn : fl = flowX 10 1 nn 7 9 0 0 0 1000 53) (hnn : nn < 256) (hll : l.length ≤ 4096) (hpp : ∀ z ∈ l, Pk z ∧ FlP z)
    (hlvv : ∀ kx, kx < l.length → ∃ (x' : Array Value) (sq : Int) (SL : PSt), x'[0]? = some (.int .i64 sq) ∧ Pk x' ∧ (∀ w', Pol w' A F S → Calls Tryz.prog 79 #[.pointer (some ⟨A.pb, 0, none⟩), .int .i64 (cl : Nat), .int .i64 (kx : Nat)] w' fun e w'' => e = .returned (.tuple #[.agg x', .bool true]) ∧ Pol w'' A F SL ∧ Tur A.tg [3, 4, 5, 6, 7] w' w'') ∧ R 10 (-1) sq SL)
    (hmk0 : R 12 (-1) (-1) { S with b0 := S.b0.set k (touchB (F.c 13) (F.c 14) (F.c 4) (F.c 5) now b) })
    (hjn : ∃ (r2 : Int) (S3 : PSt), (0 ≤ r2 ∧ r2 < 16) ∧ R r2 (cl : Nat) (-1) S3 ∧ ∀ w', Pol w' A F { S with b0 := S.b0.set k (touchB (F.c 13) (F.c 14) (F.c 4) (F.c 5) now b) } → Calls Tryz.prog 74 #[.pointer (some ⟨A.pb, 0, none⟩), .int .i64 (cl : Nat), .agg x] w' fun e w'' => e = .returned (.int .i64 r2) ∧ Pol w'' A F S3 ∧ Tur A.tg [3, 4, 5, 6, 7] w' w'')
    (hvb : w.heap[vb]? = some (.cells #[.int .i64 ar, .int .i64 0, .int .i64 (-1), .int .i64 (-1), .bool false, .bool false] 35 (0, 0))) (hvt : A.tg vb = 0) :
    Calls Tryz.prog 42 #[.pointer (some ⟨A.pb, 0, none⟩), .agg x, .int .i64 now, .agg dr, .pointer (some ⟨vb, 0, none⟩)] w fun e w' => ∃ (r cl' vic : Int) (S5 : PSt), e = .returned (.int .i64 r) ∧ (0 ≤ r ∧ r < 16) ∧ R r cl' vic S5 ∧ Pol w' A F S5 ∧ w'.heap[vb]? = some (.cells #[.int .i64 ar, .int .i64 0, .int .i64 cl', .int .i64 vic, .bool false, .bool false] 35 (0, 0)) ∧ Tur (C.exc A.tg vb 3) [3, 4, 5, 6, 7] w w' := by
  have hbn := h.fok.right.bins
  have hbk := h.fok.right.buckets
  have hup := h.fok.right.up
  have hdn := h.fok.right.down
  have hlv := hv.lv
  have hkl : k < (F.c 3).toNat := by
    rw [← hk]
    exact fallV_lt _ _ _ _ (by omega)
  have hcl2 : (cl : Int) < F.c 0 := by
    have := fallV_lt K FK 0 (F.c 0).toNat (by omega)
    omega
  have hb1 : (S.b0.set k (touchB (F.c 13) (F.c 14) (F.c 4) (F.c 5) now b))[k]? = some (touchB (F.c 13) (F.c 14) (F.c 4) (F.c 5) now b) := List.getElem?_set_self (lt_of_some hb)
  have hbo1 : BinOk (touchB (F.c 13) (F.c 14) (F.c 4) (F.c 5) now b) := by
    obtain ⟨o1, o2, o3, o4⟩ := hbo
    unfold touchB
    split
    · exact ⟨o1, o2, o3, o4⟩
    · split
      · refine ⟨hnow.1, hnow.2, ?_, ?_⟩
        · show 0 ≤ (if 65536 < b.p + F.c 4 then 65536 else b.p + F.c 4)
          split <;> omega
        · show (if 65536 < b.p + F.c 4 then 65536 else b.p + F.c 4) ≤ 65536
          split <;> omega
      · split
        · refine ⟨hnow.1, hnow.2, ?_, ?_⟩
          · show 0 ≤ (if b.p - F.c 5 < 0 then 0 else b.p - F.c 5)
            split <;> omega
          · show (if b.p - F.c 5 < 0 then 0 else b.p - F.c 5) ≤ 65536
            split <;> omega
        · exact ⟨o1, o2, o3, o4⟩
  have CW := Lib.hid (fun w' (q : Pol w' A F S) => gens_where A.gb (F.c 0).toNat F.kv fl F.G K FK w' q.gn hv.key hf (by omega) (by omega))
  rw [hcl] at CW
  have CB := Lib.hid (fun w' (q : Pol w' A F S) => store_bytes A.st cl _ S.L l w' q.sto hl)
  have CI := Lib.hid (fun w' (q : Pol w' A F S) => police_bins K FK fl q hv hf)
  rw [hk] at CI
  have CT : Hid (∀ (w' : World) (g c : Nat), Pol w' A F S → w'.cell? ⟨g, 0, none⟩ = some (.int .i64 (k : Nat)) → Calls Tryz.prog 81 #[.pointer (some ⟨A.u0, 0, none⟩), .slice (some ⟨g, 0, none⟩) 1 c, .int .i64 now] w' fun e w'' => e = .returned (.bool true) ∧ Pol w'' A F { S with b0 := S.b0.set k (touchB (F.c 13) (F.c 14) (F.c 4) (F.c 5) now b) } ∧ Two A.v0 A.v0 w' w'') := Lib.hid fun w' g c q hc => by
    have hb0 := q.b0
    rw [hlv] at hb0
    refine (blue_touch A.u0 A.v0 g c k (F.c 3).toNat S.b0 b (F.c 13) (F.c 14) (F.c 4) (F.c 5) now w' hb0 hc hkl (by omega) hb hbo hnow hup hdn).mono ?_
    rintro e w'' ⟨rfl, hB, hT⟩
    have hT' : Tur A.tg [6] w' w'' := Tur.of_two hT (by simp [q.ok.b0.2]) (by simp [q.ok.b0.2])
    refine ⟨rfl, (q.rest hT').setB0 ?_, hT⟩
    rw [hlv]
    exact hB
  have CM : Hid (∀ (w' : World) (g c : Nat), Pol w' A F { S with b0 := S.b0.set k (touchB (F.c 13) (F.c 14) (F.c 4) (F.c 5) now b) } → w'.cell? ⟨g, 0, none⟩ = some (.int .i64 (k : Nat)) → Calls Tryz.prog 82 #[.pointer (some ⟨A.u0, 0, none⟩), .slice (some ⟨g, 0, none⟩) 1 c] w' fun e w'' => e = .returned (.int .i64 (touchB (F.c 13) (F.c 14) (F.c 4) (F.c 5) now b).p) ∧ Below w'.heap.size w' w'') := Lib.hid fun w' g c q hc => by
    have hb0 := q.b0
    rw [hlv] at hb0
    exact blue_mark A.u0 A.v0 g c k (F.c 3).toNat _ (touchB (F.c 13) (F.c 14) (F.c 4) (F.c 5) now b) (F.c 13) (F.c 14) (F.c 4) (F.c 5) w' hb0 hc hkl (by omega) hb1 hbo1
  have HH := Lib.hid h
  have HO := Lib.hid h.ok
  have HXP := Lib.hid hx
  have HXF := Lib.hid hxf
  have HFS := Lib.hid hf.size
  have HDS := Lib.hid hdr
  have HDD := Lib.hid hd
  have HVB := Lib.hid hvb
  have HVT := Lib.hid hvt
  have HD0 := Lib.hid hd00
  have HJN := Lib.hid hjn
  have HMK := Lib.hid hmk0
  have HLV := Lib.hid hlvv
  obtain ⟨dm, hdme⟩ : ∃ z, d1.tmod 65536 = z := ⟨_, rfl⟩
  have hdmr : d1 % 65536 = dm := by rw [← hdme, Int.tmod_eq_emod_of_nonneg hd0]
  have hdm0 : 0 ≤ dm ∧ dm < 65536 := by omega
  have HDM := Lib.hid hdm0
  have hwd : IntKind.i64.wrap dm = dm := IntWalk.i64_in _ (by omega)
  have hlim := h.lim
  have hvlt : vb < w.heap.size := (Array.getElem?_eq_some_iff.1 hvb).1
  have CFl : Hid (∀ w', Pol w' A F S → Calls Tryz.prog 78 #[.pointer (some ⟨A.st.sb, 0, none⟩), .int .i64 (cl : Nat)] w' fun e w'' => ∃ v, e = .returned v ∧ w''.ownsRow w'.heap.size 58 36 v l.length (flowsL l) ∧ Below w'.heap.size w' w'') := Lib.hid fun w' q => by
    have := st_flows (cl : Nat) q.sto
    rw [clsS_some hl] at this
    exact this
  have CMt : Hid (∀ (w' : World) (base : Nat) (v : Value), w'.ownsRow base 58 36 v l.length (flowsL l) → Calls Tryz.prog 77 #[.int .u64 (d0 : Nat), v, .agg fl] w' fun e w'' => ∃ (kx : Nat) (ok : Bool), e = .returned (.tuple #[.int .i64 (kx : Nat), .bool ok]) ∧ (ok = true → kx < l.length) ∧ Below w'.heap.size w' w'') := Lib.hid fun w' base v ho => by
    rw [hfn]
    exact choke_match d0 nn l.length base v l w' ho rfl hll hpp hnn
  clear h hv hx hxf hf hb hk hcl hl hb1 hbo1 hbo hd hdr hvb hvt hlv hup hdn hd00 hjn hmk0 hlvv hpp hll hfn hnn
  generalize { S with b0 := S.b0.set k (touchB (F.c 13) (F.c 14) (F.c 4) (F.c 5) now b) } = S2 at *
  generalize (touchB (F.c 13) (F.c 14) (F.c 4) (F.c 5) now b).p = mp at *
  generalize sumL l = sl at *
  generalize l.length = ln at *
  go_enter Tryz.func42, Tryz.ntmps42
  go_upto_region 1 with (first | ((with_reducible refine arm_box 6 1 68 x ?_ ?_); rfl; intro w1 HB HX HS) | ((with_reducible refine arm_box 8 3 41 dr ?_ ?_); rfl; intro w2 HB2 HX2 HS2))
  have hs1 := HS.out
  have HP2 := Lib.hid (HH.out.below (HB.out.trans (HB2.out.mono HB.out.size)))
  have BA := Lib.hid (HB.out.trans (HB2.out.mono HB.out.size))
  have X2 := Lib.hid (keep_block HB2.out HX.out)
  have R2 := Lib.hid HX2.out
  clear HX HX2
  have HLD : Hid (∀ w', Below w2.heap.size w2 w' → w'.cell? ⟨A.pb, 20, none⟩ = some (.pointer (some ⟨A.gb, 0, none⟩)) ∧ (Instr.loadAt 58 (.pointer (some ⟨w.heap.size, 1, none⟩))).run Tryz.prog w' = .ok (.agg fl) w') := Lib.hid fun w' q =>
    ⟨(HP2.out.below q).c20, HXF.out.load HFS.out (keep_block q X2.out)⟩
  go_wp2_with fail
  refine wp_region_held_drew (S := Below w2.heap.size w2) (by kernel_rfl) (Below.refl _ _).drew (fun hHeld => ?_)
  refine wpAnyH_take (i := 0) (oi := ⟨some 19, _, _, _, _, _⟩) (v := ?_) rfl (by kernel_rfl) (by kernel_rfl) (by kernel_rfl) (fun _ _ _ h => h) (Or.inl ⟨by rfl, ?_⟩) hHeld ?_
  rotate_left
  · intro w hSw
    go_simp
    try with_reducible rfl
  try simp only [Act.put, List.setIfInBounds_toArray, List.set_cons_zero, List.set_cons_succ]
  refine wpAnyH_take (i := 1) (oi := ⟨some 20, _, _, _, _, _⟩) (v := ?_) rfl (by kernel_rfl) (by kernel_rfl) (by kernel_rfl) (fun _ _ _ h => h) (Or.inl ⟨by rfl, ?_⟩) hHeld ?_
  rotate_left
  · intro w hSw
    go_simp
    try with_reducible rfl
  try simp only [Act.put, List.setIfInBounds_toArray, List.set_cons_zero, List.set_cons_succ]
  refine wpAnyH_take (i := 2) (oi := ⟨some 21, _, _, _, _, _⟩) (v := ?_) rfl (by kernel_rfl) (by kernel_rfl) (by kernel_rfl) (fun _ _ _ h => h) (Or.inl ⟨by rfl, ?_⟩) hHeld ?_
  rotate_left
  · intro w hSw
    go_simp
    try with_reducible rfl
  try simp only [Act.put, List.setIfInBounds_toArray, List.set_cons_zero, List.set_cons_succ]
  refine wpAnyH_take (i := 3) (oi := ⟨some 22, _, _, _, _, _⟩) (v := ?_) rfl (by kernel_rfl) (by kernel_rfl) (by kernel_rfl) (fun _ _ _ h => h) (Or.inl ⟨by rfl, ?_⟩) hHeld ?_
  rotate_left
  · intro w hSw
    obtain ⟨k0, _⟩ := HLD.out w hSw
    go_simp
    try with_reducible rfl
  try simp only [Act.put, List.setIfInBounds_toArray, List.set_cons_zero, List.set_cons_succ]
  refine wpAnyH_take (i := 4) (oi := ⟨some 23, _, _, _, _, _⟩) (v := ?_) rfl (by kernel_rfl) (by kernel_rfl) (by kernel_rfl) (fun _ _ _ h => h) (Or.inl ⟨by rfl, ?_⟩) hHeld ?_
  rotate_left
  · intro w hSw
    go_simp
    try with_reducible rfl
  try simp only [Act.put, List.setIfInBounds_toArray, List.set_cons_zero, List.set_cons_succ]
  refine wpAnyH_take (i := 5) (oi := ⟨some 24, _, _, _, _, _⟩) (v := .agg fl) rfl (by kernel_rfl) (by kernel_rfl) (by kernel_rfl) (fun _ _ _ h => h) (Or.inl ⟨by rfl, fun w hSw => exec_load rfl (HLD.out w hSw).2⟩) hHeld ?_
  try simp only [Act.put, List.setIfInBounds_toArray, List.set_cons_zero, List.set_cons_succ]
  refine wpAnyH_ready (rs := [6]) (by kernel_rfl) (by simp) ?_
  refine AllReadyH.cons rfl (fun K hK => ?_) AllReadyH.nil
  go_simp
  go_wp2_with (go_at_call 75; go_must (refine (CW.out _ (HP2.out.below hHeld)).mono ?_; rintro e w6 ⟨rfl, hB⟩))
  refine hK.out _ _ (hHeld.trans (hB.mono hHeld.size)) (fun hHeld => ?_)
  clear hK K
  refine wpAnyH_take (i := 7) (oi := ⟨some 18, _, _, _, _, _⟩) (v := ?_) rfl (by kernel_rfl) (by kernel_rfl) (by kernel_rfl) (fun _ _ _ h => h) (Or.inl ⟨by rfl, ?_⟩) hHeld ?_
  rotate_left
  · intro w hSw
    go_simp
    try with_reducible rfl
  try simp only [Act.put, List.setIfInBounds_toArray, List.set_cons_zero, List.set_cons_succ]
  refine wpAnyH_take (i := 8) (oi := ⟨some 26, _, _, _, _, _⟩) (v := ?_) rfl (by kernel_rfl) (by kernel_rfl) (by kernel_rfl) (fun _ _ _ h => h) (Or.inl ⟨by rfl, ?_⟩) hHeld ?_
  rotate_left
  · intro w hSw
    go_simp
    try with_reducible rfl
  try simp only [Act.put, List.setIfInBounds_toArray, List.set_cons_zero, List.set_cons_succ]
  refine wpAnyH_take (i := 9) (oi := ⟨some 27, _, _, _, _, _⟩) (v := ?_) rfl (by kernel_rfl) (by kernel_rfl) (by kernel_rfl) (fun _ _ _ h => h) (Or.inl ⟨by rfl, ?_⟩) hHeld ?_
  rotate_left
  · intro w hSw
    go_simp
    try with_reducible rfl
  try simp only [Act.put, List.setIfInBounds_toArray, List.set_cons_zero, List.set_cons_succ]
  refine wpAnyH_take (i := 10) (oi := ⟨some 11, _, _, _, _, _⟩) (v := ?_) rfl (by kernel_rfl) (by kernel_rfl) (by kernel_rfl) (fun _ _ _ h => h) (Or.inl ⟨by rfl, ?_⟩) hHeld ?_
  rotate_left
  · intro w hSw
    go_simp
    try with_reducible rfl
  try simp only [Act.put, List.setIfInBounds_toArray, List.set_cons_zero, List.set_cons_succ]
  refine wpAnyH_take (i := 11) (oi := ⟨some 12, _, _, _, _, _⟩) (v := ?_) rfl (by kernel_rfl) (by kernel_rfl) (by kernel_rfl) (fun _ _ _ h => h) (Or.inl ⟨by rfl, ?_⟩) hHeld ?_
  rotate_left
  · intro w hSw
    go_simp
    try with_reducible rfl
  try simp only [Act.put, List.setIfInBounds_toArray, List.set_cons_zero, List.set_cons_succ]
  refine wpAnyH_done (by kernel_rfl) ?_ _
  have HP3 := Lib.hid (HP2.out.below hHeld)
  have X3 := Lib.hid (keep_block hHeld X2.out)
  have R3 := Lib.hid (keep_block hHeld R2.out)
  have B3 := Lib.hid (BA.out.trans (hHeld.mono BA.out.size))
  clear hB hHeld HLD HP2 X2 R2 BA
  generalize w6 = v3 at *
  have R4 : Hid (v3.heap[w.heap.size + 1]? = some (.cells dr 41 (0, 0))) := Lib.hid (by rw [← hs1]; exact R3.out)
  clear R3 hs1 CW
  have HLE : Hid (∀ w', Below v3.heap.size v3 w' → w'.cell? ⟨A.pb, 21, none⟩ = some (.pointer (some ⟨A.st.sb, 0, none⟩)) ∧ w'.cell? ⟨A.pb, 12, none⟩ = some (.int .i64 (F.c 12))) := Lib.hid fun w' q => ⟨(HP3.out.below q).c21, (HP3.out.below q).lo 12 (by omega)⟩
  go_wp2_with fail
  refine wp_region_held_drew (S := Below v3.heap.size v3) (by kernel_rfl) (Below.refl _ _).drew (fun hHeld => ?_)
  refine wpAnyH_take (i := 0) (oi := ⟨some 28, _, _, _, _, _⟩) (v := ?_) rfl (by kernel_rfl) (by kernel_rfl) (by kernel_rfl) (fun _ _ _ h => h) (Or.inl ⟨by rfl, ?_⟩) hHeld ?_
  rotate_left
  · intro w hSw
    go_simp
    try with_reducible rfl
  try simp only [Act.put, List.setIfInBounds_toArray, List.set_cons_zero, List.set_cons_succ]
  refine wpAnyH_take (i := 1) (oi := ⟨some 29, _, _, _, _, _⟩) (v := ?_) rfl (by kernel_rfl) (by kernel_rfl) (by kernel_rfl) (fun _ _ _ h => h) (Or.inl ⟨by rfl, ?_⟩) hHeld ?_
  rotate_left
  · intro w hSw
    go_simp
    try with_reducible rfl
  try simp only [Act.put, List.setIfInBounds_toArray, List.set_cons_zero, List.set_cons_succ]
  refine wpAnyH_take (i := 2) (oi := ⟨some 30, _, _, _, _, _⟩) (v := ?_) rfl (by kernel_rfl) (by kernel_rfl) (by kernel_rfl) (fun _ _ _ h => h) (Or.inl ⟨by rfl, ?_⟩) hHeld ?_
  rotate_left
  · intro w hSw
    go_simp
    try with_reducible rfl
  try simp only [Act.put, List.setIfInBounds_toArray, List.set_cons_zero, List.set_cons_succ]
  refine wpAnyH_take (i := 3) (oi := ⟨some 31, _, _, _, _, _⟩) (v := ?_) rfl (by kernel_rfl) (by kernel_rfl) (by kernel_rfl) (fun _ _ _ h => h) (Or.inl ⟨by rfl, ?_⟩) hHeld ?_
  rotate_left
  · intro w hSw
    obtain ⟨k0, k1⟩ := HLE.out w hSw
    go_simp
    try with_reducible rfl
  try simp only [Act.put, List.setIfInBounds_toArray, List.set_cons_zero, List.set_cons_succ]
  refine wpAnyH_take (i := 4) (oi := ⟨some 32, _, _, _, _, _⟩) (v := ?_) rfl (by kernel_rfl) (by kernel_rfl) (by kernel_rfl) (fun _ _ _ h => h) (Or.inl ⟨by rfl, ?_⟩) hHeld ?_
  rotate_left
  · intro w hSw
    go_simp
    try with_reducible rfl
  try simp only [Act.put, List.setIfInBounds_toArray, List.set_cons_zero, List.set_cons_succ]
  refine wpAnyH_take (i := 6) (oi := ⟨some 34, _, _, _, _, _⟩) (v := ?_) rfl (by kernel_rfl) (by kernel_rfl) (by kernel_rfl) (fun _ _ _ h => h) (Or.inl ⟨by rfl, ?_⟩) hHeld ?_
  rotate_left
  · intro w hSw
    go_simp
    try with_reducible rfl
  try simp only [Act.put, List.setIfInBounds_toArray, List.set_cons_zero, List.set_cons_succ]
  refine wpAnyH_take (i := 7) (oi := ⟨some 35, _, _, _, _, _⟩) (v := ?_) rfl (by kernel_rfl) (by kernel_rfl) (by kernel_rfl) (fun _ _ _ h => h) (Or.inl ⟨by rfl, ?_⟩) hHeld ?_
  rotate_left
  · intro w hSw
    go_simp
    try with_reducible rfl
  try simp only [Act.put, List.setIfInBounds_toArray, List.set_cons_zero, List.set_cons_succ]
  refine wpAnyH_take (i := 8) (oi := ⟨some 36, _, _, _, _, _⟩) (v := ?_) rfl (by kernel_rfl) (by kernel_rfl) (by kernel_rfl) (fun _ _ _ h => h) (Or.inl ⟨by rfl, ?_⟩) hHeld ?_
  rotate_left
  · intro w hSw
    go_simp
    try with_reducible rfl
  try simp only [Act.put, List.setIfInBounds_toArray, List.set_cons_zero, List.set_cons_succ]
  refine wpAnyH_take (i := 9) (oi := ⟨some 37, _, _, _, _, _⟩) (v := ?_) rfl (by kernel_rfl) (by kernel_rfl) (by kernel_rfl) (fun _ _ _ h => h) (Or.inl ⟨by rfl, ?_⟩) hHeld ?_
  rotate_left
  · intro w hSw
    go_simp
    try with_reducible rfl
  try simp only [Act.put, List.setIfInBounds_toArray, List.set_cons_zero, List.set_cons_succ]
  refine wpAnyH_take (i := 10) (oi := ⟨some 38, _, _, _, _, _⟩) (v := ?_) rfl (by kernel_rfl) (by kernel_rfl) (by kernel_rfl) (fun _ _ _ h => h) (Or.inl ⟨by rfl, ?_⟩) hHeld ?_
  rotate_left
  · intro w hSw
    obtain ⟨k0, k1⟩ := HLE.out w hSw
    go_simp
    try with_reducible rfl
  try simp only [Act.put, List.setIfInBounds_toArray, List.set_cons_zero, List.set_cons_succ]
  refine wpAnyH_ready (rs := [5]) (by kernel_rfl) (by simp) ?_
  refine AllReadyH.cons rfl (fun K hK => ?_) AllReadyH.nil
  go_simp
  go_wp2_with (go_at_call 76; go_must (refine (CB.out _ (HP3.out.below hHeld)).mono ?_; rintro e w5 ⟨rfl, rfl⟩))
  refine hK.out _ _ (hHeld) (fun hHeld => ?_)
  clear hK K
  refine wpAnyH_take (i := 11) (oi := ⟨some 39, _, _, _, _, _⟩) (v := ?_) rfl (by kernel_rfl) (by kernel_rfl) (by kernel_rfl) (fun _ _ _ h => h) (Or.inl ⟨by rfl, ?_⟩) hHeld ?_
  rotate_left
  · intro w hSw
    go_simp
    try with_reducible rfl
  try simp only [Act.put, List.setIfInBounds_toArray, List.set_cons_zero, List.set_cons_succ]
  refine wpAnyH_done (by kernel_rfl) ?_ _
  have HP4 : Hid (Pol v3.drew A F S) := Lib.hid HP3.out.drew
  have X4 : Hid (v3.drew.heap[w.heap.size]? = some (.cells x 68 (0, 0))) := Lib.hid X3.out
  have R5 : Hid (v3.drew.heap[w.heap.size + 1]? = some (.cells dr 41 (0, 0))) := Lib.hid R4.out
  have B4 : Hid (Below w.heap.size w v3.drew) := Lib.hid B3.out.drew
  clear hHeld HLE HP3 X3 R4 B3 CB
  generalize v3.drew = v4 at *
  by_cases hch : F.c 12 ≤ sl
  case' neg =>
    have hdd : decide (F.c 12 ≤ sl) = false := decide_eq_false hch
    clear HLV CFl CMt
  case' pos =>
    have hdd : decide (F.c 12 ≤ sl) = true := decide_eq_true hch
    have HLG : Hid (∀ w', Below v4.heap.size v4 w' → w'.cell? ⟨A.pb, 21, none⟩ = some (.pointer (some ⟨A.st.sb, 0, none⟩)) ∧ w'.cell? ⟨w.heap.size + 1, 0, none⟩ = some (.int .u64 (d0 : Nat)) ∧ (Instr.loadAt 58 (.pointer (some ⟨w.heap.size, 1, none⟩))).run Tryz.prog w' = .ok (.agg fl) w') := Lib.hid fun w' q => ⟨(HP4.out.below q).c21, cells_of_row (keep_block q R5.out) 0 _ HD0.out, HXF.out.load HFS.out (keep_block q X4.out)⟩
    go_wp2_with fail
    refine wp_region_held_drew (S := Below v4.heap.size v4) (by kernel_rfl) (Below.refl _ _).drew (fun hHeld => ?_)
    refine wpAnyH_take (i := 0) (oi := ⟨some 41, _, _, _, _, _⟩) (v := ?_) rfl (by kernel_rfl) (by kernel_rfl) (by kernel_rfl) (fun _ _ _ h => h) (Or.inl ⟨by rfl, ?_⟩) hHeld ?_
    rotate_left
    · intro w hSw
      go_simp
      try with_reducible rfl
    try simp only [Act.put, List.setIfInBounds_toArray, List.set_cons_zero, List.set_cons_succ]
    refine wpAnyH_take (i := 1) (oi := ⟨some 42, _, _, _, _, _⟩) (v := ?_) rfl (by kernel_rfl) (by kernel_rfl) (by kernel_rfl) (fun _ _ _ h => h) (Or.inl ⟨by rfl, ?_⟩) hHeld ?_
    rotate_left
    · intro w hSw
      obtain ⟨k0, k1, _⟩ := HLG.out w hSw
      go_simp
      try with_reducible rfl
    try simp only [Act.put, List.setIfInBounds_toArray, List.set_cons_zero, List.set_cons_succ]
    refine wpAnyH_take (i := 2) (oi := ⟨some 43, _, _, _, _, _⟩) (v := ?_) rfl (by kernel_rfl) (by kernel_rfl) (by kernel_rfl) (fun _ _ _ h => h) (Or.inl ⟨by rfl, ?_⟩) hHeld ?_
    rotate_left
    · intro w hSw
      go_simp
      try with_reducible rfl
    try simp only [Act.put, List.setIfInBounds_toArray, List.set_cons_zero, List.set_cons_succ]
    refine wpAnyH_take (i := 3) (oi := ⟨some 44, _, _, _, _, _⟩) (v := ?_) rfl (by kernel_rfl) (by kernel_rfl) (by kernel_rfl) (fun _ _ _ h => h) (Or.inl ⟨by rfl, ?_⟩) hHeld ?_
    rotate_left
    · intro w hSw
      go_simp
      try with_reducible rfl
    try simp only [Act.put, List.setIfInBounds_toArray, List.set_cons_zero, List.set_cons_succ]
    refine wpAnyH_take (i := 4) (oi := ⟨some 45, _, _, _, _, _⟩) (v := ?_) rfl (by kernel_rfl) (by kernel_rfl) (by kernel_rfl) (fun _ _ _ h => h) (Or.inl ⟨by rfl, ?_⟩) hHeld ?_
    rotate_left
    · intro w hSw
      go_simp
      try with_reducible rfl
    try simp only [Act.put, List.setIfInBounds_toArray, List.set_cons_zero, List.set_cons_succ]
    refine wpAnyH_take (i := 5) (oi := ⟨some 46, _, _, _, _, _⟩) (v := ?_) rfl (by kernel_rfl) (by kernel_rfl) (by kernel_rfl) (fun _ _ _ h => h) (Or.inl ⟨by rfl, ?_⟩) hHeld ?_
    rotate_left
    · intro w hSw
      obtain ⟨k0, k1, _⟩ := HLG.out w hSw
      go_simp
      try with_reducible rfl
    try simp only [Act.put, List.setIfInBounds_toArray, List.set_cons_zero, List.set_cons_succ]
    refine wpAnyH_take (i := 6) (oi := ⟨some 47, _, _, _, _, _⟩) (v := ?_) rfl (by kernel_rfl) (by kernel_rfl) (by kernel_rfl) (fun _ _ _ h => h) (Or.inl ⟨by rfl, ?_⟩) hHeld ?_
    rotate_left
    · intro w hSw
      go_simp
      try with_reducible rfl
    try simp only [Act.put, List.setIfInBounds_toArray, List.set_cons_zero, List.set_cons_succ]
    refine wpAnyH_take (i := 8) (oi := ⟨some 49, _, _, _, _, _⟩) (v := ?_) rfl (by kernel_rfl) (by kernel_rfl) (by kernel_rfl) (fun _ _ _ h => h) (Or.inl ⟨by rfl, ?_⟩) hHeld ?_
    rotate_left
    · intro w hSw
      go_simp
      try with_reducible rfl
    try simp only [Act.put, List.setIfInBounds_toArray, List.set_cons_zero, List.set_cons_succ]
    refine wpAnyH_take (i := 9) (oi := ⟨some 50, _, _, _, _, _⟩) (v := .agg fl) rfl (by kernel_rfl) (by kernel_rfl) (by kernel_rfl) (fun _ _ _ h => h) (Or.inl ⟨by rfl, fun w hSw => exec_load rfl (HLG.out w hSw).2.2⟩) hHeld ?_
    try simp only [Act.put, List.setIfInBounds_toArray, List.set_cons_zero, List.set_cons_succ]
    refine wpAnyH_ready (rs := [7]) (by kernel_rfl) (by simp) ?_
    refine AllReadyH.cons rfl (fun K hK => ?_) AllReadyH.nil
    go_simp
    go_wp2_with (go_at_call 78; go_must (refine (CFl.out _ (HP4.out.below hHeld)).mono ?_; rintro e w7 ⟨vf, rfl, hO, hB7⟩))
    refine hK.out _ _ (hHeld.trans (hB7.mono hHeld.size)) (fun hHeld => ?_)
    clear hK K
    refine wpAnyH_ready (rs := [10]) (by kernel_rfl) (by simp) ?_
    refine AllReadyH.cons rfl (fun K hK => ?_) AllReadyH.nil
    go_simp
    go_wp2_with (go_at_call 77; go_must (refine (CMt.out _ _ _ hO).mono ?_; rintro e w10 ⟨kx, ok, rfl, hok, hB10⟩))
    refine hK.out _ _ (hHeld.trans (hB10.mono hHeld.size)) (fun hHeld => ?_)
    clear hK K
    refine wpAnyH_take (i := 11) (oi := ⟨some 40, _, _, _, _, _⟩) (v := ?_) rfl (by kernel_rfl) (by kernel_rfl) (by kernel_rfl) (fun _ _ _ h => h) (Or.inl ⟨by rfl, ?_⟩) hHeld ?_
    rotate_left
    · intro w hSw
      go_simp
      try with_reducible rfl
    try simp only [Act.put, List.setIfInBounds_toArray, List.set_cons_zero, List.set_cons_succ]
    refine wpAnyH_take (i := 12) (oi := ⟨some 52, _, _, _, _, _⟩) (v := ?_) rfl (by kernel_rfl) (by kernel_rfl) (by kernel_rfl) (fun _ _ _ h => h) (Or.inl ⟨by rfl, ?_⟩) hHeld ?_
    rotate_left
    · intro w hSw
      go_simp
      try with_reducible rfl
    try simp only [Act.put, List.setIfInBounds_toArray, List.set_cons_zero, List.set_cons_succ]
    refine wpAnyH_take (i := 13) (oi := ⟨some 53, _, _, _, _, _⟩) (v := ?_) rfl (by kernel_rfl) (by kernel_rfl) (by kernel_rfl) (fun _ _ _ h => h) (Or.inl ⟨by rfl, ?_⟩) hHeld ?_
    rotate_left
    · intro w hSw
      go_simp
      try with_reducible rfl
    try simp only [Act.put, List.setIfInBounds_toArray, List.set_cons_zero, List.set_cons_succ]
    refine wpAnyH_take (i := 14) (oi := ⟨some 13, _, _, _, _, _⟩) (v := ?_) rfl (by kernel_rfl) (by kernel_rfl) (by kernel_rfl) (fun _ _ _ h => h) (Or.inl ⟨by rfl, ?_⟩) hHeld ?_
    rotate_left
    · intro w hSw
      go_simp
      try with_reducible rfl
    try simp only [Act.put, List.setIfInBounds_toArray, List.set_cons_zero, List.set_cons_succ]
    refine wpAnyH_take (i := 15) (oi := ⟨some 14, _, _, _, _, _⟩) (v := ?_) rfl (by kernel_rfl) (by kernel_rfl) (by kernel_rfl) (fun _ _ _ h => h) (Or.inl ⟨by rfl, ?_⟩) hHeld ?_
    rotate_left
    · intro w hSw
      go_simp
      try with_reducible rfl
    try simp only [Act.put, List.setIfInBounds_toArray, List.set_cons_zero, List.set_cons_succ]
    refine wpAnyH_done (by kernel_rfl) ?_ _
    have HP4b := Lib.hid (HP4.out.below hHeld)
    have X4b := Lib.hid (keep_block hHeld X4.out)
    have R5b := Lib.hid (keep_block hHeld R5.out)
    have B4b := Lib.hid (B4.out.trans (hHeld.mono B4.out.size))
    have HOK := Lib.hid hok
    clear hO hB7 hB10 hHeld HP4 X4 R5 B4 HLG hok CFl CMt
    have HP4 := HP4b
    have X4 := X4b
    have R5 := R5b
    have B4 := B4b
    clear HP4b X4b R5b B4b
    generalize w10 = v4 at *
    cases ok
    case' true =>
      obtain ⟨x', sq, SL, hsq, hpz, hlc, hRL⟩ := HLV.out kx (HOK.out rfl)
      have HLC := Lib.hid hlc
      have HRL := Lib.hid hRL
      have HSQ := Lib.hid hsq
      have HPX := Lib.hid hpz
      clear hlc hRL hsq hpz HLV HOK
      go_wp2_with fail
      refine (HLC.out _ HP4.out).mono ?_
      rintro e w5 ⟨rfl, hP5, hT5⟩
      have V5 : Hid (w5.heap[vb]? = some (.cells #[.int .i64 ar, .int .i64 0, .int .i64 (-1), .int .i64 (-1), .bool false, .bool false] 35 (0, 0))) := Lib.hid (hT5.keep ((B4.out.block vb hvlt).trans HVB.out) (by rw [HVT.out]; simp))
      have HP5 := Lib.hid hP5
      have T5 : Hid (Tur A.tg [3, 4, 5, 6, 7] w w5) := Lib.hid ((Tur.of_below B4.out).trans hT5)
      have hvl5 : vb < w5.heap.size := (Array.getElem?_eq_some_iff.1 V5.out).1
      clear hP5 hT5 HLC HP4 X4 R5 B4
      go_upto_region 6 with (first
        | ((with_reducible refine arm_alloc 15 68 PZ 46 pz_zero ?_); intro w6 HB6 HX6 HS6; have hst := pkt_store HX6.out HPX.out)
        | ((with_reducible refine arm_store 15 60 68 (.pointer (some ⟨w5.heap.size, 0, none⟩)) (.agg x') _ hst ?_ ?_ ?_); rfl; rfl))
      have hX7 := box_whole HX6.out (cs := x') HPX.out.size
      have hB7 := below_setCells (b := w5.heap.size) (Nat.le_refl _) x'.toList 0 HB6.out
      clear hst HB6 HX6 HS6
      generalize w6.setCells w5.heap.size 0 x'.toList = w7 at *
      have V7 := Lib.hid (keep_block hB7 V5.out)
      have HP7 := Lib.hid (HP5.out.below hB7)
      have T7 : Hid (Tur A.tg [3, 4, 5, 6, 7] w w7) := Lib.hid (T5.out.trans (Tur.of_below hB7))
      generalize w5.heap.size = yb at *
      have c0 := cells_of_row hX7 0 _ HSQ.out
      have c3 := cells_of_row V7.out 3 _ rfl
      have f3 := frozen_of_row _ _ 3 _ _ V7.out
      clear hX7 hB7 V5 HP5 T5
      have T8 : Hid (Tur (C.exc A.tg vb 3) [3, 4, 5, 6, 7] w (w7.setCell ⟨vb, 3, none⟩ (.int .i64 sq))) := Lib.hid (Tur.set (Tur.exc T7.out (by simp)) (by simp))
      have hT0 : Tur A.tg [0] w7 (w7.setCell ⟨vb, 3, none⟩ (.int .i64 sq)) := Tur.of_two (Two.setCell (g := vb) (h := vb) (x := ⟨vb, 3, none⟩) (Two.refl _ _ _) (.inl rfl) _) (by simp [HVT.out]) (by simp [HVT.out])
      have HP8 := Lib.hid (HP7.out.tur hT0 (by intro j hj1 hj2; simp; omega))
      have V8 := Lib.hid (heap_setCell_same w7 vb 3 _ _ (.int .i64 sq) V7.out)
      clear hT0 T7 V7 HP7
      go_wp2
      go_ret
      exact ⟨10, -1, sq, SL, rfl, ⟨by decide, by decide⟩, HRL.out, HP8.out, V8.out, T8.out⟩
    case' false =>
      clear HLV HOK
  all_goals
    have hlf := HXF.out.load HFS.out X4.out
    go_wp2_with ((with_reducible refine arm_load 70 69 58 _ _ hlf ?_ ?_); rfl)
    refine (CI.out _ HP4.out).mono ?_
    rintro e v5 ⟨⟨v, rfl, g, c, rfl, hge, hgc⟩, hB5⟩
    have HP5 := Lib.hid (HP4.out.below hB5)
    have X5 := Lib.hid (keep_block hB5 X4.out)
    have R6 := Lib.hid (keep_block hB5 R5.out)
    have B5 := Lib.hid (B4.out.trans (hB5.mono B4.out.size))
    have hv0 : A.v0 < A.lim := HO.out.lt HO.out.b0.2 (by omega)
    have hgv : g ≠ A.v0 := by
      have := B4.out.size
      omega
    have k24 := HP5.out.c24
    have CT5 := Lib.hid (CT.out v5 g c HP5.out hgc)
    have HGC := Lib.hid hgc
    clear hB5 hlf HP4 X4 R5 B4 CI hgc CT
    go_wp2_with fail
    refine CT5.out.mono ?_
    rintro e v6 ⟨rfl, hP6, hT6⟩
    have HP6 := Lib.hid hP6
    have hx6 : w.heap.size ≠ A.v0 := by omega
    have hr6 : w.heap.size + 1 ≠ A.v0 := by omega
    have X6 := Lib.hid ((hT6.block _ (Array.getElem?_eq_some_iff.1 X5.out).1 hx6 hx6).trans X5.out)
    have R7 := Lib.hid ((hT6.block _ (Array.getElem?_eq_some_iff.1 R6.out).1 hr6 hr6).trans R6.out)
    have hgb := World.block_lt_of_cell? _ _ HGC.out
    have HG6 : Hid (∀ w', Below v6.heap.size v6 w' → w'.cell? ⟨g, 0, none⟩ = some (.int .i64 (k : Nat))) := Lib.hid fun w' q => by
      rw [q.cell (p := ⟨g, 0, none⟩) (Nat.lt_of_lt_of_le hgb hT6.size), World.cell?_of_block (hT6.block g hgb hgv hgv)]
      exact HGC.out
    have hve : A.tg A.v0 = 6 := HO.out.b0.2
    have hvv : vb ≠ A.v0 := by
      intro e
      rw [e, hve] at HVT
      have := HVT.out
      omega
    have V6 : Hid (v6.heap[vb]? = some (.cells #[.int .i64 ar, .int .i64 0, .int .i64 (-1), .int .i64 (-1), .bool false, .bool false] 35 (0, 0))) := Lib.hid ((hT6.block _ (Nat.lt_of_lt_of_le hvlt B5.out.size) hvv hvv).trans ((B5.out.block vb hvlt).trans HVB.out))
    have T6 : Hid (Tur A.tg [3, 4, 5, 6, 7] w v6) := Lib.hid ((Tur.of_below B5.out).trans (Tur.of_two hT6 (by simp [hve]) (by simp [hve])))
    clear hP6 hT6 CT5 k24 HP5 X5 R6 B5 HGC
    have HLM : Hid (∀ w', Below v6.heap.size v6 w' → w'.cell? ⟨A.pb, 24, none⟩ = some (.pointer (some ⟨A.u0, 0, none⟩)) ∧ w'.cell? ⟨w.heap.size + 1, 1, none⟩ = some (.int .u64 d1)) := Lib.hid fun w' q => ⟨(HP6.out.below q).c24, cells_of_row (keep_block q R7.out) 1 _ HDD.out⟩
    go_wp2_with fail
    refine wp_region_held_drew (S := Below v6.heap.size v6) (by kernel_rfl) (Below.refl _ _).drew (fun hHeld => ?_)
    refine wpAnyH_take (i := 0) (oi := ⟨some 81, _, _, _, _, _⟩) (v := ?_) rfl (by kernel_rfl) (by kernel_rfl) (by kernel_rfl) (fun _ _ _ h => h) (Or.inl ⟨by rfl, ?_⟩) hHeld ?_
    rotate_left
    · intro w hSw
      go_simp
      try with_reducible rfl
    try simp only [Act.put, List.setIfInBounds_toArray, List.set_cons_zero, List.set_cons_succ]
    refine wpAnyH_take (i := 1) (oi := ⟨some 82, _, _, _, _, _⟩) (v := ?_) rfl (by kernel_rfl) (by kernel_rfl) (by kernel_rfl) (fun _ _ _ h => h) (Or.inl ⟨by rfl, ?_⟩) hHeld ?_
    rotate_left
    · intro w hSw
      obtain ⟨k0, k1⟩ := HLM.out w hSw
      go_simp
      try with_reducible rfl
    try simp only [Act.put, List.setIfInBounds_toArray, List.set_cons_zero, List.set_cons_succ]
    refine wpAnyH_take (i := 2) (oi := ⟨some 83, _, _, _, _, _⟩) (v := ?_) rfl (by kernel_rfl) (by kernel_rfl) (by kernel_rfl) (fun _ _ _ h => h) (Or.inl ⟨by rfl, ?_⟩) hHeld ?_
    rotate_left
    · intro w hSw
      go_simp
      try with_reducible rfl
    try simp only [Act.put, List.setIfInBounds_toArray, List.set_cons_zero, List.set_cons_succ]
    refine wpAnyH_take (i := 3) (oi := ⟨some 84, _, _, _, _, _⟩) (v := ?_) rfl (by kernel_rfl) (by kernel_rfl) (by kernel_rfl) (fun _ _ _ h => h) (Or.inl ⟨by rfl, ?_⟩) hHeld ?_
    rotate_left
    · intro w hSw
      go_simp
      try with_reducible rfl
    try simp only [Act.put, List.setIfInBounds_toArray, List.set_cons_zero, List.set_cons_succ]
    refine wpAnyH_take (i := 4) (oi := ⟨some 85, _, _, _, _, _⟩) (v := ?_) rfl (by kernel_rfl) (by kernel_rfl) (by kernel_rfl) (fun _ _ _ h => h) (Or.inl ⟨by rfl, ?_⟩) hHeld ?_
    rotate_left
    · intro w hSw
      go_simp
      try with_reducible rfl
    try simp only [Act.put, List.setIfInBounds_toArray, List.set_cons_zero, List.set_cons_succ]
    refine wpAnyH_take (i := 5) (oi := ⟨some 86, _, _, _, _, _⟩) (v := ?_) rfl (by kernel_rfl) (by kernel_rfl) (by kernel_rfl) (fun _ _ _ h => h) (Or.inl ⟨by rfl, ?_⟩) hHeld ?_
    rotate_left
    · intro w hSw
      go_simp
      try with_reducible rfl
    try simp only [Act.put, List.setIfInBounds_toArray, List.set_cons_zero, List.set_cons_succ]
    refine wpAnyH_take (i := 6) (oi := ⟨some 87, _, _, _, _, _⟩) (v := ?_) rfl (by kernel_rfl) (by kernel_rfl) (by kernel_rfl) (fun _ _ _ h => h) (Or.inl ⟨by rfl, ?_⟩) hHeld ?_
    rotate_left
    · intro w hSw
      go_simp
      try with_reducible rfl
    try simp only [Act.put, List.setIfInBounds_toArray, List.set_cons_zero, List.set_cons_succ]
    refine wpAnyH_take (i := 7) (oi := ⟨some 88, _, _, _, _, _⟩) (v := ?_) rfl (by kernel_rfl) (by kernel_rfl) (by kernel_rfl) (fun _ _ _ h => h) (Or.inl ⟨by rfl, ?_⟩) hHeld ?_
    rotate_left
    · intro w hSw
      go_simp
      try with_reducible rfl
    try simp only [Act.put, List.setIfInBounds_toArray, List.set_cons_zero, List.set_cons_succ]
    refine wpAnyH_take (i := 8) (oi := ⟨some 89, _, _, _, _, _⟩) (v := ?_) rfl (by kernel_rfl) (by kernel_rfl) (by kernel_rfl) (fun _ _ _ h => h) (Or.inl ⟨by rfl, ?_⟩) hHeld ?_
    rotate_left
    · intro w hSw
      go_simp
      try with_reducible rfl
    try simp only [Act.put, List.setIfInBounds_toArray, List.set_cons_zero, List.set_cons_succ]
    refine wpAnyH_take (i := 9) (oi := ⟨some 90, _, _, _, _, _⟩) (v := ?_) rfl (by kernel_rfl) (by kernel_rfl) (by kernel_rfl) (fun _ _ _ h => h) (Or.inl ⟨by rfl, ?_⟩) hHeld ?_
    rotate_left
    · intro w hSw
      obtain ⟨k0, k1⟩ := HLM.out w hSw
      go_simp
      try with_reducible rfl
    try simp only [Act.put, List.setIfInBounds_toArray, List.set_cons_zero, List.set_cons_succ]
    refine wpAnyH_take (i := 10) (oi := ⟨some 91, _, _, _, _, _⟩) (v := ?_) rfl (by kernel_rfl) (by kernel_rfl) (by kernel_rfl) (fun _ _ _ h => h) (Or.inl ⟨by rfl, ?_⟩) hHeld ?_
    rotate_left
    · intro w hSw
      go_simp
      try with_reducible rfl
    try simp only [Act.put, List.setIfInBounds_toArray, List.set_cons_zero, List.set_cons_succ]
    refine wpAnyH_ready (rs := [11]) (by kernel_rfl) (by simp) ?_
    refine AllReadyH.cons rfl (fun K hK => ?_) AllReadyH.nil
    go_simp
    go_wp2_with (go_at_call 82; go_must (refine (CM.out _ g c (HP6.out.below hHeld) (HG6.out _ hHeld)).mono ?_; rintro e w11 ⟨rfl, hB⟩))
    refine hK.out _ _ (hHeld.trans (hB.mono hHeld.size)) (fun hHeld => ?_)
    clear hK K
    refine wpAnyH_take (i := 12) (oi := ⟨some 93, _, _, _, _, _⟩) (v := ?_) rfl (by kernel_rfl) (by kernel_rfl) (by kernel_rfl) (fun _ _ _ h => h) (Or.inl ⟨by rfl, ?_⟩) hHeld ?_
    rotate_left
    · intro w hSw
      go_simp
      try with_reducible rfl
    try simp only [Act.put, List.setIfInBounds_toArray, List.set_cons_zero, List.set_cons_succ]
    refine wpAnyH_done (by kernel_rfl) ?_ _
    by_cases hmm : dm < mp
    · have hmk : decide (dm < mp) = true := decide_eq_true hmm
      have HP7 := Lib.hid (HP6.out.below hHeld)
      have X7 := Lib.hid (keep_block hHeld X6.out)
      have V7 := Lib.hid (keep_block hHeld V6.out)
      have T7 : Hid (Tur (C.exc A.tg vb 3) [3, 4, 5, 6, 7] w w11) := Lib.hid (Tur.exc (T6.out.trans (Tur.of_below hHeld)) (by simp))
      clear hB hHeld HLM HP6 X6 V6 T6 HG6 CM R7
      go_wp2
      go_ret
      exact ⟨12, -1, -1, S2, rfl, ⟨by decide, by decide⟩, HMK.out, HP7.out, V7.out, T7.out⟩
    · have hmk : decide (dm < mp) = false := decide_eq_false hmm
      obtain ⟨r2, S3, hj1, hj2, hj3⟩ := HJN.out
      have HJ3 := Lib.hid (And.intro hj1 (And.intro hj2 hj3))
      clear hj1 hj2 hj3
      have HP7 := Lib.hid (HP6.out.below hHeld)
      have X7 := Lib.hid (keep_block hHeld X6.out)
      have V7 := Lib.hid (keep_block hHeld V6.out)
      have T7 : Hid (Tur (C.exc A.tg vb 3) [3, 4, 5, 6, 7] w w11) := Lib.hid (Tur.exc (T6.out.trans (Tur.of_below hHeld)) (by simp))
      clear hB hHeld HLM HP6 X6 V6 T6 HG6 CM R7
      have kv := cells_of_row V7.out 2 _ rfl
      have fv := frozen_of_row _ _ 2 _ _ V7.out
      have T8 : Hid (Tur (C.exc A.tg vb 3) [3, 4, 5, 6, 7] w (w11.setCell ⟨vb, 2, none⟩ (.int .i64 (cl : Nat)))) := Lib.hid (Tur.set T7.out (by simp))
      have hT0 : Tur A.tg [0] w11 (w11.setCell ⟨vb, 2, none⟩ (.int .i64 (cl : Nat))) := Tur.of_two (Two.setCell (g := vb) (h := vb) (x := ⟨vb, 2, none⟩) (Two.refl _ _ _) (.inl rfl) _) (by simp [HVT.out]) (by simp [HVT.out])
      have HP8 := Lib.hid (HP7.out.tur hT0 (by intro j hj1 hj2; simp; omega))
      have hvx : w.heap.size ≠ vb := by omega
      have X8 := Lib.hid ((heap_setCell_other w11 ⟨vb, 2, none⟩ w.heap.size (.int .i64 (cl : Nat)) hvx).trans X7.out)
      have V8 := Lib.hid (heap_setCell_same w11 vb 2 _ _ (.int .i64 (cl : Nat)) V7.out)
      have hlx := pkt_load X8.out HXP.out.pk
      clear V7 T7 HP7 X7 hT0
      go_wp2_with ((with_reducible refine arm_load 100 6 68 _ _ hlx ?_ ?_); rfl)
      refine (HJ3.out.2.2 _ HP8.out).mono ?_
      rintro e w13 ⟨rfl, hP, hT⟩
      have HP9 := Lib.hid hP
      have V9 := Lib.hid (hT.keep V8.out (by rw [HVT.out]; simp))
      have T9 := Lib.hid (T8.out.trans (Tur.exc hT (by simp)))
      clear hP hT V8 T8 HP8 hlx X8 kv fv
      go_wp2
      go_ret
      exact ⟨r2, (cl : Nat), -1, S3, rfl, HJ3.out.1, HJ3.out.2.1, HP9.out, V9.out, T9.out⟩
end
end Go.Proofs.YtpanmfdbdgecaaaGreat.C

namespace Go.Proofs.YtpanmfdbdgecaaaGreat.C
open Go.RowKit
set_option linter.unusedVariables false
section
variable {w : World} {A : PAd} {F : PCf} {S S1 S2 S3 S4 : PSt}
set_option maxRecDepth 100000 in
set_option maxHeartbeats 8000000 in
theorem arrive_any (R : Int → Int → Int → PSt → Prop) (n now : Int) (x p : Array Value) (dr : Array Value) (hx : PkP x n p) (hp : p.size = 8) (hdr : dr.size = 2) (hn : 1 ≤ n ∧ n ≤ 9216) (h : Pol w A F S) (har : 0 ≤ S.arr ∧ S.arr ≤ 4611686018427387904)
    (hwa : ∀ w', Pol w' A F { S with arr := S.arr + 1 } → Calls Tryz.prog 37 #[.pointer (some ⟨A.wb, 0, none⟩), .int .i64 now, .agg p, .int .i64 n] w' fun e w'' => e = .returned (.bool false) ∧ Pol w'' A F S1 ∧ Tur A.tg [8] w' w'')
    (hi2 : ∀ w', Pol w' A F S1 → Calls Tryz.prog 38 #[.pointer (some ⟨A.xb, 0, none⟩), .agg p, .int .i64 now] w' fun e w'' => e = .returned (.bool false) ∧ Pol w'' A F S4 ∧ Tur A.tg [9] w' w'')
    (hfr : ∀ w' vb, Pol w' A F S4 → w'.heap[vb]? = some (.cells #[.int .i64 S.arr, .int .i64 0, .int .i64 (-1), .int .i64 (-1), .bool false, .bool false] 35 (0, 0)) → A.tg vb = 0 → Calls Tryz.prog 42 #[.pointer (some ⟨A.pb, 0, none⟩), .agg (seqX x S.arr), .int .i64 now, .agg dr, .pointer (some ⟨vb, 0, none⟩)] w' fun e w'' => ∃ (r cl vic : Int) (S5 : PSt), e = .returned (.int .i64 r) ∧ (0 ≤ r ∧ r < 16) ∧ R r cl vic S5 ∧ Pol w'' A F S5 ∧ w''.heap[vb]? = some (.cells #[.int .i64 S.arr, .int .i64 0, .int .i64 cl, .int .i64 vic, .bool false, .bool false] 35 (0, 0)) ∧ Tur (C.exc A.tg vb 3) [3, 4, 5, 6, 7] w' w'') :
    Calls Tryz.prog 20 #[.pointer (some ⟨A.pb, 0, none⟩), .agg x, .int .i64 now, .agg dr] w fun e w' => ∃ (r cl vic : Int) (S5 : PSt), e = .returned (.agg #[.int .i64 S.arr, .int .i64 r, .int .i64 (if r = 0 then cl else -1), .int .i64 vic, .bool false, .bool false]) ∧ (0 ≤ r ∧ r < 16) ∧ R r cl vic S5 ∧ Pol w' A F S5 ∧ Tur A.tg [1, 3, 4, 5, 6, 7, 8, 9] w w' := by
  have HDR := Lib.hid hdr
  obtain ⟨har0, har1⟩ := har
  have hwr : IntKind.i64.wrap (S.arr + 1) = S.arr + 1 := IntWalk.i64_in _ (by omega)
  obtain ⟨ar, hara⟩ : ∃ a, S.arr = a := ⟨_, rfl⟩
  rw [hara] at har0 har1 hwr hwa hfr ⊢
  have HWA := Lib.hid hwa
  have HI2 := Lib.hid hi2
  have HFR := Lib.hid hfr
  clear hwa hi2 hfr
  have HX0 := Lib.hid hx
  have HP := Lib.hid h
  have HL := Lib.hid hx.l.len
  obtain ⟨hn0, hn1⟩ := hn
  obtain ⟨VZ0, hVZ⟩ : ∃ z, VZ = z := ⟨_, rfl⟩
  have hvz := vz_zero
  rw [hVZ] at hvz
  have HVZ := Lib.hid hvz
  have HVE := Lib.hid hVZ
  clear h hx hvz hVZ
  refine calls_hide fun Q HQ => ?_
  go_enter Tryz.func20, Tryz.ntmps20
  go_upto_region 1 with (first | ((with_reducible refine arm_box 5 1 68 x ?_ ?_); rfl; intro w1 HB HX HS) | ((with_reducible refine arm_box 7 3 41 dr ?_ ?_); rfl; intro w2 HB2 HX2 HS2) | ((with_reducible refine arm_alloc 8 35 VZ0 6 HVZ.out ?_); intro w3 HB3 HX3 HS3))
  have k1 := cells_of_row (keep_block HB3.out (keep_block HB2.out HX.out)) 45 _ HL.out
  go_upto_region 3 with (fail)
  have B3 := Lib.hid ((HB.out.trans (HB2.out.mono HB.out.size)).trans (HB3.out.mono (Nat.le_trans HB.out.size HB2.out.size)))
  have X3 := Lib.hid (keep_block HB3.out (keep_block HB2.out HX.out))
  have R3 := Lib.hid HX3.out
  have D3 := Lib.hid (keep_block HB3.out HX2.out)
  have hs1 := HS.out
  have hs2 := HS2.out
  have hs3 := HS3.out
  have hlim := HP.out.lim
  have HP3 := Lib.hid (HP.out.below B3.out)
  have k28 := HP3.out.c28
  obtain ⟨x0, hx0⟩ : ∃ v, x[0]? = some v := ⟨_, Array.getElem?_eq_getElem (by have := HX0.out.l.pk.size; omega)⟩
  have cx3 := cells_of_row X3.out 0 _ hx0
  have fx3 : w3.frozen? ⟨w.heap.size, 0, none⟩ = false := frozen_of_row _ _ _ _ _ X3.out
  rw [hara] at k28
  generalize w2.heap.size = rb at *
  generalize w1.heap.size = db at *
  clear HB HX HB2 HX2 HB3 HX3 k1 HS HS2 HS3
  go_upto_region 4 with (fail)
  have HPX := Lib.hid (HX0.out.seq ar)
  have hXC := HX0.out.c0 ar
  have X4 : Hid ((w3.setCell ⟨w.heap.size, 0, none⟩ (.int .i64 ar)).heap[w.heap.size]? = some (.cells (seqX x ar) 68 (0, 0))) := Lib.hid (by rw [heap_setCell_same _ _ _ _ _ _ X3.out]; rfl)
  have R4 : Hid ((w3.setCell ⟨w.heap.size, 0, none⟩ (.int .i64 ar)).heap[rb]? = some (.cells VZ0 35 (0, 0))) := Lib.hid (by rw [heap_setCell_other _ _ _ _ (by simp; omega)]; exact R3.out)
  have D4 : Hid ((w3.setCell ⟨w.heap.size, 0, none⟩ (.int .i64 ar)).heap[db]? = some (.cells dr 41 (0, 0))) := Lib.hid (by rw [heap_setCell_other _ _ _ _ (by simp; omega)]; exact D3.out)
  have T4 : Tur A.tg [0] w3 (w3.setCell ⟨w.heap.size, 0, none⟩ (.int .i64 ar)) := Tur.of_two (Two.setCell (g := w.heap.size) (h := w.heap.size) (x := ⟨w.heap.size, 0, none⟩) (Two.refl _ _ w3) (.inl rfl) (.int .i64 ar)) (by simp [HP.out.ok.hi _ hlim]) (by simp [HP.out.ok.hi _ hlim])
  have HP4 : Hid (Pol (w3.setCell ⟨w.heap.size, 0, none⟩ (.int .i64 ar)) A F S) := Lib.hid (HP3.out.tur T4 (by intro k h1 h2; simp; omega))
  have B4 : Hid (Below w.heap.size w (w3.setCell ⟨w.heap.size, 0, none⟩ (.int .i64 ar))) := Lib.hid (B3.out.setCell (Nat.le_refl _) _)
  have hs4 : (w3.setCell ⟨w.heap.size, 0, none⟩ (.int .i64 ar)).heap.size = rb + 1 := by simpa using hs3
  clear k28 cx3 fx3 hx0 T4 B3 HP3 R3 D3 X3 hs3
  generalize w3.setCell ⟨w.heap.size, 0, none⟩ (.int .i64 ar) = w4 at *
  have k28 := HP4.out.c28
  have f28 := HP4.out.fr 28
  rw [hara] at k28
  go_upto_region 5 with (fail)
  obtain ⟨hP5, hT5⟩ := HP4.out.setArr (ar + 1)
  have X5 : Hid ((w4.setCell ⟨A.pb, 28, none⟩ (.int .i64 (ar + 1))).heap[w.heap.size]? = some (.cells (seqX x ar) 68 (0, 0))) := Lib.hid (hT5.keep X4.out (by rw [HP.out.ok.hi _ hlim]; decide))
  have R5 : Hid ((w4.setCell ⟨A.pb, 28, none⟩ (.int .i64 (ar + 1))).heap[rb]? = some (.cells VZ0 35 (0, 0))) := Lib.hid (hT5.keep R4.out (by rw [HP.out.ok.hi _ (by omega)]; decide))
  have D5 : Hid ((w4.setCell ⟨A.pb, 28, none⟩ (.int .i64 (ar + 1))).heap[db]? = some (.cells dr 41 (0, 0))) := Lib.hid (hT5.keep D4.out (by rw [HP.out.ok.hi _ (by omega)]; decide))
  have HP5 := Lib.hid hP5
  have T5 : Hid (Tur A.tg [1, 3, 4, 5, 6, 7, 8, 9] w (w4.setCell ⟨A.pb, 28, none⟩ (.int .i64 (ar + 1)))) := Lib.hid ((Tur.of_below B4.out).trans (hT5.sub (by simp)))
  have hs5 : (w4.setCell ⟨A.pb, 28, none⟩ (.int .i64 (ar + 1))).heap.size = rb + 1 := by simpa using hs4
  clear k28 f28 hP5 hT5 X4 R4 D4 HP4 B4 hs4
  generalize w4.setCell ⟨A.pb, 28, none⟩ (.int .i64 (ar + 1)) = w5 at *
  have k0 := cells_of_row X5.out 0 _ hXC
  have HS5 := Lib.hid (And.intro hs5 (And.intro hs1 hs2))
  have HDB : Hid (w.heap.size < db) := Lib.hid (by omega)
  have HDV : Hid (db < rb) := Lib.hid (by omega)
  clear hs5 hs1 hs2
  go_upto_region 6 with (fail)
  have p6 : Below w5.heap.size w5 (w5.alloc (.cells #[.int .i64 ar, .int .i64 0, .int .i64 (-1), .int .i64 (-1), .bool false, .bool false] 35)) := (Below.refl _ _).alloc (Nat.le_refl _) _
  have V6 := Lib.hid (Go.heap_alloc_new w5 (.cells #[.int .i64 ar, .int .i64 0, .int .i64 (-1), .int .i64 (-1), .bool false, .bool false] 35))
  have HP6 := Lib.hid (HP5.out.below p6)
  have X6 := Lib.hid (keep_block p6 X5.out)
  have R6 := Lib.hid (keep_block p6 R5.out)
  have D6 := Lib.hid (keep_block p6 D5.out)
  have T6 := Lib.hid (T5.out.below p6)
  clear k0 p6 X5 R5 D5 HP5 T5
  generalize w5.alloc _ = w6 at *
  generalize w5.heap.size = vb at *
  have hbx : w.heap.size < rb := by have := HS5.out; omega
  have hvb : rb < vb := by have := HS5.out; omega
  clear HS5
  have hz1 : A.tg w.heap.size = 0 := HP.out.ok.hi _ hlim
  have hzd : A.tg db = 0 := HP.out.ok.hi _ (by have := HDB.out; omega)
  have hz2 : A.tg rb = 0 := HP.out.ok.hi _ (by omega)
  have hz3 : A.tg vb = 0 := HP.out.ok.hi _ (by omega)
  have HL1 : Hid (∀ w', Tur A.tg [8] w6 w' → w'.cell? ⟨A.pb, 26, none⟩ = some (.pointer (some ⟨A.wb, 0, none⟩)) ∧ w'.cell? ⟨w.heap.size, 45, none⟩ = some (.int .i64 n) ∧ (Instr.loadAt 65 (.pointer (some ⟨w.heap.size, 37, none⟩))).run Tryz.prog w' = .ok (.agg p) w') := Lib.hid fun w' q =>
    have hb := q.keep X6.out (by rw [hz1]; decide)
    ⟨cells_of_row ((HP6.out.rest q).ptr (by decide)) 26 _ (polC_hi HP6.out 6), cells_of_row hb 45 _ HPX.out.l.len, HPX.out.load hp hb⟩
  go_wp2_with fail
  refine wp_region_held_drew (S := Tur A.tg [8] w6) (by kernel_rfl) (Tur.refl _ _ _).drew (fun hHeld => ?_)
  refine wpAnyH_take (i := 0) (oi := ⟨some 39, _, _, _, _, _⟩) (v := ?_) rfl (by kernel_rfl) (by kernel_rfl) (by kernel_rfl) (fun _ _ _ h => h) (Or.inl ⟨by rfl, ?_⟩) hHeld ?_
  rotate_left
  · intro w hSw
    go_simp
    try with_reducible rfl
  try simp only [Act.put, List.setIfInBounds_toArray, List.set_cons_zero, List.set_cons_succ]
  refine wpAnyH_take (i := 1) (oi := ⟨some 40, _, _, _, _, _⟩) (v := ?_) rfl (by kernel_rfl) (by kernel_rfl) (by kernel_rfl) (fun _ _ _ h => h) (Or.inl ⟨by rfl, ?_⟩) hHeld ?_
  rotate_left
  · intro w hSw
    go_simp
    try with_reducible rfl
  try simp only [Act.put, List.setIfInBounds_toArray, List.set_cons_zero, List.set_cons_succ]
  refine wpAnyH_take (i := 2) (oi := ⟨some 41, _, _, _, _, _⟩) (v := ?_) rfl (by kernel_rfl) (by kernel_rfl) (by kernel_rfl) (fun _ _ _ h => h) (Or.inl ⟨by rfl, ?_⟩) hHeld ?_
  rotate_left
  · intro w hSw
    go_simp
    try with_reducible rfl
  try simp only [Act.put, List.setIfInBounds_toArray, List.set_cons_zero, List.set_cons_succ]
  refine wpAnyH_take (i := 3) (oi := ⟨some 42, _, _, _, _, _⟩) (v := ?_) rfl (by kernel_rfl) (by kernel_rfl) (by kernel_rfl) (fun _ _ _ h => h) (Or.inl ⟨by rfl, ?_⟩) hHeld ?_
  rotate_left
  · intro w hSw
    obtain ⟨k0, k1, _⟩ := HL1.out w hSw
    go_simp
    try with_reducible rfl
  try simp only [Act.put, List.setIfInBounds_toArray, List.set_cons_zero, List.set_cons_succ]
  refine wpAnyH_take (i := 4) (oi := ⟨some 43, _, _, _, _, _⟩) (v := ?_) rfl (by kernel_rfl) (by kernel_rfl) (by kernel_rfl) (fun _ _ _ h => h) (Or.inl ⟨by rfl, ?_⟩) hHeld ?_
  rotate_left
  · intro w hSw
    go_simp
    try with_reducible rfl
  try simp only [Act.put, List.setIfInBounds_toArray, List.set_cons_zero, List.set_cons_succ]
  refine wpAnyH_take (i := 5) (oi := ⟨some 44, _, _, _, _, _⟩) (v := ?_) rfl (by kernel_rfl) (by kernel_rfl) (by kernel_rfl) (fun _ _ _ h => h) (Or.inl ⟨by rfl, ?_⟩) hHeld ?_
  rotate_left
  · intro w hSw
    go_simp
    try with_reducible rfl
  try simp only [Act.put, List.setIfInBounds_toArray, List.set_cons_zero, List.set_cons_succ]
  refine wpAnyH_take (i := 6) (oi := ⟨some 45, _, _, _, _, _⟩) (v := .agg p) rfl (by kernel_rfl) (by kernel_rfl) (by kernel_rfl) (fun _ _ _ h => h) (Or.inl ⟨by rfl, fun w hSw => exec_load rfl (HL1.out w hSw).2.2⟩) hHeld ?_
  try simp only [Act.put, List.setIfInBounds_toArray, List.set_cons_zero, List.set_cons_succ]
  refine wpAnyH_take (i := 7) (oi := ⟨some 46, _, _, _, _, _⟩) (v := ?_) rfl (by kernel_rfl) (by kernel_rfl) (by kernel_rfl) (fun _ _ _ h => h) (Or.inl ⟨by rfl, ?_⟩) hHeld ?_
  rotate_left
  · intro w hSw
    go_simp
    try with_reducible rfl
  try simp only [Act.put, List.setIfInBounds_toArray, List.set_cons_zero, List.set_cons_succ]
  refine wpAnyH_take (i := 8) (oi := ⟨some 47, _, _, _, _, _⟩) (v := ?_) rfl (by kernel_rfl) (by kernel_rfl) (by kernel_rfl) (fun _ _ _ h => h) (Or.inl ⟨by rfl, ?_⟩) hHeld ?_
  rotate_left
  · intro w hSw
    obtain ⟨k0, k1, _⟩ := HL1.out w hSw
    go_simp
    try with_reducible rfl
  try simp only [Act.put, List.setIfInBounds_toArray, List.set_cons_zero, List.set_cons_succ]
  refine wpAnyH_ready (rs := [9]) (by kernel_rfl) (by simp) ?_
  refine AllReadyH.cons rfl (fun K hK => ?_) AllReadyH.nil
  go_simp
  go_wp2_with (go_at_call 37; go_must (refine (HWA.out _ HP6.out.drew).mono ?_; rintro e w9 ⟨rfl, hP9, hT9⟩))
  refine hK.out _ _ (hHeld.trans hT9) (fun hHeld => ?_)
  clear hK K
  refine wpAnyH_take (i := 10) (oi := ⟨some 10, _, _, _, _, _⟩) (v := ?_) rfl (by kernel_rfl) (by kernel_rfl) (by kernel_rfl) (fun _ _ _ h => h) (Or.inl ⟨by rfl, ?_⟩) hHeld ?_
  rotate_left
  · intro w hSw
    go_simp
    try with_reducible rfl
  try simp only [Act.put, List.setIfInBounds_toArray, List.set_cons_zero, List.set_cons_succ]
  refine wpAnyH_done (by kernel_rfl) ?_ _
  have HP9 := Lib.hid hP9
  have X9 := Lib.hid (hHeld.keep X6.out (by rw [hz1]; decide))
  have R9 := Lib.hid (hHeld.keep R6.out (by rw [hz2]; decide))
  have D9 := Lib.hid (hHeld.keep D6.out (by rw [hzd]; decide))
  have V9 := Lib.hid (hHeld.keep V6.out (by rw [hz3]; decide))
  have T9 := Lib.hid (T6.out.trans (hHeld.sub (js := [1, 3, 4, 5, 6, 7, 8, 9]) (by simp)))
  have hsz9 := Nat.lt_of_lt_of_le (Array.getElem?_eq_some_iff.1 V6.out).1 hHeld.size
  clear hHeld hP9 hT9 HL1 HP6 X6 R6 D6 V6 T6 HWA
  generalize w9 = wa at *
  go_wp2_with fail
  refine wp_region_held_drew (S := Tur A.tg [9] wa) (by kernel_rfl) (Tur.refl _ _ _).drew (fun hHeld => ?_)
  refine wpAnyH_take (i := 0) (oi := ⟨some 49, _, _, _, _, _⟩) (v := ?_) rfl (by kernel_rfl) (by kernel_rfl) (by kernel_rfl) (fun _ _ _ h => h) (Or.inl ⟨by rfl, ?_⟩) hHeld ?_
  rotate_left
  · intro w hSw
    go_simp
    try with_reducible rfl
  try simp only [Act.put, List.setIfInBounds_toArray, List.set_cons_zero, List.set_cons_succ]
  refine wpAnyH_take (i := 1) (oi := ⟨some 50, _, _, _, _, _⟩) (v := ?_) rfl (by kernel_rfl) (by kernel_rfl) (by kernel_rfl) (fun _ _ _ h => h) (Or.inl ⟨by rfl, ?_⟩) hHeld ?_
  rotate_left
  · intro w hSw
    go_simp
    try with_reducible rfl
  try simp only [Act.put, List.setIfInBounds_toArray, List.set_cons_zero, List.set_cons_succ]
  refine wpAnyH_take (i := 2) (oi := ⟨some 51, _, _, _, _, _⟩) (v := undef) rfl (by kernel_rfl) (by kernel_rfl) (by kernel_rfl) (fun _ _ _ h => h) (Or.inr ⟨by rfl, rfl⟩) hHeld ?_
  try simp only [Act.put, List.setIfInBounds_toArray, List.set_cons_zero, List.set_cons_succ]
  refine wpAnyH_take (i := 3) (oi := ⟨some 52, _, _, _, _, _⟩) (v := undef) rfl (by kernel_rfl) (by kernel_rfl) (by kernel_rfl) (fun _ _ _ h => h) (Or.inr ⟨by rfl, rfl⟩) hHeld ?_
  try simp only [Act.put, List.setIfInBounds_toArray, List.set_cons_zero, List.set_cons_succ]
  refine wpAnyH_take (i := 4) (oi := ⟨some 53, _, _, _, _, _⟩) (v := undef) rfl (by kernel_rfl) (by kernel_rfl) (by kernel_rfl) (fun _ _ _ h => h) (Or.inr ⟨by rfl, rfl⟩) hHeld ?_
  try simp only [Act.put, List.setIfInBounds_toArray, List.set_cons_zero, List.set_cons_succ]
  refine wpAnyH_take (i := 5) (oi := ⟨some 54, _, _, _, _, _⟩) (v := undef) rfl (by kernel_rfl) (by kernel_rfl) (by kernel_rfl) (fun _ _ _ h => h) (Or.inr ⟨by rfl, rfl⟩) hHeld ?_
  try simp only [Act.put, List.setIfInBounds_toArray, List.set_cons_zero, List.set_cons_succ]
  refine wpAnyH_take (i := 6) (oi := ⟨some 55, _, _, _, _, _⟩) (v := undef) rfl (by kernel_rfl) (by kernel_rfl) (by kernel_rfl) (fun _ _ _ h => h) (Or.inr ⟨by rfl, rfl⟩) hHeld ?_
  try simp only [Act.put, List.setIfInBounds_toArray, List.set_cons_zero, List.set_cons_succ]
  refine wpAnyH_take (i := 7) (oi := ⟨some 56, _, _, _, _, _⟩) (v := undef) rfl (by kernel_rfl) (by kernel_rfl) (by kernel_rfl) (fun _ _ _ h => h) (Or.inr ⟨by rfl, rfl⟩) hHeld ?_
  try simp only [Act.put, List.setIfInBounds_toArray, List.set_cons_zero, List.set_cons_succ]
  refine wpAnyH_take (i := 8) (oi := ⟨some 57, _, _, _, _, _⟩) (v := undef) rfl (by kernel_rfl) (by kernel_rfl) (by kernel_rfl) (fun _ _ _ h => h) (Or.inr ⟨by rfl, rfl⟩) hHeld ?_
  try simp only [Act.put, List.setIfInBounds_toArray, List.set_cons_zero, List.set_cons_succ]
  refine wpAnyH_take (i := 9) (oi := ⟨some 58, _, _, _, _, _⟩) (v := undef) rfl (by kernel_rfl) (by kernel_rfl) (by kernel_rfl) (fun _ _ _ h => h) (Or.inr ⟨by rfl, rfl⟩) hHeld ?_
  try simp only [Act.put, List.setIfInBounds_toArray, List.set_cons_zero, List.set_cons_succ]
  refine wpAnyH_take (i := 10) (oi := ⟨some 59, _, _, _, _, _⟩) (v := undef) rfl (by kernel_rfl) (by kernel_rfl) (by kernel_rfl) (fun _ _ _ h => h) (Or.inr ⟨by rfl, rfl⟩) hHeld ?_
  try simp only [Act.put, List.setIfInBounds_toArray, List.set_cons_zero, List.set_cons_succ]
  refine wpAnyH_take (i := 11) (oi := ⟨some 60, _, _, _, _, _⟩) (v := ?_) rfl (by kernel_rfl) (by kernel_rfl) (by kernel_rfl) (fun _ _ _ h => h) (Or.inl ⟨by rfl, ?_⟩) hHeld ?_
  rotate_left
  · intro w hSw
    go_simp
    try with_reducible rfl
  try simp only [Act.put, List.setIfInBounds_toArray, List.set_cons_zero, List.set_cons_succ]
  refine wpAnyH_done (by kernel_rfl) ?_ _
  have HPD := Lib.hid HP9.out.drew
  have XD := Lib.hid (hHeld.keep X9.out (by rw [hz1]; decide))
  have RD := Lib.hid (hHeld.keep R9.out (by rw [hz2]; decide))
  have DD := Lib.hid (hHeld.keep D9.out (by rw [hzd]; decide))
  have VD := Lib.hid (hHeld.keep V9.out (by rw [hz3]; decide))
  have TD := Lib.hid (T9.out.trans (hHeld.sub (js := [1, 3, 4, 5, 6, 7, 8, 9]) (by simp)))
  clear hHeld HP9 X9 R9 D9 V9 T9 hsz9
  generalize wa.drew = wd at *
  have HLD : Hid (∀ w', Tur A.tg [9] wd w' → w'.cell? ⟨A.pb, 27, none⟩ = some (.pointer (some ⟨A.xb, 0, none⟩)) ∧ (Instr.loadAt 65 (.pointer (some ⟨w.heap.size, 37, none⟩))).run Tryz.prog w' = .ok (.agg p) w') := Lib.hid fun w' q => by
    have hb := q.keep XD.out (by rw [hz1]; decide)
    have ho := HPD.out.ok.pb
    exact ⟨cells_of_row (q.keep HPD.out.ptr (by rw [ho]; decide)) 27 _ (polC_hi HPD.out 7), HPX.out.load hp hb⟩
  go_wp2_with fail
  refine wp_region_held_drew (S := Tur A.tg [9] wd) (by kernel_rfl) (Tur.refl _ _ _).drew (fun hHeld => ?_)
  refine wpAnyH_take (i := 0) (oi := ⟨some 75, _, _, _, _, _⟩) (v := ?_) rfl (by kernel_rfl) (by kernel_rfl) (by kernel_rfl) (fun _ _ _ h => h) (Or.inl ⟨by rfl, ?_⟩) hHeld ?_
  rotate_left
  · intro w hSw
    go_simp
    try with_reducible rfl
  try simp only [Act.put, List.setIfInBounds_toArray, List.set_cons_zero, List.set_cons_succ]
  refine wpAnyH_take (i := 1) (oi := ⟨some 76, _, _, _, _, _⟩) (v := ?_) rfl (by kernel_rfl) (by kernel_rfl) (by kernel_rfl) (fun _ _ _ h => h) (Or.inl ⟨by rfl, ?_⟩) hHeld ?_
  rotate_left
  · intro w hSw
    go_simp
    try with_reducible rfl
  try simp only [Act.put, List.setIfInBounds_toArray, List.set_cons_zero, List.set_cons_succ]
  refine wpAnyH_take (i := 2) (oi := ⟨some 77, _, _, _, _, _⟩) (v := ?_) rfl (by kernel_rfl) (by kernel_rfl) (by kernel_rfl) (fun _ _ _ h => h) (Or.inl ⟨by rfl, ?_⟩) hHeld ?_
  rotate_left
  · intro w hSw
    go_simp
    try with_reducible rfl
  try simp only [Act.put, List.setIfInBounds_toArray, List.set_cons_zero, List.set_cons_succ]
  refine wpAnyH_take (i := 3) (oi := ⟨some 78, _, _, _, _, _⟩) (v := ?_) rfl (by kernel_rfl) (by kernel_rfl) (by kernel_rfl) (fun _ _ _ h => h) (Or.inl ⟨by rfl, ?_⟩) hHeld ?_
  rotate_left
  · intro w hSw
    obtain ⟨k0, _⟩ := HLD.out w hSw
    go_simp
    try with_reducible rfl
  try simp only [Act.put, List.setIfInBounds_toArray, List.set_cons_zero, List.set_cons_succ]
  refine wpAnyH_take (i := 4) (oi := ⟨some 79, _, _, _, _, _⟩) (v := ?_) rfl (by kernel_rfl) (by kernel_rfl) (by kernel_rfl) (fun _ _ _ h => h) (Or.inl ⟨by rfl, ?_⟩) hHeld ?_
  rotate_left
  · intro w hSw
    go_simp
    try with_reducible rfl
  try simp only [Act.put, List.setIfInBounds_toArray, List.set_cons_zero, List.set_cons_succ]
  refine wpAnyH_take (i := 5) (oi := ⟨some 80, _, _, _, _, _⟩) (v := .agg p) rfl (by kernel_rfl) (by kernel_rfl) (by kernel_rfl) (fun _ _ _ h => h) (Or.inl ⟨by rfl, fun w hSw => exec_load rfl (HLD.out w hSw).2⟩) hHeld ?_
  try simp only [Act.put, List.setIfInBounds_toArray, List.set_cons_zero, List.set_cons_succ]
  refine wpAnyH_take (i := 6) (oi := ⟨some 81, _, _, _, _, _⟩) (v := ?_) rfl (by kernel_rfl) (by kernel_rfl) (by kernel_rfl) (fun _ _ _ h => h) (Or.inl ⟨by rfl, ?_⟩) hHeld ?_
  rotate_left
  · intro w hSw
    go_simp
    try with_reducible rfl
  try simp only [Act.put, List.setIfInBounds_toArray, List.set_cons_zero, List.set_cons_succ]
  refine wpAnyH_ready (rs := [7]) (by kernel_rfl) (by simp) ?_
  refine AllReadyH.cons rfl (fun K hK => ?_) AllReadyH.nil
  go_simp
  go_wp2_with (go_at_call 38; go_must (refine (HI2.out _ HPD.out.drew).mono ?_; rintro e w7 ⟨rfl, hP7, hT7⟩))
  refine hK.out _ _ (hHeld.trans hT7) (fun hHeld => ?_)
  clear hK K
  refine wpAnyH_done (by kernel_rfl) ?_ _
  have HPE := Lib.hid hP7
  have XE := Lib.hid (hHeld.keep XD.out (by rw [hz1]; decide))
  have RE := Lib.hid (hHeld.keep RD.out (by rw [hz2]; decide))
  have DE := Lib.hid (hHeld.keep DD.out (by rw [hzd]; decide))
  have VE := Lib.hid (hHeld.keep VD.out (by rw [hz3]; decide))
  have TE := Lib.hid (TD.out.trans (hHeld.sub (js := [1, 3, 4, 5, 6, 7, 8, 9]) (by simp)))
  clear hHeld hP7 hT7 HLD HPD XD RD DD VD TD HI2
  generalize w7 = we at *
  have hld := pkt_load XE.out HPX.out.l.pk
  have hdl := box_load (t := 41) DE.out _ Tryz.underlying41 rfl (by rw [HDR.out]; kernel_rfl)
  have CFR := Lib.hid (HFR.out we vb HPE.out VE.out hz3)
  go_wp2_with (first
    | ((with_reducible refine arm_loadg 92 5 68 (.pointer (some ⟨w.heap.size, 0, none⟩)) (.agg (seqX x ar)) hld ?_ ?_ ?_); rfl; rfl)
    | ((with_reducible refine arm_loadg 94 7 41 (.pointer (some ⟨db, 0, none⟩)) (.agg dr) hdl ?_ ?_ ?_); rfl; rfl))
  refine CFR.out.mono ?_
  rintro e w8 ⟨r, cl, vic, S5, rfl, hr, hR, hP8, hV8, hT8⟩
  have HRR := Lib.hid (And.intro hr hR)
  have hrr := hr
  clear hr hR
  have HPG := Lib.hid hP8
  have RG := Lib.hid (hT8.keep RE.out (by rw [exc_ne (by omega), hz2]; decide))
  have VG : Hid (w8.heap[vb]? = some (.cells #[.int .i64 ar, .int .i64 0, .int .i64 cl, .int .i64 vic, .bool false, .bool false] 35 (0, 0))) := Lib.hid hV8
  have TG := Lib.hid (TE.out.trans2 (g := C.exc A.tg vb 3) (hT8.sub (js := [1, 3, 4, 5, 6, 7, 8, 9]) (by simp)) (fun k hk => exc_ne (by omega)))
  clear hP8 hV8 hT8 hld hdl HPE XE RE DE VE TE CFR HFR
  generalize w8 = wg at *
  have c1 := cells_of_row VG.out 1 _ rfl
  have f1 : wg.frozen? ⟨vb, 1, none⟩ = false := frozen_of_row _ _ _ _ _ VG.out
  go_upto_region 14 with (fail)
  have VI : Hid ((wg.setCell ⟨vb, 1, none⟩ (.int .i64 r)).heap[vb]? = some (.cells #[.int .i64 ar, .int .i64 r, .int .i64 cl, .int .i64 vic, .bool false, .bool false] 35 (0, 0))) := Lib.hid (by rw [heap_setCell_same _ _ _ _ _ _ VG.out]; rfl)
  have th : Tur A.tg [0] wg (wg.setCell ⟨vb, 1, none⟩ (.int .i64 r)) := Tur.of_two (Two.setCell (g := vb) (h := vb) (x := ⟨vb, 1, none⟩) (Two.refl _ _ wg) (.inl rfl) (.int .i64 r)) (by simp [hz3]) (by simp [hz3])
  have HPI := Lib.hid (HPG.out.tur th (by intro k h1 h2; simp; omega))
  have RI : Hid ((wg.setCell ⟨vb, 1, none⟩ (.int .i64 r)).heap[rb]? = some (.cells VZ0 35 (0, 0))) := Lib.hid (by rw [heap_setCell_other _ _ _ _ (by simp; omega)]; exact RG.out)
  have TI : Hid (Tur A.tg [1, 3, 4, 5, 6, 7, 8, 9] w (wg.setCell ⟨vb, 1, none⟩ (.int .i64 r))) := Lib.hid (TG.out.trans2 (f := A.tg) (g := fun k => if k = vb then 1 else A.tg k) (Tur.of_two (Two.setCell (g := vb) (h := vb) (x := ⟨vb, 1, none⟩) (Two.refl _ _ wg) (.inl rfl) (.int .i64 r)) (by simp) (by simp)) (fun k hk => if_neg (by omega)))
  clear th c1 f1 VG HPG RG TG
  generalize wg.setCell ⟨vb, 1, none⟩ (.int .i64 r) = wh at *
  by_cases hr0 : r = 0
  · have c1 := cells_of_row VI.out 1 _ rfl
    have hrb : (r == 0) = true := by rw [hr0]; rfl
    have hrn : (r != 0) = false := by rw [hr0]; rfl
    have HIF : Hid ((if r = 0 then cl else -1) = cl) := Lib.hid (if_pos hr0)
    have hr1 : r = 0 := hr0
    clear hr0
    go_upto_region 16 with (fail)
    clear c1
    obtain ⟨vv, hvv⟩ : ∃ z : Array Value, #[.int .i64 ar, .int .i64 r, .int .i64 cl, .int .i64 vic, .bool false, .bool false] = z := ⟨_, rfl⟩
    have hvs : vv.size = 6 := by rw [← hvv]; rfl
    have hva : vv.all (·.oneCell') = true := by rw [← hvv]; kernel_rfl
    rw [hvv] at VI
    have HVV := Lib.hid hvv
    clear hvv
    have hvt : (Tryz.prog.info? 35).map (·.size) = some vv.size := by rw [hvs]; kernel_rfl
    have hld := box_load (t := 35) VI.out _ Tryz.underlying35 rfl hvt
    have hz6 : VZ0.size = vv.size := by rw [hvs, ← HVE.out]; rfl
    have hst := box_store (t := 35) (x := vv) RI.out hvt hva hz6
    have hbox := box_whole (cs := vv) RI.out hz6.symm
    have tj : Tur A.tg [0] wh (World.setCells wh rb 0 vv.toList) := Tur.of_two (Two.setCells (g := rb) (h := rb) (.inl rfl) vv.toList 0 (Two.refl _ _ _)) (by simp [hz2]) (by simp [hz2])
    have HPJ := Lib.hid (HPI.out.tur tj (by intro k h1 h2; simp; omega))
    have TJ : Hid (Tur A.tg [1, 3, 4, 5, 6, 7, 8, 9] w (World.setCells wh rb 0 vv.toList)) := Lib.hid (TI.out.trans2 (f := A.tg) (g := fun k => if k = rb then 1 else A.tg k) (Tur.of_two (Two.setCells (g := rb) (h := rb) (.inl rfl) vv.toList 0 (Two.refl _ _ _)) (by simp) (by simp)) (fun k hk => if_neg (by omega)))
    have HBXX := Lib.hid hbox
    clear hbox tj
    go_wp2_with (first | ((with_reducible refine arm_load 101 9 35 _ _ hld ?_ ?_); rfl) | ((with_reducible refine arm_store 8 101 35 _ _ _ hst ?_ ?_ ?_); rfl; rfl))
    refine bodyPost_ret (results_cell_row rfl _ _ _ _ _ _ _ rfl HBXX.out Tryz.underlying35 rfl hvt) rfl ?_
    refine HQ.out _ _ ⟨r, cl, vic, S5, ?_, HRR.out.1, HRR.out.2, HPJ.out, TJ.out⟩
    rw [← HVV.out, HIF.out]
  · have c1 := cells_of_row VI.out 1 _ rfl
    have c2 := cells_of_row VI.out 2 _ rfl
    have f2 : wh.frozen? ⟨vb, 2, none⟩ = false := frozen_of_row _ _ _ _ _ VI.out
    have hrb : (r == 0) = false := by simpa using hr0
    have hrn : (r != 0) = true := by simpa using hr0
    have HIF : Hid ((if r = 0 then cl else -1) = -1) := Lib.hid (if_neg hr0)
    go_upto_region 16 with (fail)
    have VK : Hid ((wh.setCell ⟨vb, 2, none⟩ (.int .i64 (-1))).heap[vb]? = some (.cells #[.int .i64 ar, .int .i64 r, .int .i64 (-1), .int .i64 vic, .bool false, .bool false] 35 (0, 0))) := Lib.hid (by rw [heap_setCell_same _ _ _ _ _ _ VI.out]; rfl)
    have tk : Tur A.tg [0] wh (wh.setCell ⟨vb, 2, none⟩ (.int .i64 (-1))) := Tur.of_two (Two.setCell (g := vb) (h := vb) (x := ⟨vb, 2, none⟩) (Two.refl _ _ wh) (.inl rfl) (.int .i64 (-1))) (by simp [hz3]) (by simp [hz3])
    have HPK := Lib.hid (HPI.out.tur tk (by intro k h1 h2; simp; omega))
    have RK : Hid ((wh.setCell ⟨vb, 2, none⟩ (.int .i64 (-1))).heap[rb]? = some (.cells VZ0 35 (0, 0))) := Lib.hid (by rw [heap_setCell_other _ _ _ _ (by simp; omega)]; exact RI.out)
    have TK : Hid (Tur A.tg [1, 3, 4, 5, 6, 7, 8, 9] w (wh.setCell ⟨vb, 2, none⟩ (.int .i64 (-1)))) := Lib.hid (TI.out.trans2 (f := A.tg) (g := fun k => if k = vb then 1 else A.tg k) (Tur.of_two (Two.setCell (g := vb) (h := vb) (x := ⟨vb, 2, none⟩) (Two.refl _ _ wh) (.inl rfl) (.int .i64 (-1))) (by simp) (by simp)) (fun k hk => if_neg (by omega)))
    clear tk c1 c2 f2 VI HPI RI TI
    generalize wh.setCell ⟨vb, 2, none⟩ (.int .i64 (-1)) = wk at *
    obtain ⟨vv, hvv⟩ : ∃ z : Array Value, #[.int .i64 ar, .int .i64 r, .int .i64 (-1), .int .i64 vic, .bool false, .bool false] = z := ⟨_, rfl⟩
    have hvs : vv.size = 6 := by rw [← hvv]; rfl
    have hva : vv.all (·.oneCell') = true := by rw [← hvv]; kernel_rfl
    rw [hvv] at VK
    have HVV := Lib.hid hvv
    clear hvv
    have hvt : (Tryz.prog.info? 35).map (·.size) = some vv.size := by rw [hvs]; kernel_rfl
    have hld := box_load (t := 35) VK.out _ Tryz.underlying35 rfl hvt
    have hz6 : VZ0.size = vv.size := by rw [hvs, ← HVE.out]; rfl
    have hst := box_store (t := 35) (x := vv) RK.out hvt hva hz6
    have hbox := box_whole (cs := vv) RK.out hz6.symm
    have tj : Tur A.tg [0] wk (World.setCells wk rb 0 vv.toList) := Tur.of_two (Two.setCells (g := rb) (h := rb) (.inl rfl) vv.toList 0 (Two.refl _ _ _)) (by simp [hz2]) (by simp [hz2])
    have HPJ := Lib.hid (HPK.out.tur tj (by intro k h1 h2; simp; omega))
    have TJ : Hid (Tur A.tg [1, 3, 4, 5, 6, 7, 8, 9] w (World.setCells wk rb 0 vv.toList)) := Lib.hid (TK.out.trans2 (f := A.tg) (g := fun k => if k = rb then 1 else A.tg k) (Tur.of_two (Two.setCells (g := rb) (h := rb) (.inl rfl) vv.toList 0 (Two.refl _ _ _)) (by simp) (by simp)) (fun k hk => if_neg (by omega)))
    have HBXX := Lib.hid hbox
    clear hbox tj
    go_wp2_with (first | ((with_reducible refine arm_load 101 9 35 _ _ hld ?_ ?_); rfl) | ((with_reducible refine arm_store 8 101 35 _ _ _ hst ?_ ?_ ?_); rfl; rfl))
    refine bodyPost_ret (results_cell_row rfl _ _ _ _ _ _ _ rfl HBXX.out Tryz.underlying35 rfl hvt) rfl ?_
    refine HQ.out _ _ ⟨r, cl, vic, S5, ?_, HRR.out.1, HRR.out.2, HPJ.out, TJ.out⟩
    rw [← HVV.out, HIF.out]
end
end Go.Proofs.YtpanmfdbdgecaaaGreat.C

namespace Go.Proofs.YtpanmfdbdgecaaaGreat.C
open Go.RowKit
set_option linter.unusedVariables false
theorem r_turn13 (x : Int) (w : World) : Calls Tryz.prog 178 #[.int .u64 x, .int .u64 13] w fun e w' => e = .returned (.int .u64 (rotl13 x)) ∧ w' = w := by
  unfold rotl13
  go_enter Tryz.func178, Tryz.ntmps178
  go_wp2
  go_ret
  exact ⟨rfl, rfl⟩
theorem r_turn16 (x : Int) (w : World) : Calls Tryz.prog 178 #[.int .u64 x, .int .u64 16] w fun e w' => e = .returned (.int .u64 (rotl16 x)) ∧ w' = w := by
  unfold rotl16
  go_enter Tryz.func178, Tryz.ntmps178
  go_wp2
  go_ret
  exact ⟨rfl, rfl⟩
theorem r_turn17 (x : Int) (w : World) : Calls Tryz.prog 178 #[.int .u64 x, .int .u64 17] w fun e w' => e = .returned (.int .u64 (rotl17 x)) ∧ w' = w := by
  unfold rotl17
  go_enter Tryz.func178, Tryz.ntmps178
  go_wp2
  go_ret
  exact ⟨rfl, rfl⟩
theorem r_turn21 (x : Int) (w : World) : Calls Tryz.prog 178 #[.int .u64 x, .int .u64 21] w fun e w' => e = .returned (.int .u64 (rotl21 x)) ∧ w' = w := by
  unfold rotl21
  go_enter Tryz.func178, Tryz.ntmps178
  go_wp2
  go_ret
  exact ⟨rfl, rfl⟩
theorem r_turn32 (x : Int) (w : World) : Calls Tryz.prog 178 #[.int .u64 x, .int .u64 32] w fun e w' => e = .returned (.int .u64 (rotl32 x)) ∧ w' = w := by
  unfold rotl32
  go_enter Tryz.func178, Tryz.ntmps178
  go_wp2
  go_ret
  exact ⟨rfl, rfl⟩
/-- The number of the first bytes, the lowest first. -/
def numN (F : Nat → Nat) : Nat → Nat
  | 0 => 0
  | k + 1 => numN F k + F k * 256 ^ k
theorem numN_lt {F : Nat → Nat} (hF : ∀ j, F j < 256) : ∀ k, numN F k < 256 ^ k
  | 0 => by simp [numN]
  | k + 1 => by
    have h1 := numN_lt hF k
    have h2 : F k * 256 ^ k ≤ 255 * 256 ^ k := Nat.mul_le_mul_right _ (by have := hF k; omega)
    have h3 : (256 : Nat) ^ (k + 1) = 256 * 256 ^ k := by rw [Nat.pow_succ, Nat.mul_comm]
    unfold numN
    omega
theorem numN_cons (G : Nat → Nat) : ∀ t, numN G (t + 1) = G 0 + 256 * numN (fun j => G (j + 1)) t
  | 0 => by simp [numN]
  | t + 1 => by
    have h := numN_cons G t
    have h3 : G (t + 1) * 256 ^ (t + 1) = 256 * (G (t + 1) * 256 ^ t) := by rw [Nat.pow_succ, ← Nat.mul_assoc, Nat.mul_comm]
    show numN G (t + 1) + G (t + 1) * 256 ^ (t + 1) = G 0 + 256 * (numN (fun j => G (j + 1)) t + G (t + 1) * 256 ^ t)
    rw [h, h3]
    omega
theorem numP_numN {F : Nat → Nat} (hF : ∀ j, F j < 256) : ∀ k, k ≤ 8 → numP F k = (numN F k : Nat)
  | 0, _ => rfl
  | k + 1, hk => by
    have h1 := numP_numN hF k (by omega)
    have h2 := numN_lt hF k
    have h3 := hF k
    have e256 : (256 : Nat) ^ k = 2 ^ (8 * k) := by rw [Nat.pow_mul]
    have hle : (2 : Nat) ^ (8 * k) ≤ 2 ^ 56 := Nat.pow_le_pow_right (by decide) (by omega)
    have hp : F k * 2 ^ (8 * k) ≤ 255 * 2 ^ 56 := Nat.mul_le_mul (by omega) hle
    have hc : ((2 : Int) ^ (8 * k)) = ((2 ^ (8 * k) : Nat) : Int) := by norm_cast
    have w1 : IntKind.u64.wrap (F k : Int) = (F k : Int) := IntWalk.u64_in _ (by omega)
    have w2 : IntKind.u64.wrap ((F k : Int) * 2 ^ (8 * k)) = ((F k * 2 ^ (8 * k) : Nat) : Int) := by
      rw [hc, ← Int.natCast_mul]
      exact IntWalk.u64_in _ (by omega)
    show bits BinOp.or IntKind.u64 (numP F k) (IntKind.u64.wrap (IntKind.u64.wrap (F k : Int) * 2 ^ (8 * k))) = _
    rw [e256] at h2
    rw [h1, w1, w2, u64_or_nat _ _ (by omega) (by omega)]
    have h5 := Nat.shiftLeft_add_eq_or_of_lt (a := F k) (b := numN F k) (i := 8 * k) h2
    rw [Nat.or_comm, ← Nat.shiftLeft_eq, ← h5, Nat.shiftLeft_eq]
    show _ = ((numN F k + F k * 256 ^ k : Nat) : Int)
    rw [e256, Nat.add_comm]
set_option maxRecDepth 100000 in
theorem r_word (g o c : Nat) (F : Nat → Nat) (w : World) (hF : ∀ j, F j < 256) (hc : ∀ j, j < 8 → w.cell? ⟨g, o + j, none⟩ = some (.int .u8 (F j : Nat))) :
    Calls Tryz.prog 147 #[.slice (some ⟨g, o, none⟩) 8 c] w fun e w' => e = .returned (.int .u64 (numP F 8)) ∧ w' = w := by
  rw [numP_numN hF 8 (by omega)]
  have HC := Lib.hid hc
  have HF := Lib.hid hF
  clear hc hF
  go_enter Tryz.func147, Tryz.ntmps147
  go_wp2_with fail
  go_loopw [3, 4] (fun s t wr => ∃ k : Nat, k ≤ 8 ∧ t = .int .i64 (7 - (k : Int)) ∧ s = .int .u64 ((numN (fun j => F (8 - k + j)) k : Nat) : Int) ∧ w = wr) (fun _ t _ => (intOf t + 1).toNat)
  case atStart => exact ⟨0, by omega, rfl, rfl, rfl⟩
  case round =>
    obtain ⟨k, hk, rfl, rfl, rfl⟩ := hrel
    by_cases hk8 : k = 8
    · subst hk8
      have e : (fun j => F (8 - 8 + j)) = F := by funext j; rw [Nat.sub_self, Nat.zero_add]
      rw [e]
      have e2 : (7 - ((8 : Nat) : Int)) = -1 := rfl
      rw [e2]
      go_wp2
      go_ret
      exact ⟨rfl, rfl⟩
    · obtain ⟨j, hj⟩ : ∃ j : Nat, j + k = 7 := ⟨7 - k, by omega⟩
      have ej : (7 - (k : Int)) = (j : Int) := by omega
      have ejn : (7 - ((k + 1 : Nat) : Int)) = (j : Int) - 1 := by omega
      have hjw : IntKind.i64.wrap ((j : Int) - 1) = (j : Int) - 1 := IntWalk.i64_in _ (by omega)
      have cj := HC.out j (by omega)
      have hj8 : (j : Int) < 8 := by omega
      have hj8n : j < 8 := by omega
      have hj0 : (0 : Int) ≤ (j : Int) := by omega
      have hlt := numN_lt (F := fun i => F (8 - k + i)) (fun i => HF.out _) k
      have hnx : numN (fun i => F (8 - (k + 1) + i)) (k + 1) = F j + 256 * numN (fun i => F (8 - k + i)) k := by
        rw [numN_cons]
        congr 1
        · show F (8 - (k + 1) + 0) = F j
          congr 1
          omega
        · congr 2
          funext i
          show F (8 - (k + 1) + (i + 1)) = F (8 - k + i)
          congr 1
          omega
      have hb := HF.out j
      have hpw : (256 : Nat) ^ k ≤ 256 ^ 7 := Nat.pow_le_pow_right (by decide) (by omega)
      rw [ej]
      obtain ⟨x, hx⟩ : ∃ x, numN (fun i => F (8 - k + i)) k = x := ⟨_, rfl⟩
      rw [hx] at hlt hnx ⊢
      have hw1 : IntKind.u64.wrap ((x : Int) * 256) = (x : Int) * 256 := IntWalk.u64_in _ (by omega)
      have hw2 : IntKind.u64.wrap (F j : Int) = (F j : Int) := IntWalk.u64_in _ (by omega)
      have hw3 : IntKind.u64.wrap ((x : Int) * 256 + (F j : Int)) = ((F j + 256 * x : Nat) : Int) := by
        rw [IntWalk.u64_in _ (by omega)]
        omega
      have HNX := Lib.hid hnx
      have HJ := Lib.hid ejn
      have HJK := Lib.hid hj
      clear hnx hlt hx hpw hj ej ejn hk8
      go_wp2_with fail
      refine ⟨⟨k + 1, by have := HJK.out; omega, by rw [HJ.out], by rw [HNX.out, Int.natCast_add, Int.natCast_mul]; rfl, by first | rfl | trivial⟩, ?_⟩
      have := HJK.out
      simp only [intOf]
      omega
end Go.Proofs.YtpanmfdbdgecaaaGreat.C
