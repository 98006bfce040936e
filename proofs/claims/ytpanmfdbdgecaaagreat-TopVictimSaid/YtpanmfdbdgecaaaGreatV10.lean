/- The police: penalty, count, join. · The police: boxed. · The police: Arrive of somebody who is put into the box. · The police: what its block has while it is made; quota's New. -/
import Derived.Test.YtpanmfdbdgecaaaGreatV9
namespace Go.Proofs.YtpanmfdbdgecaaaGreat.C
open Go.RowKit
set_option linter.unusedVariables false
section
variable {w : World} {A : PAd} {F : PCf} {S : PSt}
theorem police_penalty (h : Pol w A F S) : Calls Tryz.prog 40 #[.pointer (some ⟨A.pb, 0, none⟩)] w fun e w' => e = .returned (.int .i64 (2 * F.c 0)) ∧ w' = w := by
  have c0 := h.lo 0 (by decide)
  obtain ⟨p0, p1, p2⟩ := h.pen
  have hw : IntKind.i64.wrap (2 * F.c 0) = 2 * F.c 0 := IntWalk.i64_in _ (by omega)
  clear p2 h
  generalize F.c 0 = n at *
  go_enter Tryz.func40, Tryz.ntmps40
  go_wp2
  go_ret
  exact ⟨rfl, rfl⟩
end
def wakeT (tl : List Tcl) (line : List Nat) (c : Nat) : List Tcl × List Nat :=
  match tl[c]? with
  | some x => if x.awake then (tl, line) else (tl.set c ⟨true, true, 0⟩, line ++ [c])
  | none => (tl, line)
theorem turns_wake {pb b1 b2 : Nat} {q : Int} {l : List Tcl} {line : List Nat} {w : World} (c : Nat) (x : Tcl) (h : TnAt w pb b1 b2 q l line) (hl : l.length ≤ 129) (hx : l[c]? = some x) (hlt : x.awake = false → line.length < l.length) :
    Calls Tryz.prog 102 #[.pointer (some ⟨pb, 0, none⟩), .int .i64 (c : Nat)] w fun e w' => (∃ b, e = .returned (.bool b)) ∧ TnAt w' pb b1 b2 q (wakeT l line c).1 (wakeT l line c).2 ∧ Amg [pb, b1, b2] w w' := by
  unfold wakeT
  rw [hx]
  simp only []
  cases ha : x.awake
  · refine (turns_wake_yes c x h hl hx ha (hlt ha)).mono ?_
    rintro e w' ⟨rfl, h1, h2⟩
    exact ⟨⟨_, rfl⟩, h1, h2⟩
  · refine (turns_wake_no c x h hl hx ha).mono ?_
    rintro e w' ⟨rfl, rfl⟩
    exact ⟨⟨_, rfl⟩, h, Amg.refl _ _⟩
section
variable {w : World} {A : PAd} {F : PCf} {S : PSt}
theorem Pol.fits (h : Pol w A F S) {c n : Int} (hok : QU.QOk (F.c 9) (F.c 10) S.sh S.ql) (hc : c ≤ 4611686018427387904) :
    Calls Tryz.prog 131 #[.pointer (some ⟨A.qb, 0, none⟩), .int .i64 c, .int .i64 n] w fun e w'' => e = .returned (.bool (QU.fitsB (F.c 9) (F.c 10) S.sh S.ql c n)) ∧ Below w.heap.size w w'' := by
  refine (QU.fits_any A.qb A.qr (F.c 9) (F.c 10) S.sh c n S.ql w h.q hok hc).mono ?_
  rintro e w' ⟨rfl, k, rfl⟩
  exact ⟨rfl, below_drewN (Below.refl _ _) k⟩
set_option maxRecDepth 100000 in
theorem join_quota (cl : Nat) (n : Int) (x : Array Value) (hx : PkL x n) (h : Pol w A F S) (hok : QU.QOk (F.c 9) (F.c 10) S.sh S.ql) (hcl : cl ≤ 200) (hno : QU.fitsB (F.c 9) (F.c 10) S.sh S.ql cl n = false) :
    Calls Tryz.prog 74 #[.pointer (some ⟨A.pb, 0, none⟩), .int .i64 (cl : Nat), .agg x] w fun e w' => e = .returned (.int .i64 13) ∧ Below w.heap.size w w' := by
  have HL := Lib.hid hx.len
  have HF : Hid (∀ w' b, Below w.heap.size w w' → w'.heap[b]? = some (.cells x 68 (0, 0)) → w'.cell? ⟨A.pb, 22, none⟩ = some (.pointer (some ⟨A.qb, 0, none⟩)) ∧ w'.cell? ⟨b, 45, none⟩ = some (.int .i64 n)) := Lib.hid fun w' b q hb => ⟨(h.below q).c22, cells_of_row hb 45 _ HL.out⟩
  have CQ : Hid (∀ w', Below w.heap.size w w' → Calls Tryz.prog 131 #[.pointer (some ⟨A.qb, 0, none⟩), .int .i64 (cl : Nat), .int .i64 n] w' fun e w'' => e = .returned (.bool false) ∧ Below w'.heap.size w' w'') := Lib.hid fun w' q => by
    rw [← hno]
    exact (h.below q).fits hok (by omega)
  clear h hok hno hx
  go_enter Tryz.func74, Tryz.ntmps74
  go_upto_region 1 with ((with_reducible refine arm_box 5 2 68 x ?_ ?_); rfl; intro w1 HB HX HS)
  go_wp2_with fail
  refine wp_region_held_drew (S := Below w1.heap.size w1) (by kernel_rfl) (Below.refl _ _).drew (fun hHeld => ?_)
  refine wpAnyH_take (i := 0) (oi := ⟨some 8, _, _, _, _, _⟩) (v := ?_) rfl (by kernel_rfl) (by kernel_rfl) (by kernel_rfl) (fun _ _ _ h => h) (Or.inl ⟨by rfl, ?_⟩) hHeld ?_
  rotate_left
  · intro w hSw
    go_simp
    try with_reducible rfl
  try simp only [Act.put, List.setIfInBounds_toArray, List.set_cons_zero, List.set_cons_succ]
  refine wpAnyH_take (i := 1) (oi := ⟨some 9, _, _, _, _, _⟩) (v := ?_) rfl (by kernel_rfl) (by kernel_rfl) (by kernel_rfl) (fun _ _ _ h => h) (Or.inl ⟨by rfl, ?_⟩) hHeld ?_
  rotate_left
  · intro w hSw
    go_simp
    try with_reducible rfl
  try simp only [Act.put, List.setIfInBounds_toArray, List.set_cons_zero, List.set_cons_succ]
  refine wpAnyH_take (i := 2) (oi := ⟨some 10, _, _, _, _, _⟩) (v := ?_) rfl (by kernel_rfl) (by kernel_rfl) (by kernel_rfl) (fun _ _ _ h => h) (Or.inl ⟨by rfl, ?_⟩) hHeld ?_
  rotate_left
  · intro w hSw
    go_simp
    try with_reducible rfl
  try simp only [Act.put, List.setIfInBounds_toArray, List.set_cons_zero, List.set_cons_succ]
  refine wpAnyH_take (i := 3) (oi := ⟨some 11, _, _, _, _, _⟩) (v := ?_) rfl (by kernel_rfl) (by kernel_rfl) (by kernel_rfl) (fun _ _ _ h => h) (Or.inl ⟨by rfl, ?_⟩) hHeld ?_
  rotate_left
  · intro w hSw
    obtain ⟨k0, k1⟩ := HF.out w _ (HB.out.trans (hSw.mono HB.out.size)) (keep_block hSw HX.out)
    go_simp
    try with_reducible rfl
  try simp only [Act.put, List.setIfInBounds_toArray, List.set_cons_zero, List.set_cons_succ]
  refine wpAnyH_take (i := 4) (oi := ⟨some 12, _, _, _, _, _⟩) (v := ?_) rfl (by kernel_rfl) (by kernel_rfl) (by kernel_rfl) (fun _ _ _ h => h) (Or.inl ⟨by rfl, ?_⟩) hHeld ?_
  rotate_left
  · intro w hSw
    go_simp
    try with_reducible rfl
  try simp only [Act.put, List.setIfInBounds_toArray, List.set_cons_zero, List.set_cons_succ]
  refine wpAnyH_take (i := 5) (oi := ⟨some 13, _, _, _, _, _⟩) (v := ?_) rfl (by kernel_rfl) (by kernel_rfl) (by kernel_rfl) (fun _ _ _ h => h) (Or.inl ⟨by rfl, ?_⟩) hHeld ?_
  rotate_left
  · intro w hSw
    go_simp
    try with_reducible rfl
  try simp only [Act.put, List.setIfInBounds_toArray, List.set_cons_zero, List.set_cons_succ]
  refine wpAnyH_take (i := 6) (oi := ⟨some 14, _, _, _, _, _⟩) (v := ?_) rfl (by kernel_rfl) (by kernel_rfl) (by kernel_rfl) (fun _ _ _ h => h) (Or.inl ⟨by rfl, ?_⟩) hHeld ?_
  rotate_left
  · intro w hSw
    obtain ⟨k0, k1⟩ := HF.out w _ (HB.out.trans (hSw.mono HB.out.size)) (keep_block hSw HX.out)
    go_simp
    try with_reducible rfl
  try simp only [Act.put, List.setIfInBounds_toArray, List.set_cons_zero, List.set_cons_succ]
  refine wpAnyH_ready (rs := [7]) (by kernel_rfl) (by simp) ?_
  refine AllReadyH.cons rfl (fun K hK => ?_) AllReadyH.nil
  go_simp
  go_wp2_with (go_at_call 131; go_must (refine (CQ.out _ (HB.out.trans (hHeld.mono HB.out.size))).mono ?_; rintro e w7 ⟨rfl, hB7⟩))
  refine hK.out _ _ (hHeld.trans (hB7.mono hHeld.size)) (fun hHeld => ?_)
  clear hK K
  refine wpAnyH_take (i := 8) (oi := ⟨some 16, _, _, _, _, _⟩) (v := ?_) rfl (by kernel_rfl) (by kernel_rfl) (by kernel_rfl) (fun _ _ _ h => h) (Or.inl ⟨by rfl, ?_⟩) hHeld ?_
  rotate_left
  · intro w hSw
    go_simp
    try with_reducible rfl
  try simp only [Act.put, List.setIfInBounds_toArray, List.set_cons_zero, List.set_cons_succ]
  refine wpAnyH_take (i := 9) (oi := ⟨some 7, _, _, _, _, _⟩) (v := ?_) rfl (by kernel_rfl) (by kernel_rfl) (by kernel_rfl) (fun _ _ _ h => h) (Or.inl ⟨by rfl, ?_⟩) hHeld ?_
  rotate_left
  · intro w hSw
    go_simp
    try with_reducible rfl
  try simp only [Act.put, List.setIfInBounds_toArray, List.set_cons_zero, List.set_cons_succ]
  refine wpAnyH_done (by kernel_rfl) ?_ _
  have HB2 := Lib.hid (HB.out.trans (hHeld.mono HB.out.size))
  clear hHeld hB7 HB HX HS
  go_wp2
  go_ret
  exact ⟨rfl, HB2.out⟩
set_option maxRecDepth 100000 in
set_option maxHeartbeats 1000000 in
theorem join_yes (cl : Nat) (n : Int) (x : Array Value) (l : List (Array Value)) (y : Tcl) (b0 b1 : List Bin) (hx : PkL x n) (h : Pol w A F S) (hok : QU.QOk (F.c 9) (F.c 10) S.sh S.ql) (hl : S.L[cl]? = some l) (hcl2 : S.tl.length ≤ 129) (hn : 1 ≤ n ∧ n ≤ 9216) (hyes : QU.fitsB (F.c 9) (F.c 10) S.sh S.ql cl n = true) (hroom : total S.L < (F.c 1).toNat)
    (hy : S.tl[cl]? = some y) (hlt : y.awake = false → S.line.length < S.tl.length)
    (hcn : ∀ w' S', Pol w' A F S' → S'.b0 = S.b0 → S'.b1 = S.b1 → Calls Tryz.prog 133 #[.pointer (some ⟨A.pb, 0, none⟩), .int .i64 (cl : Nat), .agg x, .bool true] w' fun e w'' => e = .returned (.tuple #[]) ∧ Pol w'' A F { S' with b0 := b0, b1 := b1 } ∧ Tur A.tg [6, 7] w' w'') :
    Calls Tryz.prog 74 #[.pointer (some ⟨A.pb, 0, none⟩), .int .i64 (cl : Nat), .agg x] w fun e w' => e = .returned (.int .i64 0) ∧ Pol w' A F { S with L := S.L.set cl (l ++ [x]), sh := QU.addS (F.c 9) (F.c 10) S.sh S.ql cl n, ql := QU.addL (F.c 9) (F.c 10) S.sh S.ql cl n, b0 := b0, b1 := b1, tl := (wakeT S.tl S.line cl).1, line := (wakeT S.tl S.line cl).2 } ∧ Tur A.tg [3, 4, 5, 6, 7] w w' := by
  have HO := Lib.hid h.ok
  have HL := Lib.hid hx.len
  have HPK := Lib.hid hx.pk
  have HLI := Lib.hid h.lim
  have H1 : Hid (∀ w' S' b, Pol w' A F S' → w'.heap[b]? = some (.cells x 68 (0, 0)) → w'.cell? ⟨A.pb, 22, none⟩ = some (.pointer (some ⟨A.qb, 0, none⟩)) ∧ w'.cell? ⟨A.pb, 21, none⟩ = some (.pointer (some ⟨A.st.sb, 0, none⟩)) ∧ w'.cell? ⟨A.pb, 23, none⟩ = some (.pointer (some ⟨A.tb, 0, none⟩)) ∧ w'.cell? ⟨b, 45, none⟩ = some (.int .i64 n) ∧ (Instr.loadAt 68 (.pointer (some ⟨b, 0, none⟩))).run Tryz.prog w' = .ok (.agg x) w') := Lib.hid fun w' S' b q hb => ⟨q.c22, q.c21, q.c23, cells_of_row hb 45 _ HL.out, pkt_load hb HPK.out⟩
  have CQ : Hid (∀ w', Below w.heap.size w w' → Calls Tryz.prog 131 #[.pointer (some ⟨A.qb, 0, none⟩), .int .i64 (cl : Nat), .int .i64 n] w' fun e w'' => e = .returned (.bool true) ∧ Below w'.heap.size w' w'') := Lib.hid fun w' q => by
    rw [← hyes]
    have hlq := (List.getElem?_eq_some_iff.1 hy).1
    exact (h.below q).fits hok (by omega)
  have CS : Hid (∀ w', Pol w' A F S → Calls Tryz.prog 99 #[.pointer (some ⟨A.st.sb, 0, none⟩), .int .i64 (cl : Nat), .agg x] w' fun e w'' => e = .returned (.bool true) ∧ Pol w'' A F { S with L := S.L.set cl (l ++ [x]) } ∧ Tur A.tg [3] w' w'') := Lib.hid fun w' q => by
    refine (push_yes cl n x l q.sto hx hl hn hroom).mono ?_
    rintro e w'' ⟨rfl, hS, hA⟩
    have hT : Tur A.tg [3] w' w'' := Tur.of_amg hA (fun k hk => by
      have : k ∈ A.st.sb :: A.st.pb :: A.st.bs := List.mem_cons_of_mem _ (List.mem_cons_of_mem _ hk)
      rw [q.ok.st k this]
      simp)
    exact ⟨rfl, (q.rest hT).setSto hS, hT⟩
  have CA : Hid (∀ w', Pol w' A F { S with L := S.L.set cl (l ++ [x]) } → Calls Tryz.prog 132 #[.pointer (some ⟨A.qb, 0, none⟩), .int .i64 (cl : Nat), .int .i64 n] w' fun e w'' => e = .returned (.bool true) ∧ Pol w'' A F { S with L := S.L.set cl (l ++ [x]), sh := QU.addS (F.c 9) (F.c 10) S.sh S.ql cl n, ql := QU.addL (F.c 9) (F.c 10) S.sh S.ql cl n } ∧ Tur A.tg [4] w' w'') := Lib.hid fun w' q => by
    have hlq := (List.getElem?_eq_some_iff.1 hy).1
    refine (QU.add_any A.qb A.qr (F.c 9) (F.c 10) S.sh (cl : Nat) n S.ql w' q.q hok (by omega)).mono ?_
    rintro e w'' ⟨rfl, hS, hA⟩
    have hT : Tur A.tg [4] w' w'' := Tur.of_two hA (by simp [q.ok.q.1]) (by simp [q.ok.q.2])
    rw [hyes]
    exact ⟨rfl, (q.rest hT).setQ hS, hT⟩
  have CN := Lib.hid (fun w' (q : Pol w' A F { S with L := S.L.set cl (l ++ [x]), sh := QU.addS (F.c 9) (F.c 10) S.sh S.ql cl n, ql := QU.addL (F.c 9) (F.c 10) S.sh S.ql cl n }) => hcn w' _ q rfl rfl)
  have CW : Hid (∀ w', Pol w' A F { S with L := S.L.set cl (l ++ [x]), sh := QU.addS (F.c 9) (F.c 10) S.sh S.ql cl n, ql := QU.addL (F.c 9) (F.c 10) S.sh S.ql cl n, b0 := b0, b1 := b1 } → Calls Tryz.prog 102 #[.pointer (some ⟨A.tb, 0, none⟩), .int .i64 (cl : Nat)] w' fun e w'' => (∃ b, e = .returned (.bool b)) ∧ Pol w'' A F { S with L := S.L.set cl (l ++ [x]), sh := QU.addS (F.c 9) (F.c 10) S.sh S.ql cl n, ql := QU.addL (F.c 9) (F.c 10) S.sh S.ql cl n, b0 := b0, b1 := b1, tl := (wakeT S.tl S.line cl).1, line := (wakeT S.tl S.line cl).2 } ∧ Tur A.tg [5] w' w'') := Lib.hid fun w' q => by
    refine (turns_wake cl y q.tn hcl2 hy hlt).mono ?_
    rintro e w'' ⟨he, hS, hA⟩
    have hT : Tur A.tg [5] w' w'' := Tur.of_amg hA (fun k hk => by
      obtain ⟨t1, t2, t3⟩ := q.ok.t
      simp only [List.mem_cons, List.not_mem_nil, or_false] at hk
      rcases hk with rfl | rfl | rfl <;> simp [t1, t2, t3])
    exact ⟨he, (q.rest hT).setT hS, hT⟩
  have HP0 := Lib.hid h
  clear h hok hyes hx hcn hroom hl hy hlt hcl2
  generalize { S with L := S.L.set cl (l ++ [x]), sh := QU.addS (F.c 9) (F.c 10) S.sh S.ql cl n, ql := QU.addL (F.c 9) (F.c 10) S.sh S.ql cl n, b0 := b0, b1 := b1, tl := (wakeT S.tl S.line cl).1, line := (wakeT S.tl S.line cl).2 } = S5 at *
  generalize { S with L := S.L.set cl (l ++ [x]), sh := QU.addS (F.c 9) (F.c 10) S.sh S.ql cl n, ql := QU.addL (F.c 9) (F.c 10) S.sh S.ql cl n, b0 := b0, b1 := b1 } = S4 at *
  generalize { S with L := S.L.set cl (l ++ [x]), sh := QU.addS (F.c 9) (F.c 10) S.sh S.ql cl n, ql := QU.addL (F.c 9) (F.c 10) S.sh S.ql cl n } = S3 at *
  generalize { S with L := S.L.set cl (l ++ [x]) } = S2 at *
  go_enter Tryz.func74, Tryz.ntmps74
  go_upto_region 1 with ((with_reducible refine arm_box 5 2 68 x ?_ ?_); rfl; intro w1 HB HX HS)
  have HP1 := Lib.hid (HP0.out.below HB.out)
  go_wp2_with fail
  refine wp_region_held_drew (S := Below w1.heap.size w1) (by kernel_rfl) (Below.refl _ _).drew (fun hHeld => ?_)
  refine wpAnyH_take (i := 0) (oi := ⟨some 8, _, _, _, _, _⟩) (v := ?_) rfl (by kernel_rfl) (by kernel_rfl) (by kernel_rfl) (fun _ _ _ h => h) (Or.inl ⟨by rfl, ?_⟩) hHeld ?_
  rotate_left
  · intro w hSw
    go_simp
    try with_reducible rfl
  try simp only [Act.put, List.setIfInBounds_toArray, List.set_cons_zero, List.set_cons_succ]
  refine wpAnyH_take (i := 1) (oi := ⟨some 9, _, _, _, _, _⟩) (v := ?_) rfl (by kernel_rfl) (by kernel_rfl) (by kernel_rfl) (fun _ _ _ h => h) (Or.inl ⟨by rfl, ?_⟩) hHeld ?_
  rotate_left
  · intro w hSw
    go_simp
    try with_reducible rfl
  try simp only [Act.put, List.setIfInBounds_toArray, List.set_cons_zero, List.set_cons_succ]
  refine wpAnyH_take (i := 2) (oi := ⟨some 10, _, _, _, _, _⟩) (v := ?_) rfl (by kernel_rfl) (by kernel_rfl) (by kernel_rfl) (fun _ _ _ h => h) (Or.inl ⟨by rfl, ?_⟩) hHeld ?_
  rotate_left
  · intro w hSw
    go_simp
    try with_reducible rfl
  try simp only [Act.put, List.setIfInBounds_toArray, List.set_cons_zero, List.set_cons_succ]
  refine wpAnyH_take (i := 3) (oi := ⟨some 11, _, _, _, _, _⟩) (v := ?_) rfl (by kernel_rfl) (by kernel_rfl) (by kernel_rfl) (fun _ _ _ h => h) (Or.inl ⟨by rfl, ?_⟩) hHeld ?_
  rotate_left
  · intro w hSw
    obtain ⟨k0, _, _, k1, _⟩ := H1.out w _ _ (HP1.out.below hSw) (keep_block hSw HX.out)
    go_simp
    try with_reducible rfl
  try simp only [Act.put, List.setIfInBounds_toArray, List.set_cons_zero, List.set_cons_succ]
  refine wpAnyH_take (i := 4) (oi := ⟨some 12, _, _, _, _, _⟩) (v := ?_) rfl (by kernel_rfl) (by kernel_rfl) (by kernel_rfl) (fun _ _ _ h => h) (Or.inl ⟨by rfl, ?_⟩) hHeld ?_
  rotate_left
  · intro w hSw
    go_simp
    try with_reducible rfl
  try simp only [Act.put, List.setIfInBounds_toArray, List.set_cons_zero, List.set_cons_succ]
  refine wpAnyH_take (i := 5) (oi := ⟨some 13, _, _, _, _, _⟩) (v := ?_) rfl (by kernel_rfl) (by kernel_rfl) (by kernel_rfl) (fun _ _ _ h => h) (Or.inl ⟨by rfl, ?_⟩) hHeld ?_
  rotate_left
  · intro w hSw
    go_simp
    try with_reducible rfl
  try simp only [Act.put, List.setIfInBounds_toArray, List.set_cons_zero, List.set_cons_succ]
  refine wpAnyH_take (i := 6) (oi := ⟨some 14, _, _, _, _, _⟩) (v := ?_) rfl (by kernel_rfl) (by kernel_rfl) (by kernel_rfl) (fun _ _ _ h => h) (Or.inl ⟨by rfl, ?_⟩) hHeld ?_
  rotate_left
  · intro w hSw
    obtain ⟨k0, _, _, k1, _⟩ := H1.out w _ _ (HP1.out.below hSw) (keep_block hSw HX.out)
    go_simp
    try with_reducible rfl
  try simp only [Act.put, List.setIfInBounds_toArray, List.set_cons_zero, List.set_cons_succ]
  refine wpAnyH_ready (rs := [7]) (by kernel_rfl) (by simp) ?_
  refine AllReadyH.cons rfl (fun K hK => ?_) AllReadyH.nil
  go_simp
  go_wp2_with (go_at_call 131; go_must (refine (CQ.out _ (HB.out.trans (hHeld.mono HB.out.size))).mono ?_; rintro e w7 ⟨rfl, hB7⟩))
  refine hK.out _ _ (hHeld.trans (hB7.mono hHeld.size)) (fun hHeld => ?_)
  clear hK K
  refine wpAnyH_take (i := 8) (oi := ⟨some 16, _, _, _, _, _⟩) (v := ?_) rfl (by kernel_rfl) (by kernel_rfl) (by kernel_rfl) (fun _ _ _ h => h) (Or.inl ⟨by rfl, ?_⟩) hHeld ?_
  rotate_left
  · intro w hSw
    go_simp
    try with_reducible rfl
  try simp only [Act.put, List.setIfInBounds_toArray, List.set_cons_zero, List.set_cons_succ]
  refine wpAnyH_take (i := 9) (oi := ⟨some 7, _, _, _, _, _⟩) (v := ?_) rfl (by kernel_rfl) (by kernel_rfl) (by kernel_rfl) (fun _ _ _ h => h) (Or.inl ⟨by rfl, ?_⟩) hHeld ?_
  rotate_left
  · intro w hSw
    go_simp
    try with_reducible rfl
  try simp only [Act.put, List.setIfInBounds_toArray, List.set_cons_zero, List.set_cons_succ]
  refine wpAnyH_done (by kernel_rfl) ?_ _
  have HB2 := Lib.hid hHeld
  clear hHeld hB7 HS
  have HX2 := Lib.hid (keep_block HB2.out HX.out)
  have HP2 := Lib.hid (HP1.out.below HB2.out)
  have T2 : Hid (Tur A.tg [3, 4, 5, 6, 7] w w7) := Lib.hid (Tur.of_below (HB.out.trans (HB2.out.mono HB.out.size)))
  have hlim : A.lim ≤ w.heap.size := HLI.out
  have HNI : Hid (∀ {a b : World} {ks : List Nat}, Tur A.tg ks a b → 0 ∉ ks → ∀ {o}, a.heap[w.heap.size]? = some o → b.heap[w.heap.size]? = some o) := Lib.hid fun q h0 o ho => q.keep ho (by rw [HO.out.hi _ hlim]; exact h0)
  clear HB HX HB2 HP1 HP0 hlim
  have HL7 : Hid (∀ w' ks, Tur A.tg ks w7 w' → 1 ∉ ks → 0 ∉ ks → w'.cell? ⟨A.pb, 21, none⟩ = some (.pointer (some ⟨A.st.sb, 0, none⟩)) ∧ (Instr.loadAt 68 (.pointer (some ⟨w.heap.size, 0, none⟩))).run Tryz.prog w' = .ok (.agg x) w') := Lib.hid fun w' ks q h1 h0 =>
    ⟨cells_of_row ((HP2.out.rest q).ptr h1) 21 _ (polC_hi HP2.out 1), pkt_load (HNI.out q h0 HX2.out) HPK.out⟩
  go_wp2_with fail
  refine wp_region_held_drew (S := Tur A.tg [3] w7) (by kernel_rfl) (Tur.refl _ _ _).drew (fun hHeld => ?_)
  refine wpAnyH_take (i := 0) (oi := ⟨some 18, _, _, _, _, _⟩) (v := ?_) rfl (by kernel_rfl) (by kernel_rfl) (by kernel_rfl) (fun _ _ _ h => h) (Or.inl ⟨by rfl, ?_⟩) hHeld ?_
  rotate_left
  · intro w hSw
    go_simp
    try with_reducible rfl
  try simp only [Act.put, List.setIfInBounds_toArray, List.set_cons_zero, List.set_cons_succ]
  refine wpAnyH_take (i := 1) (oi := ⟨some 19, _, _, _, _, _⟩) (v := ?_) rfl (by kernel_rfl) (by kernel_rfl) (by kernel_rfl) (fun _ _ _ h => h) (Or.inl ⟨by rfl, ?_⟩) hHeld ?_
  rotate_left
  · intro w hSw
    go_simp
    try with_reducible rfl
  try simp only [Act.put, List.setIfInBounds_toArray, List.set_cons_zero, List.set_cons_succ]
  refine wpAnyH_take (i := 2) (oi := ⟨some 20, _, _, _, _, _⟩) (v := ?_) rfl (by kernel_rfl) (by kernel_rfl) (by kernel_rfl) (fun _ _ _ h => h) (Or.inl ⟨by rfl, ?_⟩) hHeld ?_
  rotate_left
  · intro w hSw
    go_simp
    try with_reducible rfl
  try simp only [Act.put, List.setIfInBounds_toArray, List.set_cons_zero, List.set_cons_succ]
  refine wpAnyH_take (i := 3) (oi := ⟨some 21, _, _, _, _, _⟩) (v := ?_) rfl (by kernel_rfl) (by kernel_rfl) (by kernel_rfl) (fun _ _ _ h => h) (Or.inl ⟨by rfl, ?_⟩) hHeld ?_
  rotate_left
  · intro w hSw
    obtain ⟨k0, k1⟩ := HL7.out w _ hSw (by decide) (by decide)
    go_simp
    try with_reducible rfl
  try simp only [Act.put, List.setIfInBounds_toArray, List.set_cons_zero, List.set_cons_succ]
  refine wpAnyH_take (i := 4) (oi := ⟨some 22, _, _, _, _, _⟩) (v := ?_) rfl (by kernel_rfl) (by kernel_rfl) (by kernel_rfl) (fun _ _ _ h => h) (Or.inl ⟨by rfl, ?_⟩) hHeld ?_
  rotate_left
  · intro w hSw
    go_simp
    try with_reducible rfl
  try simp only [Act.put, List.setIfInBounds_toArray, List.set_cons_zero, List.set_cons_succ]
  refine wpAnyH_take (i := 5) (oi := ⟨some 23, _, _, _, _, _⟩) (v := .agg x) rfl (by kernel_rfl) (by kernel_rfl) (by kernel_rfl) (fun _ _ _ h => h) (Or.inl ⟨by rfl, fun w hSw => exec_load rfl (HL7.out w _ hSw (by decide) (by decide)).2⟩) hHeld ?_
  try simp only [Act.put, List.setIfInBounds_toArray, List.set_cons_zero, List.set_cons_succ]
  refine wpAnyH_ready (rs := [6]) (by kernel_rfl) (by simp) ?_
  refine AllReadyH.cons rfl (fun K hK => ?_) AllReadyH.nil
  go_simp
  go_wp2_with (go_at_call 99; go_must (refine (CS.out _ HP2.out.drew).mono ?_; rintro e w6 ⟨rfl, hP6, hT6⟩))
  refine hK.out _ _ (hHeld.trans hT6) (fun hHeld => ?_)
  clear hK K
  refine wpAnyH_take (i := 7) (oi := ⟨some 25, _, _, _, _, _⟩) (v := ?_) rfl (by kernel_rfl) (by kernel_rfl) (by kernel_rfl) (fun _ _ _ h => h) (Or.inl ⟨by rfl, ?_⟩) hHeld ?_
  rotate_left
  · intro w hSw
    go_simp
    try with_reducible rfl
  try simp only [Act.put, List.setIfInBounds_toArray, List.set_cons_zero, List.set_cons_succ]
  refine wpAnyH_take (i := 8) (oi := ⟨some 17, _, _, _, _, _⟩) (v := ?_) rfl (by kernel_rfl) (by kernel_rfl) (by kernel_rfl) (fun _ _ _ h => h) (Or.inl ⟨by rfl, ?_⟩) hHeld ?_
  rotate_left
  · intro w hSw
    go_simp
    try with_reducible rfl
  try simp only [Act.put, List.setIfInBounds_toArray, List.set_cons_zero, List.set_cons_succ]
  refine wpAnyH_done (by kernel_rfl) ?_ _
  have HP3 := Lib.hid hP6
  have HX3 := Lib.hid (HNI.out hHeld (by decide) HX2.out)
  have T3 : Hid (Tur A.tg [3, 4, 5, 6, 7] w w6) := Lib.hid (T2.out.trans (hHeld.sub (by simp)))
  clear hHeld hP6 hT6 HL7 HX2 HP2 T2 CS CQ
  have HL8 : Hid (∀ w' ks, Tur A.tg ks w6 w' → 1 ∉ ks → 0 ∉ ks → w'.cell? ⟨A.pb, 22, none⟩ = some (.pointer (some ⟨A.qb, 0, none⟩)) ∧ w'.cell? ⟨w.heap.size, 45, none⟩ = some (.int .i64 n)) := Lib.hid fun w' ks q h1 h0 =>
    ⟨cells_of_row ((HP3.out.rest q).ptr h1) 22 _ (polC_hi HP3.out 2), cells_of_row (HNI.out q h0 HX3.out) 45 _ HL.out⟩
  go_wp2_with fail
  refine wp_region_held_drew (S := Tur A.tg [4] w6) (by kernel_rfl) (Tur.refl _ _ _).drew (fun hHeld => ?_)
  refine wpAnyH_take (i := 0) (oi := ⟨some 26, _, _, _, _, _⟩) (v := ?_) rfl (by kernel_rfl) (by kernel_rfl) (by kernel_rfl) (fun _ _ _ h => h) (Or.inl ⟨by rfl, ?_⟩) hHeld ?_
  rotate_left
  · intro w hSw
    go_simp
    try with_reducible rfl
  try simp only [Act.put, List.setIfInBounds_toArray, List.set_cons_zero, List.set_cons_succ]
  refine wpAnyH_take (i := 1) (oi := ⟨some 27, _, _, _, _, _⟩) (v := ?_) rfl (by kernel_rfl) (by kernel_rfl) (by kernel_rfl) (fun _ _ _ h => h) (Or.inl ⟨by rfl, ?_⟩) hHeld ?_
  rotate_left
  · intro w hSw
    go_simp
    try with_reducible rfl
  try simp only [Act.put, List.setIfInBounds_toArray, List.set_cons_zero, List.set_cons_succ]
  refine wpAnyH_take (i := 2) (oi := ⟨some 28, _, _, _, _, _⟩) (v := ?_) rfl (by kernel_rfl) (by kernel_rfl) (by kernel_rfl) (fun _ _ _ h => h) (Or.inl ⟨by rfl, ?_⟩) hHeld ?_
  rotate_left
  · intro w hSw
    go_simp
    try with_reducible rfl
  try simp only [Act.put, List.setIfInBounds_toArray, List.set_cons_zero, List.set_cons_succ]
  refine wpAnyH_take (i := 3) (oi := ⟨some 29, _, _, _, _, _⟩) (v := ?_) rfl (by kernel_rfl) (by kernel_rfl) (by kernel_rfl) (fun _ _ _ h => h) (Or.inl ⟨by rfl, ?_⟩) hHeld ?_
  rotate_left
  · intro w hSw
    obtain ⟨k0, k1⟩ := HL8.out w _ hSw (by decide) (by decide)
    go_simp
    try with_reducible rfl
  try simp only [Act.put, List.setIfInBounds_toArray, List.set_cons_zero, List.set_cons_succ]
  refine wpAnyH_take (i := 4) (oi := ⟨some 30, _, _, _, _, _⟩) (v := ?_) rfl (by kernel_rfl) (by kernel_rfl) (by kernel_rfl) (fun _ _ _ h => h) (Or.inl ⟨by rfl, ?_⟩) hHeld ?_
  rotate_left
  · intro w hSw
    go_simp
    try with_reducible rfl
  try simp only [Act.put, List.setIfInBounds_toArray, List.set_cons_zero, List.set_cons_succ]
  refine wpAnyH_take (i := 5) (oi := ⟨some 31, _, _, _, _, _⟩) (v := ?_) rfl (by kernel_rfl) (by kernel_rfl) (by kernel_rfl) (fun _ _ _ h => h) (Or.inl ⟨by rfl, ?_⟩) hHeld ?_
  rotate_left
  · intro w hSw
    go_simp
    try with_reducible rfl
  try simp only [Act.put, List.setIfInBounds_toArray, List.set_cons_zero, List.set_cons_succ]
  refine wpAnyH_take (i := 6) (oi := ⟨some 32, _, _, _, _, _⟩) (v := ?_) rfl (by kernel_rfl) (by kernel_rfl) (by kernel_rfl) (fun _ _ _ h => h) (Or.inl ⟨by rfl, ?_⟩) hHeld ?_
  rotate_left
  · intro w hSw
    obtain ⟨k0, k1⟩ := HL8.out w _ hSw (by decide) (by decide)
    go_simp
    try with_reducible rfl
  try simp only [Act.put, List.setIfInBounds_toArray, List.set_cons_zero, List.set_cons_succ]
  refine wpAnyH_ready (rs := [7]) (by kernel_rfl) (by simp) ?_
  refine AllReadyH.cons rfl (fun K hK => ?_) AllReadyH.nil
  go_simp
  go_wp2_with (go_at_call 132; go_must (refine (CA.out _ HP3.out.drew).mono ?_; rintro e w7 ⟨rfl, hP7, hT7⟩))
  refine hK.out _ _ (hHeld.trans hT7) (fun hHeld => ?_)
  clear hK K
  refine wpAnyH_done (by kernel_rfl) ?_ _
  have HP4 := Lib.hid hP7
  have HX4 := Lib.hid (HNI.out hHeld (by decide) HX3.out)
  have T4 : Hid (Tur A.tg [3, 4, 5, 6, 7] w w7) := Lib.hid (T3.out.trans (hHeld.sub (by simp)))
  clear hHeld hP7 hT7 HL8 HX3 HP3 T3 CA
  have hld := pkt_load HX4.out HPK.out
  go_wp2_with ((with_reducible refine arm_loadg 36 5 68 (.pointer (some ⟨w.heap.size, 0, none⟩)) (.agg x) hld ?_ ?_ ?_); rfl; rfl)
  refine (CN.out _ HP4.out).mono ?_
  rintro e w8 ⟨rfl, hP8, hT8⟩
  have HP5 := Lib.hid hP8
  have T5 : Hid (Tur A.tg [3, 4, 5, 6, 7] w w8) := Lib.hid (T4.out.trans (hT8.sub (by simp)))
  have k3 := hP8.c23
  clear hP8 hT8 hld HX4 T4 HP4 CN
  go_wp2_with fail
  refine (CW.out _ HP5.out).mono ?_
  rintro e w9 ⟨⟨_, rfl⟩, hP9, hT9⟩
  have HP6 := Lib.hid hP9
  have T6 : Hid (Tur A.tg [3, 4, 5, 6, 7] w w9) := Lib.hid (T5.out.trans (hT9.sub (by simp)))
  clear hP9 hT9 T5 HP5 k3 CW
  go_wp2
  go_ret
  exact ⟨rfl, HP6.out, T6.out⟩
end
end Go.Proofs.YtpanmfdbdgecaaaGreat.C

namespace Go.Proofs.YtpanmfdbdgecaaaGreat.C
open Go.RowKit
set_option linter.unusedVariables false
theorem Tur.trans2 {f g : Nat → Nat} {ks : List Nat} {a b c : World} (p : Tur f ks a b) (q : Tur g ks b c) (h : ∀ k, k < a.heap.size → g k = f k) : Tur f ks a c :=
  ⟨q.os.trans p.os, q.tape.trans p.tape, q.output.trans p.output, Nat.le_trans p.size q.size, fun k hk hn => (q.block k (Nat.lt_of_lt_of_le hk p.size) (by rw [h k hk]; exact hn)).trans (p.block k hk hn)⟩
/-- A packet of a prefix, so long. -/
structure PkP (x : Array Value) (n : Int) (p : Array Value) : Prop where
  l : PkL x n
  pre : x.extract 37 (37 + 8) = p
theorem PkP.load {x p : Array Value} {n : Int} (h : PkP x n p) (hp : p.size = 8) {w : World} {b : Nat} {t : TypeId} (hb : w.heap[b]? = some (.cells x t (0, 0))) : (Instr.loadAt 65 (.pointer (some ⟨b, 37, none⟩))).run Tryz.prog w = .ok (.agg p) w :=
  box_load_mid (t := 65) hb (of_extract h.pre) _ Tryz.underlying65 rfl (by rw [hp]; kernel_rfl)
section
variable {w : World} {A : PAd} {F : PCf} {S S1 S2 : PSt}
end
end Go.Proofs.YtpanmfdbdgecaaaGreat.C

namespace Go.Proofs.YtpanmfdbdgecaaaGreat.C
open Go.RowKit
set_option linter.unusedVariables false
theorem calls_hide {P : Program} {f : Nat} {args : Array Value} {w : World} {R : Ending → World → Prop} (h : ∀ Q : Ending → World → Prop, Hid (∀ e w', R e w' → Q e w') → Calls P f args w Q) : Calls P f args w R := h R (Lib.hid fun _ _ x => x)
def exc (f : Nat → Nat) (b t : Nat) : Nat → Nat := fun k => if k = b then t else f k
theorem exc_ne {f : Nat → Nat} {b t k : Nat} (h : k ≠ b) : exc f b t k = f k := if_neg h
theorem Tur.exc {f : Nat → Nat} {ks : List Nat} {a c : World} (p : Tur f ks a c) {b t : Nat} (ht : t ∈ ks) : Tur (exc f b t) ks a c := ⟨p.os, p.tape, p.output, p.size, fun k hk hn => p.block k hk (fun hm => hn (by
  unfold C.exc
  split
  · exact ht
  · exact hm))⟩
theorem Tur.set {f : Nat → Nat} {ks : List Nat} {a c : World} {b j t : Nat} {v : Value} (p : Tur (C.exc f b t) ks a c) (ht : t ∈ ks) : Tur (C.exc f b t) ks a (c.setCell ⟨b, j, none⟩ v) := p.trans (Tur.of_two (Two.setCell (g := b) (h := b) (x := ⟨b, j, none⟩) (Two.refl _ _ c) (.inl rfl) v) (by simpa [C.exc] using ht) (by simpa [C.exc] using ht))
section
variable {w : World} {A : PAd} {F : PCf} {S S1 S2 : PSt}
/-- The packet with its number. -/
def seqX (x : Array Value) (a : Int) : Array Value := x.setIfInBounds 0 (.int .i64 a)
theorem PkP.seq {x p : Array Value} {n : Int} (h : PkP x n p) (a : Int) : PkP (seqX x a) n p := by
  refine ⟨⟨⟨?_, ?_⟩, ?_⟩, ?_⟩
  · rw [seqX, Array.size_setIfInBounds]
    exact h.l.pk.size
  · have ho := h.l.pk.one
    rw [Array.all_eq_true] at ho ⊢
    intro i hi
    rw [seqX, Array.size_setIfInBounds] at hi
    simp only [seqX, Array.getElem_setIfInBounds hi]
    split
    · rfl
    · exact ho i hi
  · rw [seqX, Array.getElem?_setIfInBounds_ne (by omega)]
    exact h.l.len
  · rw [← h.pre]
    apply Array.ext_getElem?
    intro i
    have hs := h.l.pk.size
    rw [Array.getElem?_extract, Array.getElem?_extract, seqX, Array.size_setIfInBounds]
    split
    · rw [Array.getElem?_setIfInBounds_ne (by omega)]
    · rfl
theorem PkP.c0 {x p : Array Value} {n : Int} (h : PkP x n p) (a : Int) : (seqX x a)[0]? = some (.int .i64 a) := by
  have hs := h.l.pk.size
  rw [seqX, Array.getElem?_setIfInBounds_self_of_lt (by omega)]
def VZ : Array Value := #[.int .i64 0, .int .i64 0, .int .i64 0, .int .i64 0, .bool false, .bool false]
theorem vz_zero : (Tryz.prog.info? 35).map (fun i => (i.zero, i.size)) = some (some (.agg VZ), 6) := by kernel_rfl
end
end Go.Proofs.YtpanmfdbdgecaaaGreat.C

namespace Go.Proofs.YtpanmfdbdgecaaaGreat.C
open Go.RowKit
set_option linter.unusedVariables false
theorem make_qrow (n : Nat) (hn : n ≤ 65536) (W : World) : (Instr.makeSlice 69 (.int .i64 (n : Int)) (.int .i64 (n : Int))).run Tryz.prog W = .ok (.slice (some ⟨W.heap.size, 0, none⟩) n n) (W.alloc (.cells (List.replicate n (Value.int .i64 0)).toArray 2)) := by
  obtain ⟨i0, hi, hz0, hz1, hz2⟩ := info_parts (show (Tryz.prog.info? 2).map (fun i => (i.zero, i.size, i.bytes)) = some (some (.int .i64 0), 1, 8) by kernel_rfl)
  have hr := run_make (P := Tryz.prog) W 69 2 i0 (.int .i64 0) Tryz.underlying69 hi hz0 .i64 .i64 n n (by omega) (by omega) (by rw [hz2]; omega) (by omega)
  simp only [Int.toNat_natCast] at hr
  rw [hr, hz1, Nat.mul_one]
  have e : madeCells (Value.int .i64 0).cells n = (List.replicate n (Value.int .i64 0)).toArray := by
    apply Array.toList_inj.1
    show (madeCells #[Value.int .i64 0] n).toList = _
    rw [toList_madeCells_one]
  rw [e]
theorem quota_new (n : Nat) (r m : Int) (w : World) (h1 : 1 ≤ n) (h2 : n ≤ 129) (hr : 0 ≤ r ∧ r ≤ 1073741824) (hm : 0 ≤ m ∧ m ≤ 1073741824) :
    Calls Tryz.prog 61 #[.int .i64 (n : Nat), .int .i64 r, .int .i64 m] w fun e w' => ∃ pb b, e = .returned (.tuple #[.pointer (some ⟨pb, 0, none⟩), .int .i64 0]) ∧ (w.heap.size ≤ pb ∧ w.heap.size ≤ b) ∧ QU.QAt w' pb b r m 0 (List.replicate n 0) ∧ Below w.heap.size w w' := by
  have hmk := make_qrow n (by omega)
  have he : (List.replicate n (Value.int .i64 0)).toArray = QU.ints (List.replicate n 0) := by simp [QU.ints]
  have hl : (List.replicate n (0 : Int)).length = n := by simp
  obtain ⟨hr0, hr1⟩ := hr
  obtain ⟨hm0, hm1⟩ := hm
  rw [he] at hmk
  generalize List.replicate n (0 : Int) = l at *
  have HLL := Lib.hid hl
  clear he hl
  obtain ⟨C, hC⟩ : ∃ z, QU.ints l = z := ⟨_, rfl⟩
  rw [hC] at hmk
  have HC := Lib.hid hC
  clear hC
  refine calls_hide fun Q HQ => ?_
  go_enter Tryz.func61, Tryz.ntmps61
  go_wp2
  refine HQ.out _ _ ⟨w.heap.size + 1, w.heap.size, rfl, ⟨by omega, Nat.le_refl _⟩, ⟨?_, ?_⟩, ((Below.refl _ _).alloc (Nat.le_refl _) _).alloc (by simp) _⟩
  · rw [HLL.out]
    have := Go.heap_alloc_new (w.alloc (.cells C 2)) (.cells #[.int .i64 r, .int .i64 m, .int .i64 0, .slice (some ⟨w.heap.size, 0, none⟩) n n] 255)
    simpa using this
  · rw [Go.heap_alloc_old _ _ (by simp), HC.out]
    exact Go.heap_alloc_new _ _
/-- The police's block while it is made. -/
def polA (cv : Array Value) (vs : List Value) : Array Value := cv ++ vs.toArray
def fp (pb : Nat) : Nat → Nat := fun k => if k = pb then 1 else 0
theorem fp_ne {pb k : Nat} (h : k ≠ pb) : fp pb k ∉ [1] := by
  unfold fp
  rw [if_neg h]
  decide
theorem polA_at {cv : Array Value} {vs : List Value} (hs : cv.size = 20) (i : Nat) : (polA cv vs)[20 + i]? = vs[i]? := by
  rw [polA, Array.getElem?_append_right (by omega), hs, Nat.add_sub_cancel_left, List.getElem?_toArray]
theorem par_cell {w : World} {pb : Nat} {cv : Array Value} {vs : List Value} (h : w.heap[pb]? = some (.cells (polA cv vs) 142 (0, 0))) (hs : cv.size = 20) (j i : Nat) (hj : j = 20 + i) (v : Value) (hv : vs[i]? = some v) : w.cell? ⟨pb, j, none⟩ = some v := by
  subst hj
  exact cells_of_row h _ _ (by rw [polA_at hs]; exact hv)
theorem par_set {w : World} {pb : Nat} {cv : Array Value} {vs : List Value} (h : w.heap[pb]? = some (.cells (polA cv vs) 142 (0, 0))) (hs : cv.size = 20) (j i : Nat) (hj : j = 20 + i) (v : Value) : (w.setCell ⟨pb, j, none⟩ v).heap[pb]? = some (.cells (polA cv (vs.set i v)) 142 (0, 0)) ∧ Tur (fp pb) [1] w (w.setCell ⟨pb, j, none⟩ v) := by
  subst hj
  refine ⟨?_, Tur.of_two (Two.setCell (g := pb) (h := pb) (x := ⟨pb, 20 + i, none⟩) (Two.refl _ _ w) (.inl rfl) v) (by simp [fp]) (by simp [fp])⟩
  rw [heap_setCell_same _ _ _ _ _ _ h, polA, Array.setIfInBounds_append_right (by omega), hs]
  simp [polA]
theorem cfg_cells {cv : Array Value} {c : Nat → Int} (h : Cfg cv c) : cv = #[.int .i64 (c 0), .int .i64 (c 1), .int .i64 (c 2), .int .i64 (c 3), .int .i64 (c 4), .int .i64 (c 5), .int .i64 (c 6), .int .i64 (c 7), .int .i64 (c 8), .int .i64 (c 9), .int .i64 (c 10), .int .i64 (c 11), .int .i64 (c 12), .int .i64 (c 13), .int .i64 (c 14), .int .i64 (c 15), .int .i64 (c 16), .int .i64 (c 17), .int .i64 (c 18), .int .i64 (c 19)] := by
  apply Array.ext_getElem?
  intro i
  by_cases hi : i < 20
  · rw [h.at_ i hi]
    rcases (show i = 0 ∨ i = 1 ∨ i = 2 ∨ i = 3 ∨ i = 4 ∨ i = 5 ∨ i = 6 ∨ i = 7 ∨ i = 8 ∨ i = 9 ∨ i = 10 ∨ i = 11 ∨ i = 12 ∨ i = 13 ∨ i = 14 ∨ i = 15 ∨ i = 16 ∨ i = 17 ∨ i = 18 ∨ i = 19 by omega) with rfl | rfl | rfl | rfl | rfl | rfl | rfl | rfl | rfl | rfl | rfl | rfl | rfl | rfl | rfl | rfl | rfl | rfl | rfl | rfl <;> rfl
  · rw [Array.getElem?_eq_none (by have := h.size; omega), Array.getElem?_eq_none (by simp; omega)]
def nils : List Value := [.pointer none, .pointer none, .pointer none, .pointer none, .pointer none, .pointer none, .pointer none, .pointer none, .int .i64 0]
theorem build_pol {cv : Array Value} {c : Nat → Int} (h : Cfg cv c) (w : World) : (Instr.build 142 #[(0, .agg cv)]).run Tryz.prog w = .ok (.agg (polA cv nils)) w := by
  rw [cfg_cells h]
  exact run_build w 142 _ _ (by kernel_rfl)
section
variable {P : Program} {ops : Array Oper} {a : Act} {w : World} {K : Act → World → Prop} {Q : Exit → Act → World → Prop} {E : Prop} {ty : TypeId} {pos : String} {after : Array Edge}
theorem step_box (d s : Nat) (t : TypeId) (x : Array Value) (hx : a.tmps.getD s undef = .agg x)
    (h : ∀ W, Hid (Below w.heap.size w W) → Hid (W.heap[w.heap.size]? = some (.cells x t (0, 0))) → Hid (W.heap.size = w.heap.size + 1) → K (a.put (some d) (.pointer (some ⟨w.heap.size, 0, none⟩))) W) :
    if Region.wanted ⟨some d, .box t (.tmp s), ty, pos, after, none⟩ (yielded ops a.tmps) = true then Oper.wp P ⟨some d, .box t (.tmp s), ty, pos, after, none⟩ a w K Q else E := by
  rw [if_pos (by simp [Region.wanted])]
  unfold Oper.wp execOp
  simp only [hx, Instr.box, newVar, Value.cells, Sem.run_bind, Sem.run_pure, Result.andThen_ok, go_sem]
  exact h _ (Lib.hid ((Below.refl _ _).alloc (Nat.le_refl _) _)) (Lib.hid (Go.heap_alloc_new _ _)) (Lib.hid (by simp))
end
end Go.Proofs.YtpanmfdbdgecaaaGreat.C
