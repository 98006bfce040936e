/- The police: the first in the penalty class leaves. · The store: Head. · The police: Next, where only those in the box wait. · The pacer: Free, Send. · The scheduler: Free, Poll. · The engine: Poll. -/
import Derived.Test.YtpanmfdbdgecaaaGreatK17
namespace Go.Proofs.YtpanmfdbdgecaaaGreat.C
open Go.RowKit
set_option linter.unusedVariables false
/-- What the police has when the first in the penalty class has left. -/
def leftS (F : PCf) (S : PSt) (n : Int) (l : List (Array Value)) : PSt :=
  { S with L := S.L.set (penC F) l, sh := QU.subS (F.c 9) S.sh S.ql (penC F : Nat) n, ql := QU.subL S.ql (penC F : Nat) n, tl := if l = [] then S.tl.set (penC F) ⟨false, false, 0⟩ else S.tl, line := if l = [] then [] else S.line }
section
variable {w : World} {A : PAd} {F : PCf} {S : PSt}
set_option maxRecDepth 100000 in
set_option maxHeartbeats 2000000 in
theorem leave_pen (n : Int) (x : Array Value) (l : List (Array Value)) (y : Tcl) (h : Pol w A F S) (hx : PkL x n) (hn : 1 ≤ n ∧ n ≤ 9216) (hl : S.L[penC F]? = some (x :: l)) (hok : QU.QOk (F.c 9) (F.c 10) S.sh S.ql) (htl : S.tl.length ≤ 129) (hy : S.tl[penC F]? = some y) (ya : y.awake = true) (hline : S.line = [penC F]) :
    Calls Tryz.prog 79 #[.pointer (some ⟨A.pb, 0, none⟩), .int .i64 (penC F : Nat), .int .i64 0] w fun e w' => e = .returned (.tuple #[.agg x, .bool true]) ∧ Pol w' A F (leftS F S n l) ∧ Tur A.tg [3, 4, 5] w w' := by
  have hpc : (2 * F.c 0 : Int) = (penC F : Nat) := by have := h.pen; unfold penC; omega
  have hlt := lt_of_some hl
  have HO := Lib.hid h.ok
  have HL := Lib.hid hx.len
  have HPK := Lib.hid hx.pk
  have HLI := Lib.hid h.lim
  have CS : Hid (∀ w', Pol w' A F S → Calls Tryz.prog 136 #[.pointer (some ⟨A.st.sb, 0, none⟩), .int .i64 (penC F : Nat), .int .i64 0] w' fun e w'' => e = .returned (.tuple #[.agg x, .bool true]) ∧ Pol w'' A F { S with L := S.L.set (penC F) l } ∧ Tur A.tg [3] w' w'') := Lib.hid fun w' q => by
    refine (st_cut_yes (penC F) 0 n x (x :: l) q.sto hx.len hl rfl).mono ?_
    rintro e w'' ⟨rfl, hS, hA⟩
    have hT : Tur A.tg [3] w' w'' := Tur.of_amg hA (fun k hk => by
      have : k ∈ A.st.sb :: A.st.pb :: A.st.bs := List.mem_cons_of_mem _ (List.mem_cons_of_mem _ hk)
      rw [q.ok.st k this]
      simp)
    exact ⟨rfl, (q.rest hT).setSto hS, hT⟩
  have CU : Hid (∀ w', Pol w' A F { S with L := S.L.set (penC F) l } → Calls Tryz.prog 137 #[.pointer (some ⟨A.qb, 0, none⟩), .int .i64 (penC F : Nat), .int .i64 n] w' fun e w'' => (∃ b, e = .returned (.bool b)) ∧ Pol w'' A F { S with L := S.L.set (penC F) l, sh := QU.subS (F.c 9) S.sh S.ql (penC F : Nat) n, ql := QU.subL S.ql (penC F : Nat) n } ∧ Tur A.tg [4] w' w'') := Lib.hid fun w' q => by
    refine (QU.sub_any A.qb A.qr (F.c 9) (F.c 10) S.sh (penC F : Nat) n S.ql w' q.q hok (by omega) (by omega)).mono ?_
    rintro e w'' ⟨rfl, hS, hA⟩
    have hT : Tur A.tg [4] w' w'' := Tur.of_two hA (by simp [q.ok.q.1]) (by simp [q.ok.q.2])
    exact ⟨⟨_, rfl⟩, (q.rest hT).setQ hS, hT⟩
  have CN : Hid (∀ w', Pol w' A F { S with L := S.L.set (penC F) l, sh := QU.subS (F.c 9) S.sh S.ql (penC F : Nat) n, ql := QU.subL S.ql (penC F : Nat) n } → Calls Tryz.prog 133 #[.pointer (some ⟨A.pb, 0, none⟩), .int .i64 (penC F : Nat), .agg x, .bool false] w' fun e w'' => e = .returned (.tuple #[]) ∧ Below w'.heap.size w' w'') := Lib.hid fun w' q => by
    rw [← hpc]
    exact count_pen x hx.pk q false
  have CE : Hid (∀ w', Pol w' A F { S with L := S.L.set (penC F) l, sh := QU.subS (F.c 9) S.sh S.ql (penC F : Nat) n, ql := QU.subL S.ql (penC F : Nat) n } → Calls Tryz.prog 43 #[.pointer (some ⟨A.st.sb, 0, none⟩), .int .i64 (penC F : Nat)] w' fun e w'' => e = .returned (.int .i64 (l.length : Nat)) ∧ w'' = w') := Lib.hid fun w' q => st_len (penC F) l q.sto (List.getElem?_set_self hlt)
  have CZ : Hid (l = [] → ∀ w', Pol w' A F { S with L := S.L.set (penC F) l, sh := QU.subS (F.c 9) S.sh S.ql (penC F : Nat) n, ql := QU.subL S.ql (penC F : Nat) n } → Calls Tryz.prog 103 #[.pointer (some ⟨A.tb, 0, none⟩), .int .i64 (penC F : Nat)] w' fun e w'' => e = .returned (.bool true) ∧ Pol w'' A F (leftS F S n l) ∧ Tur A.tg [5] w' w'') := Lib.hid fun hl0 w' q => by
    have hq := q.tn
    refine (sleep_one (penC F) y (by rw [← hline]; exact hq) htl hy ya).mono ?_
    rintro e w'' ⟨rfl, hS, hA⟩
    have hT : Tur A.tg [5] w' w'' := Tur.of_amg hA (fun k hk => by
      obtain ⟨t1, t2, t3⟩ := q.ok.t
      simp only [List.mem_cons, List.not_mem_nil, or_false] at hk
      rcases hk with rfl | rfl | rfl <;> simp [t1, t2, t3])
    have := (q.rest hT).setT hS
    refine ⟨rfl, ?_, hT⟩
    unfold leftS
    rw [if_pos hl0, if_pos hl0]
    exact this
  have HEQ : Hid (l ≠ [] → leftS F S n l = { S with L := S.L.set (penC F) l, sh := QU.subS (F.c 9) S.sh S.ql (penC F : Nat) n, ql := QU.subL S.ql (penC F : Nat) n }) := Lib.hid fun h0 => by
    unfold leftS
    rw [if_neg h0, if_neg h0]
  have HP0 := Lib.hid h
  clear h hok hx hl hy htl hline hn hpc hlt
  generalize leftS F S n l = S4 at *
  generalize { S with L := S.L.set (penC F) l, sh := QU.subS (F.c 9) S.sh S.ql (penC F : Nat) n, ql := QU.subL S.ql (penC F : Nat) n } = S3 at *
  generalize { S with L := S.L.set (penC F) l } = S2 at *
  generalize penC F = pc at *
  go_enter Tryz.func79, Tryz.ntmps79
  go_upto_region 1 with ((with_reducible refine arm_alloc 6 68 PZ 46 pz_zero ?_); intro w1 HB HX HS)
  have HP1 := Lib.hid (HP0.out.below HB.out)
  have hlim : A.lim ≤ w.heap.size := HLI.out
  have HNI : Hid (∀ {a b : World} {ks : List Nat}, Tur A.tg ks a b → 0 ∉ ks → ∀ {k : Nat}, w.heap.size ≤ k → ∀ {o}, a.heap[k]? = some o → b.heap[k]? = some o) := Lib.hid fun q h0 k hk o ho => q.keep ho (by rw [HO.out.hi _ (Nat.le_trans hlim hk)]; exact h0)
  have k1 := HP1.out.c21
  clear hlim
  go_wp2_with fail
  refine (CS.out _ HP1.out).mono ?_
  rintro e w2 ⟨rfl, hP2, hT2⟩
  have HP2 := Lib.hid hP2
  have HX2 := Lib.hid (HNI.out hT2 (by decide) (Nat.le_refl _) HX.out)
  have T2 : Hid (Tur A.tg [3, 4, 5] w w2) := Lib.hid ((Tur.of_below HB.out).trans (hT2.sub (by simp)))
  have HS2 := Lib.hid (Nat.le_trans HB.out.size hT2.size)
  clear hP2 hT2 k1 CS HP1 HP0 HX HB HS
  go_upto_region 4 with (first
    | ((with_reducible refine arm_alloc 8 68 PZ 46 pz_zero ?_); intro w3 HB HX HS; have hst := pkt_store HX.out HPK.out)
    | ((with_reducible refine arm_store 8 18 68 (.pointer (some ⟨w2.heap.size, 0, none⟩)) (.agg x) _ hst ?_ ?_ ?_); rfl; rfl))
  have hX4 := box_whole HX.out (cs := x) HPK.out.size
  have hB4 := below_setCells (b := w2.heap.size) (Nat.le_refl _) x.toList 0 HB.out
  have hvl : w2.heap.size < (w3.setCells w2.heap.size 0 x.toList).heap.size := (Array.getElem?_eq_some_iff.1 hX4).1
  clear hst HX HB HS
  generalize w3.setCells w2.heap.size 0 x.toList = w4 at *
  have HP4 := Lib.hid (HP2.out.below hB4)
  have HR4 := Lib.hid (keep_block hB4 HX2.out)
  have T4 : Hid (Tur A.tg [3, 4, 5] w w4) := Lib.hid (T2.out.trans (Tur.of_below hB4))
  obtain ⟨vb, hvb⟩ : ∃ v, v = w2.heap.size := ⟨_, rfl⟩
  rw [← hvb] at hX4 hB4 hvl ⊢
  have HVB := Lib.hid (show w.heap.size ≤ vb from hvb ▸ HS2.out)
  have HX4 := Lib.hid hX4
  clear hX4 hB4 hvl hvb HP2 HX2 T2 HS2
  have HL4 : Hid (∀ w' ks, Tur A.tg ks w4 w' → 1 ∉ ks → 0 ∉ ks → w'.cell? ⟨A.pb, 22, none⟩ = some (.pointer (some ⟨A.qb, 0, none⟩)) ∧ w'.cell? ⟨vb, 45, none⟩ = some (.int .i64 n)) := Lib.hid fun w' ks q h1 h0 =>
    ⟨cells_of_row ((HP4.out.rest q).ptr h1) 22 _ (polC_hi HP4.out 2), cells_of_row (HNI.out q h0 HVB.out HX4.out) 45 _ HL.out⟩
  refine wp_region_held_drew (S := Tur A.tg [4] w4) (by kernel_rfl) (Tur.refl _ _ _).drew (fun hHeld => ?_)
  refine wpAnyH_take (i := 0) (oi := ⟨some 23, _, _, _, _, _⟩) (v := ?_) rfl (by kernel_rfl) (by kernel_rfl) (by kernel_rfl) (fun _ _ _ h => h) (Or.inl ⟨by rfl, ?_⟩) hHeld ?_
  rotate_left
  · intro w hSw
    go_simp
    try with_reducible rfl
  try simp only [Act.put, List.setIfInBounds_toArray, List.set_cons_zero, List.set_cons_succ]
  refine wpAnyH_take (i := 1) (oi := ⟨some 24, _, _, _, _, _⟩) (v := ?_) rfl (by kernel_rfl) (by kernel_rfl) (by kernel_rfl) (fun _ _ _ h => h) (Or.inl ⟨by rfl, ?_⟩) hHeld ?_
  rotate_left
  · intro w hSw
    go_simp
    try with_reducible rfl
  try simp only [Act.put, List.setIfInBounds_toArray, List.set_cons_zero, List.set_cons_succ]
  refine wpAnyH_take (i := 2) (oi := ⟨some 25, _, _, _, _, _⟩) (v := ?_) rfl (by kernel_rfl) (by kernel_rfl) (by kernel_rfl) (fun _ _ _ h => h) (Or.inl ⟨by rfl, ?_⟩) hHeld ?_
  rotate_left
  · intro w hSw
    go_simp
    try with_reducible rfl
  try simp only [Act.put, List.setIfInBounds_toArray, List.set_cons_zero, List.set_cons_succ]
  refine wpAnyH_take (i := 3) (oi := ⟨some 26, _, _, _, _, _⟩) (v := ?_) rfl (by kernel_rfl) (by kernel_rfl) (by kernel_rfl) (fun _ _ _ h => h) (Or.inl ⟨by rfl, ?_⟩) hHeld ?_
  rotate_left
  · intro w hSw
    obtain ⟨k0, k1⟩ := HL4.out w _ hSw (by decide) (by decide)
    go_simp
    try with_reducible rfl
  try simp only [Act.put, List.setIfInBounds_toArray, List.set_cons_zero, List.set_cons_succ]
  refine wpAnyH_take (i := 4) (oi := ⟨some 27, _, _, _, _, _⟩) (v := ?_) rfl (by kernel_rfl) (by kernel_rfl) (by kernel_rfl) (fun _ _ _ h => h) (Or.inl ⟨by rfl, ?_⟩) hHeld ?_
  rotate_left
  · intro w hSw
    go_simp
    try with_reducible rfl
  try simp only [Act.put, List.setIfInBounds_toArray, List.set_cons_zero, List.set_cons_succ]
  refine wpAnyH_take (i := 5) (oi := ⟨some 28, _, _, _, _, _⟩) (v := ?_) rfl (by kernel_rfl) (by kernel_rfl) (by kernel_rfl) (fun _ _ _ h => h) (Or.inl ⟨by rfl, ?_⟩) hHeld ?_
  rotate_left
  · intro w hSw
    go_simp
    try with_reducible rfl
  try simp only [Act.put, List.setIfInBounds_toArray, List.set_cons_zero, List.set_cons_succ]
  refine wpAnyH_take (i := 6) (oi := ⟨some 29, _, _, _, _, _⟩) (v := ?_) rfl (by kernel_rfl) (by kernel_rfl) (by kernel_rfl) (fun _ _ _ h => h) (Or.inl ⟨by rfl, ?_⟩) hHeld ?_
  rotate_left
  · intro w hSw
    obtain ⟨k0, k1⟩ := HL4.out w _ hSw (by decide) (by decide)
    go_simp
    try with_reducible rfl
  try simp only [Act.put, List.setIfInBounds_toArray, List.set_cons_zero, List.set_cons_succ]
  refine wpAnyH_ready (rs := [7]) (by kernel_rfl) (by simp) ?_
  refine AllReadyH.cons rfl (fun K hK => ?_) AllReadyH.nil
  go_simp
  go_wp2_with (go_at_call 137; go_must (refine (CU.out _ HP4.out.drew).mono ?_; rintro e w7 ⟨⟨_, rfl⟩, hP7, hT7⟩))
  refine hK.out _ _ (hHeld.trans hT7) (fun hHeld => ?_)
  clear hK K
  refine wpAnyH_done (by kernel_rfl) ?_ _
  have HP5 := Lib.hid hP7
  have HX5 := Lib.hid (HNI.out hHeld (by decide) HVB.out HX4.out)
  have HR5 := Lib.hid (HNI.out hHeld (by decide) (Nat.le_refl _) HR4.out)
  have T5 : Hid (Tur A.tg [3, 4, 5] w w7) := Lib.hid (T4.out.trans (hHeld.sub (by simp)))
  clear hHeld hP7 hT7 HL4 HX4 HR4 HP4 T4 CU
  have hld := pkt_load HX5.out HPK.out
  go_wp2_with ((with_reducible refine arm_load 33 8 68 (.pointer (some ⟨vb, 0, none⟩)) (.agg x) hld ?_ ?_); rfl)
  refine (CN.out _ HP5.out).mono ?_
  rintro e w8 ⟨rfl, hB8⟩
  have HP8 := Lib.hid (HP5.out.below hB8)
  have HX8 := Lib.hid (keep_block hB8 HX5.out)
  have HR8 := Lib.hid (keep_block hB8 HR5.out)
  have T8 : Hid (Tur A.tg [3, 4, 5] w w8) := Lib.hid (T5.out.below hB8)
  have k21 := HP8.out.c21
  clear hB8 hld HX5 HR5 HP5 T5 CN
  go_wp2_with fail
  refine (CE.out _ HP8.out).mono ?_
  rintro e w9 ⟨rfl, rfl⟩
  have fin : ∀ w10, Pol w10 A F S4 → w10.heap[vb]? = some (.cells x 68 (0, 0)) → (∃ C : Array Value, C.size = 46 ∧ w10.heap[w.heap.size]? = some (.cells C 68 (0, 0))) → Tur A.tg [3, 4, 5] w w10 → (w10.setCells w.heap.size 0 x.toList).heap[w.heap.size]? = some (.cells x 68 (0, 0)) ∧ Pol (w10.setCells w.heap.size 0 x.toList) A F S4 ∧ Tur A.tg [3, 4, 5] w (w10.setCells w.heap.size 0 x.toList) := by
    rintro w10 q - ⟨C, hC, hb⟩ t
    have p : Tur A.tg [0] w10 (w10.setCells w.heap.size 0 x.toList) := Tur.of_two (Two.setCells (g := w.heap.size) (h := w.heap.size) (.inl rfl) x.toList 0 (Two.refl _ _ w10)) (by rw [HO.out.hi _ HLI.out]; simp) (by rw [HO.out.hi _ HLI.out]; simp)
    exact ⟨box_whole hb (cs := x) (by rw [HPK.out.size, hC]), q.tur p (by intro k h1 h2; simp; omega), t.fresh (Nat.le_refl _) _ _⟩
  have FIN := Lib.hid fin
  clear fin
  by_cases hl0 : l = []
  · have hlen : l.length = 0 := by rw [hl0]; rfl
    have k23 := HP8.out.c23
    have CZ2 := Lib.hid (CZ.out hl0 _ HP8.out)
    clear hl0
    rw [hlen]
    go_wp2_with fail
    refine CZ2.out.mono ?_
    rintro e w10 ⟨rfl, hP10, hT10⟩
    have HX10 := Lib.hid (HNI.out hT10 (by decide) HVB.out HX8.out)
    have HR10 := Lib.hid (HNI.out hT10 (by decide) (Nat.le_refl _) HR8.out)
    have FI := Lib.hid (FIN.out w10 hP10 HX10.out ⟨PZ, rfl, HR10.out⟩ (T8.out.trans (hT10.sub (by simp))))
    have hld := pkt_load HX10.out HPK.out
    have hst := pkt_store HR10.out HPK.out
    clear hP10 hT10 k21 k23 CZ2
    go_wp2_with (first | ((with_reducible refine arm_load 48 8 68 (.pointer (some ⟨vb, 0, none⟩)) (.agg x) hld ?_ ?_); rfl) | ((with_reducible refine arm_store 6 48 68 (.pointer (some ⟨w.heap.size, 0, none⟩)) (.agg x) _ hst ?_ ?_ ?_); rfl; rfl))
    refine bodyPost_ret (res_row_tmp rfl _ _ _ _ _ _ _ rfl FI.out.1 Tryz.underlying68 rfl (by rw [pkt_size, HPK.out.size])) rfl ?_
    exact ⟨rfl, FI.out.2.1, FI.out.2.2⟩
  · have hlen : l.length ≠ 0 := fun e => hl0 (List.length_eq_zero_iff.1 e)
    have hP9 := HP8.out
    rw [← HEQ.out hl0] at hP9
    have FI := Lib.hid (FIN.out _ hP9 HX8.out ⟨PZ, rfl, HR8.out⟩ T8.out)
    have hld := pkt_load HX8.out HPK.out
    have hst := pkt_store HR8.out HPK.out
    obtain ⟨ll, hll⟩ : ∃ ll, ll = l.length := ⟨_, rfl⟩
    rw [← hll] at hlen ⊢
    have hlI : ((ll : Nat) : Int) ≠ 0 := by omega
    clear hP9 k21 hl0 hll
    go_wp2_with (first | ((with_reducible refine arm_load 48 8 68 (.pointer (some ⟨vb, 0, none⟩)) (.agg x) hld ?_ ?_); rfl) | ((with_reducible refine arm_store 6 48 68 (.pointer (some ⟨w.heap.size, 0, none⟩)) (.agg x) _ hst ?_ ?_ ?_); rfl; rfl))
    refine bodyPost_ret (res_row_tmp rfl _ _ _ _ _ _ _ rfl FI.out.1 Tryz.underlying68 rfl (by rw [pkt_size, HPK.out.size])) rfl ?_
    exact ⟨rfl, FI.out.2.1, FI.out.2.2⟩
end
end Go.Proofs.YtpanmfdbdgecaaaGreat.C

namespace Go.Proofs.YtpanmfdbdgecaaaGreat.C
open Go.RowKit
set_option linter.unusedVariables false
section
variable {w : World} {a : Adr} {L : List (List (Array Value))} {R : Nat}
def headS (L : List (List (Array Value))) (c : Int) : Int := match atS L c 0 with | some x => lenP x | none => 0
set_option maxRecDepth 100000 in
theorem st_head (c : Int) (h : Sto w a L R) :
    Calls Tryz.prog 242 #[.pointer (some ⟨a.sb, 0, none⟩), .int .i64 c] w fun e w' => e = .returned (.int .i64 (headS L c)) ∧ Below w.heap.size w w' := by
  have CA := Lib.hid (st_at c 0 h)
  have hx : Pk ((atS L c 0).getD PZ) ∧ ((atS L c 0).getD PZ)[45]? = some (.int .i64 (headS L c)) := by
    unfold headS
    rcases atS_cases L c 0 with ⟨c, k, l, x, rfl, h0, hl, hx, he⟩ | ⟨he, hn⟩
    · rw [he]
      obtain ⟨A, fl, Q, h⟩ := h
      obtain ⟨q, hq, hql⟩ := h.lk.line hl
      have hkl := lt_of_some hx
      obtain ⟨p, hp⟩ : ∃ p, q[k]? = some p := ⟨_, List.getElem?_eq_getElem (by omega)⟩
      obtain ⟨l', x', h1, h2, h3⟩ := h.lk.at_ hq hp
      rw [hl] at h1
      injection h1 with h1
      subst h1
      rw [hx] at h2
      injection h2 with h2
      subst h2
      have := h.lk.ok l (List.mem_of_getElem? hl) x (List.mem_of_getElem? hx)
      exact ⟨h.slab.pk h3, lenP_cell (x := x) (by omega)⟩
    · rw [he]
      exact ⟨pk_zero, by rfl⟩
  clear h
  generalize (atS L c 0).getD PZ = x at *
  generalize (atS L c 0).isSome = o at *
  generalize headS L c = n at *
  obtain ⟨hpk, hn⟩ := hx
  have HPK := Lib.hid hpk
  have HN := Lib.hid hn
  clear hpk hn
  go_enter Tryz.func242, Tryz.ntmps242
  go_wp2_with fail
  refine CA.out.mono ?_
  rintro e w1 ⟨rfl, hB1⟩
  have HB1 := Lib.hid hB1
  clear hB1
  go_upto_region 2 with (first
    | ((with_reducible refine arm_alloc 5 68 PZ 46 pz_zero ?_); intro w2 HB HX HS; have hst := pkt_store HX.out HPK.out)
    | ((with_reducible refine arm_store 5 11 68 (.pointer (some ⟨w1.heap.size, 0, none⟩)) (.agg x) _ hst ?_ ?_ ?_); rfl; rfl))
  have hbx := box_whole HX.out (cs := x) HPK.out.size
  have hcell : (w2.setCells w1.heap.size 0 x.toList).cell? ⟨w1.heap.size, 45, none⟩ = some (.int .i64 n) := by rw [cell_of_row _ _ _ _ _ _ hbx]; exact HN.out
  have HB3 := Lib.hid (HB1.out.trans ((below_setCells (b := w1.heap.size) (Nat.le_refl _) x.toList 0 HB.out).mono HB1.out.size))
  clear hst hbx
  generalize w2.setCells w1.heap.size 0 x.toList = w3 at *
  go_wp2
  go_ret
  exact ⟨rfl, HB3.out⟩
end
end Go.Proofs.YtpanmfdbdgecaaaGreat.C

namespace Go.Proofs.YtpanmfdbdgecaaaGreat.C
open Go.RowKit
set_option linter.unusedVariables false
theorem results_cell_tmp2 {P : Program} {fn : Func} {p u v : Tmp} {ty : TypeId} (h : fn.results = #[.cell p ty, .tmp u, .tmp v]) (tmps : Array Value) (w : World) :
    (results fn tmps).run P w = ((asAddr (tmps.getD p undef)).run P w).andThen fun a w₁ => ((loadVar ty a).run P w₁).andThen fun x w₂ => .ok (.tuple #[x, tmps.getD u undef, tmps.getD v undef]) w₂ := by
  simp only [results, h]
  simp [Sem.run_bind, Result.andThen]
theorem res_row_tmp2 {P : Program} {fn : Func} {p u v : Tmp} {ty : TypeId} (h : fn.results = #[.cell p ty, .tmp u, .tmp v]) (tmps : Array Value) (w : World) (g : Nat) (t : TypeId) (cs : Array Value) (fr : Nat × Nat) (d : TypeDesc)
    (hp : tmps.getD p undef = .pointer (some ⟨g, 0, none⟩)) (hg : w.heap[g]? = some (.cells cs t fr))
    (hu : P.underlying ty = some d) (hd : (match d with | .struct _ | .array _ _ => true | _ => false) = true) (hi : (P.info? ty).map (·.size) = some cs.size) :
    (results fn tmps).run P w = .ok (.tuple #[.agg cs, tmps.getD u undef, tmps.getD v undef]) w := by
  rw [results_cell_tmp2 h, hp]
  simp [asAddr, run_loadVar_row w g t ty cs fr d hg hu hd hi]
section
variable {w : World} {A : PAd} {F : PCf} {S : PSt}
set_option maxRecDepth 100000 in
set_option maxHeartbeats 1000000 in
theorem next_none (now : Int) (h : Pol w A F S) (hline : S.line = []) :
    Calls Tryz.prog 46 #[.pointer (some ⟨A.pb, 0, none⟩), .int .i64 now] w fun e w' => e = .returned (.tuple #[.agg PZ, .int .i64 0, .bool false]) ∧ Below w.heap.size w w' := by
  have HP0 := Lib.hid h
  have H1 : Hid (∀ w', Below w.heap.size w w' → w'.cell? ⟨A.pb, 23, none⟩ = some (.pointer (some ⟨A.tb, 0, none⟩)) ∧ w'.cell? ⟨A.pb, 21, none⟩ = some (.pointer (some ⟨A.st.sb, 0, none⟩))) := Lib.hid fun w' q => ⟨(h.below q).c23, (h.below q).c21⟩
  have CP : Hid (∀ w', Below w.heap.size w w' → Calls Tryz.prog 88 #[.pointer (some ⟨A.tb, 0, none⟩), .iface 134 (.pointer (some ⟨A.st.sb, 0, none⟩))] w' fun e w'' => e = .returned (.tuple #[.int .i64 0, .bool false]) ∧ w'' = w') := Lib.hid fun w' q => by
    have ht := (h.below q).tn
    rw [hline] at ht
    exact pick_none A.st.sb ht
  have hbz := build_zero
  have HBZ := Lib.hid hbz
  have HPZ := Lib.hid pk_zero
  clear h hbz
  obtain ⟨Z, hZ⟩ : ∃ Z, PZ = Z := ⟨_, rfl⟩
  have HZZ := Lib.hid pz_zero
  rw [hZ] at HBZ HPZ HZZ ⊢
  clear hZ
  go_enter Tryz.func46, Tryz.ntmps46
  go_upto_region 1 with ((with_reducible refine arm_alloc 4 68 Z 46 HZZ.out ?_); intro w1 HB HX HS)
  go_wp2_with fail
  refine wp_region_held_drew (S := Below w1.heap.size w1) (by kernel_rfl) (Below.refl _ _).drew (fun hHeld => ?_)
  refine wpAnyH_take (i := 0) (oi := ⟨some 16, _, _, _, _, _⟩) (v := ?_) rfl (by kernel_rfl) (by kernel_rfl) (by kernel_rfl) (fun _ _ _ h => h) (Or.inl ⟨by rfl, ?_⟩) hHeld ?_
  rotate_left
  · intro w hSw
    go_simp
    try with_reducible rfl
  try simp only [Act.put, List.setIfInBounds_toArray, List.set_cons_zero, List.set_cons_succ]
  refine wpAnyH_take (i := 1) (oi := ⟨some 17, _, _, _, _, _⟩) (v := ?_) rfl (by kernel_rfl) (by kernel_rfl) (by kernel_rfl) (fun _ _ _ h => h) (Or.inl ⟨by rfl, ?_⟩) hHeld ?_
  rotate_left
  · intro w hSw
    go_simp
    try with_reducible rfl
  try simp only [Act.put, List.setIfInBounds_toArray, List.set_cons_zero, List.set_cons_succ]
  refine wpAnyH_take (i := 2) (oi := ⟨some 18, _, _, _, _, _⟩) (v := ?_) rfl (by kernel_rfl) (by kernel_rfl) (by kernel_rfl) (fun _ _ _ h => h) (Or.inl ⟨by rfl, ?_⟩) hHeld ?_
  rotate_left
  · intro w hSw
    go_simp
    try with_reducible rfl
  try simp only [Act.put, List.setIfInBounds_toArray, List.set_cons_zero, List.set_cons_succ]
  refine wpAnyH_take (i := 3) (oi := ⟨some 19, _, _, _, _, _⟩) (v := ?_) rfl (by kernel_rfl) (by kernel_rfl) (by kernel_rfl) (fun _ _ _ h => h) (Or.inl ⟨by rfl, ?_⟩) hHeld ?_
  rotate_left
  · intro w hSw
    obtain ⟨k0, k1⟩ := H1.out w (HB.out.trans (hSw.mono HB.out.size))
    go_simp
    try with_reducible rfl
  try simp only [Act.put, List.setIfInBounds_toArray, List.set_cons_zero, List.set_cons_succ]
  refine wpAnyH_take (i := 4) (oi := ⟨some 20, _, _, _, _, _⟩) (v := ?_) rfl (by kernel_rfl) (by kernel_rfl) (by kernel_rfl) (fun _ _ _ h => h) (Or.inl ⟨by rfl, ?_⟩) hHeld ?_
  rotate_left
  · intro w hSw
    go_simp
    try with_reducible rfl
  try simp only [Act.put, List.setIfInBounds_toArray, List.set_cons_zero, List.set_cons_succ]
  refine wpAnyH_take (i := 5) (oi := ⟨some 21, _, _, _, _, _⟩) (v := ?_) rfl (by kernel_rfl) (by kernel_rfl) (by kernel_rfl) (fun _ _ _ h => h) (Or.inl ⟨by rfl, ?_⟩) hHeld ?_
  rotate_left
  · intro w hSw
    go_simp
    try with_reducible rfl
  try simp only [Act.put, List.setIfInBounds_toArray, List.set_cons_zero, List.set_cons_succ]
  refine wpAnyH_take (i := 6) (oi := ⟨some 22, _, _, _, _, _⟩) (v := ?_) rfl (by kernel_rfl) (by kernel_rfl) (by kernel_rfl) (fun _ _ _ h => h) (Or.inl ⟨by rfl, ?_⟩) hHeld ?_
  rotate_left
  · intro w hSw
    go_simp
    try with_reducible rfl
  try simp only [Act.put, List.setIfInBounds_toArray, List.set_cons_zero, List.set_cons_succ]
  refine wpAnyH_take (i := 7) (oi := ⟨some 23, _, _, _, _, _⟩) (v := ?_) rfl (by kernel_rfl) (by kernel_rfl) (by kernel_rfl) (fun _ _ _ h => h) (Or.inl ⟨by rfl, ?_⟩) hHeld ?_
  rotate_left
  · intro w hSw
    obtain ⟨k0, k1⟩ := H1.out w (HB.out.trans (hSw.mono HB.out.size))
    go_simp
    try with_reducible rfl
  try simp only [Act.put, List.setIfInBounds_toArray, List.set_cons_zero, List.set_cons_succ]
  refine wpAnyH_take (i := 8) (oi := ⟨some 24, _, _, _, _, _⟩) (v := ?_) rfl (by kernel_rfl) (by kernel_rfl) (by kernel_rfl) (fun _ _ _ h => h) (Or.inl ⟨by rfl, ?_⟩) hHeld ?_
  rotate_left
  · intro w hSw
    go_simp
    try with_reducible rfl
  try simp only [Act.put, List.setIfInBounds_toArray, List.set_cons_zero, List.set_cons_succ]
  refine wpAnyH_ready (rs := [9]) (by kernel_rfl) (by simp) ?_
  refine AllReadyH.cons rfl (fun K hK => ?_) AllReadyH.nil
  go_simp
  go_wp2_with (go_at_call 88; go_must (refine (CP.out _ (HB.out.trans (hHeld.mono HB.out.size))).mono ?_; rintro e w9 ⟨rfl, rfl⟩))
  refine hK.out _ _ (hHeld) (fun hHeld => ?_)
  clear hK K
  refine wpAnyH_take (i := 10) (oi := ⟨some 15, _, _, _, _, _⟩) (v := ?_) rfl (by kernel_rfl) (by kernel_rfl) (by kernel_rfl) (fun _ _ _ h => h) (Or.inl ⟨by rfl, ?_⟩) hHeld ?_
  rotate_left
  · intro w hSw
    go_simp
    try with_reducible rfl
  try simp only [Act.put, List.setIfInBounds_toArray, List.set_cons_zero, List.set_cons_succ]
  refine wpAnyH_take (i := 11) (oi := ⟨some 26, _, _, _, _, _⟩) (v := ?_) rfl (by kernel_rfl) (by kernel_rfl) (by kernel_rfl) (fun _ _ _ h => h) (Or.inl ⟨by rfl, ?_⟩) hHeld ?_
  rotate_left
  · intro w hSw
    go_simp
    try with_reducible rfl
  try simp only [Act.put, List.setIfInBounds_toArray, List.set_cons_zero, List.set_cons_succ]
  refine wpAnyH_take (i := 12) (oi := ⟨some 27, _, _, _, _, _⟩) (v := ?_) rfl (by kernel_rfl) (by kernel_rfl) (by kernel_rfl) (fun _ _ _ h => h) (Or.inl ⟨by rfl, ?_⟩) hHeld ?_
  rotate_left
  · intro w hSw
    go_simp
    try with_reducible rfl
  try simp only [Act.put, List.setIfInBounds_toArray, List.set_cons_zero, List.set_cons_succ]
  refine wpAnyH_take (i := 13) (oi := ⟨some 7, _, _, _, _, _⟩) (v := ?_) rfl (by kernel_rfl) (by kernel_rfl) (by kernel_rfl) (fun _ _ _ h => h) (Or.inl ⟨by rfl, ?_⟩) hHeld ?_
  rotate_left
  · intro w hSw
    go_simp
    try with_reducible rfl
  try simp only [Act.put, List.setIfInBounds_toArray, List.set_cons_zero, List.set_cons_succ]
  refine wpAnyH_take (i := 14) (oi := ⟨some 8, _, _, _, _, _⟩) (v := ?_) rfl (by kernel_rfl) (by kernel_rfl) (by kernel_rfl) (fun _ _ _ h => h) (Or.inl ⟨by rfl, ?_⟩) hHeld ?_
  rotate_left
  · intro w hSw
    go_simp
    try with_reducible rfl
  try simp only [Act.put, List.setIfInBounds_toArray, List.set_cons_zero, List.set_cons_succ]
  refine wpAnyH_done (by kernel_rfl) ?_ _
  have hB2 := HB.out.trans (hHeld.mono HB.out.size)
  have hX2 := keep_block hHeld HX.out
  generalize w1.drew = w2 at *
  have hst := pkt_store hX2 HPZ.out HPZ.out.size
  have hbx := box_whole hX2 (cs := Z) rfl
  have hB3 := below_setCells (b := w.heap.size) (Nat.le_refl _) Z.toList 0 hB2
  have hb2 := HBZ.out w2
  have HB3 := Lib.hid hB3
  have HX3 := Lib.hid hbx
  clear hHeld hB2 hX2 hbx hB3 HB HX HS HBZ
  go_wp2_with (first | ((with_reducible refine arm_build 30 68 _ #[] _ hb2 ?_ ?_); (first | rfl | simp [Act.eval])) | ((with_reducible refine arm_store 4 30 68 (.pointer (some ⟨w.heap.size, 0, none⟩)) (.agg Z) _ hst ?_ ?_ ?_); rfl; rfl))
  refine bodyPost_ret (res_row_tmp2 rfl _ _ _ _ _ _ _ rfl HX3.out Tryz.underlying68 rfl (by rw [pkt_size, HPZ.out.size])) rfl ?_
  exact ⟨rfl, HB3.out⟩
set_option maxRecDepth 100000 in
set_option maxHeartbeats 2000000 in
theorem next_pen (now n : Int) (x : Array Value) (l : List (Array Value)) (y : Tcl) (h : Pol w A F S) (hx : PkL x n) (hn : 1 ≤ n ∧ n ≤ 9216) (hl : S.L[penC F]? = some (x :: l)) (hok : QU.QOk (F.c 9) (F.c 10) S.sh S.ql) (htl : S.tl.length ≤ 129) (hy : S.tl[penC F]? = some y) (hyo : PickOk (F.c 8) y) (hline : S.line = [penC F]) :
    Calls Tryz.prog 46 #[.pointer (some ⟨A.pb, 0, none⟩), .int .i64 now] w fun e w' => e = .returned (.tuple #[.agg x, .int .i64 (penC F : Nat), .bool true]) ∧ (∃ y', PickOk (F.c 8) y' ∧ Pol w' A F (leftS F { S with tl := S.tl.set (penC F) y' } n l)) ∧ Tur A.tg [3, 4, 5] w w' := by
  have hpc : (2 * F.c 0 : Int) = (penC F : Nat) := by have := h.pen; unfold penC; omega
  have hq := h.fok.right.quantum
  have HO := Lib.hid h.ok
  have HLI := Lib.hid h.lim
  have HPK := Lib.hid hx.pk
  have hhs : headS S.L (penC F : Nat) = n := by
    unfold headS
    rw [show ((0 : Int)) = ((0 : Nat) : Int) from rfl, atS_some hl]
    exact hx.lenP
  have H1 : Hid (∀ w' S', Pol w' A F S' → w'.cell? ⟨A.pb, 23, none⟩ = some (.pointer (some ⟨A.tb, 0, none⟩)) ∧ w'.cell? ⟨A.pb, 21, none⟩ = some (.pointer (some ⟨A.st.sb, 0, none⟩))) := Lib.hid fun w' S' q => ⟨q.c23, q.c21⟩
  have CP : Hid (∀ w', Pol w' A F S → Calls Tryz.prog 88 #[.pointer (some ⟨A.tb, 0, none⟩), .iface 134 (.pointer (some ⟨A.st.sb, 0, none⟩))] w' fun e w'' => e = .returned (.tuple #[.int .i64 (penC F : Nat), .bool true]) ∧ (∃ y', PickOk (F.c 8) y' ∧ Pol w'' A F { S with tl := S.tl.set (penC F) y' }) ∧ Tur A.tg [5] w' w'') := Lib.hid fun w' q => by
    have ht := q.tn
    rw [hline] at ht
    have tt : ∀ {a b : World}, Amg [A.tb, A.t1, A.t2] a b → Tur A.tg [5] a b := fun p => Tur.of_amg p (fun k hk => by
      obtain ⟨t1, t2, t3⟩ := q.ok.t
      simp only [List.mem_cons, List.not_mem_nil, or_false] at hk
      rcases hk with rfl | rfl | rfl <;> simp [t1, t2, t3])
    refine (pick_one A.st.sb n y ht htl hy hyo hq hn (fun w2 hA => ?_)).mono ?_
    · have hs := (q.rest (tt hA)).sto (by decide)
      refine (st_head (penC F : Nat) hs).mono ?_
      rintro e w3 ⟨rfl, hB⟩
      rw [hhs]
      exact ⟨rfl, hB⟩
    · rintro e w'' ⟨rfl, ⟨y', hy1, hy2⟩, hA⟩
      have := (q.rest (tt hA)).setT hy2
      refine ⟨rfl, ⟨y', hy1, ?_⟩, tt hA⟩
      rw [← hline] at this
      exact this
  have CLV : Hid (∀ w' y', PickOk (F.c 8) y' → Pol w' A F { S with tl := S.tl.set (penC F) y' } → Calls Tryz.prog 79 #[.pointer (some ⟨A.pb, 0, none⟩), .int .i64 (penC F : Nat), .int .i64 0] w' fun e w'' => e = .returned (.tuple #[.agg x, .bool true]) ∧ Pol w'' A F (leftS F { S with tl := S.tl.set (penC F) y' } n l) ∧ Tur A.tg [3, 4, 5] w' w'') := Lib.hid fun w' y' hk q =>
    leave_pen n x l y' q hx hn hl hok (by rw [List.length_set]; exact htl) (List.getElem?_set_self (lt_of_some hy)) hk.awake hline
  have CPE : Hid (∀ w' S', Pol w' A F S' → Calls Tryz.prog 40 #[.pointer (some ⟨A.pb, 0, none⟩)] w' fun e w'' => e = .returned (.int .i64 (penC F : Nat)) ∧ w'' = w') := Lib.hid fun w' S' q => by
    rw [← hpc]
    exact police_penalty q
  have HP0 := Lib.hid h
  clear h hok hl hy hyo htl hline hn hpc hq hhs hx
  generalize penC F = pc at *
  go_enter Tryz.func46, Tryz.ntmps46
  go_upto_region 1 with ((with_reducible refine arm_alloc 4 68 PZ 46 pz_zero ?_); intro w1 HB HX HS)
  have HP1 := Lib.hid (HP0.out.below HB.out)
  have hlim : A.lim ≤ w.heap.size := HLI.out
  have HNI : Hid (∀ {a b : World} {ks : List Nat}, Tur A.tg ks a b → 0 ∉ ks → ∀ {k : Nat}, w.heap.size ≤ k → ∀ {o}, a.heap[k]? = some o → b.heap[k]? = some o) := Lib.hid fun q h0 k hk o ho => q.keep ho (by rw [HO.out.hi _ (Nat.le_trans hlim hk)]; exact h0)
  clear hlim
  go_wp2_with fail
  have HL1 : Hid (∀ w' ks, Tur A.tg ks w1 w' → 1 ∉ ks → w'.cell? ⟨A.pb, 23, none⟩ = some (.pointer (some ⟨A.tb, 0, none⟩)) ∧ w'.cell? ⟨A.pb, 21, none⟩ = some (.pointer (some ⟨A.st.sb, 0, none⟩))) := Lib.hid fun w' ks q h1 =>
    ⟨cells_of_row ((HP1.out.rest q).ptr h1) 23 _ (polC_hi HP1.out 3), cells_of_row ((HP1.out.rest q).ptr h1) 21 _ (polC_hi HP1.out 1)⟩
  refine wp_region_held_drew (S := Tur A.tg [5] w1) (by kernel_rfl) (Tur.refl _ _ _).drew (fun hHeld => ?_)
  refine wpAnyH_take (i := 0) (oi := ⟨some 16, _, _, _, _, _⟩) (v := ?_) rfl (by kernel_rfl) (by kernel_rfl) (by kernel_rfl) (fun _ _ _ h => h) (Or.inl ⟨by rfl, ?_⟩) hHeld ?_
  rotate_left
  · intro w hSw
    go_simp
    try with_reducible rfl
  try simp only [Act.put, List.setIfInBounds_toArray, List.set_cons_zero, List.set_cons_succ]
  refine wpAnyH_take (i := 1) (oi := ⟨some 17, _, _, _, _, _⟩) (v := ?_) rfl (by kernel_rfl) (by kernel_rfl) (by kernel_rfl) (fun _ _ _ h => h) (Or.inl ⟨by rfl, ?_⟩) hHeld ?_
  rotate_left
  · intro w hSw
    go_simp
    try with_reducible rfl
  try simp only [Act.put, List.setIfInBounds_toArray, List.set_cons_zero, List.set_cons_succ]
  refine wpAnyH_take (i := 2) (oi := ⟨some 18, _, _, _, _, _⟩) (v := ?_) rfl (by kernel_rfl) (by kernel_rfl) (by kernel_rfl) (fun _ _ _ h => h) (Or.inl ⟨by rfl, ?_⟩) hHeld ?_
  rotate_left
  · intro w hSw
    go_simp
    try with_reducible rfl
  try simp only [Act.put, List.setIfInBounds_toArray, List.set_cons_zero, List.set_cons_succ]
  refine wpAnyH_take (i := 3) (oi := ⟨some 19, _, _, _, _, _⟩) (v := ?_) rfl (by kernel_rfl) (by kernel_rfl) (by kernel_rfl) (fun _ _ _ h => h) (Or.inl ⟨by rfl, ?_⟩) hHeld ?_
  rotate_left
  · intro w hSw
    obtain ⟨k0, k1⟩ := HL1.out w _ hSw (by decide)
    go_simp
    try with_reducible rfl
  try simp only [Act.put, List.setIfInBounds_toArray, List.set_cons_zero, List.set_cons_succ]
  refine wpAnyH_take (i := 4) (oi := ⟨some 20, _, _, _, _, _⟩) (v := ?_) rfl (by kernel_rfl) (by kernel_rfl) (by kernel_rfl) (fun _ _ _ h => h) (Or.inl ⟨by rfl, ?_⟩) hHeld ?_
  rotate_left
  · intro w hSw
    go_simp
    try with_reducible rfl
  try simp only [Act.put, List.setIfInBounds_toArray, List.set_cons_zero, List.set_cons_succ]
  refine wpAnyH_take (i := 5) (oi := ⟨some 21, _, _, _, _, _⟩) (v := ?_) rfl (by kernel_rfl) (by kernel_rfl) (by kernel_rfl) (fun _ _ _ h => h) (Or.inl ⟨by rfl, ?_⟩) hHeld ?_
  rotate_left
  · intro w hSw
    go_simp
    try with_reducible rfl
  try simp only [Act.put, List.setIfInBounds_toArray, List.set_cons_zero, List.set_cons_succ]
  refine wpAnyH_take (i := 6) (oi := ⟨some 22, _, _, _, _, _⟩) (v := ?_) rfl (by kernel_rfl) (by kernel_rfl) (by kernel_rfl) (fun _ _ _ h => h) (Or.inl ⟨by rfl, ?_⟩) hHeld ?_
  rotate_left
  · intro w hSw
    go_simp
    try with_reducible rfl
  try simp only [Act.put, List.setIfInBounds_toArray, List.set_cons_zero, List.set_cons_succ]
  refine wpAnyH_take (i := 7) (oi := ⟨some 23, _, _, _, _, _⟩) (v := ?_) rfl (by kernel_rfl) (by kernel_rfl) (by kernel_rfl) (fun _ _ _ h => h) (Or.inl ⟨by rfl, ?_⟩) hHeld ?_
  rotate_left
  · intro w hSw
    obtain ⟨k0, k1⟩ := HL1.out w _ hSw (by decide)
    go_simp
    try with_reducible rfl
  try simp only [Act.put, List.setIfInBounds_toArray, List.set_cons_zero, List.set_cons_succ]
  refine wpAnyH_take (i := 8) (oi := ⟨some 24, _, _, _, _, _⟩) (v := ?_) rfl (by kernel_rfl) (by kernel_rfl) (by kernel_rfl) (fun _ _ _ h => h) (Or.inl ⟨by rfl, ?_⟩) hHeld ?_
  rotate_left
  · intro w hSw
    go_simp
    try with_reducible rfl
  try simp only [Act.put, List.setIfInBounds_toArray, List.set_cons_zero, List.set_cons_succ]
  refine wpAnyH_ready (rs := [9]) (by kernel_rfl) (by simp) ?_
  refine AllReadyH.cons rfl (fun K hK => ?_) AllReadyH.nil
  go_simp
  go_wp2_with (go_at_call 88; go_must (refine (CP.out _ HP1.out.drew).mono ?_; rintro e w9 ⟨rfl, ⟨y9, hk9, hP9⟩, hT9⟩))
  refine hK.out _ _ (hHeld.trans hT9) (fun hHeld => ?_)
  clear hK K
  refine wpAnyH_take (i := 10) (oi := ⟨some 15, _, _, _, _, _⟩) (v := ?_) rfl (by kernel_rfl) (by kernel_rfl) (by kernel_rfl) (fun _ _ _ h => h) (Or.inl ⟨by rfl, ?_⟩) hHeld ?_
  rotate_left
  · intro w hSw
    go_simp
    try with_reducible rfl
  try simp only [Act.put, List.setIfInBounds_toArray, List.set_cons_zero, List.set_cons_succ]
  refine wpAnyH_take (i := 11) (oi := ⟨some 26, _, _, _, _, _⟩) (v := ?_) rfl (by kernel_rfl) (by kernel_rfl) (by kernel_rfl) (fun _ _ _ h => h) (Or.inl ⟨by rfl, ?_⟩) hHeld ?_
  rotate_left
  · intro w hSw
    go_simp
    try with_reducible rfl
  try simp only [Act.put, List.setIfInBounds_toArray, List.set_cons_zero, List.set_cons_succ]
  refine wpAnyH_take (i := 12) (oi := ⟨some 27, _, _, _, _, _⟩) (v := ?_) rfl (by kernel_rfl) (by kernel_rfl) (by kernel_rfl) (fun _ _ _ h => h) (Or.inl ⟨by rfl, ?_⟩) hHeld ?_
  rotate_left
  · intro w hSw
    go_simp
    try with_reducible rfl
  try simp only [Act.put, List.setIfInBounds_toArray, List.set_cons_zero, List.set_cons_succ]
  refine wpAnyH_take (i := 13) (oi := ⟨some 7, _, _, _, _, _⟩) (v := ?_) rfl (by kernel_rfl) (by kernel_rfl) (by kernel_rfl) (fun _ _ _ h => h) (Or.inl ⟨by rfl, ?_⟩) hHeld ?_
  rotate_left
  · intro w hSw
    go_simp
    try with_reducible rfl
  try simp only [Act.put, List.setIfInBounds_toArray, List.set_cons_zero, List.set_cons_succ]
  refine wpAnyH_take (i := 14) (oi := ⟨some 8, _, _, _, _, _⟩) (v := ?_) rfl (by kernel_rfl) (by kernel_rfl) (by kernel_rfl) (fun _ _ _ h => h) (Or.inl ⟨by rfl, ?_⟩) hHeld ?_
  rotate_left
  · intro w hSw
    go_simp
    try with_reducible rfl
  try simp only [Act.put, List.setIfInBounds_toArray, List.set_cons_zero, List.set_cons_succ]
  refine wpAnyH_done (by kernel_rfl) ?_ _
  have HP2 := Lib.hid hP9
  have HK2 := Lib.hid hk9
  have HX2 := Lib.hid (HNI.out hHeld (by decide) (Nat.le_refl _) HX.out)
  have T2 : Hid (Tur A.tg [3, 4, 5] w w9) := Lib.hid ((Tur.of_below HB.out).trans (hHeld.sub (by simp)))
  clear hHeld hP9 hk9 hT9 HL1 HX HS HP1 CP
  go_wp2_with fail
  refine (CLV.out _ _ HK2.out HP2.out).mono ?_
  rintro e w10 ⟨rfl, hP10, hT10⟩
  have HP3 := Lib.hid hP10
  have HX3 := Lib.hid (HNI.out hT10 (by decide) (Nat.le_refl _) HX2.out)
  have T3 : Hid (Tur A.tg [3, 4, 5] w w10) := Lib.hid (T2.out.trans hT10)
  have HS3 := Lib.hid T3.out.size
  clear hP10 hT10 HP2 HX2 T2 CLV
  go_upto_region 7 with (first
    | ((with_reducible refine arm_alloc 9 68 PZ 46 pz_zero ?_); intro w11 HB HX HS; have hst := pkt_store HX.out HPK.out)
    | ((with_reducible refine arm_store 9 35 68 (.pointer (some ⟨w10.heap.size, 0, none⟩)) (.agg x) _ hst ?_ ?_ ?_); rfl; rfl))
  have hX4 := box_whole HX.out (cs := x) HPK.out.size
  have hB4 := below_setCells (b := w10.heap.size) (Nat.le_refl _) x.toList 0 HB.out
  clear hst HX HB HS
  generalize w11.setCells w10.heap.size 0 x.toList = w12 at *
  have HP4 := Lib.hid (HP3.out.below hB4)
  have HR4 := Lib.hid (keep_block hB4 HX3.out)
  have T4 : Hid (Tur A.tg [3, 4, 5] w w12) := Lib.hid (T3.out.below hB4)
  have HX4 := Lib.hid hX4
  generalize w10.heap.size = vb at HX4 ⊢
  clear hX4 hB4 HP3 HX3 T3 HS3
  go_wp2_with fail
  refine (CPE.out _ _ HP4.out).mono ?_
  rintro e w13 ⟨rfl, rfl⟩
  have hld := pkt_load HX4.out HPK.out
  have hst := pkt_store HR4.out HPK.out
  have p : Tur A.tg [0] w13 (w13.setCells w.heap.size 0 x.toList) := Tur.of_two (Two.setCells (g := w.heap.size) (h := w.heap.size) (.inl rfl) x.toList 0 (Two.refl _ _ w13)) (by rw [HO.out.hi _ HLI.out]; simp) (by rw [HO.out.hi _ HLI.out]; simp)
  have FI := Lib.hid (And.intro (box_whole HR4.out (cs := x) HPK.out.size) (And.intro (HP4.out.tur p (by intro k h1 h2; simp; omega)) (T4.out.fresh (Nat.le_refl _) x.toList 0)))
  clear p
  go_wp2_with (first | ((with_reducible refine arm_load 61 9 68 (.pointer (some ⟨vb, 0, none⟩)) (.agg x) hld ?_ ?_); rfl) | ((with_reducible refine arm_store 4 61 68 (.pointer (some ⟨w.heap.size, 0, none⟩)) (.agg x) _ hst ?_ ?_ ?_); rfl; rfl))
  refine bodyPost_ret (res_row_tmp2 rfl _ _ _ _ _ _ _ rfl FI.out.1 Tryz.underlying68 rfl (by rw [pkt_size, HPK.out.size])) rfl ?_
  exact ⟨rfl, ⟨_, HK2.out, FI.out.2.1⟩, FI.out.2.2⟩
end
end Go.Proofs.YtpanmfdbdgecaaaGreat.C

namespace Go.Proofs.YtpanmfdbdgecaaaGreat.C
open Go.RowKit
set_option linter.unusedVariables false
section
variable {w : World} {b : Nat} {ns nx : Int}
theorem PaAt.cells (h : PaAt w b ns nx) : w.cell? ⟨b, 0, none⟩ = some (.int .i64 ns) ∧ w.cell? ⟨b, 1, none⟩ = some (.int .i64 nx) ∧ ∀ j, w.frozen? ⟨b, j, none⟩ = false :=
  ⟨cells_of_row h 0 _ rfl, cells_of_row h 1 _ rfl, fun j => frozen_of_row _ _ j _ _ h⟩
theorem PaAt.below {w' : World} (h : PaAt w b ns nx) (p : Below w.heap.size w w') : PaAt w' b ns nx := keep_block p h
theorem pace_free (now : Int) (h : PaAt w b ns nx) (h0 : 0 ≤ now) (h1 : now ≤ 4611686018427387903) :
    Calls Tryz.prog 87 #[.pointer (some ⟨b, 0, none⟩), .int .i64 now] w fun e w' => e = .returned (.bool (decide (nx ≤ now))) ∧ w' = w := by
  obtain ⟨c0, c1, _⟩ := h.cells
  by_cases hn : nx ≤ now
  · rw [decide_eq_true hn]
    go_enter Tryz.func87, Tryz.ntmps87
    go_wp2
    go_ret
    exact ⟨rfl, rfl⟩
  · rw [decide_eq_false hn]
    go_enter Tryz.func87, Tryz.ntmps87
    go_wp2
    go_ret
    exact ⟨rfl, rfl⟩
set_option maxRecDepth 100000 in
theorem pace_send (now n : Int) (h : PaAt w b ns nx) (h0 : 0 ≤ now) (h1 : now ≤ 4611686018427387903) (hn : 1 ≤ n ∧ n ≤ 9216) (hx : nx ≤ now) :
    Calls Tryz.prog 47 #[.pointer (some ⟨b, 0, none⟩), .int .i64 now, .int .i64 n] w fun e w' => e = .returned (.tuple #[.int .i64 now, .int .i64 (addC now (mulC n ns)), .int .i64 0]) ∧ PaAt w' b ns (addC now (mulC n ns)) ∧ Two b b w w' := by
  have CF := Lib.hid (pace_free now h h0 h1)
  rw [decide_eq_true hx] at CF
  obtain ⟨c0, c1, c2⟩ := h.cells
  have f1 := c2 1
  clear c2
  have HP := Lib.hid h
  have CM := Lib.hid (num_mul n ns)
  generalize mulC n ns = m at *
  have CA := Lib.hid (num_add now m)
  have hlt : b < w.heap.size := (Array.getElem?_eq_some_iff.1 h).1
  obtain ⟨hn0, hn1⟩ := hn
  generalize addC now m = s at *
  clear h hx
  go_enter Tryz.func47, Tryz.ntmps47
  go_wp2_with fail
  refine CF.out.mono ?_
  rintro e w1 ⟨rfl, rfl⟩
  go_wp2_with fail
  refine (CM.out _).mono ?_
  rintro e w2 ⟨rfl, rfl⟩
  go_wp2_with fail
  have x0 := Go.heap_alloc_new w2 (.cells #[.int .i64 now, .int .i64 m] 2)
  have hB : Below w2.heap.size w2 (w2.alloc (.cells #[.int .i64 now, .int .i64 m] 2)) := (Below.refl _ _).alloc (Nat.le_refl _) _
  refine (CA.out w2.heap.size _ (cells_of_row x0 0 _ rfl) (cells_of_row x0 1 _ rfl)).mono ?_
  rintro e w3 ⟨rfl, rfl⟩
  generalize w2.alloc (.cells #[.int .i64 now, .int .i64 m] 2) = w3 at *
  have hP3 := keep_block hB HP.out
  obtain ⟨d0, d1, d2⟩ := PaAt.cells (b := b) (ns := ns) (nx := nx) hP3
  have g1 := d2 1
  have hX := heap_setCell_same _ _ 1 _ _ (.int .i64 s) hP3
  have hT : Two b b w2 (w3.setCell ⟨b, 1, none⟩ (.int .i64 s)) := Two.setCell (g := b) (h := b) (x := ⟨b, 1, none⟩) (two_ofB hB) (.inl rfl) _
  have HX := Lib.hid (show PaAt (w3.setCell ⟨b, 1, none⟩ (.int .i64 s)) b ns s from hX)
  have HT := Lib.hid hT
  clear hX hT x0 hB hP3 d2 CA CM CF c0 c1 f1
  go_wp2_with fail
  have d1' := HX.out.cells.2.1
  generalize w3.setCell ⟨b, 1, none⟩ (.int .i64 s) = w4 at *
  go_region
  go_wp2
  go_ret3
  exact ⟨rfl, HX.out, HT.out.drewN 1⟩
end
end Go.Proofs.YtpanmfdbdgecaaaGreat.C

namespace Go.Proofs.YtpanmfdbdgecaaaGreat.C
open Go.RowKit
set_option linter.unusedVariables false
section
variable {w : World} {a : EAd} {F : PCf} {S : PSt} {now nx : Int} {N : Nat → Int}
theorem Eng.sc (h : Eng w a F S now N nx) : w.cell? ⟨a.sb, 0, none⟩ = some (.pointer (some ⟨a.A.pb, 0, none⟩)) ∧ w.cell? ⟨a.sb, 1, none⟩ = some (.pointer (some ⟨a.pc, 0, none⟩)) := ⟨cells_of_row h.sch 0 _ rfl, cells_of_row h.sch 1 _ rfl⟩
theorem sched_free (h : Eng w a F S now N nx) (h0 : 0 ≤ now) (h1 : now ≤ 4611686018427387903) :
    Calls Tryz.prog 45 #[.pointer (some ⟨a.sb, 0, none⟩), .int .i64 now] w fun e w' => e = .returned (.bool (decide (nx ≤ now))) ∧ w' = w := by
  obtain ⟨c0, c1⟩ := h.sc
  have C := Lib.hid (pace_free now h.pac h0 h1)
  clear h
  generalize decide (nx ≤ now) = b at *
  go_enter Tryz.func45, Tryz.ntmps45
  go_wp2_with fail
  refine C.out.mono ?_
  rintro e w1 ⟨rfl, rfl⟩
  go_wp2
  go_ret
  exact ⟨rfl, rfl⟩
/-- A departure. -/
def depC (s c n f t : Int) : Array Value := #[.int .i64 s, .int .i64 c, .int .i64 n, .int .i64 f, .int .i64 t]
theorem dep_zero : (Tryz.prog.info? 74).map (fun i => (i.zero, i.size)) = some (some (.agg (depC 0 0 0 0 0)), 5) := by kernel_rfl
theorem dep_size : (Tryz.prog.info? 74).map (·.size) = some 5 := by kernel_rfl
theorem dep_all (s c n f t : Int) : (depC s c n f t).all (·.oneCell') = true := by kernel_rfl
theorem build_dep0 (w : World) : (Instr.build 74 #[]).run Tryz.prog w = .ok (.agg (depC 0 0 0 0 0)) w := run_build w 74 _ _ (by kernel_rfl)
theorem build_dep (s c n f t : Int) (w : World) : (Instr.build 74 #[(0, .int .i64 s), (1, .int .i64 c), (2, .int .i64 n), (3, .int .i64 f), (4, .int .i64 t)]).run Tryz.prog w = .ok (.agg (depC s c n f t)) w := run_build w 74 _ _ (by kernel_rfl)
set_option maxRecDepth 100000 in
theorem sched_poll_busy (h : Eng w a F S now N nx) (h0 : 0 ≤ now) (h1 : now ≤ 4611686018427387903) (hb : now < nx) :
    Calls Tryz.prog 23 #[.pointer (some ⟨a.sb, 0, none⟩), .int .i64 now] w fun e w' => e = .returned (.tuple #[.agg (depC 0 0 0 0 0), .bool false]) ∧ Below w.heap.size w w' := by
  have C := Lib.hid (fun w' (p : Below w.heap.size w w') => sched_free (h.below p) h0 h1)
  rw [decide_eq_false (show ¬ nx ≤ now by omega)] at C
  have hz := dep_zero
  have hb0 := build_dep0
  have ha := dep_all 0 0 0 0 0
  have hs := dep_size
  have h5 : (depC 0 0 0 0 0).size = 5 := rfl
  generalize depC 0 0 0 0 0 = D at *
  clear h
  have HZ := Lib.hid hz
  have HB0 := Lib.hid hb0
  have HA := Lib.hid ha
  have HS := Lib.hid (show (Tryz.prog.info? 74).map (·.size) = some D.size by rw [h5]; exact hs)
  clear hz hb0 ha hs h5
  go_enter Tryz.func23, Tryz.ntmps23
  go_upto_region 1 with ((with_reducible refine arm_alloc 4 74 D 5 HZ.out ?_); intro w1 HB HX HSS)
  go_wp2_with fail
  refine (C.out _ HB.out).mono ?_
  rintro e w2 ⟨rfl, rfl⟩
  have hst := box_store (t := 74) (x := D) HX.out HS.out HA.out rfl
  have hbx := Lib.hid (box_whole (cs := D) HX.out rfl)
  have hf := Lib.hid (below_setCells (b := w.heap.size) (Nat.le_refl _) D.toList 0 HB.out)
  have hb2 := HB0.out w2
  go_wp2_with (first | ((with_reducible refine arm_build 16 74 _ #[] _ hb2 ?_ ?_); (first | rfl | simp [Act.eval])) | ((with_reducible refine arm_store 4 16 74 _ _ _ hst ?_ ?_ ?_); rfl; rfl))
  refine bodyPost_ret (res_row_tmp rfl _ _ _ _ _ _ _ rfl hbx.out Tryz.underlying74 rfl HS.out) rfl ?_
  exact ⟨rfl, hf.out⟩
set_option maxRecDepth 100000 in
set_option maxHeartbeats 1000000 in
theorem sched_poll_none (h : Eng w a F S now N nx) (h0 : 0 ≤ now) (h1 : now ≤ 4611686018427387903) (hb : nx ≤ now) (hline : S.line = []) :
    Calls Tryz.prog 23 #[.pointer (some ⟨a.sb, 0, none⟩), .int .i64 now] w fun e w' => e = .returned (.tuple #[.agg (depC 0 0 0 0 0), .bool false]) ∧ Below w.heap.size w w' := by
  have C := Lib.hid (fun w' (p : Below w.heap.size w w') => sched_free (h.below p) h0 h1)
  rw [decide_eq_true hb] at C
  have CN := Lib.hid (fun w' (p : Below w.heap.size w w') => next_none now (h.below p).pol hline)
  have HSC := Lib.hid (fun w' (p : Below w.heap.size w w') => (h.below p).sc)
  have hz := dep_zero
  have hb0 := build_dep0
  have ha := dep_all 0 0 0 0 0
  have hs := dep_size
  have h5 : (depC 0 0 0 0 0).size = 5 := rfl
  generalize depC 0 0 0 0 0 = D at *
  clear h
  have HPZ := Lib.hid pk_zero
  have HZP := Lib.hid pz_zero
  generalize PZ = Z at *
  have HZ := Lib.hid hz
  have HB0 := Lib.hid hb0
  have HA := Lib.hid ha
  have HS := Lib.hid (show (Tryz.prog.info? 74).map (·.size) = some D.size by rw [h5]; exact hs)
  clear hz hb0 ha hs h5
  go_enter Tryz.func23, Tryz.ntmps23
  go_upto_region 1 with ((with_reducible refine arm_alloc 4 74 D 5 HZ.out ?_); intro w1 HB HX HSS)
  go_wp2_with fail
  refine (C.out _ HB.out).mono ?_
  rintro e w2 ⟨rfl, rfl⟩
  obtain ⟨c0, c1⟩ := HSC.out _ HB.out
  go_wp2_with fail
  refine (CN.out _ HB.out).mono ?_
  rintro e w3 ⟨rfl, hB3⟩
  have HB3 := Lib.hid (HB.out.trans (hB3.mono HB.out.size))
  have HX3 := Lib.hid (keep_block hB3 HX.out)
  have HLT3 := Lib.hid (Nat.lt_of_lt_of_le (Array.getElem?_eq_some_iff.1 HX.out).1 hB3.size)
  clear hB3 HB HX HSS c0 c1 C CN HSC
  go_upto_region 4 with (first
    | ((with_reducible refine arm_alloc 6 68 Z 46 HZP.out ?_); intro w4 HB HX HSS; have hst := pkt_store HX.out HPZ.out HPZ.out.size)
    | ((with_reducible refine arm_store 6 24 68 (.pointer (some ⟨w3.heap.size, 0, none⟩)) (.agg Z) _ hst ?_ ?_ ?_); rfl; rfl))
  have hB4 := below_setCells (b := w3.heap.size) (Nat.le_refl _) Z.toList 0 HB.out
  clear hst
  generalize w4.setCells w3.heap.size 0 Z.toList = w5 at *
  have HB5 := Lib.hid (HB3.out.trans (hB4.mono HB3.out.size))
  have hX5 := keep_block hB4 HX3.out
  have hst := box_store (t := 74) (x := D) hX5 HS.out HA.out rfl
  have hbx := Lib.hid (box_whole (cs := D) hX5 rfl)
  have hf := Lib.hid (below_setCells (b := w.heap.size) (Nat.le_refl _) D.toList 0 HB5.out)
  have hb2 := HB0.out w5
  clear hB4 hX5 HB HX HSS HX3
  generalize w3.heap.size = q at *
  go_wp2_with (first | ((with_reducible refine arm_build 29 74 _ #[] _ hb2 ?_ ?_); (first | rfl | simp [Act.eval])) | ((with_reducible refine arm_store 4 29 74 _ _ _ hst ?_ ?_ ?_); rfl; rfl))
  refine bodyPost_ret (res_row_tmp rfl _ _ _ _ _ _ _ rfl hbx.out Tryz.underlying74 rfl HS.out) rfl ?_
  exact ⟨rfl, hf.out⟩
theorem Eng.setPac {w' : World} (h : Eng w a F S now N nx) {nx' : Int} (p : Tur a.A.tg [12] w w') (k : PaAt w' a.pc (F.c 11) nx') : Eng w' a F S now N nx' := by
  obtain ⟨t1, t2, t3⟩ := h.tags
  exact ⟨h.pol.tur p (by intro k h1 h2; simp; omega), h.en.tur p (by rw [t1]; decide), p.keep h.sch (by rw [t2]; decide), k, h.tags⟩
set_option maxRecDepth 100000 in
set_option maxHeartbeats 2000000 in
theorem sched_poll_pen (n s : Int) (x : Array Value) (l : List (Array Value)) (y : Tcl) (h : Eng w a F S now N nx) (h0 : 0 ≤ now) (h1 : now ≤ 4611686018427387903) (hb : nx ≤ now) (hx : PkL x n) (hxs : x[0]? = some (.int .i64 s)) (hn : 1 ≤ n ∧ n ≤ 9216) (hl : S.L[penC F]? = some (x :: l)) (hok : QU.QOk (F.c 9) (F.c 10) S.sh S.ql) (htl : S.tl.length ≤ 129) (hy : S.tl[penC F]? = some y) (hyo : PickOk (F.c 8) y) (hline : S.line = [penC F]) :
    Calls Tryz.prog 23 #[.pointer (some ⟨a.sb, 0, none⟩), .int .i64 now] w fun e w' => e = .returned (.tuple #[.agg (depC s (penC F : Nat) n now (addC now (mulC n (F.c 11)))), .bool true]) ∧ (∃ y', PickOk (F.c 8) y' ∧ Eng w' a F (leftS F { S with tl := S.tl.set (penC F) y' } n l) now N (addC now (mulC n (F.c 11)))) ∧ Tur a.A.tg [3, 4, 5, 12] w w' := by
  have C := Lib.hid (fun w' (p : Below w.heap.size w w') => sched_free (h.below p) h0 h1)
  rw [decide_eq_true hb] at C
  have CN := Lib.hid (fun w' (p : Below w.heap.size w w') => next_pen now n x l y (h.below p).pol hx hn hl hok htl hy hyo hline)
  have HE := Lib.hid h
  have HPK := Lib.hid hx.pk
  have HLN := Lib.hid hx.len
  have HXS := Lib.hid hxs
  have HNW := Lib.hid (And.intro h0 (And.intro h1 hb))
  have HN := Lib.hid hn
  have HLIM := Lib.hid h.lim
  have hz := dep_zero
  have ha := dep_all s (penC F : Nat) n now (addC now (mulC n (F.c 11)))
  have hsz := dep_size
  have hbd := build_dep s (penC F : Nat) n now (addC now (mulC n (F.c 11)))
  have h5 : (depC s (penC F : Nat) n now (addC now (mulC n (F.c 11)))).size = 5 := rfl
  have h50 : (depC 0 0 0 0 0).size = 5 := rfl
  obtain ⟨D, hD⟩ : ∃ D, depC s (penC F : Nat) n now (addC now (mulC n (F.c 11))) = D := ⟨_, rfl⟩
  rw [hD] at ha hbd h5 ⊢
  generalize depC 0 0 0 0 0 = D0 at *
  have HZ := Lib.hid hz
  have HBD := Lib.hid hbd
  have HA := Lib.hid ha
  have HS := Lib.hid (show (Tryz.prog.info? 74).map (·.size) = some D.size by rw [h5]; exact hsz)
  have HD05 := Lib.hid (h50.trans h5.symm)
  clear h hz hbd ha hsz h5 h50 hx hxs hn hl hok htl hy hyo hline hb hD
  obtain ⟨pc, hpc⟩ : ∃ pc, penC F = pc := ⟨_, rfl⟩
  obtain ⟨fin, hfin⟩ : ∃ fin, addC now (mulC n (F.c 11)) = fin := ⟨_, rfl⟩
  have CS : Hid (∀ w' S', Eng w' a F S' now N nx → Calls Tryz.prog 47 #[.pointer (some ⟨a.pc, 0, none⟩), .int .i64 now, .int .i64 n] w' fun e w'' => e = .returned (.tuple #[.int .i64 now, .int .i64 fin, .int .i64 0]) ∧ Eng w'' a F S' now N fin ∧ Tur a.A.tg [12] w' w'') := Lib.hid fun w' S' q => by
    refine (pace_send now n q.pac h0 h1 HN.out HNW.out.2.2).mono ?_
    rintro e w'' ⟨rfl, k1, k2⟩
    rw [hfin] at k1 ⊢
    have t : Tur a.A.tg [12] w' w'' := Tur.of_two k2 (by simp [q.tags.2.2]) (by simp [q.tags.2.2])
    exact ⟨rfl, q.setPac t k1, t⟩
  rw [hpc] at CN HBD ⊢
  rw [hfin] at HBD ⊢
  clear hfin hpc h0 h1
  go_enter Tryz.func23, Tryz.ntmps23
  go_upto_region 1 with ((with_reducible refine arm_alloc 4 74 D0 5 HZ.out ?_); intro w1 HB HX HSS)
  have hzt : a.A.tg w.heap.size = 0 := HE.out.pol.ok.hi _ HLIM.out
  go_wp2_with fail
  refine (C.out _ HB.out).mono ?_
  rintro e w2 ⟨rfl, rfl⟩
  obtain ⟨c0, c1⟩ := (HE.out.below HB.out).sc
  go_wp2_with fail
  refine (CN.out _ HB.out).mono ?_
  rintro e w3 ⟨rfl, ⟨y', hk, hP⟩, hT⟩
  have HK := Lib.hid hk
  have HE3 := Lib.hid ((HE.out.below HB.out).setPol hT (by decide) hP rfl (fun _ _ => rfl))
  have HX3 := Lib.hid (hT.keep HX.out (by rw [hzt]; decide))
  have T3 : Hid (Tur a.A.tg [3, 4, 5, 12] w w3) := Lib.hid ((Tur.of_below HB.out).trans (hT.sub (by simp)))
  clear hk hP hT HB HX HSS c0 c1 C CN
  go_upto_region 4 with (first
    | ((with_reducible refine arm_alloc 6 68 PZ 46 pz_zero ?_); intro w4 HB HX HSS; have hst := pkt_store HX.out HPK.out)
    | ((with_reducible refine arm_store 6 24 68 (.pointer (some ⟨w3.heap.size, 0, none⟩)) (.agg x) _ hst ?_ ?_ ?_); rfl; rfl))
  have hX4 := box_whole HX.out (cs := x) HPK.out.size
  have hB4 := below_setCells (b := w3.heap.size) (Nat.le_refl _) x.toList 0 HB.out
  clear hst
  have hzv : a.A.tg w3.heap.size = 0 := HE3.out.pol.ok.hi _ HE3.out.pol.lim
  generalize w4.setCells w3.heap.size 0 x.toList = w5 at *
  have HE5 := Lib.hid (HE3.out.below hB4)
  have HX5 := Lib.hid (keep_block hB4 HX3.out)
  have HV5 := Lib.hid hX4
  have T5 : Hid (Tur a.A.tg [3, 4, 5, 12] w w5) := Lib.hid (T3.out.below hB4)
  clear hB4 hX4 HB HX HSS HX3 HE3 T3
  generalize w3.heap.size = vb at *
  have HL5 : Hid (∀ w' ks, Tur a.A.tg ks w5 w' → 11 ∉ ks → 0 ∉ ks → w'.cell? ⟨a.sb, 1, none⟩ = some (.pointer (some ⟨a.pc, 0, none⟩)) ∧ w'.cell? ⟨vb, 45, none⟩ = some (.int .i64 n)) := Lib.hid fun w' ks q h1 h0 =>
    ⟨cells_of_row (q.keep HE5.out.sch (by rw [HE5.out.tags.2.1]; exact h1)) 1 _ rfl, cells_of_row (q.keep HV5.out (by rw [hzv]; exact h0)) 45 _ HLN.out⟩
  go_wp2_with fail
  refine wp_region_held_drew (S := Tur a.A.tg [12] w5) (by kernel_rfl) (Tur.refl _ _ _).drew (fun hHeld => ?_)
  refine wpAnyH_take (i := 0) (oi := ⟨some 31, _, _, _, _, _⟩) (v := ?_) rfl (by kernel_rfl) (by kernel_rfl) (by kernel_rfl) (fun _ _ _ h => h) (Or.inl ⟨by rfl, ?_⟩) hHeld ?_
  rotate_left
  · intro w hSw
    go_simp
    try with_reducible rfl
  try simp only [Act.put, List.setIfInBounds_toArray, List.set_cons_zero, List.set_cons_succ]
  refine wpAnyH_take (i := 1) (oi := ⟨some 32, _, _, _, _, _⟩) (v := ?_) rfl (by kernel_rfl) (by kernel_rfl) (by kernel_rfl) (fun _ _ _ h => h) (Or.inl ⟨by rfl, ?_⟩) hHeld ?_
  rotate_left
  · intro w hSw
    go_simp
    try with_reducible rfl
  try simp only [Act.put, List.setIfInBounds_toArray, List.set_cons_zero, List.set_cons_succ]
  refine wpAnyH_take (i := 2) (oi := ⟨some 33, _, _, _, _, _⟩) (v := ?_) rfl (by kernel_rfl) (by kernel_rfl) (by kernel_rfl) (fun _ _ _ h => h) (Or.inl ⟨by rfl, ?_⟩) hHeld ?_
  rotate_left
  · intro w hSw
    go_simp
    try with_reducible rfl
  try simp only [Act.put, List.setIfInBounds_toArray, List.set_cons_zero, List.set_cons_succ]
  refine wpAnyH_take (i := 3) (oi := ⟨some 34, _, _, _, _, _⟩) (v := ?_) rfl (by kernel_rfl) (by kernel_rfl) (by kernel_rfl) (fun _ _ _ h => h) (Or.inl ⟨by rfl, ?_⟩) hHeld ?_
  rotate_left
  · intro w hSw
    obtain ⟨k0, k1⟩ := HL5.out w _ hSw (by decide) (by decide)
    go_simp
    try with_reducible rfl
  try simp only [Act.put, List.setIfInBounds_toArray, List.set_cons_zero, List.set_cons_succ]
  refine wpAnyH_take (i := 4) (oi := ⟨some 35, _, _, _, _, _⟩) (v := ?_) rfl (by kernel_rfl) (by kernel_rfl) (by kernel_rfl) (fun _ _ _ h => h) (Or.inl ⟨by rfl, ?_⟩) hHeld ?_
  rotate_left
  · intro w hSw
    go_simp
    try with_reducible rfl
  try simp only [Act.put, List.setIfInBounds_toArray, List.set_cons_zero, List.set_cons_succ]
  refine wpAnyH_take (i := 5) (oi := ⟨some 36, _, _, _, _, _⟩) (v := ?_) rfl (by kernel_rfl) (by kernel_rfl) (by kernel_rfl) (fun _ _ _ h => h) (Or.inl ⟨by rfl, ?_⟩) hHeld ?_
  rotate_left
  · intro w hSw
    go_simp
    try with_reducible rfl
  try simp only [Act.put, List.setIfInBounds_toArray, List.set_cons_zero, List.set_cons_succ]
  refine wpAnyH_take (i := 6) (oi := ⟨some 37, _, _, _, _, _⟩) (v := ?_) rfl (by kernel_rfl) (by kernel_rfl) (by kernel_rfl) (fun _ _ _ h => h) (Or.inl ⟨by rfl, ?_⟩) hHeld ?_
  rotate_left
  · intro w hSw
    obtain ⟨k0, k1⟩ := HL5.out w _ hSw (by decide) (by decide)
    go_simp
    try with_reducible rfl
  try simp only [Act.put, List.setIfInBounds_toArray, List.set_cons_zero, List.set_cons_succ]
  refine wpAnyH_ready (rs := [7]) (by kernel_rfl) (by simp) ?_
  refine AllReadyH.cons rfl (fun K hK => ?_) AllReadyH.nil
  go_simp
  go_wp2_with (go_at_call 47; go_must (refine (CS.out _ _ HE5.out.drew).mono ?_; rintro e w7 ⟨rfl, hE7, hT7⟩))
  refine hK.out _ _ (hHeld.trans hT7) (fun hHeld => ?_)
  clear hK K
  refine wpAnyH_take (i := 8) (oi := ⟨some 30, _, _, _, _, _⟩) (v := ?_) rfl (by kernel_rfl) (by kernel_rfl) (by kernel_rfl) (fun _ _ _ h => h) (Or.inl ⟨by rfl, ?_⟩) hHeld ?_
  rotate_left
  · intro w hSw
    go_simp
    try with_reducible rfl
  try simp only [Act.put, List.setIfInBounds_toArray, List.set_cons_zero, List.set_cons_succ]
  refine wpAnyH_take (i := 9) (oi := ⟨some 39, _, _, _, _, _⟩) (v := ?_) rfl (by kernel_rfl) (by kernel_rfl) (by kernel_rfl) (fun _ _ _ h => h) (Or.inl ⟨by rfl, ?_⟩) hHeld ?_
  rotate_left
  · intro w hSw
    go_simp
    try with_reducible rfl
  try simp only [Act.put, List.setIfInBounds_toArray, List.set_cons_zero, List.set_cons_succ]
  refine wpAnyH_take (i := 10) (oi := ⟨some 40, _, _, _, _, _⟩) (v := ?_) rfl (by kernel_rfl) (by kernel_rfl) (by kernel_rfl) (fun _ _ _ h => h) (Or.inl ⟨by rfl, ?_⟩) hHeld ?_
  rotate_left
  · intro w hSw
    go_simp
    try with_reducible rfl
  try simp only [Act.put, List.setIfInBounds_toArray, List.set_cons_zero, List.set_cons_succ]
  refine wpAnyH_take (i := 11) (oi := ⟨some 41, _, _, _, _, _⟩) (v := ?_) rfl (by kernel_rfl) (by kernel_rfl) (by kernel_rfl) (fun _ _ _ h => h) (Or.inl ⟨by rfl, ?_⟩) hHeld ?_
  rotate_left
  · intro w hSw
    go_simp
    try with_reducible rfl
  try simp only [Act.put, List.setIfInBounds_toArray, List.set_cons_zero, List.set_cons_succ]
  refine wpAnyH_take (i := 12) (oi := ⟨some 9, _, _, _, _, _⟩) (v := ?_) rfl (by kernel_rfl) (by kernel_rfl) (by kernel_rfl) (fun _ _ _ h => h) (Or.inl ⟨by rfl, ?_⟩) hHeld ?_
  rotate_left
  · intro w hSw
    go_simp
    try with_reducible rfl
  try simp only [Act.put, List.setIfInBounds_toArray, List.set_cons_zero, List.set_cons_succ]
  refine wpAnyH_take (i := 13) (oi := ⟨some 10, _, _, _, _, _⟩) (v := ?_) rfl (by kernel_rfl) (by kernel_rfl) (by kernel_rfl) (fun _ _ _ h => h) (Or.inl ⟨by rfl, ?_⟩) hHeld ?_
  rotate_left
  · intro w hSw
    go_simp
    try with_reducible rfl
  try simp only [Act.put, List.setIfInBounds_toArray, List.set_cons_zero, List.set_cons_succ]
  refine wpAnyH_take (i := 14) (oi := ⟨some 11, _, _, _, _, _⟩) (v := ?_) rfl (by kernel_rfl) (by kernel_rfl) (by kernel_rfl) (fun _ _ _ h => h) (Or.inl ⟨by rfl, ?_⟩) hHeld ?_
  rotate_left
  · intro w hSw
    go_simp
    try with_reducible rfl
  try simp only [Act.put, List.setIfInBounds_toArray, List.set_cons_zero, List.set_cons_succ]
  refine wpAnyH_done (by kernel_rfl) ?_ _
  have HE7 := Lib.hid hE7
  have HX7 := Lib.hid (hHeld.keep HX5.out (by rw [hzt]; decide))
  have hV7 := hHeld.keep HV5.out (by rw [hzv]; decide)
  have T7 : Hid (Tur a.A.tg [3, 4, 5, 12] w w7) := Lib.hid (T5.out.trans (hHeld.sub (by simp)))
  have v0 := cells_of_row hV7 0 _ HXS.out
  have v45 := cells_of_row hV7 45 _ HLN.out
  have hst := box_store (t := 74) (x := D) HX7.out HS.out HA.out HD05.out
  have hbx := Lib.hid (box_whole (cs := D) HX7.out HD05.out.symm)
  have hb2 := HBD.out w7
  have FE := Lib.hid (And.intro (HE7.out.fresh hzt D.toList 0) (T7.out.fresh (Nat.le_refl _) D.toList 0))
  clear hHeld hE7 hT7 hV7 HL5 HE5 HX5 HV5 T5 CS
  go_wp2_with (first | ((with_reducible refine arm_build 49 74 _ #[(0, .int .i64 s), (1, .int .i64 (pc : Nat)), (2, .int .i64 n), (3, .int .i64 now), (4, .int .i64 fin)] _ hb2 ?_ ?_); (first | rfl | simp [Act.eval])) | ((with_reducible refine arm_store 4 49 74 _ _ _ hst ?_ ?_ ?_); rfl; rfl))
  refine bodyPost_ret (res_row_tmp rfl _ _ _ _ _ _ _ rfl hbx.out Tryz.underlying74 rfl HS.out) rfl ?_
  exact ⟨rfl, ⟨y', HK.out, FE.out.1⟩, FE.out.2⟩
end
end Go.Proofs.YtpanmfdbdgecaaaGreat.C

namespace Go.Proofs.YtpanmfdbdgecaaaGreat.C
open Go.RowKit
set_option linter.unusedVariables false
section
variable {w : World} {a : EAd} {F : PCf} {S : PSt} {now nx : Int} {N : Nat → Int}
theorem eng_add4 (h : Eng w a F S now N nx) : Calls Tryz.prog 29 #[.pointer (some ⟨a.eb, 3, none⟩), .int .i64 4, .int .i64 1] w fun e w' => e = .returned (.tuple #[]) ∧ Eng w' a F S now (adN N 4 1) nx ∧ Tur a.A.tg [10] w w' := eng_add 4 1 h (by decide)
theorem eng_add7 (n : Int) (h : Eng w a F S now N nx) : Calls Tryz.prog 29 #[.pointer (some ⟨a.eb, 3, none⟩), .int .i64 7, .int .i64 n] w fun e w' => e = .returned (.tuple #[]) ∧ Eng w' a F S now (adN N 7 n) nx ∧ Tur a.A.tg [10] w w' := eng_add 7 n h (by decide)
set_option maxRecDepth 100000 in
set_option maxHeartbeats 4000000 in
theorem eng_poll (R : PSt → Int → Prop) (h : Eng w a F S now N nx)
    (hp : ∀ w', Eng w' a F S now N nx → Calls Tryz.prog 23 #[.pointer (some ⟨a.sb, 0, none⟩), .int .i64 now] w' fun e w'' => ∃ s c n f t ok, e = .returned (.tuple #[.agg (depC s c n f t), .bool ok]) ∧ ∃ S' nx', Eng w'' a F S' now N nx' ∧ R S' nx' ∧ Tur a.A.tg [3, 4, 5, 12] w' w'') :
    Calls Tryz.prog 25 #[.pointer (some ⟨a.eb, 0, none⟩)] w fun e w' => (∃ r, e = .returned r) ∧ ∃ S' N' nx', Eng w' a F S' now N' nx' ∧ R S' nx' ∧ Tur a.A.tg [3, 4, 5, 10, 12] w w' := by
  have HE := Lib.hid h
  have HP := Lib.hid hp
  have HLIM := Lib.hid h.lim
  have CA := Lib.hid (fun w' (q : Eng w' a F S now N nx) => eng_ahead q)
  have hz := dep_zero
  have h50 : (depC 0 0 0 0 0).size = 5 := rfl
  generalize depC 0 0 0 0 0 = D0 at *
  have HZ := Lib.hid hz
  have HD0 := Lib.hid h50
  clear h hp hz h50
  refine calls_hide fun Q HQ => ?_
  go_enter Tryz.func25, Tryz.ntmps25
  go_upto_region 1 with ((with_reducible refine arm_alloc 2 74 D0 5 HZ.out ?_); intro w1 HB HX HSS)
  have hzt : a.A.tg w.heap.size = 0 := HE.out.pol.ok.hi _ HLIM.out
  have HE1 := Lib.hid (HE.out.below HB.out)
  have T1 : Hid (Tur a.A.tg [3, 4, 5, 10, 12] w w1) := Lib.hid (Tur.of_below HB.out)
  have HX1 := Lib.hid HX.out
  clear HB HX HSS
  go_wp2_with fail
  refine (CA.out _ HE1.out).mono ?_
  rintro e w2 ⟨rfl, rfl⟩
  have HL2 : Hid (∀ w' ks, Tur a.A.tg ks w2 w' → 10 ∉ ks → w'.cell? ⟨a.eb, 0, none⟩ = some (.pointer (some ⟨a.sb, 0, none⟩)) ∧ w'.cell? ⟨a.eb, 2, none⟩ = some (.int .i64 now)) := Lib.hid fun w' ks q h1 => by
    have he := (HE1.out.en.tur q (by rw [HE1.out.tags.1]; exact h1)).cells
    exact ⟨he.1, he.2.2.1⟩
  go_wp2_with fail
  refine wp_region_held_drew (S := Tur a.A.tg [3, 4, 5, 12] w2) (by kernel_rfl) (Tur.refl _ _ _).drew (fun hHeld => ?_)
  refine wpAnyH_take (i := 0) (oi := ⟨some 12, _, _, _, _, _⟩) (v := ?_) rfl (by kernel_rfl) (by kernel_rfl) (by kernel_rfl) (fun _ _ _ h => h) (Or.inl ⟨by rfl, ?_⟩) hHeld ?_
  rotate_left
  · intro w hSw
    go_simp
    try with_reducible rfl
  try simp only [Act.put, List.setIfInBounds_toArray, List.set_cons_zero, List.set_cons_succ]
  refine wpAnyH_take (i := 1) (oi := ⟨some 13, _, _, _, _, _⟩) (v := ?_) rfl (by kernel_rfl) (by kernel_rfl) (by kernel_rfl) (fun _ _ _ h => h) (Or.inl ⟨by rfl, ?_⟩) hHeld ?_
  rotate_left
  · intro w hSw
    go_simp
    try with_reducible rfl
  try simp only [Act.put, List.setIfInBounds_toArray, List.set_cons_zero, List.set_cons_succ]
  refine wpAnyH_take (i := 2) (oi := ⟨some 14, _, _, _, _, _⟩) (v := ?_) rfl (by kernel_rfl) (by kernel_rfl) (by kernel_rfl) (fun _ _ _ h => h) (Or.inl ⟨by rfl, ?_⟩) hHeld ?_
  rotate_left
  · intro w hSw
    go_simp
    try with_reducible rfl
  try simp only [Act.put, List.setIfInBounds_toArray, List.set_cons_zero, List.set_cons_succ]
  refine wpAnyH_take (i := 3) (oi := ⟨some 15, _, _, _, _, _⟩) (v := ?_) rfl (by kernel_rfl) (by kernel_rfl) (by kernel_rfl) (fun _ _ _ h => h) (Or.inl ⟨by rfl, ?_⟩) hHeld ?_
  rotate_left
  · intro w hSw
    obtain ⟨k0, k1⟩ := HL2.out w _ hSw (by decide)
    go_simp
    try with_reducible rfl
  try simp only [Act.put, List.setIfInBounds_toArray, List.set_cons_zero, List.set_cons_succ]
  refine wpAnyH_take (i := 4) (oi := ⟨some 16, _, _, _, _, _⟩) (v := ?_) rfl (by kernel_rfl) (by kernel_rfl) (by kernel_rfl) (fun _ _ _ h => h) (Or.inl ⟨by rfl, ?_⟩) hHeld ?_
  rotate_left
  · intro w hSw
    go_simp
    try with_reducible rfl
  try simp only [Act.put, List.setIfInBounds_toArray, List.set_cons_zero, List.set_cons_succ]
  refine wpAnyH_take (i := 5) (oi := ⟨some 17, _, _, _, _, _⟩) (v := ?_) rfl (by kernel_rfl) (by kernel_rfl) (by kernel_rfl) (fun _ _ _ h => h) (Or.inl ⟨by rfl, ?_⟩) hHeld ?_
  rotate_left
  · intro w hSw
    go_simp
    try with_reducible rfl
  try simp only [Act.put, List.setIfInBounds_toArray, List.set_cons_zero, List.set_cons_succ]
  refine wpAnyH_take (i := 6) (oi := ⟨some 18, _, _, _, _, _⟩) (v := ?_) rfl (by kernel_rfl) (by kernel_rfl) (by kernel_rfl) (fun _ _ _ h => h) (Or.inl ⟨by rfl, ?_⟩) hHeld ?_
  rotate_left
  · intro w hSw
    go_simp
    try with_reducible rfl
  try simp only [Act.put, List.setIfInBounds_toArray, List.set_cons_zero, List.set_cons_succ]
  refine wpAnyH_take (i := 7) (oi := ⟨some 19, _, _, _, _, _⟩) (v := ?_) rfl (by kernel_rfl) (by kernel_rfl) (by kernel_rfl) (fun _ _ _ h => h) (Or.inl ⟨by rfl, ?_⟩) hHeld ?_
  rotate_left
  · intro w hSw
    obtain ⟨k0, k1⟩ := HL2.out w _ hSw (by decide)
    go_simp
    try with_reducible rfl
  try simp only [Act.put, List.setIfInBounds_toArray, List.set_cons_zero, List.set_cons_succ]
  refine wpAnyH_ready (rs := [8, 12]) (by kernel_rfl) (by simp) ?_
  refine AllReadyH.cons rfl (fun K hK => ?ordA) (AllReadyH.cons rfl (fun K hK => ?ordB) AllReadyH.nil)
  case' ordA =>
    go_simp
    go_wp2_with (go_at_call 23; go_must (refine (HP.out _ HE1.out.drew).mono ?_; rintro e w8 ⟨s, c, n, f, t, ok, rfl, S', nx', hE8, hR8, hT8⟩))
    refine hK.out _ _ (hHeld.trans hT8) (fun hHeld => ?_)
    clear hK K
    refine wpAnyH_take (i := 9) (oi := ⟨some 11, _, _, _, _, _⟩) (v := ?_) rfl (by kernel_rfl) (by kernel_rfl) (by kernel_rfl) (fun _ _ _ h => h) (Or.inl ⟨by rfl, ?_⟩) hHeld ?_
    rotate_left
    · intro w hSw
      go_simp
      try with_reducible rfl
    try simp only [Act.put, List.setIfInBounds_toArray, List.set_cons_zero, List.set_cons_succ]
    refine wpAnyH_take (i := 10) (oi := ⟨some 21, _, _, _, _, _⟩) (v := ?_) rfl (by kernel_rfl) (by kernel_rfl) (by kernel_rfl) (fun _ _ _ h => h) (Or.inl ⟨by rfl, ?_⟩) hHeld ?_
    rotate_left
    · intro w hSw
      go_simp
      try with_reducible rfl
    try simp only [Act.put, List.setIfInBounds_toArray, List.set_cons_zero, List.set_cons_succ]
    refine wpAnyH_take (i := 11) (oi := ⟨some 22, _, _, _, _, _⟩) (v := ?_) rfl (by kernel_rfl) (by kernel_rfl) (by kernel_rfl) (fun _ _ _ h => h) (Or.inl ⟨by rfl, ?_⟩) hHeld ?_
    rotate_left
    · intro w hSw
      go_simp
      try with_reducible rfl
    try simp only [Act.put, List.setIfInBounds_toArray, List.set_cons_zero, List.set_cons_succ]
    refine wpAnyH_ready (rs := [12]) (by kernel_rfl) (by simp) ?_
    refine AllReadyH.cons rfl (fun K hK => ?_) AllReadyH.nil
    refine step_alloc 4 74 D0 5 HZ.out ?_; intro W12 HB12 HX12 HS12
    refine hK.out _ _ (hHeld.below HB12.out) (fun hHeld => ?_)
    clear hK K
    obtain ⟨vb, hvb⟩ : ∃ z, w8.heap.size = z := ⟨_, rfl⟩
    have hEA := hE8.below HB12.out
    have hv0 : a.A.tg vb = 0 := by rw [← hvb]; exact hE8.pol.ok.hi _ hE8.pol.lim
    have hage : w2.heap.size ≤ vb := by rw [← hvb]; exact hT8.size
    rw [hvb] at HX12
    rw [hvb]
    have hst := box_store (t := 74) (x := depC s c n f t) HX12.out dep_size (dep_all s c n f t) HD0.out
    have HBX := Lib.hid (box_whole (cs := depC s c n f t) HX12.out HD0.out.symm)
    refine wpAnyH_ready (rs := [13]) (by kernel_rfl) (by simp) ?_
    refine AllReadyH.cons rfl (fun K hK => ?_) AllReadyH.nil
    refine step_store 4 21 74 _ _ _ hst rfl rfl ?_
    refine hK.out _ _ (hHeld.fresh hage _ _) (fun hHeld => ?_)
    clear hK K
    refine wpAnyH_take (i := 14) (oi := ⟨some 5, _, _, _, _, _⟩) (v := ?_) rfl (by kernel_rfl) (by kernel_rfl) (by kernel_rfl) (fun _ _ _ h => h) (Or.inl ⟨by rfl, ?_⟩) hHeld ?_
    rotate_left
    · intro w hSw
      go_simp
      try with_reducible rfl
    try simp only [Act.put, List.setIfInBounds_toArray, List.set_cons_zero, List.set_cons_succ]
    refine wpAnyH_done (by kernel_rfl) ?_ _
  case' ordB =>
    refine step_alloc 4 74 D0 5 HZ.out ?_; intro W12 HB12 HX12 HS12
    refine hK.out _ _ (hHeld.below HB12.out) (fun hHeld => ?_)
    clear hK K
    refine wpAnyH_ready (rs := [8]) (by kernel_rfl) (by simp) ?_
    refine AllReadyH.cons rfl (fun K hK => ?_) AllReadyH.nil
    go_simp
    go_wp2_with (go_at_call 23; go_must (refine (HP.out _ (HE1.out.drew.below HB12.out)).mono ?_; rintro e w8 ⟨s, c, n, f, t, ok, rfl, S', nx', hE8, hR8, hT8⟩))
    refine hK.out _ _ (hHeld.trans hT8) (fun hHeld => ?_)
    clear hK K
    refine wpAnyH_take (i := 9) (oi := ⟨some 11, _, _, _, _, _⟩) (v := ?_) rfl (by kernel_rfl) (by kernel_rfl) (by kernel_rfl) (fun _ _ _ h => h) (Or.inl ⟨by rfl, ?_⟩) hHeld ?_
    rotate_left
    · intro w hSw
      go_simp
      try with_reducible rfl
    try simp only [Act.put, List.setIfInBounds_toArray, List.set_cons_zero, List.set_cons_succ]
    refine wpAnyH_take (i := 10) (oi := ⟨some 21, _, _, _, _, _⟩) (v := ?_) rfl (by kernel_rfl) (by kernel_rfl) (by kernel_rfl) (fun _ _ _ h => h) (Or.inl ⟨by rfl, ?_⟩) hHeld ?_
    rotate_left
    · intro w hSw
      go_simp
      try with_reducible rfl
    try simp only [Act.put, List.setIfInBounds_toArray, List.set_cons_zero, List.set_cons_succ]
    refine wpAnyH_take (i := 11) (oi := ⟨some 22, _, _, _, _, _⟩) (v := ?_) rfl (by kernel_rfl) (by kernel_rfl) (by kernel_rfl) (fun _ _ _ h => h) (Or.inl ⟨by rfl, ?_⟩) hHeld ?_
    rotate_left
    · intro w hSw
      go_simp
      try with_reducible rfl
    try simp only [Act.put, List.setIfInBounds_toArray, List.set_cons_zero, List.set_cons_succ]
    obtain ⟨vb, hvb⟩ : ∃ z, w2.heap.size = z := ⟨_, rfl⟩
    rw [show w2.drew.heap.size = w2.heap.size from rfl] at HX12 HS12
    have hEA := hE8
    have hv0 : a.A.tg vb = 0 := by rw [← hvb]; exact HE1.out.pol.ok.hi _ HE1.out.pol.lim
    have hage : w2.heap.size ≤ vb := by rw [← hvb]; exact Nat.le_refl _
    rw [hvb] at HX12
    rw [hvb]
    have hst := box_store (t := 74) (x := depC s c n f t) (hT8.keep HX12.out (by rw [hv0]; decide)) dep_size (dep_all s c n f t) HD0.out
    have HBX := Lib.hid (box_whole (cs := depC s c n f t) (hT8.keep HX12.out (by rw [hv0]; decide)) HD0.out.symm)
    refine wpAnyH_ready (rs := [13]) (by kernel_rfl) (by simp) ?_
    refine AllReadyH.cons rfl (fun K hK => ?_) AllReadyH.nil
    refine step_store 4 21 74 _ _ _ hst rfl rfl ?_
    refine hK.out _ _ (hHeld.fresh hage _ _) (fun hHeld => ?_)
    clear hK K
    refine wpAnyH_take (i := 14) (oi := ⟨some 5, _, _, _, _, _⟩) (v := ?_) rfl (by kernel_rfl) (by kernel_rfl) (by kernel_rfl) (fun _ _ _ h => h) (Or.inl ⟨by rfl, ?_⟩) hHeld ?_
    rotate_left
    · intro w hSw
      go_simp
      try with_reducible rfl
    try simp only [Act.put, List.setIfInBounds_toArray, List.set_cons_zero, List.set_cons_succ]
    refine wpAnyH_done (by kernel_rfl) ?_ _
  all_goals
    try simp only [Act.put, List.setIfInBounds_toArray, List.set_cons_zero, List.set_cons_succ]
    have HE9 := Lib.hid (hEA.fresh (x := vb) hv0 (depC s c n f t).toList 0)
    have V9 := HBX
    have RB9 := Lib.hid (hHeld.keep HX1.out (by rw [hzt]; decide))
    have T9 := Lib.hid (T1.out.trans (hHeld.sub (js := [3, 4, 5, 10, 12]) (by simp)))
    have HRR := Lib.hid hR8
    have hda := dep_all s c n f t
    have HDS := Lib.hid (show (Tryz.prog.info? 74).map (·.size) = some (depC s c n f t).size from dep_size)
    have HDL := Lib.hid (show D0.size = (depC s c n f t).size from HD0.out)
    have HD2 := Lib.hid (show (depC s c n f t)[2]? = some (.int .i64 n) from rfl)
    clear hHeld hEA hE8 hT8 hR8 HBX HX12 HB12 HS12 hst HE1 T1 HX1 HL2 HP
    generalize World.setCells _ vb 0 _ = W9 at *
    generalize depC s c n f t = D at *
    have HDA := Lib.hid hda
    clear hda
    cases ok
    · have hld := box_load (t := 74) V9.out _ Tryz.underlying74 rfl HDS.out
      have hst := box_store (t := 74) (x := D) RB9.out HDS.out HDA.out HDL.out
      have hbx := Lib.hid (box_whole (cs := D) RB9.out HDL.out.symm)
      have FE := Lib.hid (And.intro (HE9.out.fresh hzt D.toList 0) (T9.out.fresh (Nat.le_refl _) D.toList 0))
      go_wp2_with (first | ((with_reducible refine arm_load 34 4 74 _ _ hld ?_ ?_); rfl) | ((with_reducible refine arm_store 2 34 74 _ _ _ hst ?_ ?_ ?_); rfl; rfl))
      refine bodyPost_ret (res_row_tmp rfl _ _ _ _ _ _ _ rfl hbx.out Tryz.underlying74 rfl HDS.out) rfl ?_
      exact HQ.out _ _ ⟨⟨_, rfl⟩, S', _, nx', FE.out.1, HRR.out, FE.out.2⟩
    · go_wp2_with fail
      refine (eng_add4 HE9.out).mono ?_
      rintro e W10 ⟨rfl, hE10, hT10⟩
      have HE10 := Lib.hid hE10
      have V10 := Lib.hid (hT10.keep V9.out (by rw [hv0]; decide))
      have RB10 := Lib.hid (hT10.keep RB9.out (by rw [hzt]; decide))
      have T10 := Lib.hid (T9.out.trans (hT10.sub (js := [3, 4, 5, 10, 12]) (by simp)))
      clear hE10 hT10 HE9 V9 RB9 T9
      have HL10 : Hid (∀ w', Tur a.A.tg [10] W10 w' → w'.cell? ⟨vb, 2, none⟩ = some (.int .i64 n)) := Lib.hid fun w' q => cells_of_row (q.keep V10.out (by rw [hv0]; decide)) 2 _ HD2.out
      go_wp2_with fail
      refine wp_region_held_drew (S := Tur a.A.tg [10] W10) (by kernel_rfl) (Tur.refl _ _ _).drew (fun hHeld => ?_)
      refine wpAnyH_take (i := 0) (oi := ⟨some 28, _, _, _, _, _⟩) (v := ?_) rfl (by kernel_rfl) (by kernel_rfl) (by kernel_rfl) (fun _ _ _ h => h) (Or.inl ⟨by rfl, ?_⟩) hHeld ?_
      rotate_left
      · intro w hSw
        go_simp
        try with_reducible rfl
      try simp only [Act.put, List.setIfInBounds_toArray, List.set_cons_zero, List.set_cons_succ]
      refine wpAnyH_take (i := 1) (oi := ⟨some 29, _, _, _, _, _⟩) (v := ?_) rfl (by kernel_rfl) (by kernel_rfl) (by kernel_rfl) (fun _ _ _ h => h) (Or.inl ⟨by rfl, ?_⟩) hHeld ?_
      rotate_left
      · intro w hSw
        go_simp
        try with_reducible rfl
      try simp only [Act.put, List.setIfInBounds_toArray, List.set_cons_zero, List.set_cons_succ]
      refine wpAnyH_take (i := 2) (oi := ⟨some 30, _, _, _, _, _⟩) (v := ?_) rfl (by kernel_rfl) (by kernel_rfl) (by kernel_rfl) (fun _ _ _ h => h) (Or.inl ⟨by rfl, ?_⟩) hHeld ?_
      rotate_left
      · intro w hSw
        go_simp
        try with_reducible rfl
      try simp only [Act.put, List.setIfInBounds_toArray, List.set_cons_zero, List.set_cons_succ]
      refine wpAnyH_take (i := 3) (oi := ⟨some 31, _, _, _, _, _⟩) (v := ?_) rfl (by kernel_rfl) (by kernel_rfl) (by kernel_rfl) (fun _ _ _ h => h) (Or.inl ⟨by rfl, ?_⟩) hHeld ?_
      rotate_left
      · intro w hSw
        go_simp
        try with_reducible rfl
      try simp only [Act.put, List.setIfInBounds_toArray, List.set_cons_zero, List.set_cons_succ]
      refine wpAnyH_take (i := 4) (oi := ⟨some 32, _, _, _, _, _⟩) (v := ?_) rfl (by kernel_rfl) (by kernel_rfl) (by kernel_rfl) (fun _ _ _ h => h) (Or.inl ⟨by rfl, ?_⟩) hHeld ?_
      rotate_left
      · intro w hSw
        obtain k0 := HL10.out w hSw
        go_simp
        try with_reducible rfl
      try simp only [Act.put, List.setIfInBounds_toArray, List.set_cons_zero, List.set_cons_succ]
      refine wpAnyH_ready (rs := [5]) (by kernel_rfl) (by simp) ?_
      refine AllReadyH.cons rfl (fun K hK => ?_) AllReadyH.nil
      go_simp
      go_wp2_with (go_at_call 29; go_must (refine (eng_add7 n HE10.out.drew).mono ?_; rintro e w5 ⟨rfl, h5, t5⟩))
      refine hK.out _ _ (hHeld.trans t5) (fun hHeld => ?_)
      clear hK K
      refine wpAnyH_done (by kernel_rfl) ?_ _
      have HE11 := Lib.hid h5
      have V11 := Lib.hid (hHeld.keep V10.out (by rw [hv0]; decide))
      have RB11 := Lib.hid (hHeld.keep RB10.out (by rw [hzt]; decide))
      have T11 := Lib.hid (T10.out.trans (hHeld.sub (js := [3, 4, 5, 10, 12]) (by simp)))
      clear hHeld h5 t5 HL10 HE10 V10 RB10 T10
      have hld := box_load (t := 74) V11.out _ Tryz.underlying74 rfl HDS.out
      have hst := box_store (t := 74) (x := D) RB11.out HDS.out HDA.out HDL.out
      have hbx := Lib.hid (box_whole (cs := D) RB11.out HDL.out.symm)
      have FE := Lib.hid (And.intro (HE11.out.fresh hzt D.toList 0) (T11.out.fresh (Nat.le_refl _) D.toList 0))
      go_wp2_with (first | ((with_reducible refine arm_load 34 4 74 _ _ hld ?_ ?_); rfl) | ((with_reducible refine arm_store 2 34 74 _ _ _ hst ?_ ?_ ?_); rfl; rfl))
      refine bodyPost_ret (res_row_tmp rfl _ _ _ _ _ _ _ rfl hbx.out Tryz.underlying74 rfl HDS.out) rfl ?_
      exact HQ.out _ _ ⟨⟨_, rfl⟩, S', _, nx', FE.out.1, HRR.out, FE.out.2⟩
end
end Go.Proofs.YtpanmfdbdgecaaaGreat.C
