/- The engine: what it counts, Clock, Boxed, ahead. · The engine: Frame. · The engine: Frame of a frame that arrives. (Printed by frametail.py.) · Plain: the box with nobody, and with one, in it; the window with one slot. · little and awake. · The reference's parts: structs built out of values, and New of the smaller parts. -/
import Derived.Test.YtpanmfdbdgecaaaGreatK15
namespace Go.Proofs.YtpanmfdbdgecaaaGreat.C
open Go.RowKit
set_option linter.unusedVariables false
def adN (N : Nat → Int) (k : Nat) (n : Int) : Nat → Int := upN N k (addC (N k) n)
section
variable {w w' : World} {a : EAd} {F : PCf} {S S' : PSt} {now nx : Int} {N : Nat → Int} {ks : List Nat}
theorem Eng.tur (h : Eng w a F S now N nx) (p : Tur a.A.tg ks w w') (hk : ∀ k, 1 ≤ k → k ≤ 12 → k ∉ ks) : Eng w' a F S now N nx := by
  obtain ⟨t1, t2, t3⟩ := h.tags
  exact ⟨h.pol.tur p (fun k h1 h2 => hk k h1 (by omega)), h.en.tur p (by rw [t1]; exact hk _ (by omega) (by omega)), p.keep h.sch (by rw [t2]; exact hk _ (by omega) (by omega)), h.pac.tur p (by rw [t3]; exact hk _ (by omega) (by omega)), h.tags⟩
theorem Eng.below (h : Eng w a F S now N nx) (p : Below w.heap.size w w') : Eng w' a F S now N nx := h.tur (ks := []) (Tur.of_below p) (by simp)
theorem Eng.drew (h : Eng w a F S now N nx) : Eng w.drew a F S now N nx := h.below (Below.refl _ _).drew
theorem Eng.setEn (h : Eng w a F S now N nx) {now' : Int} {N' : Nat → Int} (p : Tur a.A.tg [10] w w') (k : EnAt w' a.eb a.sb a.A.pb now' N') : Eng w' a F S now' N' nx := by
  obtain ⟨t1, t2, t3⟩ := h.tags
  exact ⟨h.pol.tur p (by intro k h1 h2; simp; omega), k, p.keep h.sch (by rw [t2]; decide), h.pac.tur p (by rw [t3]; decide), h.tags⟩
/-- The police has gone on. -/
theorem Eng.setPol (h : Eng w a F S now N nx) {A' : PAd} (p : Tur a.A.tg ks w w') (hk : 10 ∉ ks ∧ 11 ∉ ks ∧ 12 ∉ ks) (q : Pol w' A' F S') (hpb : A'.pb = a.A.pb) (ht : ∀ k, k < w.heap.size → A'.tg k = a.A.tg k) : Eng w' { a with A := A' } F S' now N nx := by
  obtain ⟨t1, t2, t3⟩ := h.tags
  have hen := h.en.tur p (by rw [t1]; exact hk.1)
  have l1 : a.eb < w.heap.size := by obtain ⟨E, e1, _⟩ := h.en.ptr; exact (Array.getElem?_eq_some_iff.1 e1).1
  have l2 : a.sb < w.heap.size := (Array.getElem?_eq_some_iff.1 h.sch).1
  have l3 : a.pc < w.heap.size := (Array.getElem?_eq_some_iff.1 h.pac).1
  refine ⟨q, ?_, ?_, h.pac.tur p (by rw [t3]; exact hk.2.2), (ht _ l1).trans t1, (ht _ l2).trans t2, (ht _ l3).trans t3⟩
  · show EnAt w' a.eb a.sb A'.pb now N
    rw [hpb]
    exact hen
  · show w'.heap[a.sb]? = some (.cells #[.pointer (some ⟨A'.pb, 0, none⟩), .pointer (some ⟨a.pc, 0, none⟩)] 132 (0, 0))
    rw [hpb]
    exact p.keep h.sch (by rw [t2]; exact hk.2.1)
theorem Eng.lim (h : Eng w a F S now N nx) : a.A.lim ≤ w.heap.size := h.pol.lim
theorem eng_add (k : Nat) (n : Int) (h : Eng w a F S now N nx) (hk : k < 15) :
    Calls Tryz.prog 29 #[.pointer (some ⟨a.eb, 3, none⟩), .int .i64 (k : Nat), .int .i64 n] w fun e w' => e = .returned (.tuple #[]) ∧ Eng w' a F S now (adN N k n) nx ∧ Tur a.A.tg [10] w w' := by
  refine (stats_add a.eb 3 k (N k) n w hk (h.en.n k (by omega)) (h.en.cells.2.2.2 _) (by omega)).mono ?_
  rintro e w' ⟨rfl, hB⟩
  have p : Tur a.A.tg [10] w (w.setCell ⟨a.eb, 3 + k, none⟩ (.int .i64 (addC (N k) n))) := Tur.of_two (Two.setCell (g := a.eb) (h := a.eb) (x := ⟨a.eb, 3 + k, none⟩) (Two.refl _ _ w) (.inl rfl) _) (by simp [h.tags.1]) (by simp [h.tags.1])
  have q : Tur a.A.tg [10] w w' := p.below (by simpa using hB)
  exact ⟨rfl, (h.setEn p (h.en.setN k (by omega) _)).below (by simpa using hB), q⟩
theorem eng_because (k : Nat) (n : Int) (h : Eng w a F S now N nx) (hk : k < 16) :
    Calls Tryz.prog 31 #[.pointer (some ⟨a.eb, 3, none⟩), .int .i64 (k : Nat), .int .i64 n] w fun e w' => e = .returned (.tuple #[]) ∧ Eng w' a F S now (adN N (15 + k) n) nx ∧ Tur a.A.tg [10] w w' := by
  refine (stats_because a.eb 3 k (N (15 + k)) n w hk (by rw [Nat.add_assoc]; exact h.en.n (15 + k) (by omega)) (h.en.cells.2.2.2 _) (by omega)).mono ?_
  rintro e w' ⟨rfl, hB⟩
  rw [Nat.add_assoc] at hB
  have p : Tur a.A.tg [10] w (w.setCell ⟨a.eb, 3 + (15 + k), none⟩ (.int .i64 (addC (N (15 + k)) n))) := Tur.of_two (Two.setCell (g := a.eb) (h := a.eb) (x := ⟨a.eb, 3 + (15 + k), none⟩) (Two.refl _ _ w) (.inl rfl) _) (by simp [h.tags.1]) (by simp [h.tags.1])
  have q : Tur a.A.tg [10] w w' := p.below (by simpa using hB)
  exact ⟨rfl, (h.setEn p (h.en.setN (15 + k) (by omega) _)).below (by simpa using hB), q⟩
theorem eng_drop (k : Nat) (h : Eng w a F S now N nx) (hk : k < 16) :
    Calls Tryz.prog 32 #[.pointer (some ⟨a.eb, 0, none⟩), .int .i64 (k : Nat)] w fun e w' => e = .returned (.tuple #[]) ∧ Eng w' a F S now (adN (adN N 5 1) (15 + k) 1) nx ∧ Tur a.A.tg [10] w w' := by
  have C1 : Hid (Calls Tryz.prog 29 #[.pointer (some ⟨a.eb, 3, none⟩), .int .i64 5, .int .i64 1] w fun e w' => e = .returned (.tuple #[]) ∧ Eng w' a F S now (adN N 5 1) nx ∧ Tur a.A.tg [10] w w') := Lib.hid (eng_add 5 1 h (by decide))
  have C2 := Lib.hid (fun w' (q : Eng w' a F S now (adN N 5 1) nx) => eng_because k 1 q hk)
  clear h
  go_enter Tryz.func32, Tryz.ntmps32
  go_wp2_with fail
  refine C1.out.mono ?_
  rintro e w1 ⟨rfl, h1, t1⟩
  have H1 := Lib.hid h1
  clear h1 C1
  go_wp2_with fail
  refine (C2.out _ H1.out).mono ?_
  rintro e w2 ⟨rfl, h2, t2⟩
  have H2 := Lib.hid h2
  clear h2 C2
  go_wp2
  go_end0
  exact ⟨rfl, H2.out, t1.trans t2⟩
theorem eng_clock (t : Int) (h : Eng w a F S now N nx) (h0 : now ≤ t) (h1 : t ≤ 4611686018427387903) :
    Calls Tryz.prog 16 #[.pointer (some ⟨a.eb, 0, none⟩), .int .i64 t] w fun e w' => e = .returned (.int .i64 0) ∧ Eng w' a F S t N nx ∧ Tur a.A.tg [10] w w' := by
  refine (engine_clock a.eb now t w h.en.cells.2.2.1 (h.en.cells.2.2.2 _) h0 h1).mono ?_
  rintro e w' ⟨rfl, rfl⟩
  have p : Tur a.A.tg [10] w (w.setCell ⟨a.eb, 2, none⟩ (.int .i64 t)) := Tur.of_two (Two.setCell (g := a.eb) (h := a.eb) (x := ⟨a.eb, 2, none⟩) (Two.refl _ _ w) (.inl rfl) _) (by simp [h.tags.1]) (by simp [h.tags.1])
  exact ⟨rfl, h.setEn p (h.en.setNow t), p⟩
theorem eng_ahead (h : Eng w a F S now N nx) : Calls Tryz.prog 28 #[.pointer (some ⟨a.eb, 0, none⟩)] w fun e w' => e = .returned (.tuple #[]) ∧ w' = w :=
  engine_ahead a.eb a.A.pb a.A.gb _ _ _ w h.en.cells.2.1 h.pol.c20 h.pol.gn
theorem police_boxed {A : PAd} (h : Pol w A F S) (R : Ending → World → Prop) (hall : Calls Tryz.prog 57 #[.pointer (some ⟨A.xb, 0, none⟩), .int .i64 now] w fun e w' => ∃ B n c, e = .returned (.slice B n c) ∧ R (.returned (.slice B n c)) w') :
    Calls Tryz.prog 33 #[.pointer (some ⟨A.pb, 0, none⟩), .int .i64 now] w fun e w' => ∃ B n c, e = .returned (.slice B n c) ∧ R (.returned (.slice B n c)) w' := by
  have c7 := h.c27
  have C := Lib.hid hall
  clear hall h
  refine calls_hide fun Q HQ => ?_
  go_enter Tryz.func33, Tryz.ntmps33
  go_wp2_with fail
  refine C.out.mono ?_
  rintro e w' ⟨B, n, c, rfl, hR⟩
  have HR := Lib.hid hR
  clear hR C
  go_wp2
  exact HQ.out _ _ ⟨B, n, c, rfl, HR.out⟩
set_option maxRecDepth 100000 in
theorem eng_boxed (l' : List Plc) (nn' : Int) (h : Eng w a F S now N nx) (hs : Sweeps a.A.xb a.A.xt a.A.xr (F.c 7).toNat S.xl S.xn (F.c 17) (F.c 18) (F.c 19) now l' nn') (hl : l'.length ≤ 65536) (hm : (tkn l').length ≤ 1) :
    Calls Tryz.prog 14 #[.pointer (some ⟨a.eb, 0, none⟩)] w fun e w' => (∃ B c, e = .returned (.slice B (tkn l').length c)) ∧ Eng w' a F { S with xl := l', xn := nn' } now N nx ∧ Tur a.A.tg [9] w w' := by
  have CB : Hid (∀ w', Tur a.A.tg [] w w' → Calls Tryz.prog 33 #[.pointer (some ⟨a.A.pb, 0, none⟩), .int .i64 now] w' fun e w'' => ∃ B n c, e = .returned (.slice B n c) ∧ n = (tkn l').length ∧ Pol w'' a.A F { S with xl := l', xn := nn' } ∧ Tur a.A.tg [9] w' w'') := Lib.hid fun w' q => by
    have hp := (h.tur q (by simp)).pol
    refine (police_boxed (now := now) hp (fun e w'' => ∃ B n c, e = .returned (.slice B n c) ∧ n = (tkn l').length ∧ Pol w'' a.A F { S with xl := l', xn := nn' } ∧ Tur a.A.tg [9] w' w'') ?_).mono ?_
    · refine (box_all a.A.xb a.A.xt a.A.xr (F.c 7).toNat S.xl l' S.xn nn' (F.c 17) (F.c 18) (F.c 19) now w' hp.bx hs hl hm).mono ?_
      rintro e w'' ⟨⟨B, c, rfl⟩, h1, h2⟩
      obtain ⟨p1, p2⟩ := hp.box h2 h1
      exact ⟨B, _, c, rfl, B, _, c, rfl, rfl, p1, p2⟩
    · rintro e w'' ⟨B, n, c, rfl, B', n', c', h1, h2⟩
      obtain ⟨⟨⟨rfl⟩, rfl, rfl⟩⟩ := h1
      exact ⟨_, _, _, rfl, h2⟩
  have HE := Lib.hid h
  have HL : Hid (∀ w', Tur a.A.tg [9] w w' → w'.cell? ⟨a.eb, 1, none⟩ = some (.pointer (some ⟨a.A.pb, 0, none⟩)) ∧ w'.cell? ⟨a.eb, 2, none⟩ = some (.int .i64 now)) := Lib.hid fun w' q => by
    have := (h.en.tur q (by rw [h.tags.1]; decide)).cells
    exact ⟨this.2.1, this.2.2.1⟩
  clear h hs
  refine calls_hide fun Q HQ => ?_
  go_enter Tryz.func14, Tryz.ntmps14
  go_wp2_with fail
  refine wp_region_held_drew (S := Tur a.A.tg [9] w) (by kernel_rfl) (Tur.refl _ _ _).drew (fun hHeld => ?_)
  refine wpAnyH_take (i := 0) (oi := ⟨some 5, _, _, _, _, _⟩) (v := ?_) rfl (by kernel_rfl) (by kernel_rfl) (by kernel_rfl) (fun _ _ _ h => h) (Or.inl ⟨by rfl, ?_⟩) hHeld ?_
  rotate_left
  · intro w hSw
    go_simp
    try with_reducible rfl
  try simp only [Act.put, List.setIfInBounds_toArray, List.set_cons_zero, List.set_cons_succ]
  refine wpAnyH_take (i := 1) (oi := ⟨some 6, _, _, _, _, _⟩) (v := ?_) rfl (by kernel_rfl) (by kernel_rfl) (by kernel_rfl) (fun _ _ _ h => h) (Or.inl ⟨by rfl, ?_⟩) hHeld ?_
  rotate_left
  · intro w hSw
    go_simp
    try with_reducible rfl
  try simp only [Act.put, List.setIfInBounds_toArray, List.set_cons_zero, List.set_cons_succ]
  refine wpAnyH_take (i := 2) (oi := ⟨some 7, _, _, _, _, _⟩) (v := ?_) rfl (by kernel_rfl) (by kernel_rfl) (by kernel_rfl) (fun _ _ _ h => h) (Or.inl ⟨by rfl, ?_⟩) hHeld ?_
  rotate_left
  · intro w hSw
    go_simp
    try with_reducible rfl
  try simp only [Act.put, List.setIfInBounds_toArray, List.set_cons_zero, List.set_cons_succ]
  refine wpAnyH_take (i := 3) (oi := ⟨some 8, _, _, _, _, _⟩) (v := ?_) rfl (by kernel_rfl) (by kernel_rfl) (by kernel_rfl) (fun _ _ _ h => h) (Or.inl ⟨by rfl, ?_⟩) hHeld ?_
  rotate_left
  · intro w hSw
    obtain ⟨k0, k1⟩ := HL.out w hSw
    go_simp
    try with_reducible rfl
  try simp only [Act.put, List.setIfInBounds_toArray, List.set_cons_zero, List.set_cons_succ]
  refine wpAnyH_take (i := 4) (oi := ⟨some 9, _, _, _, _, _⟩) (v := ?_) rfl (by kernel_rfl) (by kernel_rfl) (by kernel_rfl) (fun _ _ _ h => h) (Or.inl ⟨by rfl, ?_⟩) hHeld ?_
  rotate_left
  · intro w hSw
    go_simp
    try with_reducible rfl
  try simp only [Act.put, List.setIfInBounds_toArray, List.set_cons_zero, List.set_cons_succ]
  refine wpAnyH_take (i := 5) (oi := ⟨some 10, _, _, _, _, _⟩) (v := ?_) rfl (by kernel_rfl) (by kernel_rfl) (by kernel_rfl) (fun _ _ _ h => h) (Or.inl ⟨by rfl, ?_⟩) hHeld ?_
  rotate_left
  · intro w hSw
    go_simp
    try with_reducible rfl
  try simp only [Act.put, List.setIfInBounds_toArray, List.set_cons_zero, List.set_cons_succ]
  refine wpAnyH_take (i := 6) (oi := ⟨some 11, _, _, _, _, _⟩) (v := ?_) rfl (by kernel_rfl) (by kernel_rfl) (by kernel_rfl) (fun _ _ _ h => h) (Or.inl ⟨by rfl, ?_⟩) hHeld ?_
  rotate_left
  · intro w hSw
    go_simp
    try with_reducible rfl
  try simp only [Act.put, List.setIfInBounds_toArray, List.set_cons_zero, List.set_cons_succ]
  refine wpAnyH_take (i := 7) (oi := ⟨some 12, _, _, _, _, _⟩) (v := ?_) rfl (by kernel_rfl) (by kernel_rfl) (by kernel_rfl) (fun _ _ _ h => h) (Or.inl ⟨by rfl, ?_⟩) hHeld ?_
  rotate_left
  · intro w hSw
    obtain ⟨k0, k1⟩ := HL.out w hSw
    go_simp
    try with_reducible rfl
  try simp only [Act.put, List.setIfInBounds_toArray, List.set_cons_zero, List.set_cons_succ]
  refine wpAnyH_ready (rs := [8]) (by kernel_rfl) (by simp) ?_
  refine AllReadyH.cons rfl (fun K hK => ?_) AllReadyH.nil
  go_simp
  go_wp2_with (go_at_call 33; go_must (refine (CB.out _ (Tur.refl _ _ _).drew).mono ?_; rintro e w8 ⟨B, n, c, rfl, hn, hP, hT⟩))
  refine hK.out _ _ (hHeld.trans hT) (fun hHeld => ?_)
  clear hK K
  refine wpAnyH_take (i := 9) (oi := ⟨some 2, _, _, _, _, _⟩) (v := ?_) rfl (by kernel_rfl) (by kernel_rfl) (by kernel_rfl) (fun _ _ _ h => h) (Or.inl ⟨by rfl, ?_⟩) hHeld ?_
  rotate_left
  · intro w hSw
    go_simp
    try with_reducible rfl
  try simp only [Act.put, List.setIfInBounds_toArray, List.set_cons_zero, List.set_cons_succ]
  refine wpAnyH_done (by kernel_rfl) ?_ _
  have HP := Lib.hid (HE.out.setPol hHeld (by decide) hP rfl (fun _ _ => rfl))
  have HT := Lib.hid hHeld
  have HN := Lib.hid hn
  clear hP hT hn hHeld
  go_wp2
  refine HQ.out _ _ ⟨⟨B, c, ?_⟩, HP.out, HT.out⟩
  rw [← HN.out]
  rfl
end
end Go.Proofs.YtpanmfdbdgecaaaGreat.C

namespace Go.Proofs.YtpanmfdbdgecaaaGreat.C
open Go.RowKit
set_option linter.unusedVariables false
theorem pz_size46 : PZ.size = 46 := by kernel_rfl
section
variable {w : World} {a : EAd} {F : PCf} {S : PSt} {now nx : Int} {N : Nat → Int}
set_option maxRecDepth 100000 in
set_option maxHeartbeats 4000000 in
theorem frame_short (dr : Array Value) (h : Eng w a F S now N nx) :
    Calls Tryz.prog 11 #[.pointer (some ⟨a.eb, 0, none⟩), .slice none 0 0, .agg dr] w fun e w' => e = .returned (.agg #[.int .i64 (-1), .int .i64 1, .int .i64 (-1), .int .i64 (-1), .bool false, .bool false]) ∧ Eng w' a F S now (adN (adN (adN N 0 1) 1 1) 16 1) nx ∧ Tur a.A.tg [10] w w' := by
  have CA := Lib.hid (fun w' (q : Eng w' a F S now N nx) => eng_ahead q)
  have C1 : Hid (∀ w', Eng w' a F S now N nx → Calls Tryz.prog 29 #[.pointer (some ⟨a.eb, 3, none⟩), .int .i64 0, .int .i64 1] w' fun e w'' => e = .returned (.tuple #[]) ∧ Eng w'' a F S now (adN N 0 1) nx ∧ Tur a.A.tg [10] w' w'') := Lib.hid fun w' q => eng_add 0 1 q (by decide)
  have C2 : Hid (∀ w', Eng w' a F S now (adN N 0 1) nx → Calls Tryz.prog 29 #[.pointer (some ⟨a.eb, 3, none⟩), .int .i64 1, .int .i64 1] w' fun e w'' => e = .returned (.tuple #[]) ∧ Eng w'' a F S now (adN (adN N 0 1) 1 1) nx ∧ Tur a.A.tg [10] w' w'') := Lib.hid fun w' q => eng_add 1 1 q (by decide)
  have C3 : Hid (∀ w', Eng w' a F S now (adN (adN N 0 1) 1 1) nx → Calls Tryz.prog 31 #[.pointer (some ⟨a.eb, 3, none⟩), .int .i64 1, .int .i64 1] w' fun e w'' => e = .returned (.tuple #[]) ∧ Eng w'' a F S now (adN (adN (adN N 0 1) 1 1) 16 1) nx ∧ Tur a.A.tg [10] w' w'') := Lib.hid fun w' q => eng_because 1 1 q (by decide)
  have CF := Lib.hid (fun w' => frame_nil w')
  obtain ⟨VZ0, hVZ⟩ : ∃ z, VZ = z := ⟨_, rfl⟩
  have hvz := vz_zero
  rw [hVZ] at hvz
  have HVZ := Lib.hid hvz
  have HVE := Lib.hid hVZ
  have hpz := pz_zero
  have hps := pk_size
  have hp46 := pz_size46
  have hpa : PZ.all (·.oneCell') = true := by kernel_rfl
  generalize PZ = Z at *
  have HPZ := Lib.hid hpz
  have HPS := Lib.hid hps
  have HP46 := Lib.hid hp46
  have HPA := Lib.hid hpa
  have HE := Lib.hid h
  have hlim := h.lim
  clear h hvz hVZ hpz hps hp46 hpa
  refine calls_hide fun Q HQ => ?_
  go_enter Tryz.func11, Tryz.ntmps11
  go_upto_region 3 with (first | ((with_reducible refine arm_box 5 2 41 dr ?_ ?_); rfl; intro w1 HB1 HX1 HS1) | ((with_reducible refine arm_alloc 6 35 VZ0 6 HVZ.out ?_); intro w2 HB2 HX2 HS2))
  have HE2 := Lib.hid ((HE.out.below HB1.out).below HB2.out)
  have T2 : Hid (Tur a.A.tg [10] w w2) := Lib.hid ((Tur.of_below HB1.out).below HB2.out)
  have R2 := Lib.hid HX2.out
  have hz : a.A.tg w1.heap.size = 0 := HE.out.pol.ok.hi _ (Nat.le_trans hlim HB1.out.size)
  have hrb : w.heap.size ≤ w1.heap.size := HB1.out.size
  generalize w1.heap.size = rb at *
  clear HB1 HX1 HS1 HB2 HX2 HS2
  go_wp2_with fail
  refine (CA.out _ HE2.out).mono ?_
  rintro e w3 ⟨rfl, rfl⟩
  go_wp2_with fail
  refine (C1.out _ HE2.out).mono ?_
  rintro e w4 ⟨rfl, h4, t4⟩
  have HE4 := Lib.hid h4
  have T4 := Lib.hid (T2.out.trans t4)
  have R4 := Lib.hid (t4.keep R2.out (by rw [hz]; decide))
  clear h4 t4 HE2 T2 R2 C1 CA
  go_wp2_with fail
  refine (CF.out _).mono ?_
  rintro e w5 ⟨rfl, hB⟩
  have HE5 := Lib.hid (HE4.out.below hB)
  have T5 := Lib.hid (T4.out.below hB)
  have R5 := Lib.hid (keep_block hB R4.out)
  clear hB HE4 T4 R4 CF
  go_upto_region 6 with (first | ((with_reducible refine arm_alloc 7 68 Z 46 HPZ.out ?_); intro w6 HB6 HX6 HS6; have hst := box_store (t := 68) (x := Z) HX6.out HPS.out HPA.out rfl; have hf6 := Lib.hid (below_setCells (b := w5.heap.size) (Nat.le_refl _) Z.toList 0 HB6.out)) | ((with_reducible refine arm_store 7 22 68 _ _ _ hst ?_ ?_ ?_); rfl; rfl))
  have HE6 := Lib.hid (HE5.out.below hf6.out)
  have T6 := Lib.hid (T5.out.below hf6.out)
  have R6 := Lib.hid (keep_block hf6.out R5.out)
  clear hst HX6 HB6 HS6 hf6 HE5 T5 R5
  generalize World.setCells w6 _ 0 Z.toList = w7 at *
  go_wp2_with fail
  refine (C2.out _ HE6.out).mono ?_
  rintro e w8 ⟨rfl, h8, t8⟩
  have HE8 := Lib.hid h8
  have T8 := Lib.hid (T6.out.trans t8)
  have R8 := Lib.hid (t8.keep R6.out (by rw [hz]; decide))
  clear h8 t8 HE6 T6 R6 C2
  go_wp2_with fail
  refine (C3.out _ HE8.out).mono ?_
  rintro e w9 ⟨rfl, h9, t9⟩
  have HE9 := Lib.hid h9
  have T9 := Lib.hid (T8.out.trans t9)
  have R9 := Lib.hid (t9.keep R8.out (by rw [hz]; decide))
  clear h9 t9 HE8 T8 R8 C3
  have hvt : (Tryz.prog.info? 35).map (·.size) = some 6 := by kernel_rfl
  have hz6 : VZ0.size = 6 := by rw [← HVE.out]; rfl
  have hst := box_store (t := 35) (x := #[.int .i64 (-1), .int .i64 1, .int .i64 (-1), .int .i64 (-1), .bool false, .bool false]) R9.out hvt (by kernel_rfl) hz6
  have hbox := box_whole (cs := #[.int .i64 (-1), .int .i64 1, .int .i64 (-1), .int .i64 (-1), .bool false, .bool false]) R9.out hz6.symm
  have tj : Tur a.A.tg [0] w9 (World.setCells w9 rb 0 (#[.int .i64 (-1), .int .i64 1, .int .i64 (-1), .int .i64 (-1), .bool false, .bool false] : Array Value).toList) := Tur.of_two (Two.setCells (g := rb) (h := rb) (.inl rfl) _ 0 (Two.refl _ _ _)) (by simp [hz]) (by simp [hz])
  have HEJ := Lib.hid (HE9.out.tur tj (by intro k h1 h2; simp; omega))
  have TJ : Hid (Tur a.A.tg [10] w (World.setCells w9 rb 0 (#[.int .i64 (-1), .int .i64 1, .int .i64 (-1), .int .i64 (-1), .bool false, .bool false] : Array Value).toList)) := Lib.hid (T9.out.trans2 (f := a.A.tg) (g := fun k => if k = rb then 10 else a.A.tg k) (Tur.of_two (Two.setCells (g := rb) (h := rb) (.inl rfl) _ 0 (Two.refl _ _ _)) (by simp) (by simp)) (fun k hk => if_neg (by omega)))
  have HBXX := Lib.hid hbox
  clear hbox tj
  go_wp2_with ((with_reducible refine arm_store 6 36 35 _ _ _ hst ?_ ?_ ?_); rfl; rfl)
  refine bodyPost_ret (results_cell_row rfl _ _ _ _ _ _ _ rfl HBXX.out Tryz.underlying35 rfl hvt) rfl ?_
  exact HQ.out _ _ ⟨rfl, HEJ.out, TJ.out⟩
end
end Go.Proofs.YtpanmfdbdgecaaaGreat.C

namespace Go.Proofs.YtpanmfdbdgecaaaGreat.C
open Go.RowKit
set_option linter.unusedVariables false
theorem FrAt.tur {f : Nat → Nat} {ks : List Nat} {w w' : World} {g o n c : Nat} {B : Nat → Nat} (h : FrAt w g o n c B) (t : Tur f ks w w') (hne : f g ∉ ks) : FrAt w' g o n c B :=
  ⟨fun j hj => by rw [World.cell?_of_block (t.block g h.blk hne)]; exact h.cell j hj, h.byte, h.cap, Nat.lt_of_lt_of_le h.blk t.size⟩
theorem Tur.fresh {f : Nat → Nat} {ks : List Nat} {a b : World} (p : Tur f ks a b) {x : Nat} (hx : a.heap.size ≤ x) (cs : List Value) (o : Nat) : Tur f ks a (b.setCells x o cs) := by
  have q := Two.setCells (g := x) (h := x) (.inl rfl) cs o (Two.refl x x b)
  exact ⟨q.os.trans p.os, q.tape.trans p.tape, q.output.trans p.output, Nat.le_trans p.size q.size, fun k hk hn => (q.block k (Nat.lt_of_lt_of_le hk p.size) (by omega) (by omega)).trans (p.block k hk hn)⟩
theorem Eng.fresh {w : World} {a : EAd} {F : PCf} {S : PSt} {now nx : Int} {N : Nat → Int} (h : Eng w a F S now N nx) {x : Nat} (hx : a.A.tg x = 0) (cs : List Value) (o : Nat) : Eng (w.setCells x o cs) a F S now N nx :=
  h.tur (ks := [0]) (Tur.of_two (Two.setCells (g := x) (h := x) (.inl rfl) cs o (Two.refl x x w)) (by simp [hx]) (by simp [hx])) (by intro k h1 h2; simp; omega)
def frA (N : Nat → Int) (r : Nat) : Nat → Int := if r = 0 then adN N 3 1 else adN (adN N 5 1) (15 + r) 1
def frB (N : Nat → Int) (k : Nat) (b : Bool) : Nat → Int := if b then adN N k 1 else N
/-- What is counted of a frame. -/
def frN (N : Nat → Int) (n : Int) (r : Nat) (bo bf : Bool) : Nat → Int := frB (frB (frA (adN (adN (adN N 0 1) 2 1) 6 n) r) 8 bo) 9 bf
section
variable {w : World} {a : EAd} {F : PCf} {S : PSt} {now nx : Int} {N : Nat → Int}
theorem eng_add0 (h : Eng w a F S now N nx) : Calls Tryz.prog 29 #[.pointer (some ⟨a.eb, 3, none⟩), .int .i64 0, .int .i64 1] w fun e w' => e = .returned (.tuple #[]) ∧ Eng w' a F S now (adN N 0 1) nx ∧ Tur a.A.tg [10] w w' := eng_add 0 1 h (by decide)
theorem eng_add2 (h : Eng w a F S now N nx) : Calls Tryz.prog 29 #[.pointer (some ⟨a.eb, 3, none⟩), .int .i64 2, .int .i64 1] w fun e w' => e = .returned (.tuple #[]) ∧ Eng w' a F S now (adN N 2 1) nx ∧ Tur a.A.tg [10] w w' := eng_add 2 1 h (by decide)
theorem eng_add3 (h : Eng w a F S now N nx) : Calls Tryz.prog 29 #[.pointer (some ⟨a.eb, 3, none⟩), .int .i64 3, .int .i64 1] w fun e w' => e = .returned (.tuple #[]) ∧ Eng w' a F S now (adN N 3 1) nx ∧ Tur a.A.tg [10] w w' := eng_add 3 1 h (by decide)
theorem eng_add8 (h : Eng w a F S now N nx) : Calls Tryz.prog 29 #[.pointer (some ⟨a.eb, 3, none⟩), .int .i64 8, .int .i64 1] w fun e w' => e = .returned (.tuple #[]) ∧ Eng w' a F S now (adN N 8 1) nx ∧ Tur a.A.tg [10] w w' := eng_add 8 1 h (by decide)
theorem eng_add9 (h : Eng w a F S now N nx) : Calls Tryz.prog 29 #[.pointer (some ⟨a.eb, 3, none⟩), .int .i64 9, .int .i64 1] w fun e w' => e = .returned (.tuple #[]) ∧ Eng w' a F S now (adN N 9 1) nx ∧ Tur a.A.tg [10] w w' := eng_add 9 1 h (by decide)
theorem eng_add6 (n : Int) (h : Eng w a F S now N nx) : Calls Tryz.prog 29 #[.pointer (some ⟨a.eb, 3, none⟩), .int .i64 6, .int .i64 n] w fun e w' => e = .returned (.tuple #[]) ∧ Eng w' a F S now (adN N 6 n) nx ∧ Tur a.A.tg [10] w w' := eng_add 6 n h (by decide)
theorem eng_false (k : Nat) (h : Eng w a F S now N nx) : Eng w a F S now (frB N k false) nx := h
set_option maxRecDepth 100000 in
set_option maxHeartbeats 8000000 in
theorem frame_arr (g o n c : Nat) (B : Nat → Nat) (dr : Array Value) (hdr : dr.size = 2) (h : Eng w a F S now N nx) (hf : FrAt w g o n c B) (hg : a.A.tg g = 0) (hu : UdpB B n) (sq cl : Int) (r : Nat) (hr : r < 16) (bo bf : Bool) (R : PAd → PSt → Prop)
    (harr : ∀ w', Pol w' a.A F S → Calls Tryz.prog 20 #[.pointer (some ⟨a.A.pb, 0, none⟩), .agg (pktB B n), .int .i64 now, .agg dr] w' fun e w'' => ∃ A' S', e = .returned (.agg #[.int .i64 sq, .int .i64 (r : Nat), .int .i64 cl, .int .i64 (-1), .bool bo, .bool bf]) ∧ Pol w'' A' F S' ∧ R A' S' ∧ Tur a.A.tg [1, 3, 4, 5, 6, 7, 8, 9] w' w'' ∧ A'.pb = a.A.pb ∧ ∀ k, k < w'.heap.size → A'.tg k = a.A.tg k) :
    Calls Tryz.prog 11 #[.pointer (some ⟨a.eb, 0, none⟩), .slice (some ⟨g, o, none⟩) n c, .agg dr] w fun e w' => ∃ A' S', e = .returned (.agg #[.int .i64 sq, .int .i64 (r : Nat), .int .i64 cl, .int .i64 (-1), .bool bo, .bool bf]) ∧ Eng w' { a with A := A' } F S' now (frN N n r bo bf) nx ∧ R A' S' ∧ Tur a.A.tg [1, 3, 4, 5, 6, 7, 8, 9, 10] w w' ∧ A'.pb = a.A.pb ∧ ∀ k, k < w.heap.size → A'.tg k = a.A.tg k := by
  have CA := Lib.hid (fun w' (q : Eng w' a F S now N nx) => eng_ahead q)
  have CF := Lib.hid (fun w' (q : FrAt w' g o n c B) => frame_udp g o n c B w' q hu)
  have HAR := Lib.hid harr
  have hpk : Pk (pktB B n) := pktX_pk _ _ _ _ _ _ _ _ _ _ _
  have h45 : (pktB B n)[45]? = some (.int .i64 (n : Nat)) := by kernel_rfl
  obtain ⟨x, hx⟩ : ∃ z, pktB B n = z := ⟨_, rfl⟩
  rw [hx] at CF HAR hpk h45
  have HPK := Lib.hid hpk
  have H45 := Lib.hid h45
  have HU := Lib.hid hu
  obtain ⟨VZ0, hVZ⟩ : ∃ z, VZ = z := ⟨_, rfl⟩
  have hvz := vz_zero
  rw [hVZ] at hvz
  have HVZ := Lib.hid hvz
  have HVE := Lib.hid hVZ
  have hpz := pz_zero
  have hps := pk_size
  have hp46 := pz_size46
  generalize PZ = Z at *
  have HPZ := Lib.hid hpz
  have HPS := Lib.hid hps
  have HP46 := Lib.hid hp46
  have HDR := Lib.hid hdr
  have HE := Lib.hid h
  have HF := Lib.hid hf
  have hlim := h.lim
  clear h hvz hVZ hpz hps hp46 hf hu harr hpk h45 hx hdr
  refine calls_hide fun Q HQ => ?_
  go_enter Tryz.func11, Tryz.ntmps11
  go_upto_region 3 with (first | ((with_reducible refine arm_box 5 2 41 dr ?_ ?_); rfl; intro w1 HB1 HX1 HS1) | ((with_reducible refine arm_alloc 6 35 VZ0 6 HVZ.out ?_); intro w2 HB2 HX2 HS2))
  have HE2 := Lib.hid ((HE.out.below HB1.out).below HB2.out)
  have F2 := Lib.hid ((HF.out.below HF.out.blk HB1.out (Nat.le_refl _)).below (Nat.lt_of_lt_of_le HF.out.blk HB1.out.size) HB2.out (Nat.le_refl _))
  have T2 : Hid (Tur a.A.tg [1, 3, 4, 5, 6, 7, 8, 9, 10] w w2) := Lib.hid ((Tur.of_below HB1.out).below HB2.out)
  have R2 := Lib.hid HX2.out
  have D2 := Lib.hid (keep_block HB2.out HX1.out)
  have hz : a.A.tg w1.heap.size = 0 := HE.out.pol.ok.hi _ (Nat.le_trans hlim HB1.out.size)
  have hzd : a.A.tg w.heap.size = 0 := HE.out.pol.ok.hi _ hlim
  have hrb : w.heap.size ≤ w1.heap.size := HB1.out.size
  generalize w1.heap.size = rb at *
  clear HB1 HX1 HS1 HB2 HX2 HS2 HF
  go_wp2_with fail
  refine (CA.out _ HE2.out).mono ?_
  rintro e w3 ⟨rfl, rfl⟩
  go_wp2_with fail
  refine (eng_add0 HE2.out).mono ?_
  rintro e w4 ⟨rfl, h4, t4⟩
  have HE4 := Lib.hid h4
  have F4 := Lib.hid (F2.out.tur t4 (by rw [hg]; decide))
  have T4 := Lib.hid (T2.out.trans (t4.sub (js := [1, 3, 4, 5, 6, 7, 8, 9, 10]) (by simp)))
  have R4 := Lib.hid (t4.keep R2.out (by rw [hz]; decide))
  have D4 := Lib.hid (t4.keep D2.out (by rw [hzd]; decide))
  clear h4 t4 HE2 T2 R2 D2 F2 CA
  go_wp2_with fail
  refine (CF.out _ F4.out).mono ?_
  rintro e w5 ⟨rfl, hB⟩
  have HE5 := Lib.hid (HE4.out.below hB)
  have T5 := Lib.hid (T4.out.below hB)
  have R5 := Lib.hid (keep_block hB R4.out)
  have D5 := Lib.hid (keep_block hB D4.out)
  clear hB HE4 T4 R4 D4 F4 CF
  have hxs : (Tryz.prog.info? 68).map (·.size) = some x.size := by rw [HPK.out.size, ← HP46.out]; exact HPS.out
  go_upto_region 6 with (first | ((with_reducible refine arm_alloc 7 68 Z 46 HPZ.out ?_); intro w6 HB6 HX6 HS6; have hst := box_store (t := 68) (x := x) HX6.out hxs HPK.out.one (HP46.out.trans HPK.out.size.symm); have hbx6 := Lib.hid (box_whole (cs := x) HX6.out (HPK.out.size.trans HP46.out.symm)); have hf6 := Lib.hid (below_setCells (b := w5.heap.size) (Nat.le_refl _) x.toList 0 HB6.out)) | ((with_reducible refine arm_store 7 22 68 _ _ _ hst ?_ ?_ ?_); rfl; rfl))
  have HE6 := Lib.hid (HE5.out.below hf6.out)
  have T6 := Lib.hid (T5.out.below hf6.out)
  have R6 := Lib.hid (keep_block hf6.out R5.out)
  have D6 := Lib.hid (keep_block hf6.out D5.out)
  have X6 := Lib.hid hbx6.out
  have hzx : a.A.tg w5.heap.size = 0 := HE5.out.pol.ok.hi _ HE5.out.lim
  have hxb : w.heap.size ≤ w5.heap.size := T5.out.size
  clear hst HX6 HB6 HS6 hf6 HE5 T5 R5 D5 hbx6
  generalize World.setCells w6 _ 0 x.toList = w7 at *
  generalize w5.heap.size = xb at *
  go_wp2_with fail
  refine (eng_add2 HE6.out).mono ?_
  rintro e w8 ⟨rfl, h8, t8⟩
  have HE8 := Lib.hid h8
  have T8 := Lib.hid (T6.out.trans (t8.sub (js := [1, 3, 4, 5, 6, 7, 8, 9, 10]) (by simp)))
  have R8 := Lib.hid (t8.keep R6.out (by rw [hz]; decide))
  have D8 := Lib.hid (t8.keep D6.out (by rw [hzd]; decide))
  have X8 := Lib.hid (t8.keep X6.out (by rw [hzx]; decide))
  clear h8 t8 HE6 T6 R6 D6 X6
  have HL8 : Hid (∀ w', Tur a.A.tg [10] w8 w' → w'.cell? ⟨xb, 45, none⟩ = some (.int .i64 (n : Nat))) := Lib.hid fun w' q => cells_of_row (q.keep X8.out (by rw [hzx]; decide)) 45 _ H45.out
  go_wp2_with fail
  refine wp_region_held_drew (S := Tur a.A.tg [10] w8) (by kernel_rfl) (Tur.refl _ _ _).drew (fun hHeld => ?_)
  refine wpAnyH_take (i := 0) (oi := ⟨some 41, _, _, _, _, _⟩) (v := ?_) rfl (by kernel_rfl) (by kernel_rfl) (by kernel_rfl) (fun _ _ _ h => h) (Or.inl ⟨by rfl, ?_⟩) hHeld ?_
  rotate_left
  · intro w hSw
    go_simp
    try with_reducible rfl
  try simp only [Act.put, List.setIfInBounds_toArray, List.set_cons_zero, List.set_cons_succ]
  refine wpAnyH_take (i := 1) (oi := ⟨some 42, _, _, _, _, _⟩) (v := ?_) rfl (by kernel_rfl) (by kernel_rfl) (by kernel_rfl) (fun _ _ _ h => h) (Or.inl ⟨by rfl, ?_⟩) hHeld ?_
  rotate_left
  · intro w hSw
    go_simp
    try with_reducible rfl
  try simp only [Act.put, List.setIfInBounds_toArray, List.set_cons_zero, List.set_cons_succ]
  refine wpAnyH_take (i := 2) (oi := ⟨some 43, _, _, _, _, _⟩) (v := ?_) rfl (by kernel_rfl) (by kernel_rfl) (by kernel_rfl) (fun _ _ _ h => h) (Or.inl ⟨by rfl, ?_⟩) hHeld ?_
  rotate_left
  · intro w hSw
    go_simp
    try with_reducible rfl
  try simp only [Act.put, List.setIfInBounds_toArray, List.set_cons_zero, List.set_cons_succ]
  refine wpAnyH_take (i := 3) (oi := ⟨some 44, _, _, _, _, _⟩) (v := ?_) rfl (by kernel_rfl) (by kernel_rfl) (by kernel_rfl) (fun _ _ _ h => h) (Or.inl ⟨by rfl, ?_⟩) hHeld ?_
  rotate_left
  · intro w hSw
    go_simp
    try with_reducible rfl
  try simp only [Act.put, List.setIfInBounds_toArray, List.set_cons_zero, List.set_cons_succ]
  refine wpAnyH_take (i := 4) (oi := ⟨some 45, _, _, _, _, _⟩) (v := ?_) rfl (by kernel_rfl) (by kernel_rfl) (by kernel_rfl) (fun _ _ _ h => h) (Or.inl ⟨by rfl, ?_⟩) hHeld ?_
  rotate_left
  · intro w hSw
    obtain k0 := HL8.out w hSw
    go_simp
    try with_reducible rfl
  try simp only [Act.put, List.setIfInBounds_toArray, List.set_cons_zero, List.set_cons_succ]
  refine wpAnyH_ready (rs := [5]) (by kernel_rfl) (by simp) ?_
  refine AllReadyH.cons rfl (fun K hK => ?_) AllReadyH.nil
  go_simp
  go_wp2_with (go_at_call 29; go_must (refine (eng_add6 n HE8.out.drew).mono ?_; rintro e w5 ⟨rfl, h5, t5⟩))
  refine hK.out _ _ (hHeld.trans t5) (fun hHeld => ?_)
  clear hK K
  refine wpAnyH_done (by kernel_rfl) ?_ _
  have HE9 := Lib.hid h5
  have T9 := Lib.hid (T8.out.trans (hHeld.sub (js := [1, 3, 4, 5, 6, 7, 8, 9, 10]) (by simp)))
  have R9 := Lib.hid (hHeld.keep R8.out (by rw [hz]; decide))
  have D9 := Lib.hid (hHeld.keep D8.out (by rw [hzd]; decide))
  have X9 := Lib.hid (hHeld.keep X8.out (by rw [hzx]; decide))
  clear hHeld h5 t5 HL8 HE8 T8 R8 D8 X8
  generalize w5 = w9 at *
  have hdt : (Tryz.prog.info? 41).map (·.size) = some dr.size := by rw [HDR.out]; kernel_rfl
  have HL9 : Hid (∀ w', Tur a.A.tg [1, 3, 4, 5, 6, 7, 8, 9] w9 w' → (w'.cell? ⟨a.eb, 1, none⟩ = some (.pointer (some ⟨a.A.pb, 0, none⟩)) ∧ w'.cell? ⟨a.eb, 2, none⟩ = some (.int .i64 now)) ∧ (Instr.loadAt 68 (.pointer (some ⟨xb, 0, none⟩))).run Tryz.prog w' = .ok (.agg x) w' ∧ (Instr.loadAt 41 (.pointer (some ⟨w.heap.size, 0, none⟩))).run Tryz.prog w' = .ok (.agg dr) w') := Lib.hid fun w' q => by
    have he := (HE9.out.en.tur q (by rw [HE9.out.tags.1]; decide)).cells
    exact ⟨⟨he.2.1, he.2.2.1⟩, pkt_load (q.keep X9.out (by rw [hzx]; decide)) HPK.out, box_load (t := 41) (q.keep D9.out (by rw [hzd]; decide)) _ Tryz.underlying41 rfl hdt⟩
  have hvt : (Tryz.prog.info? 35).map (·.size) = some 6 := by kernel_rfl
  have hz6 : VZ0.size = 6 := by rw [← HVE.out]; rfl
  go_wp2_with fail
  refine wp_region_held_drew (S := Tur a.A.tg [1, 3, 4, 5, 6, 7, 8, 9] w9) (by kernel_rfl) (Tur.refl _ _ _).drew (fun hHeld => ?_)
  refine wpAnyH_take (i := 0) (oi := ⟨some 47, _, _, _, _, _⟩) (v := ?_) rfl (by kernel_rfl) (by kernel_rfl) (by kernel_rfl) (fun _ _ _ h => h) (Or.inl ⟨by rfl, ?_⟩) hHeld ?_
  rotate_left
  · intro w hSw
    go_simp
    try with_reducible rfl
  try simp only [Act.put, List.setIfInBounds_toArray, List.set_cons_zero, List.set_cons_succ]
  refine wpAnyH_take (i := 1) (oi := ⟨some 48, _, _, _, _, _⟩) (v := ?_) rfl (by kernel_rfl) (by kernel_rfl) (by kernel_rfl) (fun _ _ _ h => h) (Or.inl ⟨by rfl, ?_⟩) hHeld ?_
  rotate_left
  · intro w hSw
    go_simp
    try with_reducible rfl
  try simp only [Act.put, List.setIfInBounds_toArray, List.set_cons_zero, List.set_cons_succ]
  refine wpAnyH_take (i := 2) (oi := ⟨some 49, _, _, _, _, _⟩) (v := ?_) rfl (by kernel_rfl) (by kernel_rfl) (by kernel_rfl) (fun _ _ _ h => h) (Or.inl ⟨by rfl, ?_⟩) hHeld ?_
  rotate_left
  · intro w hSw
    go_simp
    try with_reducible rfl
  try simp only [Act.put, List.setIfInBounds_toArray, List.set_cons_zero, List.set_cons_succ]
  refine wpAnyH_take (i := 3) (oi := ⟨some 50, _, _, _, _, _⟩) (v := ?_) rfl (by kernel_rfl) (by kernel_rfl) (by kernel_rfl) (fun _ _ _ h => h) (Or.inl ⟨by rfl, ?_⟩) hHeld ?_
  rotate_left
  · intro w hSw
    obtain ⟨⟨k0, k1⟩, _⟩ := HL9.out w hSw
    go_simp
    try with_reducible rfl
  try simp only [Act.put, List.setIfInBounds_toArray, List.set_cons_zero, List.set_cons_succ]
  refine wpAnyH_take (i := 4) (oi := ⟨some 51, _, _, _, _, _⟩) (v := .agg x) rfl (by kernel_rfl) (by kernel_rfl) (by kernel_rfl) (fun _ _ _ h => h) (Or.inl ⟨by rfl, fun w hSw => exec_load rfl (HL9.out w hSw).2.1⟩) hHeld ?_
  try simp only [Act.put, List.setIfInBounds_toArray, List.set_cons_zero, List.set_cons_succ]
  refine wpAnyH_take (i := 5) (oi := ⟨some 52, _, _, _, _, _⟩) (v := ?_) rfl (by kernel_rfl) (by kernel_rfl) (by kernel_rfl) (fun _ _ _ h => h) (Or.inl ⟨by rfl, ?_⟩) hHeld ?_
  rotate_left
  · intro w hSw
    go_simp
    try with_reducible rfl
  try simp only [Act.put, List.setIfInBounds_toArray, List.set_cons_zero, List.set_cons_succ]
  refine wpAnyH_take (i := 6) (oi := ⟨some 53, _, _, _, _, _⟩) (v := ?_) rfl (by kernel_rfl) (by kernel_rfl) (by kernel_rfl) (fun _ _ _ h => h) (Or.inl ⟨by rfl, ?_⟩) hHeld ?_
  rotate_left
  · intro w hSw
    go_simp
    try with_reducible rfl
  try simp only [Act.put, List.setIfInBounds_toArray, List.set_cons_zero, List.set_cons_succ]
  refine wpAnyH_take (i := 7) (oi := ⟨some 54, _, _, _, _, _⟩) (v := ?_) rfl (by kernel_rfl) (by kernel_rfl) (by kernel_rfl) (fun _ _ _ h => h) (Or.inl ⟨by rfl, ?_⟩) hHeld ?_
  rotate_left
  · intro w hSw
    go_simp
    try with_reducible rfl
  try simp only [Act.put, List.setIfInBounds_toArray, List.set_cons_zero, List.set_cons_succ]
  refine wpAnyH_take (i := 8) (oi := ⟨some 55, _, _, _, _, _⟩) (v := ?_) rfl (by kernel_rfl) (by kernel_rfl) (by kernel_rfl) (fun _ _ _ h => h) (Or.inl ⟨by rfl, ?_⟩) hHeld ?_
  rotate_left
  · intro w hSw
    obtain ⟨⟨k0, k1⟩, _⟩ := HL9.out w hSw
    go_simp
    try with_reducible rfl
  try simp only [Act.put, List.setIfInBounds_toArray, List.set_cons_zero, List.set_cons_succ]
  refine wpAnyH_take (i := 9) (oi := ⟨some 56, _, _, _, _, _⟩) (v := .agg dr) rfl (by kernel_rfl) (by kernel_rfl) (by kernel_rfl) (fun _ _ _ h => h) (Or.inl ⟨by rfl, fun w hSw => exec_load rfl (HL9.out w hSw).2.2⟩) hHeld ?_
  try simp only [Act.put, List.setIfInBounds_toArray, List.set_cons_zero, List.set_cons_succ]
  refine wpAnyH_ready (rs := [10, 11]) (by kernel_rfl) (by simp) ?_
  refine AllReadyH.cons rfl (fun K hK => ?ordA) (AllReadyH.cons rfl (fun K hK => ?ordB) AllReadyH.nil)
  case' ordA =>
    go_simp
    go_wp2_with (go_at_call 20; go_must (refine (HAR.out _ HE9.out.drew.pol).mono ?_; rintro e w10 ⟨A', S', rfl, hP, hR, hT, hpb, htg⟩))
    refine hK.out _ _ (hHeld.trans hT) (fun hHeld => ?_)
    clear hK K
    refine wpAnyH_ready (rs := [11]) (by kernel_rfl) (by simp) ?_
    refine AllReadyH.cons rfl (fun K hK => ?_) AllReadyH.nil
    refine step_alloc 9 35 VZ0 6 HVZ.out ?_; intro W11 HB11 HX11 HS11
    refine hK.out _ _ (hHeld.below HB11.out) (fun hHeld => ?_)
    clear hK K
    obtain ⟨vb, hvb⟩ : ∃ z, w10.heap.size = z := ⟨_, rfl⟩
    have hEA := (HE9.out.drew.setPol hT (by decide) hP hpb htg).below HB11.out
    have hv0 : A'.tg vb = 0 := by rw [← hvb]; exact hP.ok.hi _ hP.lim
    have hage : w9.heap.size ≤ vb := by rw [← hvb]; exact Nat.le_trans hT.size (Nat.le_refl _)
    have hlz : rb < w9.drew.heap.size := (Array.getElem?_eq_some_iff.1 R9.out).1
    have hlq : w.heap.size ≤ w9.drew.heap.size := T9.out.size
    rw [hvb] at HX11
    rw [hvb]
    have hst := box_store (t := 35) (x := #[.int .i64 sq, .int .i64 (r : Nat), .int .i64 cl, .int .i64 (-1), .bool bo, .bool bf]) HX11.out hvt (by kernel_rfl) hz6
    have HBX := Lib.hid (box_whole (cs := #[.int .i64 sq, .int .i64 (r : Nat), .int .i64 cl, .int .i64 (-1), .bool bo, .bool bf]) HX11.out hz6.symm)
    refine wpAnyH_ready (rs := [12]) (by kernel_rfl) (by simp) ?_
    refine AllReadyH.cons rfl (fun K hK => ?_) AllReadyH.nil
    refine step_store 9 57 35 _ _ _ hst rfl rfl ?_
    refine hK.out _ _ (hHeld.fresh hage _ _) (fun hHeld => ?_)
    clear hK K
    refine wpAnyH_done (by kernel_rfl) ?_ _
  case' ordB =>
    refine step_alloc 9 35 VZ0 6 HVZ.out ?_; intro W11 HB11 HX11 HS11
    refine hK.out _ _ (hHeld.below HB11.out) (fun hHeld => ?_)
    clear hK K
    refine wpAnyH_ready (rs := [10]) (by kernel_rfl) (by simp) ?_
    refine AllReadyH.cons rfl (fun K hK => ?_) AllReadyH.nil
    go_simp
    go_wp2_with (go_at_call 20; go_must (refine (HAR.out _ (HE9.out.drew.pol.below HB11.out)).mono ?_; rintro e w10 ⟨A', S', rfl, hP, hR, hT, hpb, htg⟩))
    refine hK.out _ _ (hHeld.trans hT) (fun hHeld => ?_)
    clear hK K
    obtain ⟨vb, hvb⟩ : ∃ z, w9.heap.size = z := ⟨_, rfl⟩
    rw [show w9.drew.heap.size = w9.heap.size from rfl] at HX11 HS11
    have hEA := (HE9.out.drew.below HB11.out).setPol hT (by decide) hP hpb htg
    have hvz0 : a.A.tg vb = 0 := by rw [← hvb]; exact HE9.out.pol.ok.hi _ HE9.out.lim
    have hv0 : A'.tg vb = 0 := by rw [htg vb (by rw [← hvb]; have := HS11.out; omega)]; exact hvz0
    have hage : w9.heap.size ≤ vb := by rw [← hvb]; exact Nat.le_refl _
    have hlz : rb < W11.heap.size := Nat.lt_of_lt_of_le (Array.getElem?_eq_some_iff.1 R9.out).1 (by have := HS11.out; omega)
    have hlq : w.heap.size ≤ W11.heap.size := Nat.le_trans T9.out.size (by have := HS11.out; omega)
    rw [hvb] at HX11
    rw [hvb]
    have hst := box_store (t := 35) (x := #[.int .i64 sq, .int .i64 (r : Nat), .int .i64 cl, .int .i64 (-1), .bool bo, .bool bf]) (hT.keep HX11.out (by rw [hvz0]; decide)) hvt (by kernel_rfl) hz6
    have HBX := Lib.hid (box_whole (cs := #[.int .i64 sq, .int .i64 (r : Nat), .int .i64 cl, .int .i64 (-1), .bool bo, .bool bf]) (hT.keep HX11.out (by rw [hvz0]; decide)) hz6.symm)
    refine wpAnyH_ready (rs := [12]) (by kernel_rfl) (by simp) ?_
    refine AllReadyH.cons rfl (fun K hK => ?_) AllReadyH.nil
    refine step_store 9 57 35 _ _ _ hst rfl rfl ?_
    refine hK.out _ _ (hHeld.fresh hage _ _) (fun hHeld => ?_)
    clear hK K
    refine wpAnyH_done (by kernel_rfl) ?_ _
  all_goals
    try simp only [Act.put, List.setIfInBounds_toArray, List.set_cons_zero, List.set_cons_succ]
    have HE12 := Lib.hid (hEA.fresh (x := vb) hv0 (#[.int .i64 sq, .int .i64 (r : Nat), .int .i64 cl, .int .i64 (-1), .bool bo, .bool bf] : Array Value).toList 0)
    have hr0 : A'.tg rb = 0 := by rw [htg rb hlz]; exact hz
    have hag : ∀ k, k < w.heap.size → A'.tg k = a.A.tg k := fun k hk => htg k (Nat.lt_of_lt_of_le hk hlq)
    have V12 := HBX
    have RB12 := Lib.hid (hHeld.keep R9.out (by rw [hz]; decide))
    have T12 := Lib.hid (T9.out.trans (hHeld.sub (js := [1, 3, 4, 5, 6, 7, 8, 9, 10]) (by simp)))
    have HPA := Lib.hid hpb
    have HRR := Lib.hid hR
    clear hHeld hEA hP hT hR htg HBX HX11 HB11 HS11 hst HE9 T9 R9 D9 X9 HL9 HAR
    generalize World.setCells _ vb 0 _ = W12 at *
    have c1 := cells_of_row V12.out 1 _ rfl
    by_cases h0 : r = 0
    case' pos =>
      have h0i : (r : Int) = 0 := by omega
      have HFA : Hid (adN (adN (adN (adN N 0 1) 2 1) 6 n) 3 1 = frA (adN (adN (adN N 0 1) 2 1) 6 n) r) := Lib.hid (if_pos h0).symm
      clear h0
      go_wp2_with fail
      refine (eng_add3 HE12.out).mono ?_
      rintro e W13 ⟨rfl, he, ht⟩
      have HE13 : Hid (Eng W13 { a with A := A' } F S' now (frA (adN (adN (adN N 0 1) 2 1) 6 n) r) nx) := Lib.hid (by rw [← HFA.out]; exact he)
      have V13 := Lib.hid (ht.keep V12.out (by show A'.tg vb ∉ _; rw [hv0]; decide))
      have RB13 := Lib.hid (ht.keep RB12.out (by show A'.tg rb ∉ _; rw [hr0]; decide))
      have T13 := Lib.hid (T12.out.trans2 (ht.sub (js := [1, 3, 4, 5, 6, 7, 8, 9, 10]) (by simp)) hag)
      clear he ht HE12 V12 RB12 T12
    case' neg =>
      have h0i : ¬ (r : Int) = 0 := by omega
      have HFA : Hid (adN (adN (adN (adN (adN N 0 1) 2 1) 6 n) 5 1) (15 + r) 1 = frA (adN (adN (adN N 0 1) 2 1) 6 n) r) := Lib.hid (if_neg h0).symm
      clear h0
      go_wp2_with fail
      refine (eng_drop r HE12.out hr).mono ?_
      rintro e W13 ⟨rfl, he, ht⟩
      have HE13 : Hid (Eng W13 { a with A := A' } F S' now (frA (adN (adN (adN N 0 1) 2 1) 6 n) r) nx) := Lib.hid (by rw [← HFA.out]; exact he)
      have V13 := Lib.hid (ht.keep V12.out (by show A'.tg vb ∉ _; rw [hv0]; decide))
      have RB13 := Lib.hid (ht.keep RB12.out (by show A'.tg rb ∉ _; rw [hr0]; decide))
      have T13 := Lib.hid (T12.out.trans2 (ht.sub (js := [1, 3, 4, 5, 6, 7, 8, 9, 10]) (by simp)) hag)
      clear he ht HE12 V12 RB12 T12
    all_goals
      clear c1 h0i HFA
      have c3 := cells_of_row V13.out 3 _ rfl
      have c4 := cells_of_row V13.out 4 _ rfl
      by_cases hbo : bo = true
      case' neg =>
        have hbf : bo = false := by simpa using hbo
        clear hbo
        rw [hbf] at c4
        go_upto_region 20 with (fail)
        have HE14 : Hid (Eng W13 { a with A := A' } F S' now (frB (frA (adN (adN (adN N 0 1) 2 1) 6 n) r) 8 bo) nx) := Lib.hid (by rw [hbf]; exact HE13.out)
        have V14 := V13
        have RB14 := RB13
        have T14 := T13
        clear HE13 V13 RB13 T13 c3 c4 hbf
        generalize W13 = W14 at *
      case' pos =>
        rw [hbo] at c4
        go_wp2_with fail
        refine (eng_add8 HE13.out).mono ?_
        rintro e W14 ⟨rfl, he, ht⟩
        have HE14 : Hid (Eng W14 { a with A := A' } F S' now (frB (frA (adN (adN (adN N 0 1) 2 1) 6 n) r) 8 bo) nx) := Lib.hid (by rw [hbo]; exact he)
        have V14 := Lib.hid (ht.keep V13.out (by show A'.tg vb ∉ _; rw [hv0]; decide))
        have RB14 := Lib.hid (ht.keep RB13.out (by show A'.tg rb ∉ _; rw [hr0]; decide))
        have T14 := Lib.hid (T13.out.trans2 (ht.sub (js := [1, 3, 4, 5, 6, 7, 8, 9, 10]) (by simp)) hag)
        clear he ht HE13 V13 RB13 T13
        clear c3 c4 hbo
      all_goals
        have c5 := cells_of_row V14.out 5 _ rfl
        by_cases hbb : bf = true
        case' neg =>
          have hbf : bf = false := by simpa using hbb
          clear hbb
          rw [hbf] at c5
          go_upto_region 22 with (fail)
          have HE15 : Hid (Eng W14 { a with A := A' } F S' now (frN N n r bo bf) nx) := Lib.hid (by rw [hbf]; exact HE14.out)
          have V15 := V14
          have RB15 := RB14
          have T15 := T14
          clear HE14 V14 RB14 T14 c5 hbf
          generalize W14 = W15 at *
        case' pos =>
          rw [hbb] at c5
          go_wp2_with fail
          refine (eng_add9 HE14.out).mono ?_
          rintro e W15 ⟨rfl, he, ht⟩
          have HE15 : Hid (Eng W15 { a with A := A' } F S' now (frN N n r bo bf) nx) := Lib.hid (by rw [hbb]; exact he)
          have V15 := Lib.hid (ht.keep V14.out (by show A'.tg vb ∉ _; rw [hv0]; decide))
          have RB15 := Lib.hid (ht.keep RB14.out (by show A'.tg rb ∉ _; rw [hr0]; decide))
          have T15 := Lib.hid (T14.out.trans2 (ht.sub (js := [1, 3, 4, 5, 6, 7, 8, 9, 10]) (by simp)) hag)
          clear he ht HE14 V14 RB14 T14
          clear c5 hbb
        all_goals
          have hld := box_load (t := 35) V15.out _ Tryz.underlying35 rfl hvt
          have hst := box_store (t := 35) (x := #[.int .i64 sq, .int .i64 (r : Nat), .int .i64 cl, .int .i64 (-1), .bool bo, .bool bf]) RB15.out hvt (by kernel_rfl) hz6
          have hbox := Lib.hid (box_whole (cs := #[.int .i64 sq, .int .i64 (r : Nat), .int .i64 cl, .int .i64 (-1), .bool bo, .bool bf]) RB15.out hz6.symm)
          have HEJ := Lib.hid (HE15.out.fresh (x := rb) hr0 (#[.int .i64 sq, .int .i64 (r : Nat), .int .i64 cl, .int .i64 (-1), .bool bo, .bool bf] : Array Value).toList 0)
          have TJ : Hid (Tur a.A.tg [1, 3, 4, 5, 6, 7, 8, 9, 10] w (World.setCells W15 rb 0 (#[.int .i64 sq, .int .i64 (r : Nat), .int .i64 cl, .int .i64 (-1), .bool bo, .bool bf] : Array Value).toList)) := Lib.hid (T15.out.trans2 (f := a.A.tg) (g := fun k => if k = rb then 10 else a.A.tg k) (Tur.of_two (Two.setCells (g := rb) (h := rb) (.inl rfl) _ 0 (Two.refl _ _ _)) (by simp) (by simp)) (fun k hk => if_neg (by omega)))
          go_wp2_with (first | ((with_reducible refine arm_load 86 9 35 _ _ hld ?_ ?_); rfl) | ((with_reducible refine arm_store 6 86 35 _ _ _ hst ?_ ?_ ?_); rfl; rfl))
          refine bodyPost_ret (results_cell_row rfl _ _ _ _ _ _ _ rfl hbox.out Tryz.underlying35 rfl hvt) rfl ?_
          exact HQ.out _ _ ⟨A', S', rfl, HEJ.out, HRR.out, TJ.out, HPA.out, hag⟩
end
end Go.Proofs.YtpanmfdbdgecaaaGreat.C

namespace Go.Proofs.YtpanmfdbdgecaaaGreat.C
open Go.RowKit
set_option linter.unusedVariables false
/-- Nobody is in it. -/
def emp (room : Nat) : List Plc := List.replicate (2 * room) plc0
theorem emp_len (room : Nat) : (emp room).length = 2 * room := by simp [emp]
theorem emp_at {room j : Nat} (h : j < 2 * room) : (emp room)[j]? = some plc0 := by simp [emp, h]
def spot0 (room p0 p1 p2 : Nat) : Nat := (pfH p0 p1 p2 % ((emp room).length : Nat)).toNat % (2 * room)
theorem spot0_lt {room : Nat} (h : 1 ≤ room) (p0 p1 p2 : Nat) : spot0 room p0 p1 p2 < 2 * room := Nat.mod_lt _ (by omega)
theorem at1_emp {room : Nat} (h : 1 ≤ room) (p0 p1 p2 : Nat) : at1 (emp room) p0 p1 p2 = (-1, (spot0 room p0 p1 p2 : Int)) := by
  have hl := emp_len room
  have hlt := spot0_lt h p0 p1 p2
  unfold at1
  obtain ⟨m, hm⟩ : ∃ m, (emp room).length = m + 1 := ⟨(emp room).length - 1, by omega⟩
  generalize hfr : (pfH p0 p1 p2 % ((emp room).length : Nat)).toNat = fr
  have hs : spot0 room p0 p1 p2 = fr % (2 * room) := by rw [← hfr]; rfl
  rw [hm, fnd, Nat.add_zero, hl, emp_at (by rw [← hs]; exact hlt)]
  simp [plc0, hs]
theorem tkn_emp (room : Nat) : tkn (emp room) = [] := by
  unfold tkn emp
  rw [List.filter_eq_nil_iff.2 (fun x hx => by obtain ⟨_, rfl⟩ := List.mem_replicate.1 hx; simp [plc0])]
  rfl
theorem qz_flat : Flat Tryz.prog 65 QZ := by
  have h : QZ = pfx 0 0 0 := by kernel_rfl
  rw [h]
  exact pfx_flat 0 0 0 (by decide) (by decide) (by decide)
theorem emp_flat {room : Nat} : ∀ x ∈ emp room, Flat Tryz.prog 65 x.p := fun x hx => by
  obtain ⟨_, rfl⟩ := List.mem_replicate.1 hx
  exact qz_flat
theorem emp_gets {room p0 p1 p2 : Nat} (h : 1 ≤ room) (h2 : room ≤ 64) (hb : p0 < 256 ∧ p1 < 256 ∧ p2 < 256) : Gets (emp room) p0 p1 p2 0 none false :=
  ⟨emp_flat, hb, by rw [emp_len]; omega, .inl ⟨rfl, by rw [at1_emp h], rfl, rfl⟩⟩
/-- One is in it. -/
def one (room p0 p1 p2 : Nat) (til : Int) (tb : Nat) : List Plc := (emp room).set (spot0 room p0 p1 p2) ⟨1, pfx p0 p1 p2, til, some tb⟩
theorem one_len (room p0 p1 p2 : Nat) (til : Int) (tb : Nat) : (one room p0 p1 p2 til tb).length = 2 * room := by simp [one, emp_len]
theorem one_at {room : Nat} (h : 1 ≤ room) (p0 p1 p2 : Nat) (til : Int) (tb : Nat) : (one room p0 p1 p2 til tb)[spot0 room p0 p1 p2]? = some ⟨1, pfx p0 p1 p2, til, some tb⟩ := by
  rw [one, List.getElem?_set_self (by rw [emp_len]; exact spot0_lt h p0 p1 p2)]
theorem at1_one {room : Nat} (h : 1 ≤ room) (p0 p1 p2 : Nat) (til : Int) (tb : Nat) : (at1 (one room p0 p1 p2 til tb) p0 p1 p2).1 = (spot0 room p0 p1 p2 : Int) := by
  have hl := one_len room p0 p1 p2 til tb
  unfold at1
  obtain ⟨m, hm⟩ : ∃ m, (one room p0 p1 p2 til tb).length = m + 1 := ⟨(one room p0 p1 p2 til tb).length - 1, by omega⟩
  have hfr : (pfH p0 p1 p2 % ((one room p0 p1 p2 til tb).length : Nat)).toNat = (pfH p0 p1 p2 % ((emp room).length : Nat)).toNat := by rw [hl, emp_len]
  rw [hfr, hm, fnd, Nat.add_zero, hl]
  rw [show (pfH p0 p1 p2 % ((emp room).length : Nat)).toNat % (2 * room) = spot0 room p0 p1 p2 from rfl, one_at h]
  simp [eqA_self]
theorem tkn_one {room : Nat} (h : 1 ≤ room) (p0 p1 p2 : Nat) (til : Int) (tb : Nat) : tkn (one room p0 p1 p2 til tb) = [pfx p0 p1 p2] := by
  have hs := spot0_lt h p0 p1 p2
  unfold tkn one emp
  generalize spot0 room p0 p1 p2 = s at *
  obtain ⟨k, hk⟩ : ∃ k, 2 * room = s + 1 + k := ⟨2 * room - (s + 1), by omega⟩
  have e : (List.replicate (2 * room) plc0).set s ⟨1, pfx p0 p1 p2, til, some tb⟩ = List.replicate s plc0 ++ (⟨1, pfx p0 p1 p2, til, some tb⟩ :: List.replicate k plc0) := by
    apply List.ext_getElem?
    intro i
    by_cases hi : i = s
    · subst hi
      rw [List.getElem?_set_self (by simp; omega), List.getElem?_append_right (by simp)]
      simp
    · rw [List.getElem?_set_ne (by omega)]
      by_cases h1 : i < s
      · rw [List.getElem?_append_left (by simp; exact h1), List.getElem?_replicate, List.getElem?_replicate, if_pos (by omega), if_pos h1]
      · rw [List.getElem?_append_right (by simp; omega), List.length_replicate]
        obtain ⟨j, rfl⟩ : ∃ j, i = s + 1 + j := ⟨i - (s + 1), by omega⟩
        rw [show s + 1 + j - s = j + 1 by omega, List.getElem?_cons_succ, List.getElem?_replicate, List.getElem?_replicate]
        by_cases h2 : j < k
        · rw [if_pos (by omega), if_pos h2]
        · rw [if_neg (by omega), if_neg h2]
  have f0 : ∀ n, (List.replicate n plc0).filter (fun x => x.state == 1) = [] := fun n => List.filter_eq_nil_iff.2 (fun x hx => by obtain ⟨_, rfl⟩ := List.mem_replicate.1 hx; simp [plc0])
  rw [e, List.filter_append, f0, List.filter_cons_of_pos (by simp), f0]
  rfl
theorem one_gets {room p0 p1 p2 : Nat} (h : 1 ≤ room) (h2 : room ≤ 64) (hb : p0 < 256 ∧ p1 < 256 ∧ p2 < 256) (til : Int) (tb : Nat) : Gets (one room p0 p1 p2 til tb) p0 p1 p2 til (some ⟨tb, 0, none⟩) true :=
  ⟨fun x hx => by
    rcases List.mem_or_eq_of_mem_set hx with h | rfl
    · exact emp_flat x h
    · exact pfx_flat p0 p1 p2 hb.1 hb.2.1 hb.2.2, hb, by rw [one_len]; omega, .inr ⟨rfl, _, _, at1_one h p0 p1 p2 til tb, one_at h p0 p1 p2 til tb, rfl, rfl⟩⟩
/-- A window that has seen nobody at this time sees one. -/
theorem adds_new (pb b room : Nat) (t n : Int) (p0 p1 p2 : Nat) (hr : 1 ≤ room) (hb : p0 < 256 ∧ p1 < 256 ∧ p2 < 256) (hn : 0 ≤ n ∧ n ≤ 4611686018427387904) : Adds pb b room [] t (pfx p0 p1 p2) n ⟨pfx p0 p1 p2, addC 0 n, 0⟩ [⟨pfx p0 p1 p2, addC 0 n, 0⟩] (addC t n) := fun w h =>
  sketch_add_new pb b room [] t n p0 p1 p2 w h (by simp) (pfx_flat p0 p1 p2 hb.1 hb.2.1 hb.2.2) (by simp) hn (by simp [fndS]) (by simp; omega)
theorem addC_zero {n : Int} (h : 0 ≤ n ∧ n ≤ 4611686018427387904) : addC 0 n = n := by
  unfold addC cnt
  split <;> split <;> omega
end Go.Proofs.YtpanmfdbdgecaaaGreat.C

namespace Go.Proofs.YtpanmfdbdgecaaaGreat.C
open Go.RowKit
set_option linter.unusedVariables false
theorem Tur.lower {f : Nat → Nat} {ks : List Nat} {a b : World} {m : Nat} (t : Tur f ks a b) (h : ∀ k, k < m → f k ∉ ks) (hm : m ≤ a.heap.size) : Below m a b := ⟨t.os, t.tape, t.output, t.size, fun k hk => t.block k (Nat.lt_of_lt_of_le hk hm) (h k hk)⟩
def cfgV (c : Nat → Int) : Array Value := ((List.range 20).map fun i => Value.int .i64 (c i)).toArray
theorem cfgV_ok (c : Nat → Int) : Cfg (cfgV c) c := ⟨by simp [cfgV], fun i hi => by simp [cfgV, List.getElem?_range hi]⟩
def litC : Nat → Int := fun i => [1, 2, 1, 1, 0, 0, 1, 1, 9216, 1000, 0, 2, 1000, 0, 0, 1, 1099511627776, 1, 0, 1].getD i 0
theorem litC_right : RightC litC := ⟨by decide, by decide, by decide, by decide, by decide, by decide, by decide, by decide, by decide, by decide, by decide, by decide, by decide, by decide, by decide, by decide, by decide, by decide, by decide, by decide⟩
theorem build_lit (w : World) : (Instr.build 26 #[(0, .int .i64 1), (1, .int .i64 2), (2, .int .i64 1), (3, .int .i64 1), (6, .int .i64 1), (7, .int .i64 1), (8, .int .i64 9216), (9, .int .i64 1000), (11, .int .i64 2), (12, .int .i64 1000), (15, .int .i64 1), (16, .int .i64 1099511627776), (17, .int .i64 1), (19, .int .i64 1)]).run Tryz.prog w = .ok (.agg (cfgV litC)) w := run_build w 26 _ _ (by kernel_rfl)
def CZ : Array Value := cfgV (fun _ => 0)
theorem cz_zero : (Tryz.prog.info? 26).map (fun i => (i.zero, i.size)) = some (some (.agg CZ), 20) := by kernel_rfl
theorem cfg_all (c : Nat → Int) : (cfgV c).all (·.oneCell') = true := by kernel_rfl
set_option maxRecDepth 100000 in
theorem little_is (w : World) : Calls Tryz.prog 13 #[] w fun e w' => e = .returned (.agg (cfgV litC)) ∧ Below w.heap.size w w' := by
  have hb := build_lit
  have hz := cz_zero
  have hs : (Tryz.prog.info? 26).map (·.size) = some (cfgV litC).size := by rw [(cfgV_ok litC).size]; exact cfg_size
  have ha := cfg_all litC
  have h20 := (cfgV_ok litC).size
  have hc : CZ.size = 20 := (cfgV_ok _).size
  generalize cfgV litC = cv at *
  generalize CZ = Z at *
  have HZ := Lib.hid hz
  have HS := Lib.hid hs
  have HA := Lib.hid ha
  have H2 := Lib.hid (hc.trans h20.symm)
  clear hz hs ha h20 hc
  refine calls_hide fun Q HQ => ?_
  go_enter Tryz.func13, Tryz.ntmps13
  go_upto_region 1 with ((with_reducible refine arm_alloc 0 26 Z 20 HZ.out ?_); intro w1 HB HX HS1)
  have hb1 := hb w1
  clear hb
  have hst := box_store (t := 26) (x := cv) HX.out HS.out HA.out H2.out
  have hbx := Lib.hid (box_whole (cs := cv) HX.out H2.out.symm)
  have hf := Lib.hid (below_setCells (b := w.heap.size) (Nat.le_refl _) cv.toList 0 HB.out)
  go_wp2_with (first | ((with_reducible refine arm_build 1 26 _ #[(0, .int .i64 1), (1, .int .i64 2), (2, .int .i64 1), (3, .int .i64 1), (6, .int .i64 1), (7, .int .i64 1), (8, .int .i64 9216), (9, .int .i64 1000), (11, .int .i64 2), (12, .int .i64 1000), (15, .int .i64 1), (16, .int .i64 1099511627776), (17, .int .i64 1), (19, .int .i64 1)] _ hb1 ?_ ?_); (first | rfl | simp [Act.eval])) | ((with_reducible refine arm_store 0 1 26 _ _ _ hst ?_ ?_ ?_); rfl; rfl))
  refine bodyPost_ret (results_cell_row rfl _ _ _ _ _ _ _ rfl hbx.out Tryz.underlying26 rfl HS.out) rfl ?_
  exact HQ.out _ _ ⟨rfl, hf.out⟩
def KEZ : Array Value := (List.replicate 16 (Value.int .u8 0)).toArray
theorem build_kez (w : World) : (Instr.build 22 #[]).run Tryz.prog w = .ok (.agg KEZ) w := run_build w 22 _ _ (by kernel_rfl)
def DZ : Array Value := #[.int .u64 0, .int .u64 0]
theorem build_dz (w : World) : (Instr.build 41 #[]).run Tryz.prog w = .ok (.agg DZ) w := run_build w 41 _ _ (by kernel_rfl)
set_option maxRecDepth 100000 in
set_option maxHeartbeats 1000000 in
theorem awake_is (w : World) : Calls Tryz.prog 8 #[] w fun e w' => e = .returned (.bool true) ∧ Below w.heap.size w w' := by
  have CL := Lib.hid little_is
  have CN := Lib.hid (fun w' => engine_new (cfgV litC) litC KEZ w' (cfgV_ok _) litC_right rfl)
  have hk := build_kez
  have hd := build_dz
  generalize cfgV litC = cv at *
  obtain ⟨kz, hkez⟩ : ∃ z, KEZ = z := ⟨_, rfl⟩
  obtain ⟨dz, hdz⟩ : ∃ z, DZ = z := ⟨_, rfl⟩
  rw [hkez] at hk CN
  rw [hdz] at hd
  clear hkez hdz
  refine calls_hide fun Q HQ => ?_
  go_enter Tryz.func8, Tryz.ntmps8
  go_wp2_with fail
  refine (CL.out _).mono ?_
  rintro e w1 ⟨rfl, hB1⟩
  have hk1 := hk w1
  have B1 := Lib.hid hB1
  clear hk hB1
  go_wp2_with ((with_reducible refine arm_build 6 22 _ #[] _ hk1 ?_ ?_); (first | rfl | simp [Act.eval]))
  refine (CN.out _).mono ?_
  rintro e w2 ⟨a, G, rfl, h0, hE, htg, hB⟩
  have B2 := Lib.hid (B1.out.trans (hB.mono B1.out.size))
  have HTG := Lib.hid fun k (hk : k < w.heap.size) => htg k (Nat.lt_of_lt_of_le hk B1.out.size)
  have CF := Lib.hid (frame_short dz hE)
  have hd2 := hd w2
  clear hd B1 hB hk1 CL CN htg h0 hE
  go_wp2_with ((with_reducible refine arm_build 11 41 _ #[] _ hd2 ?_ ?_); (first | rfl | simp [Act.eval]))
  refine CF.out.mono ?_
  rintro e w3 ⟨rfl, hE3, hT⟩
  have HB := Lib.hid (B2.out.trans (hT.lower (fun k hk => by rw [HTG.out k hk]; decide) B2.out.size))
  clear hT hE3 hd2 CF B2 HTG
  generalize a.eb = eb at *
  go_wp2_with fail
  exact HQ.out _ _ ⟨rfl, HB.out.alloc HB.out.size _⟩
end Go.Proofs.YtpanmfdbdgecaaaGreat.C

namespace Go.Proofs.YtpanmfdbdgecaaaGreat.C
open Go.RowKit
set_option linter.unusedVariables false
/-- The noughts of a type. -/
noncomputable def zc (t : TypeId) : Array Value := match (Tryz.prog.info? t).map (fun i : TypeInfo => i.zero) with | some (some (.agg z)) => z | _ => #[]
/-- So many cells, each of one value. -/
structure AgT (X : Array Value) (n : Nat) : Prop where
  size : X.size = n
  one : X.all (·.oneCell') = true
theorem splice_mem {L cs : List Value} {o : Nat} {v : Value} (h : v ∈ splice L o cs) : v ∈ L ∨ v ∈ cs := by
  unfold splice at h
  rcases List.mem_append.1 h with h | h
  · rcases List.mem_append.1 h with h | h
    · exact .inl (List.mem_of_mem_take h)
    · exact .inr h
  · exact .inl (List.mem_of_mem_drop h)
theorem lay_ok (places : List (Nat × Nat)) : ∀ (parts : List (Nat × Value)) (Z : List Value), FitsP places Z.length parts → (∀ v ∈ Z, v.oneCell' = true) → (∀ p ∈ parts, ∀ v ∈ p.2.cells.toList, v.oneCell' = true) → (layP places Z parts).length = Z.length ∧ ∀ v ∈ layP places Z parts, v.oneCell' = true
  | [], Z, _, hz, _ => ⟨rfl, hz⟩
  | (i, v) :: r, Z, ⟨⟨p, hp, hs, hl⟩, hr⟩, hz, hpa => by
    have hsl : (splice Z p.1 v.cells.toList).length = Z.length := splice_length (by rw [Array.length_toList, hs]; exact hl)
    have := lay_ok places r (splice Z p.1 v.cells.toList) (by rw [hsl]; exact hr) (fun u hu => by
      rcases splice_mem hu with h | h
      · exact hz u h
      · exact hpa (i, v) (by simp) u h) (fun q hq => hpa q (by simp [hq]))
    simp only [layP, hp, Option.getD_some]
    rw [hsl] at this
    exact this
theorem all_list {X : Array Value} : X.all (·.oneCell') = true ↔ ∀ v ∈ X.toList, v.oneCell' = true := by
  rw [Array.all_eq_true_iff_forall_mem]
  constructor
  · intro h v hv
    exact h v (by simpa using hv)
  · intro h v hv
    exact h v (by simpa using hv)
theorem build_ag {P : Program} {t : TypeId} {fs : Array Field} {places : List (Nat × Nat)} {Z : Array Value} {n : Nat} (hu : P.underlying t = some (.struct fs)) (hz : (P.info? t).map (fun i => (i.zero, i.size)) = some (some (.agg Z), n)) (hZ : AgT Z n)
    (hp : (fs.toList.mapM fun f => (P.info? f.type).map fun i => (f.offset, i.size)) = some places) (parts : Array (Nat × Value)) (hf : FitsP places n parts.toList) (hpa : ∀ p ∈ parts.toList, ∀ v ∈ p.2.cells.toList, v.oneCell' = true) :
    ∃ X, AgT X n ∧ (∀ w, (Instr.build t parts).run P w = .ok (.agg X) w) ∧ X = (layP places Z.toList parts.toList).toArray := by
  have hzz : (P.info? t).map (·.zero) = some (some (.agg Z)) := by
    cases hq : P.info? t with
    | none => simp [hq] at hz
    | some i =>
      simp [hq] at hz
      simp [hz.1]
  have hl := lay_ok places parts.toList Z.toList (by rw [Array.length_toList, hZ.size]; exact hf) (all_list.1 hZ.one) hpa
  refine ⟨_, ⟨?_, ?_⟩, fun w => run_build_lay hu hzz hp parts (by rw [hZ.size]; exact hf) w, rfl⟩
  · rw [List.size_toArray, hl.1, Array.length_toList, hZ.size]
  · rw [all_list]
    exact hl.2
theorem ag_cells {X : Array Value} {n : Nat} (h : AgT X n) : ∀ v ∈ (Value.agg X).cells.toList, v.oneCell' = true := all_list.1 h.one
theorem int_cells (k : IntKind) (n : Int) : ∀ v ∈ (Value.int k n).cells.toList, v.oneCell' = true := by
  intro v hv
  have : v = .int k n := by simpa [Value.cells] using hv
  subst this
  rfl
theorem sl_cells (a : Option Addr) (n c : Nat) : ∀ v ∈ (Value.slice a n c).cells.toList, v.oneCell' = true := by
  intro v hv
  have : v = .slice a n c := by simpa [Value.cells] using hv
  subst this
  rfl
theorem make_any {t e : TypeId} {z : Value} {sz bytes : Nat} (hu : Tryz.prog.underlying t = some (.slice e)) (hi : (Tryz.prog.info? e).map (fun i => (i.zero, i.size, i.bytes)) = some (some z, sz, bytes)) (hb : bytes ≤ 4096) (n : Nat) (hn : n ≤ 65536) :
    ∃ C, ∀ W : World, (Instr.makeSlice t (.int .i64 (n : Int)) (.int .i64 (n : Int))).run Tryz.prog W = .ok (.slice (some ⟨W.heap.size, 0, none⟩) n n) (W.alloc (.cells C e)) := by
  obtain ⟨i0, hi0, hz0, hz1, hz2⟩ := info_parts hi
  have hbn : (bytes : Int) * (n : Int) ≤ 281474976710656 := by
    have h1 := Nat.mul_le_mul hb hn
    have e2 : (bytes : Int) * (n : Int) = ((bytes * n : Nat) : Int) := by simp
    rw [e2]
    omega
  refine ⟨madeCells z.cells (n * i0.size), fun W => ?_⟩
  have hr := run_make (P := Tryz.prog) W t e i0 z hu hi0 hz0 .i64 .i64 n n (by omega) (by omega) (by rw [hz2]; exact hbn) (by omega)
  simpa only [Int.toNat_natCast] using hr
theorem z25 : (Tryz.prog.info? 84).map (fun i => (i.zero, i.size)) = some (some (.agg #[.slice none 0 0, .int .i64 0]), 2) := by kernel_rfl
theorem build25 (a : Option Addr) (n c : Nat) (m : Int) (w : World) : (Instr.build 84 #[(0, .slice a n c), (1, .int .i64 m)]).run Tryz.prog w = .ok (.agg #[.slice a n c, .int .i64 m]) w := run_build w 84 _ _ (by kernel_rfl)
theorem rstore_new (n : Nat) (m : Int) (w : World) (hn : n ≤ 1000) :
    Calls Tryz.prog 175 #[.int .i64 (n : Nat), .int .i64 m] w fun e w' => ∃ X, e = .returned (.agg X) ∧ AgT X 2 ∧ Below w.heap.size w w' := by
  obtain ⟨C, hC⟩ := make_any (t := 82) (e := 71) (z := .slice none 0 0) (sz := 1) (bytes := 24) Tryz.underlying82 (by kernel_rfl) (by omega) n (by omega)
  have HC := Lib.hid hC
  clear hC
  refine calls_hide fun Q HQ => ?_
  go_enter Tryz.func175, Tryz.ntmps175
  go_upto_region 1 with ((with_reducible refine arm_alloc 4 84 _ 2 z25 ?_); intro w1 HB HX HS)
  have hmk := HC.out w1
  have hb2 : Below w1.heap.size w1 (w1.alloc (.cells C 71)) := (Below.refl _ _).alloc (Nat.le_refl _) _
  have HX2 := Lib.hid (keep_block hb2 HX.out)
  have HB2 := Lib.hid (HB.out.trans (hb2.mono HB.out.size))
  generalize hw2 : w1.alloc (.cells C 71) = w2 at *
  clear hw2 hb2
  have hbd := build25 (some ⟨w1.heap.size, 0, none⟩) n n m w2
  have hst := box_store (t := 84) (x := #[.slice (some ⟨w1.heap.size, 0, none⟩) n n, .int .i64 m]) HX2.out (by kernel_rfl) (by kernel_rfl) rfl
  have hbx := Lib.hid (box_whole (cs := #[.slice (some ⟨w1.heap.size, 0, none⟩) n n, .int .i64 m]) HX2.out rfl)
  have hf := Lib.hid (below_setCells (b := w.heap.size) (Nat.le_refl _) (#[.slice (some ⟨w1.heap.size, 0, none⟩) n n, .int .i64 m] : Array Value).toList 0 HB2.out)
  go_wp2_with (first | ((with_reducible refine arm_build 8 84 _ #[(0, .slice (some ⟨w1.heap.size, 0, none⟩) n n), (1, .int .i64 m)] _ hbd ?_ ?_); (first | rfl | (focus (simp [Act.eval]; done)) | simp [Act.eval, Act.put])) | ((with_reducible refine arm_store 4 8 84 _ _ _ hst ?_ ?_ ?_); rfl; rfl))
  refine bodyPost_ret (results_cell_row rfl _ _ _ _ _ _ _ rfl hbx.out Tryz.underlying84 rfl (by kernel_rfl)) rfl ?_
  exact HQ.out _ _ ⟨_, rfl, ⟨rfl, by kernel_rfl⟩, hf.out⟩
theorem z14 : (Tryz.prog.info? 86).map (fun i => (i.zero, i.size)) = some (some (.agg #[.slice none 0 0, .int .i64 0, .int .i64 0]), 3) := by kernel_rfl
theorem build14 (a : Option Addr) (n c : Nat) (m k : Int) (w : World) : (Instr.build 86 #[(0, .slice a n c), (1, .int .i64 m), (2, .int .i64 k)]).run Tryz.prog w = .ok (.agg #[.slice a n c, .int .i64 m, .int .i64 k]) w := run_build w 86 _ _ (by kernel_rfl)
theorem rquota_new (n : Nat) (m k : Int) (w : World) (hn : n ≤ 1000) :
    Calls Tryz.prog 176 #[.int .i64 (n : Nat), .int .i64 m, .int .i64 k] w fun e w' => ∃ X, e = .returned (.agg X) ∧ AgT X 3 ∧ Below w.heap.size w w' := by
  obtain ⟨C, hC⟩ := make_any (t := 69) (e := 2) (z := .int .i64 0) (sz := 1) (bytes := 8) Tryz.underlying69 (by kernel_rfl) (by omega) n (by omega)
  have HC := Lib.hid hC
  clear hC
  refine calls_hide fun Q HQ => ?_
  go_enter Tryz.func176, Tryz.ntmps176
  go_upto_region 1 with ((with_reducible refine arm_alloc 6 86 _ 3 z14 ?_); intro w1 HB HX HS)
  have hmk := HC.out w1
  have hb2 : Below w1.heap.size w1 (w1.alloc (.cells C 2)) := (Below.refl _ _).alloc (Nat.le_refl _) _
  have HX2 := Lib.hid (keep_block hb2 HX.out)
  have HB2 := Lib.hid (HB.out.trans (hb2.mono HB.out.size))
  generalize hw2 : w1.alloc (.cells C 2) = w2 at *
  clear hw2 hb2
  have hbd := build14 (some ⟨w1.heap.size, 0, none⟩) n n m k w2
  have hst := box_store (t := 86) (x := #[.slice (some ⟨w1.heap.size, 0, none⟩) n n, .int .i64 m, .int .i64 k]) HX2.out (by kernel_rfl) (by kernel_rfl) rfl
  have hbx := Lib.hid (box_whole (cs := #[.slice (some ⟨w1.heap.size, 0, none⟩) n n, .int .i64 m, .int .i64 k]) HX2.out rfl)
  have hf := Lib.hid (below_setCells (b := w.heap.size) (Nat.le_refl _) (#[.slice (some ⟨w1.heap.size, 0, none⟩) n n, .int .i64 m, .int .i64 k] : Array Value).toList 0 HB2.out)
  go_wp2_with (first | ((with_reducible refine arm_build 11 86 _ #[(0, .slice (some ⟨w1.heap.size, 0, none⟩) n n), (1, .int .i64 m), (2, .int .i64 k)] _ hbd ?_ ?_); (first | rfl | (focus (simp [Act.eval]; done)) | simp [Act.eval, Act.put])) | ((with_reducible refine arm_store 6 11 86 _ _ _ hst ?_ ?_ ?_); rfl; rfl))
  refine bodyPost_ret (results_cell_row rfl _ _ _ _ _ _ _ rfl hbx.out Tryz.underlying86 rfl (by kernel_rfl)) rfl ?_
  exact HQ.out _ _ ⟨_, rfl, ⟨rfl, by kernel_rfl⟩, hf.out⟩
def wC0 (n a b : Int) : Array Value := #[.slice none 0 0, .int .i64 n, .int .i64 0, .int .i64 a, .int .i64 b, .int .i64 0]
theorem z19 : (Tryz.prog.info? 98).map (fun i => (i.zero, i.size)) = some (some (.agg (wC0 0 0 0)), 6) := by kernel_rfl
theorem build18 (n : Int) (w : World) : (Instr.build 96 #[(1, .int .i64 n)]).run Tryz.prog w = .ok (.agg #[.slice none 0 0, .int .i64 n, .int .i64 0]) w := run_build w 96 _ _ (by kernel_rfl)
theorem build19 (n a b : Int) (w : World) : (Instr.build 98 #[(0, .agg #[.slice none 0 0, .int .i64 n, .int .i64 0]), (1, .int .i64 a), (2, .int .i64 b), (3, .int .i64 0)]).run Tryz.prog w = .ok (.agg (wC0 n a b)) w := run_build w 98 _ _ (by kernel_rfl)
theorem rwindow_new (n a b : Int) (w : World) :
    Calls Tryz.prog 177 #[.int .i64 n, .int .i64 a, .int .i64 b] w fun e w' => ∃ X, e = .returned (.agg X) ∧ AgT X 6 ∧ Below w.heap.size w w' := by
  have HB1 := Lib.hid (build18 n)
  have HB2 := Lib.hid (build19 n a b)
  obtain ⟨K, hK⟩ : ∃ K, (#[.slice none 0 0, .int .i64 n, .int .i64 0] : Array Value) = K := ⟨_, rfl⟩
  rw [hK] at HB1 HB2
  have hx : AgT (wC0 n a b) 6 := ⟨rfl, by kernel_rfl⟩
  obtain ⟨X, hX⟩ : ∃ X, wC0 n a b = X := ⟨_, rfl⟩
  rw [hX] at HB2 hx
  have HXX := Lib.hid hx
  clear hx hX hK
  have hsz : (Tryz.prog.info? 98).map (·.size) = some 6 := by kernel_rfl
  have HSZ := Lib.hid (show (Tryz.prog.info? 98).map (·.size) = some X.size by rw [HXX.out.size]; exact hsz)
  clear hsz
  refine calls_hide fun Q HQ => ?_
  go_enter Tryz.func177, Tryz.ntmps177
  go_upto_region 1 with ((with_reducible refine arm_alloc 6 98 _ 6 z19 ?_); intro w1 HB HX HS)
  have hb1 := HB1.out w1
  have hb2 := HB2.out w1
  have hst := box_store (t := 98) (x := X) HX.out HSZ.out HXX.out.one HXX.out.size.symm
  have hbx := Lib.hid (box_whole (cs := X) HX.out HXX.out.size)
  have hf := Lib.hid (below_setCells (b := w.heap.size) (Nat.le_refl _) X.toList 0 HB.out)
  go_wp2_with (first | ((with_reducible refine arm_build 8 96 _ #[(1, .int .i64 n)] _ hb1 ?_ ?_); (first | rfl | (focus (simp [Act.eval]; done)) | simp [Act.eval, Act.put])) | ((with_reducible refine arm_build 11 98 _ #[(0, .agg K), (1, .int .i64 a), (2, .int .i64 b), (3, .int .i64 0)] _ hb2 ?_ ?_); (first | rfl | (focus (simp [Act.eval]; done)) | simp [Act.eval, Act.put])) | ((with_reducible refine arm_store 6 11 98 _ _ _ hst ?_ ?_ ?_); rfl; rfl))
  refine bodyPost_ret (results_cell_row rfl _ _ _ _ _ _ _ rfl hbx.out Tryz.underlying98 rfl HSZ.out) rfl ?_
  exact HQ.out _ _ ⟨_, rfl, HXX.out, hf.out⟩
theorem key_cells16 {kv : Array Value} (h : kv.size = 16) : ∃ a0 a1 a2 a3 a4 a5 a6 a7 a8 a9 b0 b1 b2 b3 b4 b5, kv = #[a0, a1, a2, a3, a4, a5, a6, a7, a8, a9, b0, b1, b2, b3, b4, b5] := by
  refine ⟨kv[0], kv[1], kv[2], kv[3], kv[4], kv[5], kv[6], kv[7], kv[8], kv[9], kv[10], kv[11], kv[12], kv[13], kv[14], kv[15], ?_⟩
  apply Array.ext
  · simpa using h
  · intro i h1 h2
    have : i = 0 ∨ i = 1 ∨ i = 2 ∨ i = 3 ∨ i = 4 ∨ i = 5 ∨ i = 6 ∨ i = 7 ∨ i = 8 ∨ i = 9 ∨ i = 10 ∨ i = 11 ∨ i = 12 ∨ i = 13 ∨ i = 14 ∨ i = 15 := by omega
    rcases this with h | h | h | h | h | h | h | h | h | h | h | h | h | h | h | h <;> subst h <;> rfl
def gC0 (n : Int) (kv : Array Value) : Array Value := #[.int .i64 n] ++ (kv ++ KEZ) ++ #[.int .i64 0, .int .i64 (-1), .int .i64 0]
theorem build_keys2 {kv : Array Value} (h : kv.size = 16) (w : World) : (Instr.build 79 #[(0, .agg kv), (1, .agg KEZ)]).run Tryz.prog w = .ok (.agg (kv ++ KEZ)) w := by
  obtain ⟨a0, a1, a2, a3, a4, a5, a6, a7, a8, a9, b0, b1, b2, b3, b4, b5, rfl⟩ := key_cells16 h
  exact run_build w 79 _ _ (by kernel_rfl)
theorem build24 {kv : Array Value} (h : kv.size = 16) (n : Int) (w : World) : (Instr.build 81 #[(0, .int .i64 n), (1, .agg (kv ++ KEZ)), (3, .int .i64 (-1))]).run Tryz.prog w = .ok (.agg (gC0 n kv)) w := by
  obtain ⟨a0, a1, a2, a3, a4, a5, a6, a7, a8, a9, b0, b1, b2, b3, b4, b5, rfl⟩ := key_cells16 h
  exact run_build w 81 _ _ (by kernel_rfl)
theorem z24 : (Tryz.prog.info? 81).map (fun i => (i.zero, i.size)) = some (some (.agg (#[.int .i64 0] ++ (KEZ ++ KEZ) ++ #[.int .i64 0, .int .i64 0, .int .i64 0])), 36) := by kernel_rfl
theorem rgens_new (n : Int) (kv : Array Value) (w : World) (hk : kv.size = 16) (h1 : kv.all (·.oneCell') = true) :
    Calls Tryz.prog 174 #[.int .i64 n, .agg kv] w fun e w' => ∃ X, e = .returned (.agg X) ∧ AgT X 36 ∧ Below w.heap.size w w' := by
  have HB0 := Lib.hid build_kez
  have HB1 := Lib.hid (build_keys2 hk)
  have HB2 := Lib.hid (build24 hk n)
  have HK := Lib.hid hk
  have hx : AgT (gC0 n kv) 36 := by
    have hkz : KEZ.size = 16 := rfl
    have hka : KEZ.all (·.oneCell') = true := by kernel_rfl
    refine ⟨by simp only [gC0, Array.size_append, hk, hkz]; rfl, ?_⟩
    have e1 : (#[Value.int .i64 n] : Array Value).all (·.oneCell') = true := by kernel_rfl
    have e2 : (#[Value.int .i64 0, Value.int .i64 (-1), Value.int .i64 0] : Array Value).all (·.oneCell') = true := by kernel_rfl
    simp only [gC0, Array.all_append, h1, hka, e1, e2, Bool.and_self]
  obtain ⟨X, hX⟩ : ∃ X, gC0 n kv = X := ⟨_, rfl⟩
  rw [hX] at HB2 hx
  obtain ⟨Y, hY⟩ : ∃ Y, kv ++ KEZ = Y := ⟨_, rfl⟩
  rw [hY] at HB1 HB2
  have HXX := Lib.hid hx
  have hz := z24
  have h36 : (#[Value.int .i64 0] ++ (KEZ ++ KEZ) ++ #[.int .i64 0, .int .i64 0, .int .i64 0] : Array Value).size = 36 := by kernel_rfl
  generalize (#[Value.int .i64 0] ++ (KEZ ++ KEZ) ++ #[.int .i64 0, .int .i64 0, .int .i64 0] : Array Value) = Z at *
  generalize KEZ = KZ0 at *
  have HZ := Lib.hid hz
  have HZS := Lib.hid (h36.trans hx.size.symm)
  clear hx hX hY hz h36 hk h1
  have hsz : (Tryz.prog.info? 81).map (·.size) = some 36 := by kernel_rfl
  have HSZ := Lib.hid (show (Tryz.prog.info? 81).map (·.size) = some X.size by rw [HXX.out.size]; exact hsz)
  clear hsz
  refine calls_hide fun Q HQ => ?_
  go_enter Tryz.func174, Tryz.ntmps174
  go_upto_region 1 with (first | ((with_reducible refine arm_box 3 1 22 kv ?_ ?_); rfl; intro w1 HBa HXa HSa) | ((with_reducible refine arm_alloc 4 81 Z 36 HZ.out ?_); intro w2 HBb HXb HSb))
  have hld := keys_load HK.out (keep_block HBb.out HXa.out)
  have hb0 := HB0.out w2
  have hb1 := HB1.out w2
  have hb2 := HB2.out w2
  have hst := box_store (t := 81) (x := X) HXb.out HSZ.out HXX.out.one HZS.out
  have hbx := Lib.hid (box_whole (cs := X) HXb.out HZS.out.symm)
  have hf := Lib.hid (below_setCells (b := w1.heap.size) HBa.out.size X.toList 0 (HBa.out.trans (HBb.out.mono HBa.out.size)))
  generalize w1.heap.size = rb at *
  go_wp2_with (first | ((with_reducible refine arm_load 6 3 22 (.pointer (some ⟨w.heap.size, 0, none⟩)) (.agg kv) hld ?_ ?_); rfl) | ((with_reducible refine arm_build 7 22 _ #[] _ hb0 ?_ ?_); (first | rfl | (focus (simp [Act.eval]; done)) | simp [Act.eval, Act.put])) | ((with_reducible refine arm_build 8 79 _ #[(0, .agg kv), (1, .agg KZ0)] _ hb1 ?_ ?_); (first | rfl | (focus (simp [Act.eval]; done)) | simp [Act.eval, Act.put])) | ((with_reducible refine arm_build 9 81 _ #[(0, .int .i64 n), (1, .agg Y), (3, .int .i64 (-1))] _ hb2 ?_ ?_); (first | rfl | (focus (simp [Act.eval]; done)) | simp [Act.eval, Act.put])) | ((with_reducible refine arm_store 4 9 81 _ _ _ hst ?_ ?_ ?_); rfl; rfl))
  refine bodyPost_ret (results_cell_row rfl _ _ _ _ _ _ _ rfl hbx.out Tryz.underlying81 rfl HSZ.out) rfl ?_
  exact HQ.out _ _ ⟨_, rfl, HXX.out, hf.out⟩
end Go.Proofs.YtpanmfdbdgecaaaGreat.C
