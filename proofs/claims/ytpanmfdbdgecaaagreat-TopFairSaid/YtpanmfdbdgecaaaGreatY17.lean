/- The law TopFair: what waits behind each arrival. · The law TopFair: what waits, and what is given, behind each poll. · The police: a class's packets. · The reference: a flow's prefix. · little and awake. · The law TopFair: its config, its inputs, its beginning, its rows. -/
import Derived.Test.YtpanmfdbdgecaaaGreatY16
namespace Go.Proofs.YtpanmfdbdgecaaaGreat.C
open Go.RowKit
set_option linter.unusedVariables false
/-- TopFair's config. -/
structure FairF (F : PCf) (q : Int) (K : Nat → Nat) : Prop where
  ok : F.Ok
  c0 : F.c 0 = 8
  c1 : F.c 1 = 300
  c2 : F.c 2 = 1
  c3 : F.c 3 = 1
  c4 : F.c 4 = 0
  c5 : F.c 5 = 0
  c6 : F.c 6 = 64
  c7 : F.c 7 = 1
  c8 : F.c 8 = q
  c9 : F.c 9 = 536870912
  c10 : F.c 10 = 0
  c11 : F.c 11 = 2
  c12 : F.c 12 = 536870912
  c13 : F.c 13 = 0
  c14 : F.c 14 = 0
  c15 : F.c 15 = 1
  c16 : F.c 16 = 1099511627776
  qr : 9216 ≤ q ∧ q ≤ 80000
  key : Key16 F.kv K
/-- A sketch that has seen the first so many of 20 prefixes, one behind the other, over and over. -/
structure SkF (wl : List Slt) (k : Nat) : Prop where
  len : wl.length ≤ k ∧ wl.length ≤ 20
  has : ∀ b, b < k → b < 20 → ∃ x ∈ wl, x.p = pfx 10 1 b
  ok : ∀ x ∈ wl, (∃ b, b < 256 ∧ x.p = pfx 10 1 b) ∧ x.err = 0 ∧ 0 ≤ x.count ∧ x.count ≤ (k : Int) * 9216
theorem fndS_not (l : List Slt) (p : Array Value) : ∀ (m k : Nat), fndS l p m k = -1 → ∀ (j : Nat) (x : Slt), k ≤ j → j < k + m → l[j]? = some x → x.p ≠ p
  | 0, k, _, j, x, h1, h2, _ => by omega
  | m + 1, k, h, j, x, h1, h2, hx => by
    have h' : (match l[k]? with | none => (-1 : Int) | some x => if eqA x.p p = true then (k : Int) else fndS l p m (k + 1)) = -1 := h
    cases hk : l[k]? with
    | none =>
      rw [List.getElem?_eq_none_iff] at hk
      have := lt_of_some hx
      omega
    | some z =>
      rw [hk] at h'
      simp only at h'
      by_cases he : eqA z.p p = true
      · rw [if_pos he] at h'
        omega
      · rw [if_neg he] at h'
        by_cases e : j = k
        · subst e
          rw [hk] at hx
          injection hx with hx
          subst hx
          exact fun e => he ((eqA_iff _ _).2 e)
        · exact fndS_not l p m (k + 1) h' j x (by omega) (by omega) hx
theorem SkF.slt {wl : List Slt} {k : Nat} (h : SkF wl k) : ∀ x ∈ wl, SltOk x := fun x hx => by
  obtain ⟨⟨b, hb, hp⟩, _⟩ := h.ok x hx
  refine ⟨?_, ?_⟩
  · rw [hp]; exact pfx_flat 10 1 b (by omega) (by omega) hb
  · rw [hp]; exact pfx_ok 10 1 b
theorem SkF.add {wl : List Slt} {k b : Nat} (h : SkF wl k) (hb : b = k % 20) (hk : k < 200) {n : Int} (hn : 0 ≤ n ∧ n ≤ 9216) :
    ∃ (y : Slt) (wl2 : List Slt), SkF wl2 (k + 1) ∧ SltOk y ∧ y.err = 0 ∧ n ≤ y.count ∧ y.count ≤ ((k + 1 : Nat) : Int) * 9216 ∧ ∀ (pb rb : Nat) (t : Int), Adds pb rb 64 wl t (pfx 10 1 b) n y wl2 (addC t n) := by
  have hsl := h.slt
  have h256 : b < 256 := by omega
  obtain ⟨hlen, hl20⟩ := h.len
  have hfl := pfx_flat 10 1 b (by omega) (by omega) h256
  have hnext : ∀ c, c < k + 1 → c < 20 → c ≠ b → ∃ x ∈ wl, x.p = pfx 10 1 c := fun c h1 h2 h3 => by
    refine h.has c ?_ h2
    by_cases e : c = k
    · subst e
      omega
    · omega
  rcases fndS_spec wl (pfx 10 1 b) wl.length 0 with h1 | ⟨j, x, h1, hx, hp⟩
  · have hk20 : k < 20 := by
      by_cases e : k < 20
      · exact e
      · obtain ⟨x, hx, hp⟩ := h.has b (by omega) (by omega)
        obtain ⟨j, hj⟩ := List.getElem?_of_mem hx
        exact absurd hp (fndS_not wl _ _ _ h1 j x (by omega) (by have := lt_of_some hj; omega) hj)
    have hy : addC 0 n = n := addC_zero (by omega)
    refine ⟨⟨pfx 10 1 b, n, 0⟩, wl ++ [⟨pfx 10 1 b, n, 0⟩], ⟨by simp; omega, fun c c1 c2 => ?_, fun z hz => ?_⟩, ⟨hfl, pfx_ok 10 1 b⟩, rfl, Int.le_refl _, by show n ≤ _; omega, fun pb rb t w hw => ?_⟩
    · by_cases e : c = b
      · exact ⟨⟨pfx 10 1 b, n, 0⟩, by simp, by rw [e]⟩
      · obtain ⟨z, hz, hzp⟩ := hnext c c1 c2 e
        exact ⟨z, List.mem_append_left _ hz, hzp⟩
    · rcases List.mem_append.1 hz with hz | hz
      · obtain ⟨a1, a2, a3, a4⟩ := h.ok z hz
        exact ⟨a1, a2, a3, by omega⟩
      · obtain rfl : z = ⟨pfx 10 1 b, n, 0⟩ := by simpa using hz
        exact ⟨⟨b, h256, rfl⟩, rfl, hn.1, by show n ≤ _; omega⟩
    · have := sketch_add_new pb rb 64 wl t n 10 1 b w hw hsl hfl (by omega) (by omega) h1 (by omega)
      rw [hy] at this
      exact this
  · obtain ⟨a1, a2, a3, a4⟩ := h.ok x (List.mem_of_getElem? hx)
    have hjl := lt_of_some hx
    have hy : addC x.count n = x.count + n := addC_small a3 hn.1 (by omega)
    have hkl : wl.length ≤ k + 1 := by omega
    refine ⟨⟨x.p, x.count + n, x.err⟩, wl.set j ⟨x.p, x.count + n, x.err⟩, ⟨by rw [List.length_set]; exact ⟨hkl, hl20⟩, fun c c1 c2 => ?_, fun z hz => ?_⟩, hsl x (List.mem_of_getElem? hx), a2, by show n ≤ x.count + n; omega, by show x.count + n ≤ _; omega, fun pb rb t w hw => ?_⟩
    · by_cases e : c = b
      · exact ⟨⟨x.p, x.count + n, x.err⟩, List.mem_of_getElem? (List.getElem?_set_self hjl), by rw [e]; exact hp⟩
      · obtain ⟨z, hz, hzp⟩ := hnext c c1 c2 e
        obtain ⟨i, hi⟩ := List.getElem?_of_mem hz
        by_cases ei : j = i
        · subst ei
          rw [hx] at hi
          injection hi with hi
          subst hi
          exact ⟨_, List.mem_of_getElem? (List.getElem?_set_self hjl), hzp⟩
        · exact ⟨z, List.mem_of_getElem? (by rw [List.getElem?_set_ne ei]; exact hi), hzp⟩
    · rcases List.mem_or_eq_of_mem_set hz with hz | rfl
      · obtain ⟨b1, b2, b3, b4⟩ := h.ok z hz
        exact ⟨b1, b2, b3, by omega⟩
      · exact ⟨a1, a2, by show 0 ≤ x.count + n; omega, by show x.count + n ≤ _; omega⟩
    · have := sketch_add_old pb rb 64 j wl x t n 10 1 b w hw hsl hfl (by omega) (by omega) h1 hx
      rw [hy] at this
      exact this
/-- What waits behind so many arrivals. -/
structure FW (t : Nat) (S : PSt) : Prop where
  Ll : S.L.length = 17
  tll : S.tl.length = 17
  qll : S.ql.length = 17
  pk : ∀ (c : Nat) (l : List (Array Value)), S.L[c]? = some l → ∀ x ∈ l, ∃ n s, WaitP x n s
  cls : ∀ (c : Nat) (l : List (Array Value)), S.L[c]? = some l → l ≠ [] → c < 8 ∧ c ∈ S.line
  emp : ∀ c ∈ S.line, ∃ l, S.L[c]? = some l ∧ l ≠ []
  tot : total S.L = t
  tn : TurnsOk S.tl S.line
  fr : ∀ c ∈ S.line, S.tl[c]? = some ⟨true, true, 0⟩
  q : InvT 0 t S.sh S.ql
  b0 : ∃ b, S.b0 = [b] ∧ BinOk b ∧ b.p = 0
theorem FW.same {t : Nat} {S S' : PSt} (h : FW t S) (e1 : S'.L = S.L) (e2 : S'.tl = S.tl) (e3 : S'.line = S.line) (e4 : S'.sh = S.sh) (e5 : S'.ql = S.ql) (e6 : S'.b0 = S.b0) : FW t S' :=
  ⟨by rw [e1]; exact h.Ll, by rw [e2]; exact h.tll, by rw [e5]; exact h.qll, by rw [e1]; exact h.pk, by rw [e1, e3]; exact h.cls, by rw [e1, e3]; exact h.emp, by rw [e1]; exact h.tot, by rw [e2, e3]; exact h.tn, by rw [e2, e3]; exact h.fr, by rw [e4, e5]; exact h.q, by rw [e6]; exact h.b0⟩
theorem fair_fits {t : Nat} {s n : Int} {ql : List Int} {cl : Nat} (h : InvT 0 t s ql) (ht : t ≤ 1000) (hl : ql.length = 17) (hc : cl < 17) (hn : 1 ≤ n ∧ n ≤ 9216) : QU.fitsB 536870912 0 s ql (cl : Nat) n = true := by
  obtain ⟨v, hv⟩ : ∃ v, ql[cl]? = some v := ⟨_, List.getElem?_eq_getElem (by omega)⟩
  have hv0 := h.l0 v (List.mem_of_getElem? hv)
  have hs1 := h.s1
  unfold QU.fitsB
  rw [Int.toNat_natCast, hv]
  simp only [Bool.and_eq_true, decide_eq_true_eq]
  unfold QU.moreQ QU.overQ
  rw [if_neg (by omega), if_neg (by omega)]
  omega
/-- A bin that is never marked stays so. -/
theorem fair_touch {b : Bin} {tg hd now : Int} (hb : BinOk b) (hp : b.p = 0) (hn : 0 ≤ now ∧ now ≤ 4611686018427387903) : BinOk (touchB tg hd 0 0 now b) ∧ (touchB tg hd 0 0 now b).p = 0 := by
  obtain ⟨o1, o2, o3, o4⟩ := hb
  unfold touchB
  split
  · exact ⟨⟨o1, o2, o3, o4⟩, hp⟩
  · split
    · refine ⟨⟨hn.1, hn.2, ?_, ?_⟩, ?_⟩
      · show 0 ≤ (if 65536 < b.p + 0 then 65536 else b.p + 0)
        split <;> omega
      · show (if 65536 < b.p + 0 then 65536 else b.p + 0) ≤ 65536
        split <;> omega
      · show (if 65536 < b.p + 0 then 65536 else b.p + 0) = 0
        rw [if_neg (by omega)]
        omega
    · split
      · refine ⟨⟨hn.1, hn.2, ?_, ?_⟩, ?_⟩
        · show 0 ≤ (if b.p - 0 < 0 then 0 else b.p - 0)
          split <;> omega
        · show (if b.p - 0 < 0 then 0 else b.p - 0) ≤ 65536
          split <;> omega
        · show (if b.p - 0 < 0 then 0 else b.p - 0) = 0
          split <;> omega
      · exact ⟨⟨o1, o2, o3, o4⟩, hp⟩
theorem wake_mem {tl : List Tcl} {line : List Nat} {c d : Nat} (h : d ∈ (wakeT tl line c).2) : d ∈ line ∨ d = c := by
  unfold wakeT at h
  split at h
  · split at h
    · exact .inl h
    · rcases List.mem_append.1 h with h | h
      · exact .inl h
      · exact .inr (List.mem_singleton.1 h)
  · exact .inl h
theorem wake_sub {tl : List Tcl} {line : List Nat} {c d : Nat} (h : d ∈ line) : d ∈ (wakeT tl line c).2 := by
  unfold wakeT
  split
  · split
    · exact h
    · exact List.mem_append_left _ h
  · exact h
theorem wake_new {tl : List Tcl} {line : List Nat} {c : Nat} {y : Tcl} (hy : tl[c]? = some y) (hi : y.awake = true → c ∈ line) : c ∈ (wakeT tl line c).2 := by
  unfold wakeT
  rw [hy]
  simp only
  split
  · rename_i h
    exact hi h
  · simp
theorem wake_fr {tl : List Tcl} {line : List Nat} {c : Nat} (h : ∀ d ∈ line, tl[d]? = some ⟨true, true, 0⟩) {y : Tcl} (hy : tl[c]? = some y) (hi : y.awake = true → c ∈ line) : ∀ d ∈ (wakeT tl line c).2, (wakeT tl line c).1[d]? = some ⟨true, true, 0⟩ := fun d hd => by
  by_cases e : d = c
  · subst e
    unfold wakeT
    rw [hy]
    simp only
    split
    · rename_i ha
      exact h d (hi ha)
    · exact List.getElem?_set_self (lt_of_some hy)
  · rw [wake_keep e]
    rcases wake_mem hd with h1 | h1
    · exact h d h1
    · exact absurd h1 e
theorem FW.join {F : PCf} {q : Int} {K : Nat → Nat} {t : Nat} {S : PSt} (h : FW t S) (hF : FairF F q K) {cl : Nat} {l : List (Array Value)} {x : Array Value} {n s : Int} {b : Bin} (hb : S.b0 = [b]) (hbo : BinOk b) (hbp : b.p = 0) (hl : S.L[cl]? = some l) (hc : cl < 8) (hx : WaitP x n s) : FW (t + 1) (freeS F S x n 0 cl 0 l b) := by
  have hcl := lt_of_some hl
  obtain ⟨y, hy⟩ : ∃ y, S.tl[cl]? = some y := ⟨_, List.getElem?_eq_getElem (by rw [h.tll]; omega)⟩
  have hi : y.awake = true → cl ∈ S.line := fun ha => h.tn.inl cl y hy ha
  have eL : ∀ (c : Nat) (l' : List (Array Value)), (S.L.set cl (l ++ [x]))[c]? = some l' → (cl = c ∧ l' = l ++ [x]) ∨ (cl ≠ c ∧ S.L[c]? = some l') := fun c l' h' => by
    by_cases e : cl = c
    · subst e
      rw [List.getElem?_set_self hcl] at h'
      injection h' with h'
      exact .inl ⟨rfl, h'.symm⟩
    · rw [List.getElem?_set_ne e] at h'
      exact .inr ⟨e, h'⟩
  refine ⟨by show (S.L.set _ _).length = _; rw [List.length_set]; exact h.Ll, by show (wakeT S.tl S.line _).1.length = _; rw [wakeV_len]; exact h.tll, ?_, fun c l' hc' z hz => ?_, fun c l' hc' hne => ?_, fun c hc' => ?_, ?_, h.tn.wake _, wake_fr h.fr hy hi, ?_, ?_⟩
  · show (QU.addL (F.c 9) (F.c 10) S.sh S.ql (cl : Nat) n).length = 17
    unfold QU.addL QU.putL
    split
    · rw [List.length_set]; exact h.qll
    · exact h.qll
  · rcases eL c l' hc' with ⟨rfl, rfl⟩ | ⟨_, h1⟩
    · rcases List.mem_append.1 hz with hz | hz
      · exact h.pk _ l hl z hz
      · rw [List.mem_singleton.1 hz]; exact ⟨n, s, hx⟩
    · exact h.pk c l' h1 z hz
  · show c < 8 ∧ c ∈ (wakeT S.tl S.line cl).2
    rcases eL c l' hc' with ⟨rfl, rfl⟩ | ⟨_, h1⟩
    · exact ⟨hc, wake_new hy hi⟩
    · obtain ⟨g1, g2⟩ := h.cls c l' h1 hne
      exact ⟨g1, wake_sub g2⟩
  · show ∃ l', (S.L.set cl (l ++ [x]))[c]? = some l' ∧ l' ≠ []
    by_cases e : cl = c
    · subst e
      exact ⟨_, List.getElem?_set_self hcl, by simp⟩
    · rw [List.getElem?_set_ne e]
      rcases wake_mem (show c ∈ (wakeT S.tl S.line cl).2 from hc') with h1 | h1
      · exact h.emp c h1
      · exact absurd h1.symm e
  · show total (S.L.set cl (l ++ [x])) = t + 1
    have h1 := total_set S.L cl l (l ++ [x]) hl
    have := h.tot
    simp at h1
    omega
  · show InvT 0 (t + 1) (QU.addS (F.c 9) (F.c 10) S.sh S.ql (cl : Nat) n) (QU.addL (F.c 9) (F.c 10) S.sh S.ql (cl : Nat) n)
    rw [hF.c10]
    exact h.q.add ⟨by have := hx.rng; omega, hx.rng.2⟩
  · have ht := fair_touch (tg := F.c 13) (hd := F.c 14) (now := 0) hbo hbp ⟨by decide, by decide⟩
    refine ⟨binA F 0 n b, ?_, ?_, ?_⟩
    · show S.b0.set 0 _ = _
      rw [hb]
      rfl
    · unfold binA
      rw [hF.c4, hF.c5]
      exact ht.1
    · unfold binA
      rw [hF.c4, hF.c5]
      exact ht.2
/-- All of the police behind so many arrivals. -/
structure FA (t : Nat) (S : PSt) : Prop where
  w : FW t S
  wl : SkF S.wl t
  wn : S.wn = 0
  arr : S.arr = (t : Int)
  xl : S.xl = emp 1
  xn : S.xn = 0
section
variable {F : PCf} {q : Int} {K : Nat → Nat} {S : PSt} {t : Nat}
theorem fair_wadd (hW : SkF S.wl t) (hn : S.wn = 0) (hF : FairF F q K) (ht : t < 200) {b : Nat} (hb : b = t % 20) {len : Int} (hl : 1 ≤ len ∧ len ≤ 9216) :
    ∃ (wl : List Slt) (wt : Int), SkF wl (t + 1) ∧ ∀ (A : PAd) (w : World) (ar : Int), Pol w A F { S with arr := ar } → Calls Tryz.prog 37 #[.pointer (some ⟨A.wb, 0, none⟩), .int .i64 0, .agg (pfx 10 1 b), .int .i64 len] w fun e w' => e = .returned (.bool false) ∧ Pol w' A F { S with arr := ar, wl := wl, wt := wt, wn := S.wn } ∧ Tur A.tg [8] w w' := by
  have h6 : (F.c 6).toNat = 64 := by rw [hF.c6]; rfl
  obtain ⟨y, wl2, a1, a2, a3, a4, a5, a6⟩ := hW.add hb ht (n := len) ⟨by omega, hl.2⟩
  refine ⟨wl2, addC S.wt len, a1, fun A w ar q => ?_⟩
  have had := a6 A.ws A.wr S.wt
  rw [← h6] at had
  refine (window_add A.wb A.ws A.wr (F.c 6).toNat S.wl S.wl wl2 S.wt S.wt (addC S.wt len) (F.c 15) (F.c 16) S.wn S.wn 0 len y (pfx 10 1 b) w q.wi rfl (pfx_all _ _ _) (by rw [hF.c15]; decide) (by decide) (.inr ⟨by rw [hn, Int.zero_ediv]; exact Int.le_refl _, rfl, rfl, rfl⟩) had a2 ⟨by omega, by omega⟩).mono ?_
  rintro e w'' ⟨rfl, h1, h2⟩
  have t : Tur A.tg [8] w w'' := Tur.of_amg h2 (fun k hk => by
    simp only [List.mem_cons, List.not_mem_nil, or_false] at hk
    rcases hk with rfl | rfl | rfl
    · simp [q.ok.w.1]
    · simp [q.ok.w.2.1]
    · simp [q.ok.w.2.2])
  refine ⟨?_, (q.rest t).setW h1, t⟩
  rw [decide_eq_false (by rw [hF.c16]; omega)]
theorem fair_in (hF : FairF F q K) (hxl : S.xl = emp 1) (hxn : S.xn = 0) {b : Nat} (hb : b < 256) (A : PAd) (w : World) (q : Pol w A F S) :
    Calls Tryz.prog 38 #[.pointer (some ⟨A.xb, 0, none⟩), .agg (pfx 10 1 b), .int .i64 0] w fun e w' => e = .returned (.bool false) ∧ Pol w' A F S ∧ Tur A.tg [9] w w' := by
  have h7 : (F.c 7).toNat = 1 := by rw [hF.c7]; rfl
  refine (box_in A.xb A.xt A.xr (F.c 7).toNat S.xl S.xl S.xn S.xn (F.c 17) (F.c 18) (F.c 19) 0 0 none false 10 1 b w q.bx ?_ ?_).mono ?_
  · rw [hxl, hxn]
    exact sweeps_none (by rw [emp_len]; omega) (tkn_emp _)
  · rw [hxl]
    exact emp_gets (by decide) (by decide) ⟨by decide, by decide, hb⟩
  · rintro e w'' ⟨rfl, h1, h2⟩
    have r := q.box h2 h1
    exact ⟨rfl, r.1, r.2⟩
theorem fair_arrive (hV : FA t S) (hF : FairF F q K) (ht : t < 200) {nn : Nat} (hnn : nn = t % 20) {x : Array Value} {len : Int} (hl : 1 ≤ len ∧ len ≤ 9216) (hx : PkP x len (pfx 10 1 nn)) (hxf : PkF x (flowX 10 1 nn 7 9 0 0 0 1000 53)) (A : PAd) (w : World) (hP : Pol w A F S) :
    Calls Tryz.prog 20 #[.pointer (some ⟨A.pb, 0, none⟩), .agg x, .int .i64 0, .agg #[.int .u64 0, .int .u64 0]] w fun e w' => ∃ (cl : Nat) (S5 : PSt), e = .returned (.agg #[.int .i64 S.arr, .int .i64 0, .int .i64 (cl : Nat), .int .i64 (-1), .bool false, .bool false]) ∧ FA (t + 1) S5 ∧ Pol w' A F S5 ∧ Tur A.tg [1, 3, 4, 5, 6, 7, 8, 9] w w' := by
  obtain ⟨wl, wt, hw1, hw2⟩ := fair_wadd hV.wl hV.wn hF ht hnn hl
  have h256 : nn < 256 := by omega
  have hnt : (F.c 0).toNat = 8 := by rw [hF.c0]; rfl
  have hmt : (F.c 3).toNat = 1 := by rw [hF.c3]; rfl
  have hW4 : FW t { S with arr := S.arr + 1, wl := wl, wt := wt, wn := S.wn } := hV.w.same rfl rfl rfl rfl rfl rfl
  generalize hS4 : ({ S with arr := S.arr + 1, wl := wl, wt := wt, wn := S.wn } : PSt) = S4 at hW4
  have g1 : S4.wl = wl := by rw [← hS4]
  have g2 : S4.wn = S.wn := by rw [← hS4]
  have g3 : S4.arr = S.arr + 1 := by rw [← hS4]
  have g4 : S4.xl = S.xl := by rw [← hS4]
  have g5 : S4.xn = S.xn := by rw [← hS4]
  obtain ⟨cl, hcl⟩ : ∃ c, fallV K (kF nn) 0 8 = c := ⟨_, rfl⟩
  have hc8 : cl < 8 := by rw [← hcl]; exact fallV_lt _ _ _ _ (by omega)
  have hk0 : fallV K (kF nn) 1 1 = 0 := Nat.lt_one_iff.1 (fallV_lt _ _ _ _ (by omega))
  obtain ⟨l, hlL⟩ : ∃ l, S4.L[cl]? = some l := ⟨_, List.getElem?_eq_getElem (by rw [hW4.Ll]; omega)⟩
  obtain ⟨b, hb, hbo, hbp⟩ := hW4.b0
  obtain ⟨y, hy⟩ : ∃ y, S4.tl[cl]? = some y := ⟨_, List.getElem?_eq_getElem (by rw [hW4.tll]; omega)⟩
  have hxs := hx.seq S.arr
  have hxq : WaitP (seqX x S.arr) len S.arr := ⟨hxs.l, hl, hx.c0 S.arr, _, _, hxf.seq _, key_flow 10 1 nn 7 9 0 0 0 ⟨by decide, by decide, h256, by decide⟩ ⟨by decide, by decide, by decide, by decide⟩⟩
  have htp : (touchB (F.c 13) (F.c 14) (F.c 4) (F.c 5) 0 b).p ≤ 0 := by
    rw [hF.c4, hF.c5]
    exact Int.le_of_eq (fair_touch hbo hbp ⟨by decide, by decide⟩).2
  have hsum : sumL l < 536870912 := by
    have hll : l.length ≤ t := by rw [← hW4.tot]; exact total_le S4.L l (List.mem_of_getElem? hlL)
    have hle : ∀ (l : List (Array Value)), (∀ z ∈ l, ∃ n s, WaitP z n s) → sumL l ≤ (l.length : Int) * 9216 := fun l => by
      induction l with
      | nil => intro _; simp [sumL]
      | cons z r ih =>
        intro hz
        have h1 := ih fun z' hz' => hz z' (List.mem_cons_of_mem _ hz')
        obtain ⟨n, s, hw⟩ := hz z (by simp)
        have e : sumL (z :: r) = lenP z + sumL r := by unfold sumL; simp
        rw [e, hw.len.lenP]
        have := hw.rng
        simp only [List.length_cons]
        omega
    have := hle l (hW4.pk cl l hlL)
    omega
  have hW5 := hW4.join hF hb hbo hbp hlL hc8 hxq
  refine (arrive_light (F := F) (A := A) (S := S) (S1 := S4) (S4 := S4) (S5 := freeS F S4 (seqX x S.arr) len 0 cl 0 l b) cl len 0 x (pfx 10 1 nn) #[.int .u64 0, .int .u64 0] hx rfl rfl hl hP (by rw [hV.arr]; omega) ?wa ?i2 ?fr).mono ?_
  case wa =>
    intro w' q
    have := hw2 A w' (S.arr + 1) q
    rw [hS4] at this
    exact this
  case i2 => exact fun w' q => fair_in hF (g4.trans hV.xl) (g5.trans hV.xn) h256 A w' q
  case fr =>
    intro w' vb V q hvb hVz hvt
    exact free_ok K (kF nn) (seqX x S.arr) _ #[.int .u64 0, .int .u64 0] V cl 0 vb len 0 0 l y b q ⟨hF.c2, hF.key⟩ hxs.l (hxf.seq _) (key_flow 10 1 nn 7 9 0 0 0 ⟨by decide, by decide, h256, by decide⟩ ⟨by decide, by decide, by decide, by decide⟩) hl (by rw [hnt]; exact hcl) (by rw [hmt]; exact hk0) (by rw [hb]; rfl) hbo ⟨by decide, by decide⟩ hlL (by rw [hF.c12]; exact hsum) rfl rfl (by decide) htp (by rw [hF.c9, hF.c10]; exact hW4.q.ok (by decide) (by decide) (by omega)) (by rw [hW4.tll]; decide) (by rw [hF.c9, hF.c10]; exact fair_fits hW4.q (by omega) hW4.qll (by omega) hl) (by rw [hF.c1, hW4.tot]; show t < 300; omega) hy (wake_room hW4.tn.ln hy) hvb hVz hvt
  · rintro e w' ⟨rfl, h1, h2⟩
    exact ⟨cl, _, rfl, ⟨hW5, by show SkF S4.wl _; rw [g1]; exact hw1, g2.trans hV.wn, by show S4.arr = _; rw [g3, hV.arr]; omega, g4.trans hV.xl, g5.trans hV.xn⟩, h1, h2⟩
end
end Go.Proofs.YtpanmfdbdgecaaaGreat.C

namespace Go.Proofs.YtpanmfdbdgecaaaGreat.C
open Go.RowKit
set_option linter.unusedVariables false
/-- So many wait; so much has been given to each class. -/
structure GW (q : Int) (t : Nat) (S : PSt) (G : List Int) : Prop where
  Ll : S.L.length = 17
  tll : S.tl.length = 17
  Gl : G.length = 16
  pk : ∀ (c : Nat) (l : List (Array Value)), S.L[c]? = some l → ∀ x ∈ l, ∃ n s, WaitP x n s
  cls : ∀ (c : Nat) (l : List (Array Value)), S.L[c]? = some l → l ≠ [] → c < 8 ∧ c ∈ S.line
  emp : ∀ c ∈ S.line, ∃ l, S.L[c]? = some l ∧ l ≠ []
  tot : total S.L = t
  nd : S.line.Nodup
  aw : ∀ c ∈ S.line, ∃ y, S.tl[c]? = some y ∧ y.awake = true
  dr : Drr q S.tl S.line G
  q : InvT 0 (400 - t) S.sh S.ql
  b0 : ∃ b, S.b0 = [b] ∧ BinOk b
  gb : ∀ v ∈ G, 0 ≤ v ∧ v ≤ ((200 - t : Nat) : Int) * 9216
theorem FW.start {S : PSt} (h : FW 200 S) {q : Int} (hq : 0 ≤ q) : GW q 200 S (List.replicate 16 0) := by
  obtain ⟨b, b1, b2, _⟩ := h.b0
  exact ⟨h.Ll, h.tll, by simp, h.pk, h.cls, h.emp, h.tot, h.tn.nd, h.tn.aw, drr_start h.fr hq, h.q, ⟨b, b1, b2⟩, fun v hv => by
    have := List.eq_of_mem_replicate hv
    subst this
    exact ⟨Int.le_refl _, by decide⟩⟩
theorem total_pos {α : Type} : ∀ (L : List (List α)), 0 < total L → ∃ (c : Nat) (l : List α), L[c]? = some l ∧ l ≠ []
  | [], h => by simp [total] at h
  | m :: r, h => by
    by_cases e : m = []
    · subst e
      obtain ⟨c, l, h1, h2⟩ := total_pos r (by simpa [total] using h)
      exact ⟨c + 1, l, by simpa using h1, h2⟩
    · exact ⟨0, m, rfl, e⟩
theorem head_is {L : List (List (Array Value))} {c : Nat} {x : Array Value} {l : List (Array Value)} {n s : Int} (hl : L[c]? = some (x :: l)) (hx : WaitP x n s) : headS L (c : Nat) = n := by
  unfold headS
  rw [show ((0 : Int)) = ((0 : Nat) : Int) from rfl, atS_some hl]
  exact hx.len.lenP
theorem touchF_ok {q tg hd now : Int} {F : PCf} {K : Nat → Nat} {b : Bin} (h : BinOk b) (hn : 0 ≤ now ∧ now ≤ 4611686018427387903) (hF : FairF F q K) : BinOk (touchB tg hd (F.c 4) (F.c 5) now b) := by
  obtain ⟨o1, o2, o3, o4⟩ := h
  rw [hF.c4, hF.c5]
  unfold touchB
  split
  · exact ⟨o1, o2, o3, o4⟩
  · split
    · refine ⟨hn.1, hn.2, ?_, ?_⟩
      · show 0 ≤ (if 65536 < b.p + 0 then 65536 else b.p + 0)
        split <;> omega
      · show (if 65536 < b.p + 0 then 65536 else b.p + 0) ≤ 65536
        split <;> omega
    · split
      · refine ⟨hn.1, hn.2, ?_, ?_⟩
        · show 0 ≤ (if b.p - 0 < 0 then 0 else b.p - 0)
          split <;> omega
        · show (if b.p - 0 < 0 then 0 else b.p - 0) ≤ 65536
          split <;> omega
      · exact ⟨o1, o2, o3, o4⟩
section
variable {q : Int} {t : Nat} {S : PSt} {G : List Int}
theorem GW.heads (h : GW q t S G) : ∀ c ∈ S.line, ∃ x l n s, S.L[c]? = some (x :: l) ∧ WaitP x n s := fun c hc => by
  obtain ⟨l, h1, h2⟩ := h.emp c hc
  cases l with
  | nil => exact absurd rfl h2
  | cons x l =>
    obtain ⟨n, s, hw⟩ := h.pk c _ h1 x (by simp)
    exact ⟨x, l, n, s, h1, hw⟩
theorem GW.small (h : GW q t S G) : ∀ c ∈ S.line, c < 8 := fun c hc => by
  obtain ⟨l, h1, h2⟩ := h.emp c hc
  exact (h.cls c l h1 h2).1
theorem GW.may (h : GW q t S G) (ht : 0 < t) : MayPick q S.tl S.line := by
  refine ⟨fun e => ?_, h.nd, fun c hc => ?_, fun c hc => ?_⟩
  · obtain ⟨c, l, h1, h2⟩ := total_pos S.L (by rw [h.tot]; exact ht)
    have := (h.cls c l h1 h2).2
    rw [e] at this
    simp at this
  · obtain ⟨y, hy, ya⟩ := h.aw c hc
    have e := tcl_at hy
    have d0 := h.dr.d0 c hc
    have d1 := h.dr.d1 c hc
    have d2 := h.dr.d2 c hc
    rw [e] at d0 d1 d2
    exact ⟨y, hy, ya, d0, d2, d1⟩
  · obtain ⟨y, hy, _⟩ := h.aw c (List.mem_of_mem_tail hc)
    have f := h.dr.fr c hc
    rw [tcl_at hy] at f
    exact ⟨y, hy, f⟩
theorem GW.poll (h : GW q (t + 1) S G) (ht : t < 200) (hq : 9216 ≤ q) {F : PCf} {K : Nat → Nat} (hF : FairF F q K) {now : Int} (hnow : 0 ≤ now ∧ now ≤ 4611686018427387903) {b : Bin} (hb : S.b0 = [b]) {c : Nat} {l2 : List Tcl} {line2 : List Nat} {x : Array Value} {l : List (Array Value)} {n s : Int} (hp : Picks q (fun d => headS S.L (d : Nat)) S.tl S.line c l2 line2) (hl : S.L[c]? = some (x :: l)) (hx : WaitP x n s) :
    GW q t (polledS F S n now c l2 line2 l b) (G.set c (G.getD c 0 + n)) ∧ (∀ a d, a ∈ S.line → d ∈ S.line → (G.set c (G.getD c 0 + n)).getD a 0 - (G.set c (G.getD c 0 + n)).getD d 0 ≤ q + 18432) := by
  have hcl := lt_of_some hl
  have hhn := head_is hl hx
  have hG : ∀ d ∈ S.line, d < G.length := fun d hd => by have := h.small d hd; rw [h.Gl]; omega
  have hh : ∀ d ∈ S.line, 1 ≤ headS S.L (d : Nat) ∧ headS S.L (d : Nat) ≤ 9216 := fun d hd => by
    obtain ⟨x', l', n', s', h1, h2⟩ := h.heads d hd
    rw [head_is h1 h2]
    exact h2.rng
  obtain ⟨p1, p2, p3, p4, p5, r, p6⟩ := h.dr.pick hp h.nd hG hq hh
  have paw := hp.awake h.aw
  obtain ⟨_, _, _, _, _, _, pmem⟩ := hp.head
  have hc8 := h.small c pmem
  have p1 : Drr q l2 line2 (G.set c (G.getD c 0 + n)) := by
    have e : (fun d => headS S.L (d : Nat)) c = n := hhn
    have := p1
    simp only [hhn] at this
    exact this
  have hrg := hx.rng
  have hct : c < l2.length := by rw [p5, h.tll]; omega
  have eL : ∀ (d : Nat) (l' : List (Array Value)), (S.L.set c l)[d]? = some l' → (c = d ∧ l' = l) ∨ (c ≠ d ∧ S.L[d]? = some l') := fun d l' h' => by
    by_cases e : c = d
    · subst e
      rw [List.getElem?_set_self hcl] at h'
      injection h' with h'
      exact .inl ⟨rfl, h'.symm⟩
    · rw [List.getElem?_set_ne e] at h'
      exact .inr ⟨e, h'⟩
  have h0 : line2[0]? = some c := by rw [p6]; rfl
  have hen : ∀ d, d ∈ line2.eraseIdx 0 → d ∈ line2 ∧ c ≠ d := fun d hd => by
    refine ⟨List.mem_of_mem_eraseIdx hd, fun e => ?_⟩
    subst e
    rw [p6] at hd p2
    exact (List.nodup_cons.1 p2).1 (by simpa using hd)
  have hin : ∀ d, d ∈ line2 → c ≠ d → d ∈ line2.eraseIdx 0 := fun d hd e => by
    rw [p6] at hd ⊢
    rcases List.mem_cons.1 hd with h1 | h1
    · exact absurd h1.symm e
    · simpa using h1
  refine ⟨⟨by show (S.L.set c l).length = _; rw [List.length_set]; exact h.Ll, ?_, by rw [List.length_set]; exact h.Gl, fun d l' hd z hz => ?_, fun d l' hd hne => ?_, fun d hd => ?_, ?_, ?_, fun d hd => ?_, ?_, ?_, ?_, fun v hv => ?_⟩, fun a d ha hd => p1.bound (by omega) ((p3 a).2 ha) ((p3 d).2 hd)⟩
  · show (if l = [] then l2.set c ⟨false, false, 0⟩ else l2).length = 17
    split
    · rw [List.length_set, p5]; exact h.tll
    · rw [p5]; exact h.tll
  · rcases eL d l' hd with ⟨rfl, rfl⟩ | ⟨_, h1⟩
    · exact h.pk _ _ hl z (List.mem_cons_of_mem _ hz)
    · exact h.pk d l' h1 z hz
  · show d < 8 ∧ d ∈ (if l = [] then line2.eraseIdx 0 else line2)
    rcases eL d l' hd with ⟨rfl, rfl⟩ | ⟨e, h1⟩
    · rw [if_neg hne]
      exact ⟨hc8, (p3 _).2 pmem⟩
    · obtain ⟨g1, g2⟩ := h.cls d l' h1 hne
      refine ⟨g1, ?_⟩
      split
      · exact hin d ((p3 d).2 g2) e
      · exact (p3 d).2 g2
  · have hd : d ∈ (if l = [] then line2.eraseIdx 0 else line2) := hd
    show ∃ l', (S.L.set c l)[d]? = some l' ∧ l' ≠ []
    by_cases e : c = d
    · subst e
      refine ⟨l, List.getElem?_set_self hcl, fun e0 => ?_⟩
      rw [if_pos e0] at hd
      exact (hen _ hd).2 rfl
    · rw [List.getElem?_set_ne e]
      refine h.emp d ((p3 d).1 ?_)
      split at hd
      · exact (hen d hd).1
      · exact hd
  · show total (S.L.set c l) = t
    have h1 := total_set S.L c (x :: l) l hl
    have := h.tot
    simp at h1
    omega
  · show (if l = [] then line2.eraseIdx 0 else line2).Nodup
    split
    · rw [p6] at p2 ⊢
      simpa using (List.nodup_cons.1 p2).2
    · exact p2
  · have hd : d ∈ (if l = [] then line2.eraseIdx 0 else line2) := hd
    show ∃ y, (if l = [] then l2.set c ⟨false, false, 0⟩ else l2)[d]? = some y ∧ y.awake = true
    split at hd
    · obtain ⟨g1, g2⟩ := hen d hd
      obtain ⟨y, h1, h2⟩ := paw d ((p3 d).1 g1)
      rename_i e0
      exact ⟨y, by rw [if_pos e0, List.getElem?_set_ne g2]; exact h1, h2⟩
    · rename_i e0
      obtain ⟨y, h1, h2⟩ := paw d ((p3 d).1 hd)
      exact ⟨y, by rw [if_neg e0]; exact h1, h2⟩
  · show Drr q (if l = [] then l2.set c ⟨false, false, 0⟩ else l2) (if l = [] then line2.eraseIdx 0 else line2) _
    split
    · exact p1.sleep p2 h0 hct
    · exact p1
  · show InvT 0 (400 - t) (QU.subS (F.c 9) S.sh S.ql (c : Nat) n) (QU.subL S.ql (c : Nat) n)
    have := h.q.sub (r := F.c 9) (c := c) (n := n) ⟨by omega, hrg.2⟩
    rw [show 400 - (t + 1) + 1 = 400 - t by omega] at this
    exact this
  · obtain ⟨b', h1, h2⟩ := h.b0
    rw [hb] at h1
    injection h1 with h1 _
    subst h1
    refine ⟨_, rfl, ?_⟩
    refine touchF_ok ?_ hnow hF
    exact h2
  · rcases List.mem_or_eq_of_mem_set hv with h1 | rfl
    · have := h.gb v h1
      omega
    · have : 0 ≤ G.getD c 0 ∧ G.getD c 0 ≤ ((200 - (t + 1) : Nat) : Int) * 9216 := by
        rw [List.getD_eq_getElem?_getD, List.getElem?_eq_getElem (by rw [h.Gl]; omega)]
        exact h.gb _ (List.getElem_mem _)
      omega
end
end Go.Proofs.YtpanmfdbdgecaaaGreat.C

namespace Go.Proofs.YtpanmfdbdgecaaaGreat.C
open Go.RowKit
set_option linter.unusedVariables false
theorem pcl_info : (Tryz.prog.info? 68).map (fun i => (i.zero, i.size, i.bytes)) = some (some (.agg PZ), 46, 64) := by kernel_rfl
theorem pcl_one {x : Array Value} (h : Pk x) : ∀ u ∈ x.toList, u.oneCell' = true := by
  intro u hu
  exact Array.all_eq_true_iff_forall_mem.1 h.one u (Array.mem_toList_iff.1 hu)
def pktsL (l : List (Array Value)) : List Value := (l.map fun x => x.toList).flatten
theorem pktsL_snoc (l : List (Array Value)) (x : Array Value) : pktsL l ++ x.toList = pktsL (l ++ [x]) := by simp [pktsL]
section
variable {w : World} {A : PAd} {F : PCf} {S : PSt}
set_option maxRecDepth 100000 in
set_option maxHeartbeats 1000000 in
theorem police_class (c : Int) (h : Pol w A F S) :
    Calls Tryz.prog 22 #[.pointer (some ⟨A.pb, 0, none⟩), .int .i64 c] w fun e w' => ∃ v, e = .returned v ∧ w'.ownsRow w.heap.size 68 46 v (clsS S.L c).length (pktsL (clsS S.L c)) ∧ Below w.heap.size w w' := by
  obtain ⟨i0, hi, hz0, hz1, hz2⟩ := info_parts pcl_info
  have Hi := Lib.hid hi
  have Hz0 := Lib.hid hz0
  have Hz1 := Lib.hid hz1
  have Hz2 := Lib.hid hz2
  obtain ⟨hl4, hpk⟩ := cls_len c h.sto
  have CL := Lib.hid (st_len_any c h.sto)
  have CA := Lib.hid (fun (k : Nat) w' (hs : Pol w' A F S) => st_at c (k : Nat) hs.sto)
  simp only [clsS_at] at CA
  have HS := Lib.hid h
  have HPK := Lib.hid hpk
  clear hi hz0 hz1 hz2 h hpk
  generalize clsS S.L c = l at *
  generalize hll : l.length = n at *
  have HLL := Lib.hid hll
  clear hll
  go_enter Tryz.func22, Tryz.ntmps22
  have k21 := HS.out.c21
  go_wp2_with fail
  refine CL.out.mono ?_
  rintro e w1 ⟨rfl, hw⟩
  subst hw
  clear CL
  go_wp2_with fail
  go_loopw [5, 17] (fun s t wr => ∃ k : Nat, k ≤ n ∧ t = .int .i64 k ∧ wr.ownsRow w1.heap.size 68 46 s k (pktsL (l.take k)) ∧ Pol wr A F S ∧ Below w1.heap.size w1 wr) (fun _ t _ => n - (intOf t).toNat)
  case atStart => exact ⟨0, by omega, rfl, World.ownsRow_nil _ _ _ _, HS.out, Below.refl _ _⟩
  case round =>
    obtain ⟨k, hk, rfl, hown, hS, hB⟩ := hrel
    by_cases hlt : k < n
    · obtain ⟨x, hx⟩ : ∃ x, l[k]? = some x := ⟨_, List.getElem?_eq_getElem (by have := HLL.out; omega)⟩
      have CA1 := Lib.hid (CA.out k wr hS)
      rw [hx] at CA1
      have HX := Lib.hid hx
      have HPX := Lib.hid (HPK.out x (List.mem_of_getElem? hx)).1
      have HOWN := Lib.hid hown
      have HS1 := Lib.hid hS
      have HB1 := Lib.hid hB
      have hkI : (k : Int) < (n : Int) := by omega
      have k21 := hS.c21
      clear hx hown hS hB
      go_wp2_with fail
      refine CA1.out.mono ?_
      rintro e w2 ⟨rfl, hB2⟩
      simp only [Option.getD_some, Option.isSome_some]
      have HOWN2 := Lib.hid (OW.below HOWN.out hB2)
      have HS2 := Lib.hid (HS1.out.below hB2)
      have HB2 := Lib.hid (HB1.out.trans (hB2.mono HB1.out.size))
      clear CA1 HOWN HS1 HB1 hB2
      go_upto_region 8 with (first
        | ((with_reducible refine arm_alloc 7 68 PZ 46 pz_zero ?_); intro w3 HB3 HX3 HS3; have hst := pkt_store HX3.out HPX.out)
        | ((with_reducible refine arm_store 7 28 68 (.pointer (some ⟨w2.heap.size, 0, none⟩)) (.agg x) _ hst ?_ ?_ ?_); rfl; rfl))
      have hbx := box_whole HX3.out (cs := x) HPX.out.size
      have hB4 := below_setCells (b := w2.heap.size) (Nat.le_refl _) x.toList 0 HB3.out
      have HOWN4 := Lib.hid (OW.below HOWN2.out hB4)
      have HS4 := Lib.hid (HS2.out.below hB4)
      have HB4 := Lib.hid (HB2.out.trans (hB4.mono HB2.out.size))
      clear hst hB4 HOWN2 HS2 HB2 HB3 HX3 HS3
      generalize w3.setCells w2.heap.size 0 x.toList = w4 at *
      generalize w2.heap.size = b7 at *
      have hld := pkt_load hbx HPX.out
      have hsz4 := HB4.out.size
      have HFS := Lib.hid HPX.out.size
      have HFO := Lib.hid (pcl_one HPX.out)
      clear hbx
      go_wp2_with (first
        | ((with_reducible refine arm_load 31 7 68 (.pointer (some ⟨b7, 0, none⟩)) (.agg x) hld ?_ ?_); rfl)
        | ((with_reducible refine wpList_buildSlice_one 32 31 71 68 x 46 ?_ ?_ ?_ ?_ ?_ ?_ ?_ ?_); rfl; exact Tryz.underlying71; exact pkt_size; (exact ⟨.agg PZ, by rw [Hi.out]; simp [Hz0.out]⟩); omega; omega; (exact HFS.out))
        | (at_builtin; go_must (refine wpList_append_own_at _ rfl (.tmp 30) (.tmp 32) 71 rfl w1.heap.size 68 i0 (.agg PZ) 46 64 Tryz.underlying71 Hi.out Hz0.out Hz1.out Hz2.out rfl (by omega) u5 k (pktsL (l.take k)) rfl (by exact World.ownsRow.alloc (w := w4) HOWN4.out _) ⟨w4.heap.size, 0, none⟩ 1 1 x.toList rfl ?_ ?_ HFO.out ?_ ?_ ?_ ?_)))
      · rw [Array.length_toList, HFS.out]
      · intro j u hu
        rw [OW.addr_off, Nat.zero_add, cell_of_row _ _ _ _ _ _ (Go.heap_alloc_new w4 _)]
        simpa using hu
      · simp only [maxLen]; omega
      · omega
      · simp; omega
      · intro v' w' hown' hg _ hat
        have hB' : Below w1.heap.size w1 w' := (HB4.out.alloc hsz4 (.cells x 68)).grown hg (by simp; omega) (fun q hq => (World.ownsRow.lt HOWN4.out q hq).1)
        have hB5 : ∀ q, q < w4.heap.size → some q ≠ u5.ownBlock → w'.heap[q]? = w4.heap[q]? := fun q hq hne => by
          rw [hg.block q (by simp; omega) hne, Go.heap_alloc_old _ _ hq]
        have hS' : Pol w' A F S := HS.out.below hB'
        have hown2 : w'.ownsRow w1.heap.size 68 46 v' (k + 1) (pktsL (l.take (k + 1))) := by
          have hkl := lt_of_some HX.out
          have e : l.take (k + 1) = l.take k ++ [x] := by
            rw [List.take_succ_eq_append_getElem hkl]
            have := HX.out
            rw [List.getElem?_eq_getElem hkl] at this
            injection this with this
            rw [this]
          rw [e, ← pktsL_snoc]
          exact hown'
        have HO := Lib.hid hown2
        have HS' := Lib.hid hS'
        have HB' := Lib.hid hB'
        clear hown' hg hat hB' hB5 hS' hown2 hld
        go_wp2
        go_roundw
        case rel => exact ⟨k + 1, by omega, by go_num, HO.out, HS'.out, HB'.out⟩
        case measure => simp [intOf]; omega
    · obtain rfl : k = n := by omega
      have e : l.take k = l := List.take_of_length_le (by have := HLL.out; omega)
      rw [e] at hown
      have HO := Lib.hid hown
      have HB' := Lib.hid hB
      clear hown hS hB e
      go_wp2
      go_ret
      exact ⟨_, rfl, HO.out, HB'.out⟩
end
end Go.Proofs.YtpanmfdbdgecaaaGreat.C

namespace Go.Proofs.YtpanmfdbdgecaaaGreat.C
open Go.RowKit
set_option linter.unusedVariables false
/-- So much of a prefix. -/
def pfK (s0 s1 s2 k : Nat) : Array Value := #[.bool false, .int .u8 ((if 0 < k then s0 else 0 : Nat) : Nat), .int .u8 ((if 1 < k then s1 else 0 : Nat) : Nat), .int .u8 ((if 2 < k then s2 else 0 : Nat) : Nat), .int .u8 0, .int .u8 0, .int .u8 0, .int .u8 0]
theorem pfK_z (s0 s1 s2 : Nat) : pfK s0 s1 s2 0 = PfZ := rfl
theorem pfK_3 (s0 s1 s2 k : Nat) (h : 3 ≤ k) : pfK s0 s1 s2 k = pfx s0 s1 s2 := by
  unfold pfK pfx
  rw [if_pos (by omega), if_pos (by omega), if_pos (by omega)]
theorem pfK_s (s0 s1 s2 k : Nat) (h : k < 3) : (pfK s0 s1 s2 k).setIfInBounds (1 + k) (.int .u8 (([s0, s1, s2].getD k 0 : Nat) : Nat)) = pfK s0 s1 s2 (k + 1) := by
  rcases (show k = 0 ∨ k = 1 ∨ k = 2 by omega) with rfl | rfl | rfl <;> rfl
theorem pfK_c (s0 s1 s2 k j : Nat) (h : j < 8) : ∃ u, (pfK s0 s1 s2 k)[j]? = some u := ⟨_, Array.getElem?_eq_getElem (show j < 8 from h)⟩
theorem pfK_n (s0 s1 s2 k : Nat) (h : 3 ≤ k) : pfK s0 s1 s2 (k + 1) = pfK s0 s1 s2 k := by rw [pfK_3 _ _ _ _ h, pfK_3 _ _ _ _ (by omega)]
set_option maxRecDepth 100000 in
theorem ref_prefix (x : Array Value) (s0 s1 s2 : Nat) (w : World) (hx0 : x[0]? = some (.bool false)) (hxs : ∀ k, k < 3 → x[2 + k]? = some (.int .u8 (([s0, s1, s2].getD k 0 : Nat) : Nat))) :
    Calls Tryz.prog 21 #[.agg x] w fun e w' => e = .returned (.agg (pfx s0 s1 s2)) ∧ Below w.heap.size w w' := by
  have HX0 := Lib.hid hx0
  have HXS := Lib.hid hxs
  clear hx0 hxs
  have hz := pfz_zero
  have hz1 := pfz_one
  have hz2 : (Tryz.prog.info? 65).map (·.size) = some PfZ.size := pf_size
  have hz3 : PfZ.size = 8 := rfl
  have hbl := build_pf
  have hzk := pfK_z s0 s1 s2
  generalize PfZ = Z at *
  have HZ := Lib.hid hz
  have HZ1 := Lib.hid hz1
  have HZ2 := Lib.hid hz2
  have HZ3 := Lib.hid hz3
  have HBL := Lib.hid hbl
  have HZK := Lib.hid hzk
  clear hz hz1 hz2 hz3 hbl hzk
  go_enter Tryz.func21, Tryz.ntmps21
  go_upto_region 1 with (first | ((with_reducible refine arm_box 1 0 58 x ?_ ?_); rfl; intro w1 HB1 HY1 HS1) | ((with_reducible refine arm_alloc 2 65 Z 8 HZ.out ?_); intro w2 HB2 HY2 HS2))
  have hbx := keep_block HB2.out HY1.out
  have k0 := cells_of_row hbx 0 _ HX0.out
  have hB := HB1.out.trans (HB2.out.mono HB1.out.size)
  have hbl := HBL.out w2
  go_upto_region 2 with (first | ((with_reducible refine arm_build 7 65 _ #[(0, .bool false)] (.agg Z) hbl ?_ ?_); simp [Act.eval]) | ((with_reducible refine arm_alloc 3 65 Z 8 HZ.out ?_); intro w3 HB3 HY3 HS3; have hst := box_store (t := 65) (x := Z) HY3.out HZ2.out HZ1.out rfl) | ((with_reducible refine arm_store 3 7 65 _ _ _ hst ?_ ?_ ?_); rfl; rfl))
  have hb3 : w3.heap[w1.heap.size]? = some (.cells Z 65 (0, 0)) := keep_block HB3.out HY2.out
  have hx3' : w3.heap[w.heap.size]? = some (.cells x 58 (0, 0)) := keep_block HB3.out hbx
  have hs1 := HS1.out
  have hs2 := HS2.out
  have r1 := Lib.hid ((heap_setCells_other _ _ _ _ _ (by omega)).trans hb3 : (w3.setCells w2.heap.size 0 Z.toList).heap[w1.heap.size]? = some (.cells Z 65 (0, 0)))
  have r2 := Lib.hid ((heap_setCells_other _ _ _ _ _ (by omega)).trans hx3' : (w3.setCells w2.heap.size 0 Z.toList).heap[w.heap.size]? = some (.cells x 58 (0, 0)))
  have r3 := Lib.hid (box_whole (cs := Z) HY3.out rfl)
  have r4 := Lib.hid (below_setCells (by omega) _ _ (hB.trans (HB3.out.mono hB.size)) : Below w.heap.size w (w3.setCells w2.heap.size 0 Z.toList))
  have hne : w1.heap.size ≠ w2.heap.size := by omega
  have hle1 : w.heap.size ≤ w1.heap.size := by omega
  have hle2 : w.heap.size ≤ w2.heap.size := by omega
  have hlx : w.heap.size ≠ w2.heap.size := by omega
  clear hbx k0 hB hbl hst hb3 hx3' HY1 HY2 HY3 HB1 HB2 HB3 HS1 HS2 HS3 hs1 hs2
  generalize w3.setCells w2.heap.size 0 Z.toList = w4 at *
  generalize w2.heap.size = b3 at *
  generalize w1.heap.size = br at *
  obtain ⟨fb, hfb⟩ : ∃ k, k = w.heap.size := ⟨_, rfl⟩
  rw [← hfb] at r2 r4 hle1 hle2 hlx ⊢
  have HFB := Lib.hid hfb
  clear hfb
  go_wp2_with fail
  go_loopw [8, 4] (fun t _ wr => ∃ k : Nat, k ≤ 7 ∧ t = .int .i64 (k : Nat) ∧ wr.heap[b3]? = some (.cells (pfK s0 s1 s2 k) 65 (0, 0)) ∧ wr.heap[br]? = some (.cells Z 65 (0, 0)) ∧ wr.heap[fb]? = some (.cells x 58 (0, 0)) ∧ Below fb w wr) (fun t _ _ => 7 - (intOf t).toNat)
  case atStart => exact ⟨0, by omega, rfl, by rw [HZK.out]; exact r3.out, r1.out, r2.out, r4.out⟩
  case round =>
    obtain ⟨k, hk, rfl, h1, h2, h3, h4⟩ := hrel
    clear r1 r2 r3 r4
    have H1 := Lib.hid h1
    have H2 := Lib.hid h2
    have H3 := Lib.hid h3
    have H4 := Lib.hid h4
    have x0 := cells_of_row h3 0 _ HX0.out
    clear h1 h2 h3 h4
    by_cases hk7 : k = 7
    · subst hk7
      have e7 : ((7 : Nat) : Int) = 7 := rfl
      rw [e7]
      have h3' := H1.out
      rw [pfK_3 _ _ _ _ (by omega)] at h3'
      have hps : (Tryz.prog.info? 65).map (·.size) = some (pfx s0 s1 s2).size := pf_size
      have hpa : (pfx s0 s1 s2).all (·.oneCell') = true := by kernel_rfl
      have hp8 : (pfx s0 s1 s2).size = 8 := rfl
      obtain ⟨px, hpx⟩ : ∃ px, pfx s0 s1 s2 = px := ⟨_, rfl⟩
      rw [hpx] at h3' hps hpa hp8
      have HPX := Lib.hid hpx
      clear hpx
      have hld := box_load (t := 65) h3' _ Tryz.underlying65 rfl hps
      have hst := box_store (t := 65) (x := px) H2.out hps hpa (by rw [HZ3.out, hp8])
      have HBX := Lib.hid (box_whole (cs := px) H2.out (by rw [HZ3.out, hp8]))
      have HFBB := Lib.hid (below_setCells hle1 px.toList 0 H4.out)
      have HPS := Lib.hid hps
      clear h3' hpa hp8 hps x0
      go_wp2_with (first | ((with_reducible refine arm_load 25 3 65 _ _ hld ?_ ?_); rfl) | ((with_reducible refine arm_store 2 25 65 _ _ _ hst ?_ ?_ ?_); rfl; rfl))
      refine bodyPost_ret (results_cell_row rfl _ _ _ _ _ _ _ rfl HBX.out Tryz.underlying65 rfl HPS.out) rfl ?_
      exact ⟨by rw [HPX.out], by rw [← HFB.out]; exact HFBB.out⟩
    · by_cases hk3 : k < 3
      · have hlt : (k : Int) < 7 := by omega
        have hlt3 : (k : Int) < 3 := by omega
        have hlt16 : (k : Int) < 16 := by omega
        have hkw : IntKind.i64.wrap ((k : Int) + 1) = ((k + 1 : Nat) : Int) := by rw [IntWalk.i64_in _ (by omega)]; omega
        have xk := cells_of_row H3.out (2 + k) _ (HXS.out k hk3)
        obtain ⟨u, hu⟩ := pfK_c s0 s1 s2 k (1 + k) (by omega)
        have yk := cells_of_row H1.out (1 + k) _ hu
        have fk := frozen_of_row _ _ (1 + k) _ _ H1.out
        have r1 := heap_setCell_same _ _ (1 + k) _ _ (.int .u8 (([s0, s1, s2].getD k 0 : Nat) : Nat)) H1.out
        rw [pfK_s _ _ _ _ hk3] at r1
        have R1 := Lib.hid r1
        have R2 := Lib.hid ((heap_setCell_other wr ⟨b3, 1 + k, none⟩ br (.int .u8 (([s0, s1, s2].getD k 0 : Nat) : Nat)) hne).trans H2.out)
        have R3 := Lib.hid ((heap_setCell_other wr ⟨b3, 1 + k, none⟩ fb (.int .u8 (([s0, s1, s2].getD k 0 : Nat) : Nat)) hlx).trans H3.out)
        have R4 := Lib.hid (H4.out.setCell (p := ⟨b3, 1 + k, none⟩) hle2 (.int .u8 (([s0, s1, s2].getD k 0 : Nat) : Nat)))
        have HLT := Lib.hid (show k + 1 ≤ 7 by omega)
        clear hk7 hk r1 hu
        generalize ([s0, s1, s2].getD k 0 : Nat) = v at *
        go_wp2
        go_roundw
        case rel => exact ⟨k + 1, HLT.out, by go_num, R1.out, R2.out, R3.out, R4.out⟩
        case measure => have := HLT.out; simp [intOf]; omega
      · have hlt : (k : Int) < 7 := by omega
        have hlt3 : ¬ ((k : Int) < 3) := by omega
        have hd3 : decide ((k : Int) < 3) = false := decide_eq_false hlt3
        have hkw : IntKind.i64.wrap ((k : Int) + 1) = ((k + 1 : Nat) : Int) := by rw [IntWalk.i64_in _ (by omega)]; omega
        have h1 := H1.out
        rw [← pfK_n _ _ _ _ (by omega)] at h1
        have R1 := Lib.hid h1
        have HLT := Lib.hid (show k + 1 ≤ 7 by omega)
        clear h1 hk7 hk hk3
        go_wp2
        go_roundw
        case rel => exact ⟨k + 1, HLT.out, by go_num, R1.out, H2.out, H3.out, H4.out⟩
        case measure => have := HLT.out; simp [intOf]; omega
end Go.Proofs.YtpanmfdbdgecaaaGreat.C

namespace Go.Proofs.YtpanmfdbdgecaaaGreat.C
open Go.RowKit
set_option linter.unusedVariables false
theorem Tur.lower {f : Nat → Nat} {ks : List Nat} {a b : World} {m : Nat} (t : Tur f ks a b) (h : ∀ k, k < m → f k ∉ ks) (hm : m ≤ a.heap.size) : Below m a b := ⟨t.os, t.tape, t.output, t.size, fun k hk => t.block k (Nat.lt_of_lt_of_le hk hm) (h k hk)⟩
def cfgV (c : Nat → Int) : Array Value := ((List.range 20).map fun i => Value.int .i64 (c i)).toArray
theorem cfgV_ok (c : Nat → Int) : Cfg (cfgV c) c := ⟨by simp [cfgV], fun i hi => by simp [cfgV, List.getElem?_range hi]⟩
def litC : Nat → Int := fun i => [1, 2, 1, 1, 0, 0, 1, 1, 9216, 1000, 0, 2, 1000, 0, 0, 1, 1099511627776, 1, 0, 1].getD i 0
theorem litC_right : RightC litC := ⟨by decide, by decide, by decide, by decide, by decide, by decide, by decide, by decide, by decide, by decide, by decide, by decide, by decide, by decide, by decide, by decide, by decide, by decide, by decide, by decide⟩
theorem build_lit (w : World) : (Instr.build 26 #[(0, .int .i64 1), (1, .int .i64 2), (2, .int .i64 1), (3, .int .i64 1), (6, .int .i64 1), (7, .int .i64 1), (8, .int .i64 9216), (9, .int .i64 1000), (11, .int .i64 2), (12, .int .i64 1000), (15, .int .i64 1), (16, .int .i64 1099511627776), (17, .int .i64 1), (19, .int .i64 1)]).run Tryz.prog w = .ok (.agg (cfgV litC)) w := run_build w 26 _ _ (by kernel_rfl)
def CZ : Array Value := cfgV (fun _ => 0)
theorem cz_zero : (Tryz.prog.info? 26).map (fun i => (i.zero, i.size)) = some (some (.agg CZ), 20) := by kernel_rfl
theorem cfg_all (c : Nat → Int) : (cfgV c).all (·.oneCell') = true := by kernel_rfl
set_option maxRecDepth 100000 in
theorem little_is (w : World) : Calls Tryz.prog 13 #[] w fun e w' => e = .returned (.agg (cfgV litC)) ∧ Below w.heap.size w w' := by
  have hb := build_lit
  have hz := cz_zero
  have hs : (Tryz.prog.info? 26).map (·.size) = some (cfgV litC).size := by rw [(cfgV_ok litC).size]; exact cfg_size
  have ha := cfg_all litC
  have h20 := (cfgV_ok litC).size
  have hc : CZ.size = 20 := (cfgV_ok _).size
  generalize cfgV litC = cv at *
  generalize CZ = Z at *
  have HZ := Lib.hid hz
  have HS := Lib.hid hs
  have HA := Lib.hid ha
  have H2 := Lib.hid (hc.trans h20.symm)
  clear hz hs ha h20 hc
  refine calls_hide fun Q HQ => ?_
  go_enter Tryz.func13, Tryz.ntmps13
  go_upto_region 1 with ((with_reducible refine arm_alloc 0 26 Z 20 HZ.out ?_); intro w1 HB HX HS1)
  have hb1 := hb w1
  clear hb
  have hst := box_store (t := 26) (x := cv) HX.out HS.out HA.out H2.out
  have hbx := Lib.hid (box_whole (cs := cv) HX.out H2.out.symm)
  have hf := Lib.hid (below_setCells (b := w.heap.size) (Nat.le_refl _) cv.toList 0 HB.out)
  go_wp2_with (first | ((with_reducible refine arm_build 1 26 _ #[(0, .int .i64 1), (1, .int .i64 2), (2, .int .i64 1), (3, .int .i64 1), (6, .int .i64 1), (7, .int .i64 1), (8, .int .i64 9216), (9, .int .i64 1000), (11, .int .i64 2), (12, .int .i64 1000), (15, .int .i64 1), (16, .int .i64 1099511627776), (17, .int .i64 1), (19, .int .i64 1)] _ hb1 ?_ ?_); (first | rfl | simp [Act.eval])) | ((with_reducible refine arm_store 0 1 26 _ _ _ hst ?_ ?_ ?_); rfl; rfl))
  refine bodyPost_ret (results_cell_row rfl _ _ _ _ _ _ _ rfl hbx.out Tryz.underlying26 rfl HS.out) rfl ?_
  exact HQ.out _ _ ⟨rfl, hf.out⟩
def KEZ : Array Value := (List.replicate 16 (Value.int .u8 0)).toArray
theorem build_kez (w : World) : (Instr.build 22 #[]).run Tryz.prog w = .ok (.agg KEZ) w := run_build w 22 _ _ (by kernel_rfl)
def DZ : Array Value := #[.int .u64 0, .int .u64 0]
theorem build_dz (w : World) : (Instr.build 41 #[]).run Tryz.prog w = .ok (.agg DZ) w := run_build w 41 _ _ (by kernel_rfl)
set_option maxRecDepth 100000 in
set_option maxHeartbeats 1000000 in
theorem awake_is (w : World) : Calls Tryz.prog 8 #[] w fun e w' => e = .returned (.bool true) ∧ Below w.heap.size w w' := by
  have CL := Lib.hid little_is
  have CN := Lib.hid (fun w' => engine_new (cfgV litC) litC KEZ w' (cfgV_ok _) litC_right rfl)
  have hk := build_kez
  have hd := build_dz
  generalize cfgV litC = cv at *
  obtain ⟨kz, hkez⟩ : ∃ z, KEZ = z := ⟨_, rfl⟩
  obtain ⟨dz, hdz⟩ : ∃ z, DZ = z := ⟨_, rfl⟩
  rw [hkez] at hk CN
  rw [hdz] at hd
  clear hkez hdz
  refine calls_hide fun Q HQ => ?_
  go_enter Tryz.func8, Tryz.ntmps8
  go_wp2_with fail
  refine (CL.out _).mono ?_
  rintro e w1 ⟨rfl, hB1⟩
  have hk1 := hk w1
  have B1 := Lib.hid hB1
  clear hk hB1
  go_wp2_with ((with_reducible refine arm_build 6 22 _ #[] _ hk1 ?_ ?_); (first | rfl | simp [Act.eval]))
  refine (CN.out _).mono ?_
  rintro e w2 ⟨a, G, rfl, h0, hE, htg, hB⟩
  have B2 := Lib.hid (B1.out.trans (hB.mono B1.out.size))
  have HTG := Lib.hid fun k (hk : k < w.heap.size) => htg k (Nat.lt_of_lt_of_le hk B1.out.size)
  have CF := Lib.hid (frame_short dz hE)
  have hd2 := hd w2
  clear hd B1 hB hk1 CL CN htg h0 hE
  go_wp2_with ((with_reducible refine arm_build 11 41 _ #[] _ hd2 ?_ ?_); (first | rfl | simp [Act.eval]))
  refine CF.out.mono ?_
  rintro e w3 ⟨rfl, hE3, hT⟩
  have HB := Lib.hid (B2.out.trans (hT.lower (fun k hk => by rw [HTG.out k hk]; decide) B2.out.size))
  clear hT hE3 hd2 CF B2 HTG
  generalize a.eb = eb at *
  go_wp2_with fail
  exact HQ.out _ _ ⟨rfl, HB.out.alloc HB.out.size _⟩
end Go.Proofs.YtpanmfdbdgecaaaGreat.C

namespace Go.Proofs.YtpanmfdbdgecaaaGreat.C
open Go.RowKit
set_option linter.unusedVariables false
theorem blockAdd (a : Addr) (n : Nat) : (a.add n).block = a.block := by unfold Addr.add; split <;> rfl
/-- Numbers that came in, told by their list. -/
def Nums (k : IntKind) (w : World) (a : Option Addr) (L : List Int) : Prop := ∀ (i : Nat) (v : Int), L[i]? = some v → ∃ x, a = some x ∧ x.block < w.heap.size ∧ w.cell? (x.add i) = some (.int k v) ∧ (Lit.int k v).wf = true
theorem nums_of {k : IntKind} {w : World} {a : Option Addr} {len cap : Nat} {zs : List Int} (h : IsRow k w a len cap zs) : ∃ L : List Int, L.length = len ∧ Nums k w a L ∧ len ≤ 9223372036854775807 := by
  rcases h with ⟨rfl, rfl, rfl, rfl⟩ | ⟨x, rfl, hl, hc, hz, hcell, hwf⟩
  · exact ⟨[], rfl, fun i v h => by simp at h, by omega⟩
  · refine ⟨zs.take len, by simp; omega, fun i v hv => ?_, by simp only [maxLen] at hc; omega⟩
    have hi : i < len := by
      rcases Nat.lt_or_ge i len with h | h
      · exact h
      · rw [List.getElem?_eq_none (by simp; omega)] at hv; cases hv
    rw [List.getElem?_take_of_lt hi] at hv
    have hz0 : i < zs.length := by omega
    have hc0 := hcell i hz0
    have hb := World.block_lt_of_cell? w _ hc0
    rw [List.getD_eq_getElem?_getD, hv] at hc0
    exact ⟨x, rfl, by rw [← blockAdd]; exact hb, hc0, hwf v (List.mem_of_getElem? hv)⟩
theorem Nums.kept {k : IntKind} {w w' : World} {a : Option Addr} {L : List Int} (h : Nums k w a L) (hb : ∀ b, b < w.heap.size → w'.heap[b]? = w.heap[b]?) {i : Nat} {v : Int} (hv : L[i]? = some v) : ∃ x, a = some x ∧ w'.cell? (x.add i) = some (.int k v) ∧ (Lit.int k v).wf = true := by
  obtain ⟨x, hx, hlt, hc, hw⟩ := h i v hv
  exact ⟨x, hx, by rw [World.cell?_of_block (hb _ (by rw [blockAdd]; exact hlt))]; exact hc, hw⟩
set_option maxRecDepth 100000 in
theorem key_types : Tryz.prog.cellTypes Tryz.prog.depth 22 = some (List.replicate 16 5) := by kernel_rfl
section
open Go.ChangeShapes Go.WideShapes
variable {H : Type} {enc : TypeId × Value → H} {w : World} {base : Nat} {held : Bool}
theorem cell_u8 {P : Program} {r : Reach} {b : Nat} {t : TypeId} {v : Value} (hu : P.underlying t = some (.int .u8)) (h : Cell.okWide P w r b t v) : ∃ n : Nat, v = .int .u8 (n : Nat) := by
  cases v <;> simp [Cell.okWide, Cell.ok, hu] at h
  rename_i k n
  obtain ⟨rfl, h2⟩ := h
  have h3 : 0 ≤ n := h2.1
  exact ⟨n.toNat, by rw [Int.toNat_of_nonneg h3]⟩
set_option maxRecDepth 100000 in
theorem open_key {spare : Nat → Bool} {r : Reach} {b0 : Nat} {v : Value} {d : DataW H} {p : List MemPlace} (hv : Value.okWide Tryz.prog w r b0 22 v) (h : DataW.Trod enc Tryz.prog w base spare held 22 v d p) :
    ∃ cs : Array Value, v = .agg cs ∧ ∃ K, Key16 cs K := by
  have hu := Tryz.underlying22
  simp only [Value.okWide, hu] at hv
  obtain ⟨cs, rfl, hs, ts, ht, _, hc⟩ := hv
  rw [key_types] at ht
  injection ht with ht
  subst ht
  have hs16 : cs.size = 16 := hs.trans (by kernel_rfl)
  have hex : ∀ j, ∃ n : Nat, j < 16 → cs[j]? = some (.int .u8 (n : Nat)) := fun j => by
    by_cases hj : j < 16
    · obtain ⟨u, h1, h2⟩ := hc j cs[j] (Array.getElem?_eq_getElem (by omega))
      have hu2 := (List.mem_replicate.1 (List.mem_of_getElem? h1)).2
      subst hu2
      obtain ⟨n, hn⟩ := cell_u8 Tryz.underlying5 h2
      exact ⟨n, fun _ => by rw [Array.getElem?_eq_getElem (by omega), hn]⟩
    · exact ⟨0, fun h => absurd h hj⟩
  exact ⟨cs, rfl, fun j => (hex j).choose, ⟨hs16, fun j hj => (hex j).choose_spec hj⟩⟩
noncomputable def zero_key : Value := .agg KEZ
end
theorem Cfg.set {cv : Array Value} {c : Nat → Int} (h : Cfg cv c) (i : Nat) (v : Int) : Cfg (cv.setIfInBounds i (.int .i64 v)) (fun k => if k = i then v else c k) :=
  ⟨by rw [Array.size_setIfInBounds]; exact h.size, fun k hk => by
    by_cases e : k = i
    · subst e
      rw [Array.getElem?_setIfInBounds_self_of_lt (by rw [h.size]; exact hk), if_pos rfl]
    · rw [Array.getElem?_setIfInBounds_ne (fun e2 => e e2.symm), if_neg e]
      exact h.at_ k hk⟩
theorem Cfg.congr {cv : Array Value} {c d : Nat → Int} (h : Cfg cv c) (e : ∀ k, k < 20 → c k = d k) : Cfg cv d := ⟨h.size, fun i hi => by rw [← e i hi]; exact h.at_ i hi⟩
/-- The config of TopFair. -/
def fairC (q : Int) : Nat → Int := fun i => [8, 300, 1, 1, 0, 0, 64, 1, q, 536870912, 0, 2, 536870912, 0, 0, 1, 1099511627776, 1, 0, 1].getD i 0
theorem fair_cfg (q : Int) : Cfg (((((((cfgV litC).setIfInBounds 0 (.int .i64 8)).setIfInBounds 1 (.int .i64 300)).setIfInBounds 8 (.int .i64 q)).setIfInBounds 9 (.int .i64 536870912)).setIfInBounds 12 (.int .i64 536870912)).setIfInBounds 6 (.int .i64 64)) (fairC q) := by
  refine Cfg.congr (((((((cfgV_ok litC).set 0 8).set 1 300).set 8 q).set 9 536870912).set 12 536870912).set 6 64) fun i hi => ?_
  have : i = 0 ∨ i = 1 ∨ i = 2 ∨ i = 3 ∨ i = 4 ∨ i = 5 ∨ i = 6 ∨ i = 7 ∨ i = 8 ∨ i = 9 ∨ i = 10 ∨ i = 11 ∨ i = 12 ∨ i = 13 ∨ i = 14 ∨ i = 15 ∨ i = 16 ∨ i = 17 ∨ i = 18 ∨ i = 19 := by omega
  rcases this with h | h | h | h | h | h | h | h | h | h | h | h | h | h | h | h | h | h | h | h <;> subst h <;> rfl
theorem fairC_right {q : Int} (h : 9216 ≤ q ∧ q ≤ 80000) : RightC (fairC q) := by
  refine ⟨by simp [fairC], by simp [fairC], by simp [fairC], by simp [fairC], by simp [fairC], by simp [fairC], by simp [fairC], by simp [fairC], ?_, by simp [fairC], by simp [fairC], by simp [fairC], by simp [fairC], by simp [fairC], by simp [fairC], by simp [fairC], by simp [fairC], by simp [fairC], by simp [fairC], by simp [fairC]⟩
  have e8 : fairC q 8 = q := rfl
  rw [e8]
  omega
theorem fairF {cv kv G : Array Value} {q : Int} {K : Nat → Nat} (h : 9216 ≤ q ∧ q ≤ 80000) (hv : Cfg cv (fairC q)) (hk : Key16 kv K) : FairF ⟨cv, fairC q, kv, G⟩ q K :=
  ⟨⟨hv, fairC_right h⟩, rfl, rfl, rfl, rfl, rfl, rfl, rfl, rfl, rfl, rfl, rfl, rfl, rfl, rfl, rfl, rfl, rfl, h, hk⟩
theorem fair_zero : FA 0 (pst0 8 1 1 1) := by
  have r0 : ∀ (c : Nat) (l : List (Array Value)), (List.replicate 17 ([] : List (Array Value)))[c]? = some l → l = [] := fun c l h => List.eq_of_mem_replicate (List.mem_of_getElem? h)
  refine ⟨⟨by simp [pst0], by simp [pst0], by simp [pst0], fun c l h x hx => ?_, fun c l h hne => absurd (r0 c l h) hne, fun c hc => absurd hc (by simp [pst0]), by simp [pst0, total], ⟨by simp [pst0], fun c hc => absurd hc (by simp [pst0]), fun c y h hy => ?_, by simp [pst0]⟩, fun c hc => absurd hc (by simp [pst0]), ⟨by simp [pst0], by simp [pst0], by simp [pst0], fun x hx => ?_⟩, ⟨⟨0, 0, 0⟩, rfl, by unfold BinOk; decide, rfl⟩⟩, ⟨by simp [pst0], fun b h => absurd h (by omega), fun x hx => absurd hx (by simp [pst0])⟩, rfl, rfl, rfl, rfl⟩
  · rw [r0 c l h] at hx
    cases hx
  · have := List.eq_of_mem_replicate (List.mem_of_getElem? (show (List.replicate 17 (⟨false, false, 0⟩ : Tcl))[c]? = some y from h))
    rw [this] at hy
    cases hy
  · have hx : x ∈ List.replicate 17 (0 : Int) := hx
    rw [List.eq_of_mem_replicate hx]
    decide
theorem fair_begin (cv kv : Array Value) (q : Int) (w : World) (hv : Cfg cv (fairC q)) (hr : 9216 ≤ q ∧ q ≤ 80000) (hk : kv.size = 16) :
    Calls Tryz.prog 17 #[.agg cv, .agg kv] w fun e w' => ∃ A G sb pc, e = .returned (.tuple #[.pointer (some ⟨sb, 0, none⟩), .int .i64 0]) ∧ Sch w' A sb pc ⟨cv, fairC q, kv, G⟩ (pst0 8 1 1 1) 0 ∧ (∀ k, k < w.heap.size → A.tg k = 0) ∧ Below w.heap.size w w' := by
  refine (sch_new cv (fairC q) kv w hv (fairC_right hr) hk).mono ?_
  rintro e w' ⟨A, G, sb, pc, h1, h2, h3, h4⟩
  exact ⟨A, G, sb, pc, h1, h2, h3, h4⟩
/-- The packet of a round. -/
def pktI (nn : Nat) (n : Int) : Array Value := #[Value.int .i64 0] ++ flowX 10 1 nn 7 9 0 0 0 1000 53 ++ pfx 10 1 nn ++ #[Value.int .i64 n]
theorem pktI_build (nn : Nat) (n : Int) (w : World) : (Instr.build 68 #[(1, .agg (flowX 10 1 nn 7 9 0 0 0 1000 53)), (2, .agg (pfx 10 1 nn)), (3, .int .i64 n)]).run Tryz.prog w = .ok (.agg (pktI nn n)) w := run_build w 68 _ _ (by kernel_rfl)
theorem pktI_p (nn : Nat) (n : Int) : PkP (pktI nn n) n (pfx 10 1 nn) := ⟨⟨⟨by kernel_rfl, by kernel_rfl⟩, by kernel_rfl⟩, by kernel_rfl⟩
theorem pktI_f (nn : Nat) (n : Int) : PkF (pktI nn n) (flowX 10 1 nn 7 9 0 0 0 1000 53) := by
  unfold PkF
  kernel_rfl
theorem flow_pfx (nn : Nat) (w : World) : ∀ k, k < 3 → (flowX 10 1 nn 7 9 0 0 0 1000 53)[2 + k]? = some (.int .u8 (([10, 1, nn].getD k 0 : Nat) : Nat)) := fun k hk => by
  rcases (show k = 0 ∨ k = 1 ∨ k = 2 by omega) with rfl | rfl | rfl <;> rfl
/-- A row of 16 that tells yes or no; a row of numbers. -/
def bz (f : Nat → Bool) : Array Value := ((List.range 16).map fun i => Value.bool (f i)).toArray
theorem bz_size (f : Nat → Bool) : (bz f).size = 16 := by simp [bz]
theorem bz_at (f : Nat → Bool) {i : Nat} (h : i < 16) : (bz f)[i]? = some (.bool (f i)) := by simp [bz, h]
theorem bz_set (f : Nat → Bool) {i : Nat} (h : i < 16) (v : Bool) : (bz f).setIfInBounds i (.bool v) = bz (fun j => if j = i then v else f j) := by
  apply Array.ext_getElem?
  intro j
  by_cases e : i = j
  · subst e
    rw [Array.getElem?_setIfInBounds_self_of_lt (by rw [bz_size]; exact h), bz_at _ h, if_pos rfl]
  · rw [Array.getElem?_setIfInBounds_ne e]
    by_cases hj : j < 16
    · rw [bz_at _ hj, bz_at _ hj, if_neg (fun e2 => e e2.symm)]
    · rw [Array.getElem?_eq_none (by rw [bz_size]; omega), Array.getElem?_eq_none (by rw [bz_size]; omega)]
theorem bz_congr {f g : Nat → Bool} (h : ∀ i, i < 16 → f i = g i) : bz f = bz g := by
  unfold bz
  congr 1
  exact List.map_congr_left fun i hi => by rw [h i (List.mem_range.1 hi)]
def gz (G : List Int) : Array Value := (G.map fun v => Value.int .i64 v).toArray
theorem gz_at (G : List Int) {i : Nat} {v : Int} (h : G[i]? = some v) : (gz G)[i]? = some (.int .i64 v) := by simp [gz, h]
theorem gz_set (G : List Int) (i : Nat) (v : Int) : (gz G).setIfInBounds i (.int .i64 v) = gz (G.set i v) := by
  unfold gz
  rw [List.setIfInBounds_toArray, List.map_set]
theorem fin_is {n now : Int} (hn : 1 ≤ n ∧ n ≤ 9216) (h : 0 ≤ now ∧ now ≤ 3686400) : addC now (mulC n 2) = now + n * 2 := by
  have c1 : ∀ x : Int, 0 ≤ x → x ≤ 4611686018427387904 → cnt x = x := fun x h0 h1 => by
    unfold cnt
    rw [if_neg (by omega), if_neg (by omega)]
  have e : (4611686018427387904 : Int) / 2 = 2305843009213693952 := by decide
  have m : mulC n 2 = n * 2 := by
    unfold mulC
    rw [c1 n (by omega) (by omega), c1 2 (by omega) (by omega), if_neg (by omega), if_neg (by rw [e]; omega)]
  rw [m]
  unfold addC
  rw [c1 now h.1 (by omega), c1 (n * 2) (by omega) (by omega), if_neg (by omega)]
/-- Which classes have packets. -/
def has (L : List (List (Array Value))) (i : Nat) : Bool := decide (0 < (clsS L (i : Nat)).length)
theorem has_line {q : Int} {t : Nat} {S : PSt} {G : List Int} (h : GW q t S G) {i : Nat} (hi : has S.L i = true) : i ∈ S.line := by
  have hi := of_decide_eq_true hi
  cases hl : S.L[i]? with
  | none =>
    rw [clsS_out (by have := List.getElem?_eq_none_iff.1 hl; omega)] at hi
    simp at hi
  | some l =>
    rw [clsS_some hl] at hi
    exact (h.cls i l hl (fun e => by rw [e] at hi; simp at hi)).2
theorem has_set {L : List (List (Array Value))} {c : Nat} {l : List (Array Value)} {i : Nat} (h : i ≠ c) : has (L.set c l) i = has L i := by
  unfold has clsS
  rw [if_pos (by omega), if_pos (by omega), Int.toNat_natCast, List.getD_eq_getElem?_getD, List.getD_eq_getElem?_getD, List.getElem?_set_ne (fun e => h e.symm)]
end Go.Proofs.YtpanmfdbdgecaaaGreat.C
