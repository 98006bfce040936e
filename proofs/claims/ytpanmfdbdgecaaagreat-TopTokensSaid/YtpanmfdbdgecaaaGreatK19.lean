/- The engine of TopEnds: what it has at the beginning of a round, and while somebody is in the box. · Who is in the box: what its tokens let it send; joining, leaving. · The sketch: Add of a prefix that has a slot. (Printed by sketchold.py.) · The police: Arrive of somebody who is in the box. (Printed by arrivein.py.) -/
import Derived.Test.YtpanmfdbdgecaaaGreatK18
namespace Go.Proofs.YtpanmfdbdgecaaaGreat.C
open Go.RowKit
set_option linter.unusedVariables false
/-- An engine at a time, that has what it should, and none of whose blocks is one of mine. -/
def EngP (Z : Nat → Prop) (eb : Nat) (F : PCf) (t : Int) (P : PSt → Prop) (w : World) : Prop := ∃ a S N, a.eb = eb ∧ (∀ k, Z k → k < w.heap.size ∧ a.A.tg k = 0) ∧ Eng w a F S t N 0 ∧ P S
/-- My blocks have not turned. -/
structure Kp (Z : Nat → Prop) (w w' : World) : Prop where
  os : w'.os = w.os
  tape : w'.tape = w.tape
  output : w'.output = w.output
  size : w.heap.size ≤ w'.heap.size
  block : ∀ k, k < w.heap.size → Z k → w'.heap[k]? = w.heap[k]?
section
variable {Z Y : Nat → Prop} {a b c w w' : World} {eb : Nat} {F : PCf} {t : Int} {P : PSt → Prop}
theorem Kp.refl (Z : Nat → Prop) (w : World) : Kp Z w w := ⟨rfl, rfl, rfl, Nat.le_refl _, fun _ _ _ => rfl⟩
theorem Kp.trans (p : Kp Z a b) (q : Kp Z b c) : Kp Z a c := ⟨q.os.trans p.os, q.tape.trans p.tape, q.output.trans p.output, Nat.le_trans p.size q.size, fun k hk h => (q.block k (Nat.lt_of_lt_of_le hk p.size) h).trans (p.block k hk h)⟩
theorem Kp.sub (p : Kp Y a b) (h : ∀ k, Z k → Y k) : Kp Z a b := ⟨p.os, p.tape, p.output, p.size, fun k hk hz => p.block k hk (h k hz)⟩
theorem Kp.of_below (p : Below a.heap.size a b) : Kp Z a b := ⟨p.os, p.tape, p.output, p.size, fun k hk _ => p.block k hk⟩
theorem Kp.of_tur {f : Nat → Nat} {ks : List Nat} (p : Tur f ks a b) (h : ∀ k, Z k → f k = 0) (h0 : 0 ∉ ks) : Kp Z a b := ⟨p.os, p.tape, p.output, p.size, fun k hk hz => p.block k hk (by rw [h k hz]; exact h0)⟩
theorem Kp.keep (p : Kp Z a b) {k : Nat} {o : Obj} (h : a.heap[k]? = some o) (hz : Z k) : b.heap[k]? = some o := (p.block k (Array.getElem?_eq_some_iff.1 h).1 hz).trans h
theorem Kp.to_below {m : Nat} (p : Kp Z a b) (h : ∀ k, k < m → Z k) (hm : m ≤ a.heap.size) : Below m a b := ⟨p.os, p.tape, p.output, p.size, fun k hk => p.block k (by omega) (h k hk)⟩
theorem EngP.below (h : EngP Z eb F t P w) (p : Below w.heap.size w w') : EngP Z eb F t P w' := by
  obtain ⟨a, S, N, e1, e2, e3, e4⟩ := h
  exact ⟨a, S, N, e1, fun k hk => ⟨Nat.lt_of_lt_of_le (e2 k hk).1 p.size, (e2 k hk).2⟩, e3.below p, e4⟩
/-- A new block is mine. -/
theorem EngP.mine (h : EngP Z eb F t P w) (p : Below w.heap.size w w') {x : Nat} (h1 : w.heap.size ≤ x) (h2 : x < w'.heap.size) : EngP (fun k => Z k ∨ k = x) eb F t P w' := by
  obtain ⟨a, S, N, e1, e2, e3, e4⟩ := h
  refine ⟨a, S, N, e1, fun k hk => ?_, e3.below p, e4⟩
  rcases hk with hk | rfl
  · exact ⟨Nat.lt_of_lt_of_le (e2 k hk).1 p.size, (e2 k hk).2⟩
  · exact ⟨h2, e3.pol.ok.hi _ (Nat.le_trans e3.pol.lim h1)⟩
theorem EngP.sub (h : EngP Y eb F t P w) (hs : ∀ k, Z k → Y k) : EngP Z eb F t P w := by
  obtain ⟨a, S, N, e1, e2, e3, e4⟩ := h
  exact ⟨a, S, N, e1, fun k hk => e2 k (hs k hk), e3, e4⟩
/-- A block of mine is written. -/
theorem EngP.set (h : EngP Z eb F t P w) {x : Nat} (hx : Z x) (cs : List Value) (o : Nat) : EngP Z eb F t P (w.setCells x o cs) := by
  obtain ⟨a, S, N, e1, e2, e3, e4⟩ := h
  refine ⟨a, S, N, e1, fun k hk => ⟨?_, (e2 k hk).2⟩, e3.fresh (e2 x hx).2 cs o, e4⟩
  exact Nat.lt_of_lt_of_le (e2 k hk).1 (Two.setCells (g := x) (h := x) (.inl rfl) cs o (Two.refl x x w)).size
theorem EngP.drew (h : EngP Z eb F t P w) : EngP Z eb F t P w.drew := h.below (Below.refl _ _).drew
theorem engp_clock (h : EngP Z eb F t P w) (t' : Int) (h0 : t ≤ t') (h1 : t' ≤ 4611686018427387903) :
    Calls Tryz.prog 16 #[.pointer (some ⟨eb, 0, none⟩), .int .i64 t'] w fun e w' => e = .returned (.int .i64 0) ∧ EngP Z eb F t' P w' ∧ Kp Z w w' := by
  obtain ⟨a, S, N, rfl, e2, e3, e4⟩ := h
  refine (eng_clock t' e3 h0 h1).mono ?_
  rintro e w' ⟨rfl, g1, g2⟩
  exact ⟨rfl, ⟨a, S, N, rfl, fun k hk => ⟨Nat.lt_of_lt_of_le (e2 k hk).1 g2.size, (e2 k hk).2⟩, g1, e4⟩, Kp.of_tur g2 (fun k hk => (e2 k hk).2) (by decide)⟩
theorem engp_boxed (h : EngP Z eb F t P w) (n : Nat) (Q : PSt → Prop) (hs : ∀ (A : PAd) S, P S → ∃ l' nn', Sweeps A.xb A.xt A.xr (F.c 7).toNat S.xl S.xn (F.c 17) (F.c 18) (F.c 19) t l' nn' ∧ l'.length ≤ 65536 ∧ (tkn l').length = n ∧ Q { S with xl := l', xn := nn' }) (hn : n ≤ 1) :
    Calls Tryz.prog 14 #[.pointer (some ⟨eb, 0, none⟩)] w fun e w' => (∃ B c, e = .returned (.slice B n c)) ∧ EngP Z eb F t Q w' ∧ Kp Z w w' := by
  obtain ⟨a, S, N, rfl, e2, e3, e4⟩ := h
  obtain ⟨l', nn', s1, s2, s3, s4⟩ := hs a.A S e4
  refine (eng_boxed l' nn' e3 s1 s2 (by omega)).mono ?_
  rintro e w' ⟨h0, g1, g2⟩
  rw [s3] at h0
  exact ⟨h0, ⟨a, _, N, rfl, fun k hk => ⟨Nat.lt_of_lt_of_le (e2 k hk).1 g2.size, (e2 k hk).2⟩, g1, s4⟩, Kp.of_tur g2 (fun k hk => (e2 k hk).2) (by decide)⟩
end
/-- The config of TopEnds. -/
def endC (T : Int) : Nat → Int := fun i => [1, 9, 1, 1, 0, 0, 1, 1, 9216, 1000, 0, 2, 1000, 0, 0, 1, 1, T, 0, 1048576].getD i 0
theorem endC_right {T : Int} (h : 1 ≤ T ∧ T ≤ 1099511627776) : RightC (endC T) := by
  have e17 : endC T 17 = T := rfl
  refine ⟨by simp [endC], by simp [endC], by simp [endC], by simp [endC], by simp [endC], by simp [endC], by simp [endC], by simp [endC], by simp [endC], by simp [endC], by simp [endC], by simp [endC], by simp [endC], by simp [endC], by simp [endC], by simp [endC], by simp [endC], ?_, by simp [endC], by simp [endC]⟩
  rw [e17]
  omega
/-- At the beginning of a round. -/
structure RdS (now : Int) (r : Nat) (S : PSt) : Prop where
  L : ∃ l, S.L = [[], [], l] ∧ l.length = r
  sh : S.sh = 0
  ql : S.ql = [0, 0, 60 * (r : Int)]
  tl : S.tl.length = 3
  y : ∃ y, S.tl[2]? = some y ∧ (y.awake = false → S.line.length < 3)
  w : S.wn < now ∨ (S.wn = now ∧ S.wl = [] ∧ S.wt = 0)
  xl : S.xl = emp 1
  xn : S.xn = 0
  arr : S.arr = (r : Int)
/-- While somebody is in the box. -/
structure InS (now T : Int) (r : Nat) (S : PSt) : Prop where
  L : ∃ l, S.L = [[], [], l] ∧ l.length = r
  sh : S.sh = 0
  ql : S.ql = [0, 0, 60 * (r : Int)]
  tl : S.tl.length = 3
  y : ∃ y, S.tl[2]? = some y ∧ (y.awake = false → S.line.length < 3)
  w : S.wn = now
  xl : ∃ tb, S.xl = one 1 10 1 5 (addC now T) tb
  xn : S.xn = 1
  arr : S.arr = (r : Int)
theorem wakeT_len (tl : List Tcl) (line : List Nat) (c : Nat) : (wakeT tl line c).1.length = tl.length := by
  unfold wakeT
  split
  · split
    · rfl
    · simp
  · rfl
theorem wakeT_on {tl : List Tcl} {line : List Nat} {c : Nat} {y : Tcl} (h : tl[c]? = some y) : ∃ z, (wakeT tl line c).1[c]? = some z ∧ z.awake = true := by
  unfold wakeT
  rw [h]
  simp only
  by_cases hy : y.awake = true
  · rw [if_pos hy]
    exact ⟨y, h, hy⟩
  · rw [if_neg hy]
    exact ⟨_, List.getElem?_set_self (List.getElem?_eq_some_iff.1 h).1, rfl⟩
theorem first_in (cv kv G : Array Value) (T now : Int) (r : Nat) (S : PSt) (x : Array Value) (tb : Nat) (l : List (Array Value)) (h : RdS now r S) (hl : S.L = [[], [], l]) (hr : r ≤ 1) : InS now T (r + 1) (firstS ⟨cv, endC T, kv, G⟩ S 60 now x 10 1 5 tb l) := by
  have hlen : l.length = r := by
    obtain ⟨l', h1, h2⟩ := h.L
    rw [hl] at h1
    injection h1 with _ h1
    injection h1 with _ h1
    injection h1 with h1 _
    rw [h1, h2]
  have hp : penC ⟨cv, endC T, kv, G⟩ = 2 := rfl
  have hrr : r = 0 ∨ r = 1 := by omega
  obtain ⟨y, hy, _⟩ := h.y
  refine ⟨⟨l ++ [seqX x S.arr], ?_, by simp [hlen]⟩, ?_, ?_, ?_, ?_, ?_, ⟨tb, ?_⟩, rfl, ?_⟩
  · show S.L.set 2 _ = _
    rw [hl]
    rfl
  · show QU.addS 1000 0 S.sh S.ql 2 60 = 0
    rw [h.sh, h.ql]
    rcases hrr with rfl | rfl <;> rfl
  · show QU.addL 1000 0 S.sh S.ql 2 60 = _
    rw [h.sh, h.ql]
    rcases hrr with rfl | rfl <;> rfl
  · exact (wakeT_len _ _ _).trans h.tl
  · obtain ⟨z, hz, hz2⟩ := wakeT_on (line := S.line) hy
    exact ⟨z, hz, fun h0 => by rw [hz2] at h0; cases h0⟩
  · exact Int.ediv_one now
  · show one (endC T 7).toNat 10 1 5 (addC now (endC T 17)) tb = _
    rw [show (endC T 7).toNat = 1 from rfl, show endC T 17 = T from rfl]
  · show S.arr + 1 = _
    rw [h.arr]
    omega
section
variable {Z : Nat → Prop} {w : World} {eb : Nat} {cv kv G : Array Value} {T now : Int} {r : Nat}
theorem packet_5 (w : World) : Calls Tryz.prog 12 #[.int .u8 5, .int .i64 60] w fun e w' => ∃ g c, e = .returned (.slice (some ⟨g, 0, none⟩) 60 c) ∧ FrAt w' g 0 60 c (pbB 5 46) ∧ Below w.heap.size w w' ∧ w.heap.size ≤ g := packet_made 5 46 w (by decide) (by decide) (by decide)
theorem ends_frame (h : EngP Z eb ⟨cv, endC T, kv, G⟩ now (RdS now r) w) (g c : Nat) (hf : FrAt w g 0 60 c (pbB 5 46)) (hg : Z g) (hr : r ≤ 1) (hnow : 0 ≤ now ∧ now ≤ 2199023255552) (hT : 1 ≤ T ∧ T ≤ 1099511627776) (dr : Array Value) (hdr : dr.size = 2) :
    Calls Tryz.prog 11 #[.pointer (some ⟨eb, 0, none⟩), .slice (some ⟨g, 0, none⟩) 60 c, .agg dr] w fun e w' => e = .returned (.agg #[.int .i64 (r : Nat), .int .i64 0, .int .i64 2, .int .i64 (-1), .bool true, .bool false]) ∧ EngP Z eb ⟨cv, endC T, kv, G⟩ now (InS now T (r + 1)) w' ∧ Kp Z w w' := by
  obtain ⟨a, S, N, rfl, e2, e3, e4⟩ := h
  obtain ⟨l, hl, hlen⟩ := e4.L
  obtain ⟨y, hy, hy2⟩ := e4.y
  have hrr : r = 0 ∨ r = 1 := by omega
  have hpp : PkP (pktB (pbB 5 46) 60) 60 (pfx 10 1 5) := by
    rw [show pktB (pbB 5 46) 60 = pktX 10 1 5 7 9 0 0 0 1000 53 60 from pb_pkt 5 46]
    exact pktX_pre 10 1 5 7 9 0 0 0 1000 53 60
  have hadd : addC now T = now + T := addC_in hnow.1 (by omega) (by omega)
  refine (frame_arr g 0 60 c (pbB 5 46) dr hdr e3 hf (e2 g hg).2 (pb_udp (nn := 5) (all := 46) (by decide) (by decide) (by decide)) (r : Nat) 2 0 (by decide) true false (fun _ S2 => InS now T (r + 1) S2) (fun w' q => ?_)).mono ?_
  · refine (arrive_first 60 now (pktB (pbB 5 46) 60) 10 1 5 dr l y hpp ⟨by decide, by decide, by decide⟩ ⟨by decide, by decide⟩ q (by rw [e4.arr]; omega) ⟨hnow.1, by omega⟩ ?_ (by show (1 : Int) ≤ 60; decide) ⟨e4.xl, e4.xn⟩ (by show now < addC now T; omega) (by show (60 : Int) ≤ 1048576; decide) ?_ ?_ (by rw [e4.tl]; decide) ?_ ?_ hy (by rw [e4.tl]; exact hy2)).mono ?_
    · show S.wn < now / 1 ∨ (S.wn = now / 1 ∧ _)
      rw [Int.ediv_one]
      exact e4.w
    · show QU.QOk 1000 0 S.sh S.ql
      rw [e4.sh, e4.ql]
      refine ⟨by decide, by decide, by decide, by decide, by decide, by decide, by simp, ?_⟩
      intro x hx
      simp only [List.mem_cons, List.not_mem_nil, or_false] at hx
      omega
    · show S.L[2]? = _
      rw [hl]
      rfl
    · show QU.fitsB 1000 0 S.sh S.ql 2 60 = true
      rw [e4.sh, e4.ql]
      rcases hrr with rfl | rfl <;> rfl
    · show total S.L < 9
      rw [hl]
      simp [total, hlen]
      omega
    · rintro e w1 ⟨tb, lim, rfl, h1, h2, h3⟩
      have hag : ∀ k, k < w'.heap.size → (a.A.more tb lim).tg k = a.A.tg k := fun k hk => PAd.more_tg (by omega)
      refine ⟨_, _, ?_, h1, first_in cv kv G T now r S _ tb l e4 hl hr, h2, rfl, hag⟩
      rw [e4.arr]
      rfl
  · rintro e w1 ⟨A2, S2, rfl, h1, h2, h3, h4, h5⟩
    refine ⟨rfl, ⟨{ a with A := A2 }, S2, _, rfl, fun k hk => ⟨Nat.lt_of_lt_of_le (e2 k hk).1 h3.size, (h5 k (e2 k hk).1).trans (e2 k hk).2⟩, h1, h2⟩, Kp.of_tur h3 (fun k hk => (e2 k hk).2) (by decide)⟩
theorem ends_in {t : Int} (h : EngP Z eb ⟨cv, endC T, kv, G⟩ t (InS now T r) w) (h0 : 0 ≤ now ∧ now ≤ t) (h1 : t < addC now T) :
    Calls Tryz.prog 14 #[.pointer (some ⟨eb, 0, none⟩)] w fun e w' => (∃ B c, e = .returned (.slice B 1 c)) ∧ EngP Z eb ⟨cv, endC T, kv, G⟩ t (InS now T r) w' ∧ Kp Z w w' := by
  refine engp_boxed h 1 (InS now T r) (fun A S q => ?_) (by decide)
  obtain ⟨tb, hx⟩ := q.xl
  obtain ⟨X, hX⟩ : ∃ X, X = one 1 10 1 5 (addC now T) tb := ⟨_, rfl⟩
  refine ⟨X, 1, ?_, by rw [hX, one_len]; decide, by rw [hX, tkn_one (by decide)]; rfl, ⟨q.L, q.sh, q.ql, q.tl, q.y, q.w, ⟨tb, hX⟩, rfl, q.arr⟩⟩
  rw [hx, q.xn, hX]
  exact sweeps_stay (one_gets (by decide) (by decide) ⟨by decide, by decide, by decide⟩ _ _) (tkn_one (by decide) _ _ _ _ _) (by omega) h1
theorem ends_out {t : Int} (h : EngP Z eb ⟨cv, endC T, kv, G⟩ t (InS now T r) w) (h0 : 0 ≤ now ∧ now < t) (h1 : addC now T ≤ t) :
    Calls Tryz.prog 14 #[.pointer (some ⟨eb, 0, none⟩)] w fun e w' => (∃ B c, e = .returned (.slice B 0 c)) ∧ EngP Z eb ⟨cv, endC T, kv, G⟩ t (RdS t r) w' ∧ Kp Z w w' := by
  refine engp_boxed h 0 (RdS t r) (fun A S q => ?_) (by decide)
  obtain ⟨tb, hx⟩ := q.xl
  refine ⟨emp 1, 0, ?_, by rw [emp_len]; decide, by rw [tkn_emp]; rfl, ⟨q.L, q.sh, q.ql, q.tl, q.y, .inl (by have := q.w; show S.wn < t; omega), rfl, rfl, q.arr⟩⟩
  rw [hx, q.xn]
  exact sweeps_over (one_gets (by decide) (by decide) ⟨by decide, by decide, by decide⟩ _ _) (tkn_one (by decide) _ _ _ _ _) (by omega) h1
end
theorem ends_begin (cv kv : Array Value) (T now : Int) (w : World) (hv : Cfg cv (endC T)) (hT : 1 ≤ T ∧ T ≤ 1099511627776) (hk : kv.size = 16) :
    Calls Tryz.prog 9 #[.agg cv, .agg kv] w fun e w' => ∃ eb G, e = .returned (.tuple #[.pointer (some ⟨eb, 0, none⟩), .int .i64 0]) ∧ (∀ now, 0 ≤ now → EngP (fun k => k < w.heap.size) eb ⟨cv, endC T, kv, G⟩ 0 (RdS now 0) w') ∧ Below w.heap.size w w' := by
  refine (engine_new cv (endC T) kv w hv (endC_right hT) hk).mono ?_
  rintro e w' ⟨a, G, rfl, h1, h2, h3, h4⟩
  refine ⟨a.eb, G, rfl, fun now hn => ⟨a, _, _, rfl, fun k hk => ⟨Nat.lt_of_lt_of_le hk h4.size, h3 k hk⟩, h2, ?_⟩, h4⟩
  refine ⟨⟨[], rfl, rfl⟩, rfl, rfl, rfl, ⟨_, rfl, fun _ => by show (0 : Nat) < 3; decide⟩, ?_, rfl, rfl, rfl⟩
  by_cases h : (0 : Int) < now
  · exact .inl h
  · exact .inr ⟨by show (0 : Int) = now; omega, rfl, rfl⟩
end Go.Proofs.YtpanmfdbdgecaaaGreat.C

namespace Go.Proofs.YtpanmfdbdgecaaaGreat.C
open Go.RowKit
set_option linter.unusedVariables false
theorem cnt_le {x : Int} (h : 0 ≤ x) : cnt x ≤ x := by
  unfold cnt
  split
  · omega
  · split <;> omega
theorem addC_le {x y : Int} (hx : 0 ≤ x) (hy : 0 ≤ y) : addC x y ≤ x + y := by
  have := cnt_le hx
  have := cnt_le hy
  unfold addC
  split <;> omega
theorem mulC_le {x y : Int} (hx : 0 ≤ x) (hy : 0 ≤ y) : mulC x y ≤ x * y := by
  have hxy := Int.mul_nonneg hx hy
  have h1 := cnt_le hx
  have h2 := cnt_le hy
  have h3 := cnt_range x
  have h4 := cnt_range y
  have h5 : cnt x * cnt y ≤ x * y := Int.mul_le_mul h1 h2 h4.1 hx
  unfold mulC
  split
  · exact hxy
  · rename_i hz
    split
    · rename_i hd
      have hp : 0 < cnt y := by
        have : cnt y ≠ 0 := fun e => hz (.inr e)
        omega
      have := (Int.ediv_lt_iff_lt_mul hp).1 hd
      omega
    · exact h5
/-- The level of the tokens has grown by no more than has come in. -/
theorem levelT_le {rate most level tn now : Int} (hr : 0 ≤ rate) (hl : 0 ≤ level) (ht : tn ≤ now) : levelT rate most level tn now ≤ level + (now - tn) * rate := by
  have hd : 0 ≤ now - tn := by omega
  have hp := Int.mul_nonneg hd hr
  have h1 := mulC_le hd hr
  have h0 : 0 ≤ mulC (now - tn) rate := by
    unfold mulC
    have h3 := cnt_range (now - tn)
    have h4 := cnt_range rate
    have := Int.mul_nonneg h3.1 h4.1
    split
    · omega
    · split
      · decide
      · exact this
  have h2 := addC_le hl h0
  unfold levelT
  split
  · omega
  · split <;> omega
theorem levelT_nn {rate most level tn now : Int} (hl : 0 ≤ level) (hm : 0 ≤ most) : 0 ≤ levelT rate most level tn now := by
  have := (addC_range level (mulC (now - tn) rate)).1
  unfold levelT
  split
  · exact hl
  · split <;> assumption
theorem levelT_most {rate most level tn now : Int} (hl : level ≤ most) : levelT rate most level tn now ≤ most := by
  unfold levelT
  split
  · exact hl
  · split <;> omega
/-- The quota's numbers behind so many joinings and leavings. -/
structure InvT (m : Int) (k : Nat) (s : Int) (l : List Int) : Prop where
  s0 : -((k : Int) * 9216) ≤ s
  s1 : s ≤ m
  len : l.length ≤ 129
  l0 : ∀ x ∈ l, 0 ≤ x ∧ x ≤ (k : Int) * 9216
section
variable {r m s n : Int} {l : List Int} {k c : Nat}
theorem InvT.ok (h : InvT m k s l) (hr : 0 ≤ r ∧ r ≤ 1073741824) (hm : 0 ≤ m ∧ m ≤ 1073741824) (hk : k ≤ 1000) : QU.QOk r m s l :=
  ⟨hr.1, hr.2, hm.1, hm.2, by have := h.s0; omega, by have := h.s1; omega, h.len, fun x hx => by have := h.l0 x hx; omega⟩
theorem InvT.up (h : InvT m k s l) : InvT m (k + 1) s l := ⟨by have := h.s0; omega, h.s1, h.len, fun x hx => by have := h.l0 x hx; omega⟩
theorem InvT.get (h : InvT m k s l) (c : Nat) : 0 ≤ l.getD c 0 ∧ l.getD c 0 ≤ (k : Int) * 9216 := by
  rw [List.getD_eq_getElem?_getD]
  cases hx : l[c]? with
  | none => simp; omega
  | some x => simpa using h.l0 x (List.mem_of_getElem? hx)
theorem InvT.add (h : InvT m k s l) (hn : 0 ≤ n ∧ n ≤ 9216) : InvT m (k + 1) (QU.addS r m s l (c : Nat) n) (QU.addL r m s l (c : Nat) n) := by
  unfold QU.addS QU.addL
  cases hf : QU.fitsB r m s l (c : Nat) n with
  | false => exact h.up
  | true =>
    obtain ⟨h1, h2, h3, h4, h5⟩ := QU.fits_in hf
    have g := h.get (c : Int).toNat
    have hs := h.s0
    refine ⟨?_, h5, ?_, fun x hx => ?_⟩
    · show _ ≤ QU.putS r s l (c : Nat) n
      unfold QU.putS QU.moreQ
      have := QU.overQ_mono (r := r) (show l.getD (c : Int).toNat 0 ≤ l.getD (c : Int).toNat 0 + n by omega)
      omega
    · show (QU.putL l (c : Nat) n).length ≤ 129
      unfold QU.putL
      rw [List.length_set]
      exact h.len
    · have hx' : x ∈ QU.putL l (c : Nat) n := hx
      unfold QU.putL at hx'
      rcases QU.mem_set hx' with rfl | hx'
      · omega
      · have := h.l0 x hx'
        omega
theorem InvT.sub (h : InvT m k s l) (hn : 0 ≤ n ∧ n ≤ 9216) : InvT m (k + 1) (QU.subS r s l (c : Nat) n) (QU.subL l (c : Nat) n) := by
  unfold QU.subS QU.subL
  cases hf : QU.takesB l (c : Nat) n with
  | false => exact h.up
  | true =>
    have h3 : n ≤ l.getD (c : Int).toNat 0 := by
      unfold QU.takesB at hf
      simp only [Bool.and_eq_true, decide_eq_true_eq] at hf
      exact hf.2
    have g := h.get (c : Int).toNat
    have hs := h.s0
    have hs1 := h.s1
    have o1 := QU.overQ_mono (r := r) (show l.getD (c : Int).toNat 0 + -n ≤ l.getD (c : Int).toNat 0 by omega)
    have o2 := QU.overQ_le (r := r) (show l.getD (c : Int).toNat 0 + -n ≤ l.getD (c : Int).toNat 0 by omega)
    refine ⟨?_, ?_, ?_, fun x hx => ?_⟩
    · show _ ≤ QU.putS r s l (c : Nat) (-n)
      unfold QU.putS QU.moreQ
      omega
    · show QU.putS r s l (c : Nat) (-n) ≤ m
      unfold QU.putS QU.moreQ
      omega
    · show (QU.putL l (c : Nat) (-n)).length ≤ 129
      unfold QU.putL
      rw [List.length_set]
      exact h.len
    · have hx' : x ∈ QU.putL l (c : Nat) (-n) := hx
      unfold QU.putL at hx'
      rcases QU.mem_set hx' with rfl | hx'
      · omega
      · have := h.l0 x hx'
        omega
end
/-- A packet that waits. -/
def WPk (x : Array Value) : Prop := ∃ n s : Int, PkL x n ∧ 1 ≤ n ∧ n ≤ 9216 ∧ x[0]? = some (.int .i64 s)
/-- What waits in the penalty class, and its turn. -/
structure JS (F : PCf) (S : PSt) (k : Nat) : Prop where
  L : ∃ pl y, S.L[penC F]? = some pl ∧ (∀ x ∈ pl, WPk x) ∧ S.tl[penC F]? = some y ∧ ((pl = [] ∧ S.line = [] ∧ y.awake = false) ∨ (pl ≠ [] ∧ S.line = [penC F] ∧ PickOk (F.c 8) y))
  Ll : S.L.length ≤ 129
  tll : S.tl.length ≤ 129
  q : InvT (F.c 10) k S.sh S.ql
/-- All else is as it was. -/
structure Same (S T : PSt) : Prop where
  wl : T.wl = S.wl
  wt : T.wt = S.wt
  wn : T.wn = S.wn
  xl : T.xl = S.xl
  xn : T.xn = S.xn
  arr : T.arr = S.arr
  tk : T.tk = S.tk
theorem Same.refl (S : PSt) : Same S S := ⟨rfl, rfl, rfl, rfl, rfl, rfl, rfl⟩
theorem JS.up {F : PCf} {S : PSt} {k : Nat} (h : JS F S k) : JS F S (k + 1) := ⟨h.L, h.Ll, h.tll, h.q.up⟩
/-- What joining the penalty class ends in. -/
def rJ (F : PCf) (S : PSt) (n : Int) : Int := if QU.fitsB (F.c 9) (F.c 10) S.sh S.ql (penC F : Nat) n then (if total S.L < (F.c 1).toNat then 0 else 14) else 13
theorem rJ_range (F : PCf) (S : PSt) (n : Int) : 0 ≤ rJ F S n ∧ rJ F S n ≤ 100 := by
  unfold rJ
  split
  · split <;> omega
  · omega
section
variable {F : PCf} {S : PSt} {k : Nat}
theorem tok_join (hJ : JS F S k) (hk : k ≤ 900) (hF : F.Ok) (n : Int) (x p : Array Value) (hx : PkP x n p) (hxs : ∃ s, x[0]? = some (.int .i64 s)) (hn : 1 ≤ n ∧ n ≤ 9216) :
    ∃ (S2 : PSt), JS F S2 (k + 1) ∧ Same S S2 ∧ ∀ (A : PAd) (w : World), Pol w A F S → Calls Tryz.prog 74 #[.pointer (some ⟨A.pb, 0, none⟩), .int .i64 (2 * F.c 0), .agg x] w fun e w' => e = .returned (.int .i64 (rJ F S n)) ∧ Pol w' A F S2 ∧ Tur A.tg [3, 4, 5, 6, 7] w w' := by
  have hrt := hF.right
  have hok := hJ.q.ok hrt.reserve hrt.shared (by omega)
  have hpc : (2 * F.c 0 : Int) = (penC F : Nat) := by have := hrt.buckets; unfold penC; omega
  obtain ⟨pl, y, h1, h2, h3, h4⟩ := hJ.L
  have hcl : penC F < S.L.length := lt_of_some h1
  have hpc2 : penC F ≤ 128 := by have := hrt.buckets; unfold penC; omega
  cases hf : QU.fitsB (F.c 9) (F.c 10) S.sh S.ql (penC F : Nat) n with
  | false =>
    have hr : rJ F S n = 13 := by unfold rJ; rw [hf]; rfl
    rw [hr]
    refine ⟨S, hJ.up, Same.refl S, fun A w h => ?_⟩
    rw [hpc]
    refine (join_quota (penC F) n x hx.l h hok (by omega) hf).mono ?_
    rintro e w' ⟨rfl, hB⟩
    exact ⟨rfl, h.below hB, Tur.of_below hB⟩
  | true =>
    by_cases ht : total S.L < (F.c 1).toNat
    · have hlt : y.awake = false → S.line.length < S.tl.length := by
        intro hy
        rcases h4 with ⟨_, h5, _⟩ | ⟨_, _, h6⟩
        · rw [h5]
          have := lt_of_some h3
          simp
          omega
        · rw [h6.awake] at hy
          cases hy
      have hr : rJ F S n = 0 := by unfold rJ; rw [hf, if_pos rfl, if_pos ht]
      rw [hr]
      refine ⟨{ S with L := S.L.set (penC F) (pl ++ [x]), sh := QU.addS (F.c 9) (F.c 10) S.sh S.ql (penC F : Nat) n, ql := QU.addL (F.c 9) (F.c 10) S.sh S.ql (penC F : Nat) n, b0 := S.b0, b1 := S.b1, tl := (wakeT S.tl S.line (penC F)).1, line := (wakeT S.tl S.line (penC F)).2 }, ⟨⟨pl ++ [x], ?_⟩, ?_, ?_, hJ.q.add ⟨by omega, hn.2⟩⟩, ⟨rfl, rfl, rfl, rfl, rfl, rfl, rfl⟩, fun A w h => ?_⟩
      · have hset : (S.L.set (penC F) (pl ++ [x]))[penC F]? = some (pl ++ [x]) := List.getElem?_set_self hcl
        have hwp : ∀ z ∈ pl ++ [x], WPk z := by
          intro z hz
          rcases List.mem_append.1 hz with hz | hz
          · exact h2 z hz
          · obtain ⟨s, hs⟩ := hxs
            rw [List.mem_singleton.1 hz]
            exact ⟨n, s, hx.l, hn.1, hn.2, hs⟩
        rcases h4 with ⟨_, h5, h6⟩ | ⟨_, h5, h6⟩
        · have hw : wakeT S.tl S.line (penC F) = (S.tl.set (penC F) ⟨true, true, 0⟩, S.line ++ [penC F]) := by
            unfold wakeT
            rw [h3]
            simp [h6]
          refine ⟨⟨true, true, 0⟩, hset, hwp, ?_, .inr ⟨by simp, ?_, ?_⟩⟩
          · show (wakeT S.tl S.line (penC F)).1[penC F]? = _
            rw [hw]
            exact List.getElem?_set_self (lt_of_some h3)
          · show (wakeT S.tl S.line (penC F)).2 = _
            rw [hw, h5]
            rfl
          · have := hrt.quantum
            exact ⟨rfl, by show (0 : Int) ≤ 0; omega, by show (0 : Int) ≤ 9216 + F.c 8; omega, fun _ => by show (0 : Int) ≤ 9216; omega⟩
        · have hw : wakeT S.tl S.line (penC F) = (S.tl, S.line) := by
            unfold wakeT
            rw [h3]
            simp [h6.awake]
          refine ⟨y, hset, hwp, ?_, .inr ⟨by simp, ?_, h6⟩⟩
          · show (wakeT S.tl S.line (penC F)).1[penC F]? = _
            rw [hw]
            exact h3
          · show (wakeT S.tl S.line (penC F)).2 = _
            rw [hw]
            exact h5
      · rw [List.length_set]
        exact hJ.Ll
      · show (wakeT S.tl S.line (penC F)).1.length ≤ 129
        rw [wakeT_len]
        exact hJ.tll
      · rw [hpc]
        exact join_yes (penC F) n x pl y S.b0 S.b1 hx.l h hok h1 hJ.tll hn hf ht h3 hlt (fun w2 S2 q2 e0 e1 => by
          have hc := count_pen x hx.l.pk q2 true
          rw [hpc] at hc
          refine hc.mono ?_
          rintro e w3 ⟨rfl, hB⟩
          refine ⟨rfl, ?_, Tur.of_below hB⟩
          have := q2.below hB
          rw [← e0, ← e1]
          exact this)
    · have hr : rJ F S n = 14 := by unfold rJ; rw [hf, if_pos rfl, if_neg ht]
      rw [hr]
      refine ⟨S, hJ.up, Same.refl S, fun A w h => ?_⟩
      have hle : total S.L ≤ (F.c 1).toNat := by
        obtain ⟨AA, fl, Q, hS⟩ := h.sto
        exact hS.len.2.2
      rw [hpc]
      refine (join_room (penC F) n x hx.l h hok hcl hJ.Ll hn hf (by omega)).mono ?_
      rintro e w' ⟨rfl, hB⟩
      exact ⟨rfl, h.below hB, Tur.of_below hB⟩
end
end Go.Proofs.YtpanmfdbdgecaaaGreat.C

namespace Go.Proofs.YtpanmfdbdgecaaaGreat.C
open Go.RowKit
set_option linter.unusedVariables false
set_option maxRecDepth 100000 in
set_option maxHeartbeats 4000000 in
theorem sketch_add_old (pb b room n : Nat) (l : List Slt) (x0 : Slt) (total m : Int) (p0 p1 p2 : Nat) (w : World) (h : SkAt w pb b l room total) (hok : ∀ x ∈ l, SltOk x) (hf : Flat Tryz.prog 65 (pfx p0 p1 p2)) (hl : l.length ≤ 65536) (hm : 0 ≤ m ∧ m ≤ 4611686018427387904) (hno : fndS l (pfx p0 p1 p2) l.length 0 = (n : Int)) (hx0 : l[n]? = some x0) :
    Calls Tryz.prog 67 #[.pointer (some ⟨pb, 0, none⟩), .agg (pfx p0 p1 p2), .int .i64 m] w fun e w' => e = .returned (.agg (sltC ⟨x0.p, addC x0.count m, x0.err⟩).toArray) ∧ SkAt w' pb b (l.set n ⟨x0.p, addC x0.count m, x0.err⟩) room (addC total m) ∧ Two pb b w w' := by
  have hkl := (List.getElem?_eq_some_iff.1 hx0).1
  have HXC := Lib.hid hx0
  have HOKC := Lib.hid hok
  have hps : (Tryz.prog.info? 65).map (·.size) = some (pfx p0 p1 p2).size := pf_size
  have HPS := Lib.hid hps
  have HH := Lib.hid h
  have hcf := fun (t : Int) (w' : World) (q : SkAt w' pb b l room t) => sketch_find pb b room l t (pfx p0 p1 p2) w' q hok hf rfl hl
  rw [hno] at hcf
  have HCF := Lib.hid hcf
  have hpo := pfx_ok p0 p1 p2
  have HPO := Lib.hid hpo
  have hbw0 : b < w.heap.size := by
    obtain ⟨C, hC, _⟩ := h.row
    exact (Array.getElem?_eq_some_iff.1 hC).1
  have CN := Lib.hid (num_count m)
  rw [cnt_in hm.1 hm.2] at CN
  have CA1 := Lib.hid (num_add total m)
  have CA2 := Lib.hid (num_add x0.count m)
  obtain ⟨SZ, hSZ⟩ : ∃ z, SlZ = z := ⟨_, rfl⟩
  have hsz := slz_zero
  have hszs : SZ.size = 10 := by rw [← hSZ]; rfl
  rw [hSZ] at hsz
  have HSZ := Lib.hid hsz
  have HSZS := Lib.hid hszs
  clear hps h hcf hpo hsz hszs hSZ hno hok hx0
  generalize pfx p0 p1 p2 = p at *
  obtain ⟨t1, ht1⟩ : ∃ t, addC total m = t := ⟨_, rfl⟩
  rw [ht1] at CA1 ⊢
  clear ht1
  go_enter Tryz.func67, Tryz.ntmps67
  go_upto_region 1 with (first | ((with_reducible refine arm_box 4 1 65 p ?_ ?_); rfl; intro w1 HB1 HX1 HS1) | ((with_reducible refine arm_alloc 6 195 SZ 10 HSZ.out ?_); intro w2 HB2 HX2 HS2))
  have B2 := Lib.hid (HB1.out.trans (HB2.out.mono HB1.out.size))
  have P2 := Lib.hid (keep_block HB2.out HX1.out)
  have R2 := Lib.hid HX2.out
  have hrb := HB1.out.size
  clear HX1 HX2
  generalize w1.heap.size = rb at *
  have HNRB := Lib.hid (show rb ≠ b by omega)
  have hS2 := HH.out.below B2.out
  have k1 := hS2.cells.2.1
  have HS2' := Lib.hid hS2
  clear hS2
  go_wp2_with fail
  refine (CN.out _).mono ?_
  rintro e w3 ⟨rfl, rfl⟩
  go_wp2_with fail
  refine (CA1.out w3.heap.size _ (new_c0 w3 _ _ 2) (new_c1 w3 _ _ 2)).mono ?_
  rintro e w4 ⟨rfl, rfl⟩
  have hb4 : Below w3.heap.size w3 (w3.alloc (.cells #[.int .i64 total, .int .i64 m] 2)) := (Below.refl _ _).alloc (Nat.le_refl _) _
  have hS4 := HS2'.out.below hb4
  have P4 := Lib.hid (keep_block hb4 P2.out)
  have R4 := Lib.hid (keep_block hb4 R2.out)
  have B4 := Lib.hid (B2.out.trans (hb4.mono B2.out.size))
  obtain ⟨_, k1', ff⟩ := hS4.cells
  have f1 := ff 1
  have HS4 := Lib.hid hS4
  clear hS4 hb4 k1 ff HS2' P2 R2 B2 CN CA1
  generalize w3.alloc (.cells #[.int .i64 total, .int .i64 m] 2) = w4 at *
  have n1 := ne_ty P4.out HS4.out.ptr (by decide)
  have n2 := ne_ty R4.out HS4.out.ptr (by decide)
  have hS5 := HS4.out.setTotal t1
  have hP5 : (w4.setCell ⟨pb, 1, none⟩ (.int .i64 t1)).heap[w.heap.size]? = some (.cells p 65 (0, 0)) := (heap_setCell_other _ _ _ _ n1).trans P4.out
  have hR5 : (w4.setCell ⟨pb, 1, none⟩ (.int .i64 t1)).heap[rb]? = some (.cells SZ 195 (0, 0)) := (heap_setCell_other _ _ _ _ n2).trans R4.out
  have hB5 := Two.setCell (g := pb) (h := b) (x := ⟨pb, 1, none⟩) (two_ofB B4.out) (.inl rfl) (.int .i64 t1)
  go_upto_region 5 with (fail)
  clear P4 R4 B4 HS4 k1' f1
  generalize w4.setCell ⟨pb, 1, none⟩ (.int .i64 t1) = w5 at *
  have hld := box_load (t := 65) hP5 _ Tryz.underlying65 rfl HPS.out
  have CF := Lib.hid (HCF.out t1 w5 hS5)
  have HS5 := Lib.hid hS5
  have HP5 := Lib.hid hP5
  have HR5 := Lib.hid hR5
  have HB5 := Lib.hid hB5
  clear hS5 hP5 hR5 hB5
  go_wp2_with ((with_reducible refine arm_load 24 4 65 _ _ hld ?_ ?_); rfl)
  refine CF.out.mono ?_
  rintro e w6 ⟨rfl, hb6⟩
  have hS6 := HS5.out.below hb6
  have hP6 := keep_block hb6 HP5.out
  have hR6 := keep_block hb6 HR5.out
  have hB6 := HB5.out.trans (two_ofB hb6)
  clear hld CF HS5 HP5 HR5 HB5 hb6
  obtain ⟨len, hlen⟩ : ∃ n, l.length = n := ⟨_, rfl⟩
  have HLC := Lib.hid hlen
  rw [hlen] at hkl
  clear hlen
  have hin : (n : Int) < (len : Int) := by omega
  have HSC := Lib.hid hS6
  have HBC := Lib.hid hB6
  have HRC := Lib.hid hR6
  clear hS6 hB6 hR6 hP6
  generalize w6 = wC at *
  have HL12 : Hid (∀ w', Two b b wC w' → w'.cell? ⟨pb, 0, none⟩ = some (.slice (some ⟨b, 0, none⟩) len room)) := Lib.hid fun w' q => by
    have := cells_of_row ((q.block pb (Array.getElem?_eq_some_iff.1 HSC.out.ptr).1 HSC.out.ne HSC.out.ne).trans HSC.out.ptr) 0 _ rfl
    rw [HLC.out] at this
    exact this
  have hSD := HSC.out.drew
  have hBD : Two pb b w wC.drew := HBC.out.drewN 1
  have hRD : wC.drew.heap[rb]? = some (.cells SZ 195 (0, 0)) := HRC.out
  go_wp2_with fail
  refine wp_region_held_drew (S := Two b b wC) (by kernel_rfl) ((Two.refl b b wC).drewN 1) (fun hHeld => ?_)
  clear HSC HBC HRC
  generalize wC.drew = wD at *
  obtain ⟨k8, ff⟩ := hSD.count HXC.out
  have HSD := Lib.hid hSD
  have HBD := Lib.hid hBD
  have HRD := Lib.hid hRD
  clear hSD hBD hRD ff
  refine wpAnyH_take (i := 0) (oi := ⟨some 83, _, _, _, _, _⟩) (v := ?_) rfl (by kernel_rfl) (by kernel_rfl) (by kernel_rfl) (fun _ _ _ h => h) (Or.inl ⟨by rfl, ?_⟩) hHeld ?_
  rotate_left
  · intro w hSw
    go_simp
    try with_reducible rfl
  try simp only [Act.put, List.setIfInBounds_toArray, List.set_cons_zero, List.set_cons_succ]
  refine wpAnyH_take (i := 1) (oi := ⟨some 84, _, _, _, _, _⟩) (v := ?_) rfl (by kernel_rfl) (by kernel_rfl) (by kernel_rfl) (fun _ _ _ h => h) (Or.inl ⟨by rfl, ?_⟩) hHeld ?_
  rotate_left
  · intro w hSw
    go_simp
    try with_reducible rfl
  try simp only [Act.put, List.setIfInBounds_toArray, List.set_cons_zero, List.set_cons_succ]
  refine wpAnyH_take (i := 2) (oi := ⟨some 85, _, _, _, _, _⟩) (v := ?_) rfl (by kernel_rfl) (by kernel_rfl) (by kernel_rfl) (fun _ _ _ h => h) (Or.inl ⟨by rfl, ?_⟩) hHeld ?_
  rotate_left
  · intro w hSw
    go_simp
    try with_reducible rfl
  try simp only [Act.put, List.setIfInBounds_toArray, List.set_cons_zero, List.set_cons_succ]
  refine wpAnyH_take (i := 3) (oi := ⟨some 86, _, _, _, _, _⟩) (v := ?_) rfl (by kernel_rfl) (by kernel_rfl) (by kernel_rfl) (fun _ _ _ h => h) (Or.inl ⟨by rfl, ?_⟩) hHeld ?_
  rotate_left
  · intro w hSw
    obtain k0 := HL12.out w hSw
    go_simp
    try with_reducible rfl
  try simp only [Act.put, List.setIfInBounds_toArray, List.set_cons_zero, List.set_cons_succ]
  refine wpAnyH_take (i := 4) (oi := ⟨some 87, _, _, _, _, _⟩) (v := ?_) rfl (by kernel_rfl) (by kernel_rfl) (by kernel_rfl) (fun _ _ _ h => h) (Or.inl ⟨by rfl, ?_⟩) hHeld ?_
  rotate_left
  · intro w hSw
    go_simp
    try with_reducible rfl
  try simp only [Act.put, List.setIfInBounds_toArray, List.set_cons_zero, List.set_cons_succ]
  refine wpAnyH_take (i := 5) (oi := ⟨some 88, _, _, _, _, _⟩) (v := ?_) rfl (by kernel_rfl) (by kernel_rfl) (by kernel_rfl) (fun _ _ _ h => h) (Or.inl ⟨by rfl, ?_⟩) hHeld ?_
  rotate_left
  · intro w hSw
    go_simp
    try with_reducible rfl
  try simp only [Act.put, List.setIfInBounds_toArray, List.set_cons_zero, List.set_cons_succ]
  refine wpAnyH_take (i := 6) (oi := ⟨some 89, _, _, _, _, _⟩) (v := ?_) rfl (by kernel_rfl) (by kernel_rfl) (by kernel_rfl) (fun _ _ _ h => h) (Or.inl ⟨by rfl, ?_⟩) hHeld ?_
  rotate_left
  · intro w hSw
    go_simp
    try with_reducible rfl
  try simp only [Act.put, List.setIfInBounds_toArray, List.set_cons_zero, List.set_cons_succ]
  refine wpAnyH_take (i := 7) (oi := ⟨some 90, _, _, _, _, _⟩) (v := ?_) rfl (by kernel_rfl) (by kernel_rfl) (by kernel_rfl) (fun _ _ _ h => h) (Or.inl ⟨by rfl, ?_⟩) hHeld ?_
  rotate_left
  · intro w hSw
    go_simp
    try with_reducible rfl
  try simp only [Act.put, List.setIfInBounds_toArray, List.set_cons_zero, List.set_cons_succ]
  refine wpAnyH_take (i := 8) (oi := ⟨some 91, _, _, _, _, _⟩) (v := ?_) rfl (by kernel_rfl) (by kernel_rfl) (by kernel_rfl) (fun _ _ _ h => h) (Or.inl ⟨by rfl, ?_⟩) hHeld ?_
  rotate_left
  · intro w hSw
    obtain k0 := HL12.out w hSw
    go_simp
    try with_reducible rfl
  try simp only [Act.put, List.setIfInBounds_toArray, List.set_cons_zero, List.set_cons_succ]
  refine wpAnyH_take (i := 9) (oi := ⟨some 92, _, _, _, _, _⟩) (v := ?_) rfl (by kernel_rfl) (by kernel_rfl) (by kernel_rfl) (fun _ _ _ h => h) (Or.inl ⟨by rfl, ?_⟩) hHeld ?_
  rotate_left
  · intro w hSw
    go_simp
    try with_reducible rfl
  try simp only [Act.put, List.setIfInBounds_toArray, List.set_cons_zero, List.set_cons_succ]
  refine wpAnyH_take (i := 10) (oi := ⟨some 93, _, _, _, _, _⟩) (v := ?_) rfl (by kernel_rfl) (by kernel_rfl) (by kernel_rfl) (fun _ _ _ h => h) (Or.inl ⟨by rfl, ?_⟩) hHeld ?_
  rotate_left
  · intro w hSw
    go_simp
    try with_reducible rfl
  try simp only [Act.put, List.setIfInBounds_toArray, List.set_cons_zero, List.set_cons_succ]
  refine wpAnyH_take (i := 11) (oi := ⟨some 94, _, _, _, _, _⟩) (v := ?_) rfl (by kernel_rfl) (by kernel_rfl) (by kernel_rfl) (fun _ _ _ h => h) (Or.inl ⟨by rfl, ?_⟩) hHeld ?_
  rotate_left
  · intro w hSw
    go_simp
    try with_reducible rfl
  try simp only [Act.put, List.setIfInBounds_toArray, List.set_cons_zero, List.set_cons_succ]
  refine wpAnyH_take (i := 13) (oi := ⟨some 96, _, _, _, _, _⟩) (v := ?_) rfl (by kernel_rfl) (by kernel_rfl) (by kernel_rfl) (fun _ _ _ h => h) (Or.inl ⟨by rfl, ?_⟩) hHeld ?_
  rotate_left
  · intro w hSw
    go_simp
    try with_reducible rfl
  try simp only [Act.put, List.setIfInBounds_toArray, List.set_cons_zero, List.set_cons_succ]
  refine wpAnyH_ready (rs := [12]) (by kernel_rfl) (by simp) ?_
  refine AllReadyH.cons rfl (fun K hK => ?_) AllReadyH.nil
  go_simp
  refine hK.out _ _ (hHeld) (fun hHeld => ?_)
  clear hK K
  refine wpAnyH_ready (rs := [14]) (by kernel_rfl) (by simp) ?_
  refine AllReadyH.cons rfl (fun K hK => ?_) AllReadyH.nil
  go_simp
  refine hK.out _ _ (two_next hHeld ((Below.refl _ _).alloc (Nat.le_refl _) _)) (fun hHeld => ?_)
  clear hK K
  refine wpAnyH_ready (rs := [15]) (by kernel_rfl) (by simp) ?_
  refine AllReadyH.cons rfl (fun K hK => ?_) AllReadyH.nil
  go_simp
  go_wp2_with (go_at_call 51; go_must (refine (CA2.out wD.heap.size _ (new_c0 wD _ _ 2) (new_c1 wD _ _ 2)).mono ?_; rintro e w15 ⟨rfl, rfl⟩))
  refine hK.out _ _ (hHeld) (fun hHeld => ?_)
  clear hK K
  refine wpAnyH_take (i := 16) (oi := ⟨some 99, _, _, _, _, _⟩) (v := ?_) rfl (by kernel_rfl) (by kernel_rfl) (by kernel_rfl) (fun _ _ _ h => h) (Or.inl ⟨by rfl, ?_⟩) hHeld ?_
  rotate_left
  · intro w hSw
    go_simp
    try with_reducible rfl
  try simp only [Act.put, List.setIfInBounds_toArray, List.set_cons_zero, List.set_cons_succ]
  refine wpAnyH_take (i := 17) (oi := ⟨some 100, _, _, _, _, _⟩) (v := ?_) rfl (by kernel_rfl) (by kernel_rfl) (by kernel_rfl) (fun _ _ _ h => h) (Or.inl ⟨by rfl, ?_⟩) hHeld ?_
  rotate_left
  · intro w hSw
    go_simp
    try with_reducible rfl
  try simp only [Act.put, List.setIfInBounds_toArray, List.set_cons_zero, List.set_cons_succ]
  have hbE : Below wD.heap.size wD (wD.alloc (.cells #[.int .i64 x0.count, .int .i64 m] 2)) := (Below.refl _ _).alloc (Nat.le_refl _) _
  have hSE := HSD.out.below hbE
  have HRE := Lib.hid (keep_block hbE HRD.out)
  have HBE := Lib.hid (HBD.out.trans (two_ofB hbE))
  obtain ⟨q8, qf⟩ := hSE.count HXC.out
  have g8 := qf (n * 10 + 8)
  have HSE := Lib.hid hSE
  clear hSE qf hbE k8
  generalize wD.alloc (.cells #[.int .i64 x0.count, .int .i64 m] 2) = wE at *
  refine wpAnyH_ready (rs := [18]) (by kernel_rfl) (by simp) ?_
  refine AllReadyH.cons rfl (fun K hK => ?_) AllReadyH.nil
  go_simp
  refine hK.out _ _ (hHeld.setCell (x := ⟨b, n * 10 + 8, none⟩) (.inl rfl) _) (fun hHeld => ?_)
  clear hK K
  refine wpAnyH_done (by kernel_rfl) ?_ _
  have hS6 := HSE.out.setCount HXC.out (addC x0.count m)
  have hB6 := HBE.out.setCell (x := ⟨b, n * 10 + 8, none⟩) (.inr rfl) (.int .i64 (addC x0.count m))
  have hR6 : (wE.setCell ⟨b, n * 10 + 8, none⟩ (.int .i64 (addC x0.count m))).heap[rb]? = some (.cells SZ 195 (0, 0)) := (heap_setCell_other _ _ _ _ HNRB.out).trans HRE.out
  generalize hac : addC x0.count m = ac at *
  clear HSE HBE HRE q8 g8 hHeld HL12
  generalize wE.setCell ⟨b, n * 10 + 8, none⟩ (.int .i64 ac) = w9 at *
  obtain ⟨l9, hl9⟩ : ∃ l9, l.set n ⟨x0.p, ac, x0.err⟩ = l9 := ⟨_, rfl⟩
  have hx9 : l9[n]? = some ⟨x0.p, ac, x0.err⟩ := by rw [← hl9]; exact List.getElem?_set_self (by rw [HLC.out]; omega)
  have hln9 : l9.length = len := by rw [← hl9, List.length_set]; exact HLC.out
  have hok9 : ∀ x ∈ l9, SltOk x := by
    intro x hx
    rw [← hl9] at hx
    rcases List.mem_or_eq_of_mem_set hx with hx | rfl
    · exact HOKC.out x hx
    · exact HOKC.out x0 (List.mem_of_getElem? HXC.out)
  rw [hl9] at hS6
  have k0 := hS6.cells.1
  rw [hln9] at k0
  have hlx := hS6.load hok9 hx9
  have hoy := hok9 _ (List.mem_of_getElem? hx9)
  have hya := sltC_all hoy
  have hyl : (sltC (⟨x0.p, ac, x0.err⟩ : Slt)).toArray.size = 10 := by rw [List.size_toArray]; exact sltC_len hoy
  have hys : (Tryz.prog.info? 195).map (·.size) = some (sltC (⟨x0.p, ac, x0.err⟩ : Slt)).toArray.size := by rw [hyl]; exact slt_size
  have hst := box_store (t := 195) hR6 hys hya (HSZS.out.trans hyl.symm)
  have hbx := box_whole (cs := (sltC (⟨x0.p, ac, x0.err⟩ : Slt)).toArray) hR6 (hyl.trans HSZS.out.symm)
  obtain ⟨C9, hC9, hC9s, hC9r⟩ := hS6.row
  have hnp := ne_ty hS6.ptr hR6 (by decide)
  have hS9 : SkAt (w9.setCells rb 0 (sltC (⟨x0.p, ac, x0.err⟩ : Slt)).toArray.toList) pb b l9 room t1 := ⟨(heap_setCells_other _ _ _ _ _ hnp).trans hS6.ptr, ⟨C9, (heap_setCells_other _ _ _ _ _ HNRB.out.symm).trans hC9, hC9s, hC9r⟩, hS6.len, hS6.pre⟩
  have hB9 := hB6.newCells hrb (sltC (⟨x0.p, ac, x0.err⟩ : Slt)).toArray.toList 0
  have HBX := Lib.hid hbx
  have HS9 := Lib.hid hS9
  have HB9 := Lib.hid hB9
  have HYS := Lib.hid hys
  have HL9 := Lib.hid hl9
  have HAC := Lib.hid hac
  clear hC9r hC9 hbx hS9 hB9 hys hl9 hac hya hyl hoy hok9 hx9 hS6 hB6 hR6
  generalize hY : (sltC (⟨x0.p, ac, x0.err⟩ : Slt)).toArray = Y at *
  have HY := Lib.hid hY
  clear hY
  generalize World.setCells w9 rb 0 Y.toList = w10 at *
  go_wp2_with (first | ((with_reducible refine arm_load 107 106 195 _ _ hlx ?_ ?_); rfl) | ((with_reducible refine arm_store 6 107 195 _ _ _ hst ?_ ?_ ?_); rfl; rfl))
  refine bodyPost_ret (results_cell_row rfl _ _ _ _ _ _ _ rfl HBX.out Tryz.underlying195 rfl HYS.out) rfl ?_
  have hl9 := HL9.out
  have hac := HAC.out
  refine ⟨?_, ?_, HB9.out⟩
  · rw [← HY.out, ← HAC.out]
  · have h9 := HS9.out
    rw [← HL9.out, ← HAC.out] at h9
    exact h9
end Go.Proofs.YtpanmfdbdgecaaaGreat.C

namespace Go.Proofs.YtpanmfdbdgecaaaGreat.C
open Go.RowKit
set_option linter.unusedVariables false
section
variable {w : World} {A : PAd} {F : PCf} {S S1 S2 S3 S4 : PSt}
set_option maxRecDepth 100000 in
set_option maxHeartbeats 8000000 in
theorem arrive_in (n now r : Int) (x p : Array Value) (dr : Array Value) (hx : PkP x n p) (hp : p.size = 8) (hn : 1 ≤ n ∧ n ≤ 9216) (h : Pol w A F S) (hr : 0 ≤ r ∧ r ≤ 100) (har : 0 ≤ S.arr ∧ S.arr ≤ 4611686018427387904)
    (hwa : ∀ w', Pol w' A F { S with arr := S.arr + 1 } → Calls Tryz.prog 37 #[.pointer (some ⟨A.wb, 0, none⟩), .int .i64 now, .agg p, .int .i64 n] w' fun e w'' => e = .returned (.bool true) ∧ Pol w'' A F S1 ∧ Tur A.tg [8] w' w'')
    (hin : ∀ w', Pol w' A F S1 → Calls Tryz.prog 38 #[.pointer (some ⟨A.xb, 0, none⟩), .agg p, .int .i64 now] w' fun e w'' => e = .returned (.bool true) ∧ Pol w'' A F S2 ∧ Tur A.tg [9] w' w'')
    (hi2 : ∀ w', Pol w' A F S2 → Calls Tryz.prog 38 #[.pointer (some ⟨A.xb, 0, none⟩), .agg p, .int .i64 now] w' fun e w'' => e = .returned (.bool true) ∧ Pol w'' A F S3 ∧ Tur A.tg [9] w' w'')
    (hbo : ∀ w', Pol w' A F S3 → Calls Tryz.prog 41 #[.pointer (some ⟨A.pb, 0, none⟩), .agg (seqX x S.arr), .int .i64 now] w' fun e w'' => e = .returned (.int .i64 r) ∧ Pol w'' A F S4 ∧ Tur A.tg [3, 4, 5, 6, 7, 9] w' w'') :
    Calls Tryz.prog 20 #[.pointer (some ⟨A.pb, 0, none⟩), .agg x, .int .i64 now, .agg dr] w fun e w' => e = .returned (.agg #[.int .i64 S.arr, .int .i64 r, .int .i64 (if r = 0 then 2 * F.c 0 else -1), .int .i64 (-1), .bool false, .bool false]) ∧ Pol w' A F S4 ∧ Tur A.tg [1, 3, 4, 5, 6, 7, 8, 9] w w' := by
  obtain ⟨har0, har1⟩ := har
  have hwr : IntKind.i64.wrap (S.arr + 1) = S.arr + 1 := IntWalk.i64_in _ (by omega)
  obtain ⟨ar, hara⟩ : ∃ a, S.arr = a := ⟨_, rfl⟩
  rw [hara] at har0 har1 hwr hwa hbo ⊢
  have HWA := Lib.hid hwa
  have HIN := Lib.hid hin
  have HI2 := Lib.hid hi2
  have HBO := Lib.hid hbo
  clear hwa hin hi2 hbo
  have CPE : Hid (∀ w' S', Pol w' A F S' → Calls Tryz.prog 40 #[.pointer (some ⟨A.pb, 0, none⟩)] w' fun e w'' => e = .returned (.int .i64 (2 * F.c 0)) ∧ w'' = w') := Lib.hid fun w' S' q => police_penalty q
  generalize 2 * F.c 0 = pc at *
  have HX0 := Lib.hid hx
  have HP := Lib.hid h
  have HL := Lib.hid hx.l.len
  obtain ⟨hn0, hn1⟩ := hn
  obtain ⟨VZ0, hVZ⟩ : ∃ z, VZ = z := ⟨_, rfl⟩
  have hvz := vz_zero
  rw [hVZ] at hvz
  have HVZ := Lib.hid hvz
  have HVE := Lib.hid hVZ
  clear h hx hvz hVZ
  refine calls_hide fun Q HQ => ?_
  go_enter Tryz.func20, Tryz.ntmps20
  go_upto_region 1 with (first | ((with_reducible refine arm_box 5 1 68 x ?_ ?_); rfl; intro w1 HB HX HS) | ((with_reducible refine arm_box 7 3 41 dr ?_ ?_); rfl; intro w2 HB2 HX2 HS2) | ((with_reducible refine arm_alloc 8 35 VZ0 6 HVZ.out ?_); intro w3 HB3 HX3 HS3))
  have k1 := cells_of_row (keep_block HB3.out (keep_block HB2.out HX.out)) 45 _ HL.out
  go_upto_region 3 with (fail)
  have B3 := Lib.hid ((HB.out.trans (HB2.out.mono HB.out.size)).trans (HB3.out.mono (Nat.le_trans HB.out.size HB2.out.size)))
  have X3 := Lib.hid (keep_block HB3.out (keep_block HB2.out HX.out))
  have R3 := Lib.hid HX3.out
  have hs1 := HS.out
  have hs2 := HS2.out
  have hs3 := HS3.out
  have hlim := HP.out.lim
  have HP3 := Lib.hid (HP.out.below B3.out)
  have k28 := HP3.out.c28
  obtain ⟨x0, hx0⟩ : ∃ v, x[0]? = some v := ⟨_, Array.getElem?_eq_getElem (by have := HX0.out.l.pk.size; omega)⟩
  have cx3 := cells_of_row X3.out 0 _ hx0
  have fx3 : w3.frozen? ⟨w.heap.size, 0, none⟩ = false := frozen_of_row _ _ _ _ _ X3.out
  rw [hara] at k28
  generalize w2.heap.size = rb at *
  clear HB HX HB2 HX2 HB3 HX3 k1 HS HS2 HS3
  go_upto_region 4 with (fail)
  have HPX := Lib.hid (HX0.out.seq ar)
  have hXC := HX0.out.c0 ar
  have X4 : Hid ((w3.setCell ⟨w.heap.size, 0, none⟩ (.int .i64 ar)).heap[w.heap.size]? = some (.cells (seqX x ar) 68 (0, 0))) := Lib.hid (by rw [heap_setCell_same _ _ _ _ _ _ X3.out]; rfl)
  have R4 : Hid ((w3.setCell ⟨w.heap.size, 0, none⟩ (.int .i64 ar)).heap[rb]? = some (.cells VZ0 35 (0, 0))) := Lib.hid (by rw [heap_setCell_other _ _ _ _ (by simp; omega)]; exact R3.out)
  have T4 : Tur A.tg [0] w3 (w3.setCell ⟨w.heap.size, 0, none⟩ (.int .i64 ar)) := Tur.of_two (Two.setCell (g := w.heap.size) (h := w.heap.size) (x := ⟨w.heap.size, 0, none⟩) (Two.refl _ _ w3) (.inl rfl) (.int .i64 ar)) (by simp [HP.out.ok.hi _ hlim]) (by simp [HP.out.ok.hi _ hlim])
  have HP4 : Hid (Pol (w3.setCell ⟨w.heap.size, 0, none⟩ (.int .i64 ar)) A F S) := Lib.hid (HP3.out.tur T4 (by intro k h1 h2; simp; omega))
  have B4 : Hid (Below w.heap.size w (w3.setCell ⟨w.heap.size, 0, none⟩ (.int .i64 ar))) := Lib.hid (B3.out.setCell (Nat.le_refl _) _)
  have hs4 : (w3.setCell ⟨w.heap.size, 0, none⟩ (.int .i64 ar)).heap.size = rb + 1 := by simpa using hs3
  clear k28 cx3 fx3 hx0 T4 B3 HP3 R3 X3 hs3
  generalize w3.setCell ⟨w.heap.size, 0, none⟩ (.int .i64 ar) = w4 at *
  have k28 := HP4.out.c28
  have f28 := HP4.out.fr 28
  rw [hara] at k28
  go_upto_region 5 with (fail)
  obtain ⟨hP5, hT5⟩ := HP4.out.setArr (ar + 1)
  have X5 : Hid ((w4.setCell ⟨A.pb, 28, none⟩ (.int .i64 (ar + 1))).heap[w.heap.size]? = some (.cells (seqX x ar) 68 (0, 0))) := Lib.hid (hT5.keep X4.out (by rw [HP.out.ok.hi _ hlim]; decide))
  have R5 : Hid ((w4.setCell ⟨A.pb, 28, none⟩ (.int .i64 (ar + 1))).heap[rb]? = some (.cells VZ0 35 (0, 0))) := Lib.hid (hT5.keep R4.out (by rw [HP.out.ok.hi _ (by omega)]; decide))
  have HP5 := Lib.hid hP5
  have T5 : Hid (Tur A.tg [1, 3, 4, 5, 6, 7, 8, 9] w (w4.setCell ⟨A.pb, 28, none⟩ (.int .i64 (ar + 1)))) := Lib.hid ((Tur.of_below B4.out).trans (hT5.sub (by simp)))
  have hs5 : (w4.setCell ⟨A.pb, 28, none⟩ (.int .i64 (ar + 1))).heap.size = rb + 1 := by simpa using hs4
  clear k28 f28 hP5 hT5 X4 R4 HP4 B4 hs4
  generalize w4.setCell ⟨A.pb, 28, none⟩ (.int .i64 (ar + 1)) = w5 at *
  have k0 := cells_of_row X5.out 0 _ hXC
  have HS5 := Lib.hid (And.intro hs5 (And.intro hs1 hs2))
  clear hs5 hs1 hs2
  go_upto_region 6 with (fail)
  have p6 : Below w5.heap.size w5 (w5.alloc (.cells #[.int .i64 ar, .int .i64 0, .int .i64 (-1), .int .i64 (-1), .bool false, .bool false] 35)) := (Below.refl _ _).alloc (Nat.le_refl _) _
  have V6 := Lib.hid (Go.heap_alloc_new w5 (.cells #[.int .i64 ar, .int .i64 0, .int .i64 (-1), .int .i64 (-1), .bool false, .bool false] 35))
  have HP6 := Lib.hid (HP5.out.below p6)
  have X6 := Lib.hid (keep_block p6 X5.out)
  have R6 := Lib.hid (keep_block p6 R5.out)
  have T6 := Lib.hid (T5.out.below p6)
  clear k0 p6 X5 R5 HP5 T5
  generalize w5.alloc _ = w6 at *
  generalize w5.heap.size = vb at *
  have hbx : w.heap.size < rb := by have := HS5.out; omega
  have hvb : rb < vb := by have := HS5.out; omega
  clear HS5
  have hz1 : A.tg w.heap.size = 0 := HP.out.ok.hi _ hlim
  have hz2 : A.tg rb = 0 := HP.out.ok.hi _ (by omega)
  have hz3 : A.tg vb = 0 := HP.out.ok.hi _ (by omega)
  have HL1 : Hid (∀ w', Tur A.tg [8] w6 w' → w'.cell? ⟨A.pb, 26, none⟩ = some (.pointer (some ⟨A.wb, 0, none⟩)) ∧ w'.cell? ⟨w.heap.size, 45, none⟩ = some (.int .i64 n) ∧ (Instr.loadAt 65 (.pointer (some ⟨w.heap.size, 37, none⟩))).run Tryz.prog w' = .ok (.agg p) w') := Lib.hid fun w' q =>
    have hb := q.keep X6.out (by rw [hz1]; decide)
    ⟨cells_of_row ((HP6.out.rest q).ptr (by decide)) 26 _ (polC_hi HP6.out 6), cells_of_row hb 45 _ HPX.out.l.len, HPX.out.load hp hb⟩
  go_wp2_with fail
  refine wp_region_held_drew (S := Tur A.tg [8] w6) (by kernel_rfl) (Tur.refl _ _ _).drew (fun hHeld => ?_)
  refine wpAnyH_take (i := 0) (oi := ⟨some 39, _, _, _, _, _⟩) (v := ?_) rfl (by kernel_rfl) (by kernel_rfl) (by kernel_rfl) (fun _ _ _ h => h) (Or.inl ⟨by rfl, ?_⟩) hHeld ?_
  rotate_left
  · intro w hSw
    go_simp
    try with_reducible rfl
  try simp only [Act.put, List.setIfInBounds_toArray, List.set_cons_zero, List.set_cons_succ]
  refine wpAnyH_take (i := 1) (oi := ⟨some 40, _, _, _, _, _⟩) (v := ?_) rfl (by kernel_rfl) (by kernel_rfl) (by kernel_rfl) (fun _ _ _ h => h) (Or.inl ⟨by rfl, ?_⟩) hHeld ?_
  rotate_left
  · intro w hSw
    go_simp
    try with_reducible rfl
  try simp only [Act.put, List.setIfInBounds_toArray, List.set_cons_zero, List.set_cons_succ]
  refine wpAnyH_take (i := 2) (oi := ⟨some 41, _, _, _, _, _⟩) (v := ?_) rfl (by kernel_rfl) (by kernel_rfl) (by kernel_rfl) (fun _ _ _ h => h) (Or.inl ⟨by rfl, ?_⟩) hHeld ?_
  rotate_left
  · intro w hSw
    go_simp
    try with_reducible rfl
  try simp only [Act.put, List.setIfInBounds_toArray, List.set_cons_zero, List.set_cons_succ]
  refine wpAnyH_take (i := 3) (oi := ⟨some 42, _, _, _, _, _⟩) (v := ?_) rfl (by kernel_rfl) (by kernel_rfl) (by kernel_rfl) (fun _ _ _ h => h) (Or.inl ⟨by rfl, ?_⟩) hHeld ?_
  rotate_left
  · intro w hSw
    obtain ⟨k0, k1, _⟩ := HL1.out w hSw
    go_simp
    try with_reducible rfl
  try simp only [Act.put, List.setIfInBounds_toArray, List.set_cons_zero, List.set_cons_succ]
  refine wpAnyH_take (i := 4) (oi := ⟨some 43, _, _, _, _, _⟩) (v := ?_) rfl (by kernel_rfl) (by kernel_rfl) (by kernel_rfl) (fun _ _ _ h => h) (Or.inl ⟨by rfl, ?_⟩) hHeld ?_
  rotate_left
  · intro w hSw
    go_simp
    try with_reducible rfl
  try simp only [Act.put, List.setIfInBounds_toArray, List.set_cons_zero, List.set_cons_succ]
  refine wpAnyH_take (i := 5) (oi := ⟨some 44, _, _, _, _, _⟩) (v := ?_) rfl (by kernel_rfl) (by kernel_rfl) (by kernel_rfl) (fun _ _ _ h => h) (Or.inl ⟨by rfl, ?_⟩) hHeld ?_
  rotate_left
  · intro w hSw
    go_simp
    try with_reducible rfl
  try simp only [Act.put, List.setIfInBounds_toArray, List.set_cons_zero, List.set_cons_succ]
  refine wpAnyH_take (i := 6) (oi := ⟨some 45, _, _, _, _, _⟩) (v := .agg p) rfl (by kernel_rfl) (by kernel_rfl) (by kernel_rfl) (fun _ _ _ h => h) (Or.inl ⟨by rfl, fun w hSw => exec_load rfl (HL1.out w hSw).2.2⟩) hHeld ?_
  try simp only [Act.put, List.setIfInBounds_toArray, List.set_cons_zero, List.set_cons_succ]
  refine wpAnyH_take (i := 7) (oi := ⟨some 46, _, _, _, _, _⟩) (v := ?_) rfl (by kernel_rfl) (by kernel_rfl) (by kernel_rfl) (fun _ _ _ h => h) (Or.inl ⟨by rfl, ?_⟩) hHeld ?_
  rotate_left
  · intro w hSw
    go_simp
    try with_reducible rfl
  try simp only [Act.put, List.setIfInBounds_toArray, List.set_cons_zero, List.set_cons_succ]
  refine wpAnyH_take (i := 8) (oi := ⟨some 47, _, _, _, _, _⟩) (v := ?_) rfl (by kernel_rfl) (by kernel_rfl) (by kernel_rfl) (fun _ _ _ h => h) (Or.inl ⟨by rfl, ?_⟩) hHeld ?_
  rotate_left
  · intro w hSw
    obtain ⟨k0, k1, _⟩ := HL1.out w hSw
    go_simp
    try with_reducible rfl
  try simp only [Act.put, List.setIfInBounds_toArray, List.set_cons_zero, List.set_cons_succ]
  refine wpAnyH_ready (rs := [9]) (by kernel_rfl) (by simp) ?_
  refine AllReadyH.cons rfl (fun K hK => ?_) AllReadyH.nil
  go_simp
  go_wp2_with (go_at_call 37; go_must (refine (HWA.out _ HP6.out.drew).mono ?_; rintro e w9 ⟨rfl, hP9, hT9⟩))
  refine hK.out _ _ (hHeld.trans hT9) (fun hHeld => ?_)
  clear hK K
  refine wpAnyH_take (i := 10) (oi := ⟨some 10, _, _, _, _, _⟩) (v := ?_) rfl (by kernel_rfl) (by kernel_rfl) (by kernel_rfl) (fun _ _ _ h => h) (Or.inl ⟨by rfl, ?_⟩) hHeld ?_
  rotate_left
  · intro w hSw
    go_simp
    try with_reducible rfl
  try simp only [Act.put, List.setIfInBounds_toArray, List.set_cons_zero, List.set_cons_succ]
  refine wpAnyH_done (by kernel_rfl) ?_ _
  have HP9 := Lib.hid hP9
  have X9 := Lib.hid (hHeld.keep X6.out (by rw [hz1]; decide))
  have R9 := Lib.hid (hHeld.keep R6.out (by rw [hz2]; decide))
  have V9 := Lib.hid (hHeld.keep V6.out (by rw [hz3]; decide))
  have T9 := Lib.hid (T6.out.trans (hHeld.sub (js := [1, 3, 4, 5, 6, 7, 8, 9]) (by simp)))
  have hsz9 := Nat.lt_of_lt_of_le (Array.getElem?_eq_some_iff.1 V6.out).1 hHeld.size
  clear hHeld hP9 hT9 HL1 HP6 X6 R6 V6 T6 HWA
  generalize w9 = wa at *
  have HL9 : Hid (∀ w', Tur (C.exc A.tg vb 9) [9] wa w' → w'.cell? ⟨A.pb, 27, none⟩ = some (.pointer (some ⟨A.xb, 0, none⟩)) ∧ (Instr.loadAt 65 (.pointer (some ⟨w.heap.size, 37, none⟩))).run Tryz.prog w' = .ok (.agg p) w') := Lib.hid fun w' q =>
    have hb := q.keep X9.out (by rw [exc_ne (by omega), hz1]; decide)
    have ho := HP9.out.ok.pb
    ⟨cells_of_row (q.keep HP9.out.ptr (by rw [exc_ne (by rintro rfl; omega), ho]; decide)) 27 _ (polC_hi HP9.out 7), HPX.out.load hp hb⟩
  go_wp2_with fail
  refine wp_region_held_drew (S := Tur A.tg [9] wa) (by kernel_rfl) (Tur.refl _ _ _).drew (fun hHeld => ?_)
  refine wpAnyH_take (i := 0) (oi := ⟨some 49, _, _, _, _, _⟩) (v := ?_) rfl (by kernel_rfl) (by kernel_rfl) (by kernel_rfl) (fun _ _ _ h => h) (Or.inl ⟨by rfl, ?_⟩) hHeld ?_
  rotate_left
  · intro w hSw
    go_simp
    try with_reducible rfl
  try simp only [Act.put, List.setIfInBounds_toArray, List.set_cons_zero, List.set_cons_succ]
  refine wpAnyH_take (i := 1) (oi := ⟨some 50, _, _, _, _, _⟩) (v := ?_) rfl (by kernel_rfl) (by kernel_rfl) (by kernel_rfl) (fun _ _ _ h => h) (Or.inl ⟨by rfl, ?_⟩) hHeld ?_
  rotate_left
  · intro w hSw
    go_simp
    try with_reducible rfl
  try simp only [Act.put, List.setIfInBounds_toArray, List.set_cons_zero, List.set_cons_succ]
  refine wpAnyH_take (i := 2) (oi := ⟨some 51, _, _, _, _, _⟩) (v := ?_) rfl (by kernel_rfl) (by kernel_rfl) (by kernel_rfl) (fun _ _ _ h => h) (Or.inl ⟨by rfl, ?_⟩) hHeld ?_
  rotate_left
  · intro w hSw
    go_simp
    try with_reducible rfl
  try simp only [Act.put, List.setIfInBounds_toArray, List.set_cons_zero, List.set_cons_succ]
  refine wpAnyH_take (i := 3) (oi := ⟨some 52, _, _, _, _, _⟩) (v := ?_) rfl (by kernel_rfl) (by kernel_rfl) (by kernel_rfl) (fun _ _ _ h => h) (Or.inl ⟨by rfl, ?_⟩) hHeld ?_
  rotate_left
  · intro w hSw
    go_simp
    try with_reducible rfl
  try simp only [Act.put, List.setIfInBounds_toArray, List.set_cons_zero, List.set_cons_succ]
  refine wpAnyH_take (i := 4) (oi := ⟨some 53, _, _, _, _, _⟩) (v := ?_) rfl (by kernel_rfl) (by kernel_rfl) (by kernel_rfl) (fun _ _ _ h => h) (Or.inl ⟨by rfl, ?_⟩) hHeld ?_
  rotate_left
  · intro w hSw
    go_simp
    try with_reducible rfl
  try simp only [Act.put, List.setIfInBounds_toArray, List.set_cons_zero, List.set_cons_succ]
  refine wpAnyH_take (i := 5) (oi := ⟨some 54, _, _, _, _, _⟩) (v := ?_) rfl (by kernel_rfl) (by kernel_rfl) (by kernel_rfl) (fun _ _ _ h => h) (Or.inl ⟨by rfl, ?_⟩) hHeld ?_
  rotate_left
  · intro w hSw
    obtain ⟨k0, _⟩ := HL9.out w (hSw.exc (by decide))
    go_simp
    try with_reducible rfl
  try simp only [Act.put, List.setIfInBounds_toArray, List.set_cons_zero, List.set_cons_succ]
  refine wpAnyH_take (i := 6) (oi := ⟨some 55, _, _, _, _, _⟩) (v := ?_) rfl (by kernel_rfl) (by kernel_rfl) (by kernel_rfl) (fun _ _ _ h => h) (Or.inl ⟨by rfl, ?_⟩) hHeld ?_
  rotate_left
  · intro w hSw
    go_simp
    try with_reducible rfl
  try simp only [Act.put, List.setIfInBounds_toArray, List.set_cons_zero, List.set_cons_succ]
  refine wpAnyH_take (i := 7) (oi := ⟨some 56, _, _, _, _, _⟩) (v := .agg p) rfl (by kernel_rfl) (by kernel_rfl) (by kernel_rfl) (fun _ _ _ h => h) (Or.inl ⟨by rfl, fun w hSw => exec_load rfl (HL9.out w (hSw.exc (by decide))).2⟩) hHeld ?_
  try simp only [Act.put, List.setIfInBounds_toArray, List.set_cons_zero, List.set_cons_succ]
  refine wpAnyH_take (i := 8) (oi := ⟨some 57, _, _, _, _, _⟩) (v := ?_) rfl (by kernel_rfl) (by kernel_rfl) (by kernel_rfl) (fun _ _ _ h => h) (Or.inl ⟨by rfl, ?_⟩) hHeld ?_
  rotate_left
  · intro w hSw
    go_simp
    try with_reducible rfl
  try simp only [Act.put, List.setIfInBounds_toArray, List.set_cons_zero, List.set_cons_succ]
  refine wpAnyH_ready (rs := [9]) (by kernel_rfl) (by simp) ?_
  refine AllReadyH.cons rfl (fun K hK => ?_) AllReadyH.nil
  go_simp
  go_wp2_with (go_at_call 38; go_must (refine (HIN.out _ HP9.out.drew).mono ?_; rintro e w9 ⟨rfl, hP10, hT10⟩))
  refine hK.out _ _ (hHeld.trans hT10) (fun hHeld => ?_)
  clear hK K
  refine wpAnyH_take (i := 10) (oi := ⟨some 59, _, _, _, _, _⟩) (v := ?_) rfl (by kernel_rfl) (by kernel_rfl) (by kernel_rfl) (fun _ _ _ h => h) (Or.inl ⟨by rfl, ?_⟩) hHeld ?_
  rotate_left
  · intro w hSw
    go_simp
    try with_reducible rfl
  try simp only [Act.put, List.setIfInBounds_toArray, List.set_cons_zero, List.set_cons_succ]
  refine wpAnyH_take (i := 11) (oi := ⟨some 60, _, _, _, _, _⟩) (v := ?_) rfl (by kernel_rfl) (by kernel_rfl) (by kernel_rfl) (fun _ _ _ h => h) (Or.inl ⟨by rfl, ?_⟩) hHeld ?_
  rotate_left
  · intro w hSw
    go_simp
    try with_reducible rfl
  try simp only [Act.put, List.setIfInBounds_toArray, List.set_cons_zero, List.set_cons_succ]
  refine wpAnyH_done (by kernel_rfl) ?_ _
  have HP10 := Lib.hid hP10
  have XA := Lib.hid (hHeld.keep X9.out (by rw [hz1]; decide))
  have RA := Lib.hid (hHeld.keep R9.out (by rw [hz2]; decide))
  have VA := Lib.hid (hHeld.keep V9.out (by rw [hz3]; decide))
  have TA := Lib.hid (T9.out.trans (hHeld.sub (js := [1, 3, 4, 5, 6, 7, 8, 9]) (by simp)))
  have hszA := Nat.lt_of_lt_of_le hsz9 hHeld.size
  clear hHeld hP10 hT10 HL9 HP9 X9 R9 V9 T9 HIN hsz9
  generalize w9 = wb at *
  have hy1 : A.tg w.heap.size = 0 := hz1
  have hy2 : A.tg rb = 0 := hz2
  have hy3 : A.tg vb = 0 := hz3
  have HLA : Hid (∀ w', Tur A.tg [9] wb w' → w'.cell? ⟨A.pb, 27, none⟩ = some (.pointer (some ⟨A.xb, 0, none⟩)) ∧ (Instr.loadAt 65 (.pointer (some ⟨w.heap.size, 37, none⟩))).run Tryz.prog w' = .ok (.agg p) w') := Lib.hid fun w' q => by
    have hb := q.keep XA.out (by rw [hy1]; decide)
    have ho := HP10.out.ok.pb
    have h1 := cells_of_row (q.keep HP10.out.ptr (by rw [ho]; decide)) 27 _ (polC_hi HP10.out 7)
    exact ⟨h1, HPX.out.load hp hb⟩
  go_wp2_with fail
  refine wp_region_held_drew (S := Tur A.tg [9] wb) (by kernel_rfl) (Tur.refl _ _ _).drew (fun hHeld => ?_)
  refine wpAnyH_take (i := 0) (oi := ⟨some 75, _, _, _, _, _⟩) (v := ?_) rfl (by kernel_rfl) (by kernel_rfl) (by kernel_rfl) (fun _ _ _ h => h) (Or.inl ⟨by rfl, ?_⟩) hHeld ?_
  rotate_left
  · intro w hSw
    go_simp
    try with_reducible rfl
  try simp only [Act.put, List.setIfInBounds_toArray, List.set_cons_zero, List.set_cons_succ]
  refine wpAnyH_take (i := 1) (oi := ⟨some 76, _, _, _, _, _⟩) (v := ?_) rfl (by kernel_rfl) (by kernel_rfl) (by kernel_rfl) (fun _ _ _ h => h) (Or.inl ⟨by rfl, ?_⟩) hHeld ?_
  rotate_left
  · intro w hSw
    go_simp
    try with_reducible rfl
  try simp only [Act.put, List.setIfInBounds_toArray, List.set_cons_zero, List.set_cons_succ]
  refine wpAnyH_take (i := 2) (oi := ⟨some 77, _, _, _, _, _⟩) (v := ?_) rfl (by kernel_rfl) (by kernel_rfl) (by kernel_rfl) (fun _ _ _ h => h) (Or.inl ⟨by rfl, ?_⟩) hHeld ?_
  rotate_left
  · intro w hSw
    go_simp
    try with_reducible rfl
  try simp only [Act.put, List.setIfInBounds_toArray, List.set_cons_zero, List.set_cons_succ]
  refine wpAnyH_take (i := 3) (oi := ⟨some 78, _, _, _, _, _⟩) (v := ?_) rfl (by kernel_rfl) (by kernel_rfl) (by kernel_rfl) (fun _ _ _ h => h) (Or.inl ⟨by rfl, ?_⟩) hHeld ?_
  rotate_left
  · intro w hSw
    obtain ⟨k0, _⟩ := HLA.out w hSw
    go_simp
    try with_reducible rfl
  try simp only [Act.put, List.setIfInBounds_toArray, List.set_cons_zero, List.set_cons_succ]
  refine wpAnyH_take (i := 4) (oi := ⟨some 79, _, _, _, _, _⟩) (v := ?_) rfl (by kernel_rfl) (by kernel_rfl) (by kernel_rfl) (fun _ _ _ h => h) (Or.inl ⟨by rfl, ?_⟩) hHeld ?_
  rotate_left
  · intro w hSw
    go_simp
    try with_reducible rfl
  try simp only [Act.put, List.setIfInBounds_toArray, List.set_cons_zero, List.set_cons_succ]
  refine wpAnyH_take (i := 5) (oi := ⟨some 80, _, _, _, _, _⟩) (v := .agg p) rfl (by kernel_rfl) (by kernel_rfl) (by kernel_rfl) (fun _ _ _ h => h) (Or.inl ⟨by rfl, fun w hSw => exec_load rfl (HLA.out w hSw).2⟩) hHeld ?_
  try simp only [Act.put, List.setIfInBounds_toArray, List.set_cons_zero, List.set_cons_succ]
  refine wpAnyH_take (i := 6) (oi := ⟨some 81, _, _, _, _, _⟩) (v := ?_) rfl (by kernel_rfl) (by kernel_rfl) (by kernel_rfl) (fun _ _ _ h => h) (Or.inl ⟨by rfl, ?_⟩) hHeld ?_
  rotate_left
  · intro w hSw
    go_simp
    try with_reducible rfl
  try simp only [Act.put, List.setIfInBounds_toArray, List.set_cons_zero, List.set_cons_succ]
  refine wpAnyH_ready (rs := [7]) (by kernel_rfl) (by simp) ?_
  refine AllReadyH.cons rfl (fun K hK => ?_) AllReadyH.nil
  go_simp
  go_wp2_with (go_at_call 38; go_must (refine (HI2.out _ HP10.out.drew).mono ?_; rintro e w7 ⟨rfl, hP7, hT7⟩))
  refine hK.out _ _ (hHeld.trans hT7) (fun hHeld => ?_)
  clear hK K
  refine wpAnyH_done (by kernel_rfl) ?_ _
  have HPE := Lib.hid hP7
  have XE := Lib.hid (hHeld.keep XA.out (by rw [hy1]; decide))
  have RE := Lib.hid (hHeld.keep RA.out (by rw [hy2]; decide))
  have VE := Lib.hid (hHeld.keep VA.out (by rw [hy3]; decide))
  have TE := Lib.hid (TA.out.trans2 (hHeld.sub (js := [1, 3, 4, 5, 6, 7, 8, 9]) (by simp)) (fun _ _ => rfl))
  clear hHeld hP7 hT7 HLA HP10 XA RA VA TA HI2
  generalize w7 = we at *
  have c2 := cells_of_row VE.out 2 _ rfl
  have f2 : we.frozen? ⟨vb, 2, none⟩ = false := frozen_of_row _ _ _ _ _ VE.out
  go_wp2_with fail
  refine (CPE.out _ _ HPE.out).mono ?_
  rintro e w7 ⟨rfl, rfl⟩
  go_upto_region 12 with (fail)
  have VF : Hid ((w7.setCell ⟨vb, 2, none⟩ (.int .i64 pc)).heap[vb]? = some (.cells #[.int .i64 ar, .int .i64 0, .int .i64 pc, .int .i64 (-1), .bool false, .bool false] 35 (0, 0))) := Lib.hid (by rw [heap_setCell_same _ _ _ _ _ _ VE.out]; rfl)
  have tf : Tur A.tg [0] w7 (w7.setCell ⟨vb, 2, none⟩ (.int .i64 pc)) := Tur.of_two (Two.setCell (g := vb) (h := vb) (x := ⟨vb, 2, none⟩) (Two.refl _ _ w7) (.inl rfl) (.int .i64 pc)) (by simp [hy3]) (by simp [hy3])
  have HPF := Lib.hid (HPE.out.tur tf (by intro k h1 h2; simp; omega))
  have XF : Hid ((w7.setCell ⟨vb, 2, none⟩ (.int .i64 pc)).heap[w.heap.size]? = some (.cells (seqX x ar) 68 (0, 0))) := Lib.hid (by rw [heap_setCell_other _ _ _ _ (by simp; omega)]; exact XE.out)
  have RF : Hid ((w7.setCell ⟨vb, 2, none⟩ (.int .i64 pc)).heap[rb]? = some (.cells VZ0 35 (0, 0))) := Lib.hid (by rw [heap_setCell_other _ _ _ _ (by simp; omega)]; exact RE.out)
  have TF : Hid (Tur A.tg [1, 3, 4, 5, 6, 7, 8, 9] w (w7.setCell ⟨vb, 2, none⟩ (.int .i64 pc))) := Lib.hid (TE.out.trans2 (f := A.tg) (g := fun k => if k = vb then 1 else A.tg k) (Tur.of_two (Two.setCell (g := vb) (h := vb) (x := ⟨vb, 2, none⟩) (Two.refl _ _ w7) (.inl rfl) (.int .i64 pc)) (by simp) (by simp)) (fun k hk => if_neg (by omega)))
  clear tf c2 f2 VE HPE XE RE TE CPE
  generalize w7.setCell ⟨vb, 2, none⟩ (.int .i64 pc) = wf at *
  have hld := pkt_load XF.out HPX.out.l.pk
  go_wp2_with ((with_reducible refine arm_loadg 87 5 68 (.pointer (some ⟨w.heap.size, 0, none⟩)) (.agg (seqX x ar)) hld ?_ ?_ ?_); rfl; rfl)
  refine (HBO.out _ HPF.out).mono ?_
  rintro e w8 ⟨rfl, hP8, hT8⟩
  have HPG := Lib.hid hP8
  have RG := Lib.hid (hT8.keep RF.out (by rw [hy2]; decide))
  have VG := Lib.hid (hT8.keep VF.out (by rw [hy3]; decide))
  have TG := Lib.hid (TF.out.trans2 (hT8.sub (js := [1, 3, 4, 5, 6, 7, 8, 9]) (by simp)) (fun _ _ => rfl))
  clear hP8 hT8 hld HPF XF RF VF TF HBO
  generalize w8 = wg at *
  have c1 := cells_of_row VG.out 1 _ rfl
  have f1 : wg.frozen? ⟨vb, 1, none⟩ = false := frozen_of_row _ _ _ _ _ VG.out
  go_upto_region 14 with (fail)
  have VH : Hid ((wg.setCell ⟨vb, 1, none⟩ (.int .i64 r)).heap[vb]? = some (.cells #[.int .i64 ar, .int .i64 r, .int .i64 pc, .int .i64 (-1), .bool false, .bool false] 35 (0, 0))) := Lib.hid (by rw [heap_setCell_same _ _ _ _ _ _ VG.out]; rfl)
  have th : Tur A.tg [0] wg (wg.setCell ⟨vb, 1, none⟩ (.int .i64 r)) := Tur.of_two (Two.setCell (g := vb) (h := vb) (x := ⟨vb, 1, none⟩) (Two.refl _ _ wg) (.inl rfl) (.int .i64 r)) (by simp [hy3]) (by simp [hy3])
  have HPH := Lib.hid (HPG.out.tur th (by intro k h1 h2; simp; omega))
  have RH : Hid ((wg.setCell ⟨vb, 1, none⟩ (.int .i64 r)).heap[rb]? = some (.cells VZ0 35 (0, 0))) := Lib.hid (by rw [heap_setCell_other _ _ _ _ (by simp; omega)]; exact RG.out)
  have TH : Hid (Tur A.tg [1, 3, 4, 5, 6, 7, 8, 9] w (wg.setCell ⟨vb, 1, none⟩ (.int .i64 r))) := Lib.hid (TG.out.trans2 (f := A.tg) (g := fun k => if k = vb then 1 else A.tg k) (Tur.of_two (Two.setCell (g := vb) (h := vb) (x := ⟨vb, 1, none⟩) (Two.refl _ _ wg) (.inl rfl) (.int .i64 r)) (by simp) (by simp)) (fun k hk => if_neg (by omega)))
  clear th c1 f1 VG HPG RG TG
  generalize wg.setCell ⟨vb, 1, none⟩ (.int .i64 r) = wh at *
  have c1 := cells_of_row VH.out 1 _ rfl
  by_cases h0 : r = 0
  · subst h0
    go_upto_region 16 with (fail)
    have VI := VH
    have RI := RH
    have HPI := HPH
    have TI := TH
    clear c1
    obtain ⟨vv, hvv⟩ : ∃ z : Array Value, #[.int .i64 ar, .int .i64 0, .int .i64 pc, .int .i64 (-1), .bool false, .bool false] = z := ⟨_, rfl⟩
    have hvs : vv.size = 6 := by rw [← hvv]; rfl
    have hva : vv.all (·.oneCell') = true := by rw [← hvv]; kernel_rfl
    rw [hvv] at VI
    have HVV := Lib.hid hvv
    clear hvv
    have hvt : (Tryz.prog.info? 35).map (·.size) = some vv.size := by rw [hvs]; kernel_rfl
    have hld := box_load (t := 35) VI.out _ Tryz.underlying35 rfl hvt
    have hz6 : VZ0.size = vv.size := by rw [hvs, ← HVE.out]; rfl
    have hst := box_store (t := 35) (x := vv) RI.out hvt hva hz6
    have hbox := box_whole (cs := vv) RI.out hz6.symm
    have tj : Tur A.tg [0] wh (World.setCells wh rb 0 vv.toList) := Tur.of_two (Two.setCells (g := rb) (h := rb) (.inl rfl) vv.toList 0 (Two.refl _ _ _)) (by simp [hy2]) (by simp [hy2])
    have HPJ := Lib.hid (HPI.out.tur tj (by intro k h1 h2; simp; omega))
    have TJ : Hid (Tur A.tg [1, 3, 4, 5, 6, 7, 8, 9] w (World.setCells wh rb 0 vv.toList)) := Lib.hid (TI.out.trans2 (f := A.tg) (g := fun k => if k = rb then 1 else A.tg k) (Tur.of_two (Two.setCells (g := rb) (h := rb) (.inl rfl) vv.toList 0 (Two.refl _ _ _)) (by simp) (by simp)) (fun k hk => if_neg (by omega)))
    have HBXX := Lib.hid hbox
    clear hbox tj
    go_wp2_with (first | ((with_reducible refine arm_load 101 9 35 _ _ hld ?_ ?_); rfl) | ((with_reducible refine arm_store 8 101 35 _ _ _ hst ?_ ?_ ?_); rfl; rfl))
    refine bodyPost_ret (results_cell_row rfl _ _ _ _ _ _ _ rfl HBXX.out Tryz.underlying35 rfl hvt) rfl ?_
    refine HQ.out _ _ ⟨?_, ?_, TJ.out⟩
    · rw [← HVV.out]
      rfl
    · exact HPJ.out
  · have c2 := cells_of_row VH.out 2 _ rfl
    have f2 : wh.frozen? ⟨vb, 2, none⟩ = false := frozen_of_row _ _ _ _ _ VH.out
    go_upto_region 16 with (fail)
    have VI : Hid ((wh.setCell ⟨vb, 2, none⟩ (.int .i64 (-1))).heap[vb]? = some (.cells #[.int .i64 ar, .int .i64 r, .int .i64 (-1), .int .i64 (-1), .bool false, .bool false] 35 (0, 0))) := Lib.hid (by rw [heap_setCell_same _ _ _ _ _ _ VH.out]; rfl)
    have ti : Tur A.tg [0] wh (wh.setCell ⟨vb, 2, none⟩ (.int .i64 (-1))) := Tur.of_two (Two.setCell (g := vb) (h := vb) (x := ⟨vb, 2, none⟩) (Two.refl _ _ wh) (.inl rfl) (.int .i64 (-1))) (by simp [hy3]) (by simp [hy3])
    have HPI := Lib.hid (HPH.out.tur ti (by intro k h1 h2; simp; omega))
    have RI : Hid ((wh.setCell ⟨vb, 2, none⟩ (.int .i64 (-1))).heap[rb]? = some (.cells VZ0 35 (0, 0))) := Lib.hid (by rw [heap_setCell_other _ _ _ _ (by simp; omega)]; exact RH.out)
    have TI : Hid (Tur A.tg [1, 3, 4, 5, 6, 7, 8, 9] w (wh.setCell ⟨vb, 2, none⟩ (.int .i64 (-1)))) := Lib.hid (TH.out.trans2 (f := A.tg) (g := fun k => if k = vb then 1 else A.tg k) (Tur.of_two (Two.setCell (g := vb) (h := vb) (x := ⟨vb, 2, none⟩) (Two.refl _ _ wh) (.inl rfl) (.int .i64 (-1))) (by simp) (by simp)) (fun k hk => if_neg (by omega)))
    clear ti c1 c2 f2 VH HPH RH TH
    generalize wh.setCell ⟨vb, 2, none⟩ (.int .i64 (-1)) = wi at *
    obtain ⟨vv, hvv⟩ : ∃ z : Array Value, #[.int .i64 ar, .int .i64 r, .int .i64 (-1), .int .i64 (-1), .bool false, .bool false] = z := ⟨_, rfl⟩
    have hvs : vv.size = 6 := by rw [← hvv]; rfl
    have hva : vv.all (·.oneCell') = true := by rw [← hvv]; kernel_rfl
    rw [hvv] at VI
    have HVV := Lib.hid hvv
    clear hvv
    have hvt : (Tryz.prog.info? 35).map (·.size) = some vv.size := by rw [hvs]; kernel_rfl
    have hld := box_load (t := 35) VI.out _ Tryz.underlying35 rfl hvt
    have hz6 : VZ0.size = vv.size := by rw [hvs, ← HVE.out]; rfl
    have hst := box_store (t := 35) (x := vv) RI.out hvt hva hz6
    have hbox := box_whole (cs := vv) RI.out hz6.symm
    have tj : Tur A.tg [0] wi (World.setCells wi rb 0 vv.toList) := Tur.of_two (Two.setCells (g := rb) (h := rb) (.inl rfl) vv.toList 0 (Two.refl _ _ _)) (by simp [hy2]) (by simp [hy2])
    have HPJ := Lib.hid (HPI.out.tur tj (by intro k h1 h2; simp; omega))
    have TJ : Hid (Tur A.tg [1, 3, 4, 5, 6, 7, 8, 9] w (World.setCells wi rb 0 vv.toList)) := Lib.hid (TI.out.trans2 (f := A.tg) (g := fun k => if k = rb then 1 else A.tg k) (Tur.of_two (Two.setCells (g := rb) (h := rb) (.inl rfl) vv.toList 0 (Two.refl _ _ _)) (by simp) (by simp)) (fun k hk => if_neg (by omega)))
    have HBXX := Lib.hid hbox
    clear hbox tj
    go_wp2_with (first | ((with_reducible refine arm_load 101 9 35 _ _ hld ?_ ?_); rfl) | ((with_reducible refine arm_store 8 101 35 _ _ _ hst ?_ ?_ ?_); rfl; rfl))
    refine bodyPost_ret (results_cell_row rfl _ _ _ _ _ _ _ rfl HBXX.out Tryz.underlying35 rfl hvt) rfl ?_
    refine HQ.out _ _ ⟨?_, ?_, TJ.out⟩
    · rw [← HVV.out, if_neg h0]
    · exact HPJ.out
end
end Go.Proofs.YtpanmfdbdgecaaaGreat.C
