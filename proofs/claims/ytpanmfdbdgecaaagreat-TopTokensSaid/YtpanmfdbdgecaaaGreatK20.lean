/- One prefix that sends too much: the window, the box, Arrive. · One prefix that sends too much: Arrive, whichever packet it is. · The engine of TopTokens. · Configs that may not be: what New says of them. -/
import Derived.Test.YtpanmfdbdgecaaaGreatK19
namespace Go.Proofs.YtpanmfdbdgecaaaGreat.C
open Go.RowKit
set_option linter.unusedVariables false
/-- The box has one, its tokens so high; so much was taken. -/
structure TB (F : PCf) (S : PSt) (now til : Int) (tb : Nat) (lv tn taken : Int) : Prop where
  xl : S.xl = one (F.c 7).toNat 10 1 3 til tb
  xn : S.xn = 1
  tk : S.tk tb = some (lv, tn)
  t0 : 0 ≤ tn ∧ tn ≤ now
  lvr : 0 ≤ lv ∧ lv ≤ F.c 19 * 1048576
  tkn : 0 ≤ taken
  sum : lv + taken * 1048576 ≤ F.c 19 * 1048576 + F.c 18 * tn
  tilr : now < til
theorem pb3 : (10 : Nat) < 256 ∧ (1 : Nat) < 256 ∧ (3 : Nat) < 256 := ⟨by decide, by decide, by decide⟩
/-- What a packet of somebody in the box ends in. -/
def rB (F : PCf) (S : PSt) (lv tn now n : Int) : Int := if takesT (levelT (F.c 18) (F.c 19 * 1048576) lv tn now) n then (if rJ F S n = 0 then 0 else 9) else 8
theorem rB_range (F : PCf) (S : PSt) (lv tn now n : Int) : rB F S lv tn now n = 0 ∨ rB F S lv tn now n = 8 ∨ rB F S lv tn now n = 9 := by
  unfold rB
  split
  · split
    · exact .inl rfl
    · exact .inr (.inr rfl)
  · exact .inr (.inl rfl)
section
variable {F : PCf} {S : PSt} {k tb : Nat} {now til lv tn taken : Int}
theorem tok_boxed (hB : TB F S now til tb lv tn taken) (hJ : JS F S k) (hk : k ≤ 900) (hF : F.Ok) (hnow : 0 ≤ now ∧ now ≤ 4611686018427387904) (n : Int) (x : Array Value) (hx : PkP x n (pfx 10 1 3)) (hxs : ∃ s, x[0]? = some (.int .i64 s)) (hn : 1 ≤ n ∧ n ≤ 9216) :
    ∃ (S4 : PSt) (lv' : Int), TB F S4 now til tb lv' now (taken + if rB F S lv tn now n = 0 then n else 0) ∧ JS F S4 (k + 1) ∧ (S4.wl = S.wl ∧ S4.wt = S.wt ∧ S4.wn = S.wn ∧ S4.arr = S.arr) ∧ ∀ (A : PAd) (w : World), Pol w A F S → Calls Tryz.prog 41 #[.pointer (some ⟨A.pb, 0, none⟩), .agg x, .int .i64 now] w fun e w' => e = .returned (.int .i64 (rB F S lv tn now n)) ∧ Pol w' A F S4 ∧ Tur A.tg [3, 4, 5, 6, 7, 9] w w' := by
  have hrt := hF.right
  have r7 := hrt.room
  have r18 := hrt.rate
  have r19 := hrt.burst
  have hrm : 1 ≤ (F.c 7).toNat ∧ (F.c 7).toNat ≤ 64 := by omega
  have hlm : 0 ≤ F.c 19 * 1048576 ∧ F.c 19 * 1048576 ≤ 1125899906842624 := by omega
  obtain ⟨b1, b2, b3, b4, b5, b6, b7, b8⟩ := hB
  have g1 := levelT_le (most := F.c 19 * 1048576) (tn := tn) (now := now) r18.1 b5.1 b4.2
  have g2 := levelT_nn (rate := F.c 18) (tn := tn) (now := now) b5.1 hlm.1
  have g3 := levelT_most (rate := F.c 18) (tn := tn) (now := now) b5.2
  have hmul : (now - tn) * F.c 18 = F.c 18 * now - F.c 18 * tn := by rw [Int.sub_mul, Int.mul_comm now, Int.mul_comm tn]
  rw [hmul] at g1
  have htn : (if tn < now then now else tn) = now := by split <;> omega
  have take : ∀ (A : PAd) (w : World), Pol w A F S → Calls Tryz.prog 73 #[.pointer (some ⟨A.xb, 0, none⟩), .agg (pfx 10 1 3), .int .i64 now, .int .i64 n] w fun e w' => e = .returned (.bool (takesT (levelT (F.c 18) (F.c 19 * 1048576) lv tn now) n)) ∧ Pol w' A F { S with xl := one (F.c 7).toNat 10 1 3 til tb, xn := 1, tk := upT S.tk tb ((if takesT (levelT (F.c 18) (F.c 19 * 1048576) lv tn now) n then levelT (F.c 18) (F.c 19 * 1048576) lv tn now - n * 1048576 else levelT (F.c 18) (F.c 19 * 1048576) lv tn now), now) } ∧ Tur A.tg [9] w w' := by
    intro A w q
    have htb := q.tk tb (lv, tn) b3
    have hbx := q.bx
    rw [b1, b2] at hbx
    refine (box_take A.xb A.xt A.xr (F.c 7).toNat _ _ 1 1 (F.c 17) (F.c 18) (F.c 19) now til tb (F.c 18) (F.c 19 * 1048576) lv tn n 10 1 3 w hbx (sweeps_stay (one_gets hrm.1 hrm.2 pb3 _ _) (tkn_one hrm.1 _ _ _ _ _) hnow.1 b8) (one_gets hrm.1 hrm.2 pb3 _ _) htb.1 b4.1 hnow ⟨b5.1, by omega⟩ hlm).mono ?_
    rintro e w2 ⟨rfl, h1, h2, h3⟩
    rw [htn] at h2
    have r := q.take (v := (_, now)) b3 h3 h1 h2
    exact ⟨rfl, r.1, r.2⟩
  have hup : ∀ v, upT S.tk tb v tb = some v := fun v => if_pos rfl
  cases ht : takesT (levelT (F.c 18) (F.c 19 * 1048576) lv tn now) n with
  | false =>
    rw [ht] at take
    simp only [Bool.false_eq_true, if_false] at take
    have hr : rB F S lv tn now n = 8 := by unfold rB; rw [ht]; rfl
    rw [hr]
    refine ⟨{ S with xl := one (F.c 7).toNat 10 1 3 til tb, xn := 1, tk := upT S.tk tb (levelT (F.c 18) (F.c 19 * 1048576) lv tn now, now) }, levelT (F.c 18) (F.c 19 * 1048576) lv tn now, ⟨rfl, rfl, hup _, ⟨hnow.1, Int.le_refl _⟩, ⟨g2, g3⟩, ?_, ?_, b8⟩, ⟨hJ.L, hJ.Ll, hJ.tll, hJ.q.up⟩, ⟨rfl, rfl, rfl, rfl⟩, fun A w h => ?_⟩
    · rw [if_neg (by decide)]
      omega
    · rw [if_neg (by decide)]
      omega
    · refine (boxed_no n now x (pfx 10 1 3) hx rfl h (take A)).mono ?_
      rintro e w' ⟨rfl, h1, h2⟩
      exact ⟨rfl, h1, h2.sub (by simp)⟩
  | true =>
    rw [ht] at take
    simp only [if_true] at take
    have hnl : n * 1048576 ≤ levelT (F.c 18) (F.c 19 * 1048576) lv tn now := by
      unfold takesT at ht
      exact (of_decide_eq_true ht).2.2
    obtain ⟨S2, j1, j2, j3⟩ := tok_join (S := { S with xl := one (F.c 7).toNat 10 1 3 til tb, xn := 1, tk := upT S.tk tb (levelT (F.c 18) (F.c 19 * 1048576) lv tn now - n * 1048576, now) }) (k := k) ⟨hJ.L, hJ.Ll, hJ.tll, hJ.q⟩ hk hF n x (pfx 10 1 3) hx hxs hn
    have hrj : rJ F { S with xl := one (F.c 7).toNat 10 1 3 til tb, xn := 1, tk := upT S.tk tb (levelT (F.c 18) (F.c 19 * 1048576) lv tn now - n * 1048576, now) } n = rJ F S n := rfl
    rw [hrj] at j3
    have hr : rB F S lv tn now n = if rJ F S n = 0 then 0 else 9 := by unfold rB; rw [ht, if_pos rfl]
    have ht2 : S2.tk tb = some (levelT (F.c 18) (F.c 19 * 1048576) lv tn now - n * 1048576, now) := by rw [j2.tk]; exact hup _
    refine ⟨S2, levelT (F.c 18) (F.c 19 * 1048576) lv tn now - n * 1048576, ⟨j2.xl, j2.xn, ht2, ⟨hnow.1, Int.le_refl _⟩, ⟨by omega, by omega⟩, ?_, ?_, b8⟩, j1, ⟨j2.wl, j2.wt, j2.wn, j2.arr⟩, fun A w h => ?_⟩
    · split <;> omega
    · split <;> omega
    · rw [hr]
      exact boxed_yes n now (rJ F S n) x (pfx 10 1 3) hx rfl h (rJ_range F S n) (take A) (j3 A)
/-- The window has seen this prefix alone. -/
structure WS (F : PCf) (S : PSt) (now : Int) : Prop where
  wn : S.wn ≤ now / F.c 15
  wl : S.wl = [] ∨ ∃ c, S.wl = [⟨pfx 10 1 3, c, 0⟩] ∧ 0 ≤ c ∧ c ≤ 4611686018427387904
theorem tok_wadd (hW : WS F S now) (hF : F.Ok) (ht : F.c 16 = 1) (hnow : 0 ≤ now ∧ now ≤ 4611686018427387903) (n : Int) (hn : 1 ≤ n ∧ n ≤ 9216) :
    ∃ (wl : List Slt) (wt wn : Int), (wn ≤ now / F.c 15 ∧ (wl = [] ∨ ∃ c, wl = [⟨pfx 10 1 3, c, 0⟩] ∧ 0 ≤ c ∧ c ≤ 4611686018427387904)) ∧ ∀ (A : PAd) (w : World) (ar : Int), Pol w A F { S with arr := ar } → Calls Tryz.prog 37 #[.pointer (some ⟨A.wb, 0, none⟩), .int .i64 now, .agg (pfx 10 1 3), .int .i64 n] w fun e w' => e = .returned (.bool true) ∧ Pol w' A F { S with arr := ar, wl := wl, wt := wt, wn := wn } ∧ Tur A.tg [8] w w' := by
  have hrt := hF.right
  have r15 := hrt.window
  have rs := hrt.slots
  have fl := pfx_flat 10 1 3 pb3.1 pb3.2.1 pb3.2.2
  have tur : ∀ {A : PAd} {w w' : World}, A.Ok → Amg [A.wb, A.ws, A.wr] w w' → Tur A.tg [8] w w' := fun {A w w'} ok p => Tur.of_amg p (fun k hk => by
    simp only [List.mem_cons, List.not_mem_nil, or_false] at hk
    rcases hk with rfl | rfl | rfl
    · simp [ok.w.1]
    · simp [ok.w.2.1]
    · simp [ok.w.2.2])
  have hge : ∀ c : Int, 0 ≤ c → n ≤ addC c n ∧ addC c n ≤ 4611686018427387904 := fun c hc => by
    refine ⟨?_, (addC_range c n).2⟩
    have h1 : cnt n = n := cnt_in (by omega) (by omega)
    have h2 := (cnt_range c).1
    unfold addC
    rw [h1]
    split <;> omega
  have ok1 : ∀ c : Int, SltOk ⟨pfx 10 1 3, c, 0⟩ := fun c => ⟨fl, rfl, pfx_all _ _ _⟩
  by_cases hr : S.wn < now / F.c 15
  · refine ⟨[⟨pfx 10 1 3, addC 0 n, 0⟩], addC 0 n, now / F.c 15, ⟨Int.le_refl _, .inr ⟨_, rfl, (addC_range 0 n).1, (addC_range 0 n).2⟩⟩, fun A w ar q => ?_⟩
    have g := hge 0 (by omega)
    refine (window_add A.wb A.ws A.wr (F.c 6).toNat S.wl [] [⟨pfx 10 1 3, addC 0 n, 0⟩] S.wt 0 (addC 0 n) (F.c 15) (F.c 16) S.wn (now / F.c 15) now n ⟨pfx 10 1 3, addC 0 n, 0⟩ (pfx 10 1 3) w q.wi rfl (pfx_all _ _ _) (by omega) hnow (.inl ⟨hr, rfl, rfl, rfl⟩) (adds_new A.ws A.wr _ 0 n 10 1 3 (by omega) pb3 ⟨by omega, by omega⟩) (ok1 _) (by simp only []; omega)).mono ?_
    rintro e w'' ⟨rfl, h1, h2⟩
    have t := tur q.ok h2
    refine ⟨?_, (q.rest t).setW h1, t⟩
    rw [decide_eq_true (by simp only []; omega)]
  · have he : S.wn = now / F.c 15 := by have := hW.wn; omega
    rcases hW.wl with h0 | ⟨c, h0, hc0, hc1⟩
    · refine ⟨[⟨pfx 10 1 3, addC 0 n, 0⟩], addC S.wt n, S.wn, ⟨hW.wn, .inr ⟨_, rfl, (addC_range 0 n).1, (addC_range 0 n).2⟩⟩, fun A w ar q => ?_⟩
      have g := hge 0 (by omega)
      have had := adds_new A.ws A.wr (F.c 6).toNat S.wt n 10 1 3 (by omega) pb3 ⟨by omega, by omega⟩
      refine (window_add A.wb A.ws A.wr (F.c 6).toNat S.wl S.wl [⟨pfx 10 1 3, addC 0 n, 0⟩] S.wt S.wt (addC S.wt n) (F.c 15) (F.c 16) S.wn S.wn now n ⟨pfx 10 1 3, addC 0 n, 0⟩ (pfx 10 1 3) w q.wi rfl (pfx_all _ _ _) (by omega) hnow (.inr ⟨by omega, rfl, rfl, rfl⟩) (by rw [h0]; exact had) (ok1 _) (by simp only []; omega)).mono ?_
      rintro e w'' ⟨rfl, h1, h2⟩
      have t := tur q.ok h2
      refine ⟨?_, (q.rest t).setW h1, t⟩
      rw [decide_eq_true (by simp only []; omega)]
    · refine ⟨[⟨pfx 10 1 3, addC c n, 0⟩], addC S.wt n, S.wn, ⟨hW.wn, .inr ⟨_, rfl, (addC_range c n).1, (addC_range c n).2⟩⟩, fun A w ar q => ?_⟩
      have g := hge c hc0
      have had : Adds A.ws A.wr (F.c 6).toNat [⟨pfx 10 1 3, c, 0⟩] S.wt (pfx 10 1 3) n ⟨pfx 10 1 3, addC c n, 0⟩ [⟨pfx 10 1 3, addC c n, 0⟩] (addC S.wt n) := fun w1 h => by
        have := sketch_add_old A.ws A.wr (F.c 6).toNat 0 [⟨pfx 10 1 3, c, 0⟩] ⟨pfx 10 1 3, c, 0⟩ S.wt n 10 1 3 w1 h (fun z hz => by rw [List.mem_singleton.1 hz]; exact ok1 c) fl (by simp) ⟨by omega, by omega⟩ (by simp [fndS, eqA_self]) rfl
        exact this
      refine (window_add A.wb A.ws A.wr (F.c 6).toNat S.wl S.wl [⟨pfx 10 1 3, addC c n, 0⟩] S.wt S.wt (addC S.wt n) (F.c 15) (F.c 16) S.wn S.wn now n ⟨pfx 10 1 3, addC c n, 0⟩ (pfx 10 1 3) w q.wi rfl (pfx_all _ _ _) (by omega) hnow (.inr ⟨by omega, rfl, rfl, rfl⟩) (by rw [h0]; exact had) (ok1 _) (by simp only []; omega)).mono ?_
      rintro e w'' ⟨rfl, h1, h2⟩
      have t := tur q.ok h2
      refine ⟨?_, (q.rest t).setW h1, t⟩
      rw [decide_eq_true (by simp only []; omega)]
end
end Go.Proofs.YtpanmfdbdgecaaaGreat.C

namespace Go.Proofs.YtpanmfdbdgecaaaGreat.C
open Go.RowKit
set_option linter.unusedVariables false
/-- Behind so many frames and polls. -/
def TK (F : PCf) (now : Int) (k : Nat) (taken : Int) (S : PSt) : Prop := JS F S (2 * k) ∧ WS F S now ∧ S.arr = (k : Int) ∧ ((k = 0 ∧ taken = 0 ∧ S.xl = emp (F.c 7).toNat ∧ S.xn = 0) ∨ (1 ≤ k ∧ ∃ (til : Int) (tb : Nat) (lv tn : Int), 1099511627776 ≤ til ∧ TB F S now til tb lv tn taken))
/-- .. and one frame more. -/
def TM (F : PCf) (now : Int) (k : Nat) (taken : Int) (S : PSt) : Prop := JS F S (2 * k + 1) ∧ WS F S now ∧ S.arr = ((k + 1 : Nat) : Int) ∧ ∃ (til : Int) (tb : Nat) (lv tn : Int), 1099511627776 ≤ til ∧ TB F S now til tb lv tn taken
section
variable {F : PCf} {S : PSt} {k : Nat} {now now' taken : Int}
theorem TB.later {til lv tn : Int} {tb : Nat} (h : TB F S now til tb lv tn taken) (h0 : now ≤ now') (h1 : now' < til) : TB F S now' til tb lv tn taken :=
  ⟨h.xl, h.xn, h.tk, ⟨h.t0.1, Int.le_trans h.t0.2 h0⟩, h.lvr, h.tkn, h.sum, h1⟩
theorem WS.later (h : WS F S now) (hr : 1 ≤ F.c 15) (h0 : now ≤ now') : WS F S now' := ⟨Int.le_trans h.wn (Int.ediv_le_ediv (by omega) h0), h.wl⟩
theorem TK.later (h : TK F now k taken S) (hr : 1 ≤ F.c 15) (h0 : now ≤ now') (h1 : now' < 1099511627776) : TK F now' k taken S := by
  obtain ⟨a, b, c, d⟩ := h
  refine ⟨a, b.later hr h0, c, ?_⟩
  rcases d with d | ⟨d0, til, tb, lv, tn, d1, d2⟩
  · exact .inl d
  · exact .inr ⟨d0, til, tb, lv, tn, d1, d2.later h0 (by omega)⟩
/-- The tokens: never more than the burst and what has come in. -/
theorem TM.most (h : TM F now k taken S) (hr : 0 ≤ F.c 18) : 0 ≤ taken ∧ taken * 1048576 ≤ F.c 19 * 1048576 + F.c 18 * now := by
  obtain ⟨_, _, _, til, tb, lv, tn, _, d⟩ := h
  have h1 := d.sum
  have h2 := d.lvr.1
  have h3 : F.c 18 * tn ≤ F.c 18 * now := Int.mul_le_mul_of_nonneg_left d.t0.2 hr
  exact ⟨d.tkn, by omega⟩
set_option maxHeartbeats 1000000 in
theorem tok_arrive (hT : TK F now k taken S) (hk : k ≤ 400) (hF : F.Ok) (ht : F.c 16 = 1) (htm : F.c 17 = 1099511627776) (hnow : 0 ≤ now ∧ now < 1099511627776) (n : Int) (x dr : Array Value) (hx : PkP x n (pfx 10 1 3)) (hn : 1 ≤ n ∧ n ≤ 9216) :
    ∃ r : Int, (r = 0 ∨ r = 8 ∨ r = 9) ∧ ∀ (A : PAd) (w : World), Pol w A F S → Calls Tryz.prog 20 #[.pointer (some ⟨A.pb, 0, none⟩), .agg x, .int .i64 now, .agg dr] w fun e w' => ∃ A' S', e = .returned (.agg #[.int .i64 (k : Nat), .int .i64 r, .int .i64 (if r = 0 then 2 * F.c 0 else -1), .int .i64 (-1), .bool (decide (k = 0)), .bool false]) ∧ Pol w' A' F S' ∧ TM F now k (taken + if r = 0 then n else 0) S' ∧ Tur A.tg [1, 3, 4, 5, 6, 7, 8, 9] w w' ∧ A'.pb = A.pb ∧ ∀ j, j < w.heap.size → A'.tg j = A.tg j := by
  obtain ⟨hJ, hW, har, hd⟩ := hT
  have hrt := hF.right
  have r7 := hrt.room
  have r18 := hrt.rate
  have r19 := hrt.burst
  have hrm : 1 ≤ (F.c 7).toNat ∧ (F.c 7).toNat ≤ 64 := by omega
  obtain ⟨wl, wt, wn, hw1, hw2⟩ := tok_wadd hW hF ht ⟨hnow.1, by omega⟩ n hn
  have hxs : ∀ a : Int, ∃ s, (seqX x a)[0]? = some (.int .i64 s) := fun a => ⟨a, hx.c0 a⟩
  rcases hd with ⟨rfl, rfl, hxl, hxn⟩ | ⟨hk1, til, tb, lv, tn, htil, hB⟩
  · have htl : 1099511627776 ≤ addC now (F.c 17) := by
      rw [htm, addC_in hnow.1 (by omega) (by omega)]
      omega
    have hbo := fun tb : Nat => tok_boxed (k := 0) (S := { S with arr := S.arr + 1, wl := wl, wt := wt, wn := wn, xl := one (F.c 7).toNat 10 1 3 (addC now (F.c 17)) tb, xn := 1, tk := upT S.tk tb (F.c 19 * 1048576, now) }) (now := now) (til := addC now (F.c 17)) (tb := tb) (lv := F.c 19 * 1048576) (tn := now) (taken := 0)
      ⟨rfl, rfl, if_pos rfl, ⟨hnow.1, Int.le_refl _⟩, ⟨by omega, Int.le_refl _⟩, Int.le_refl _, by
        have := Int.mul_nonneg r18.1 hnow.1
        omega, by omega⟩ ⟨hJ.L, hJ.Ll, hJ.tll, hJ.q⟩ (by omega) hF ⟨hnow.1, by omega⟩ n (seqX x S.arr) (hx.seq _) (hxs _) hn
    have hrE : ∀ tb : Nat, rB F { S with arr := S.arr + 1, wl := wl, wt := wt, wn := wn, xl := one (F.c 7).toNat 10 1 3 (addC now (F.c 17)) tb, xn := 1, tk := upT S.tk tb (F.c 19 * 1048576, now) } (F.c 19 * 1048576) now now n = rB F S (F.c 19 * 1048576) now now n := fun tb => rfl
    refine ⟨rB F S (F.c 19 * 1048576) now now n, rB_range _ _ _ _ _ _, fun A w h => ?_⟩
    have hrr := rB_range F S (F.c 19 * 1048576) now now n
    refine (arrive_put (F := F) (A := A) (S := S) (S1 := { S with arr := S.arr + 1, wl := wl, wt := wt, wn := wn }) (S2 := { S with arr := S.arr + 1, wl := wl, wt := wt, wn := wn, xl := emp (F.c 7).toNat, xn := 0 }) n now (rB F S (F.c 19 * 1048576) now now n) x (pfx 10 1 3) dr (fun tb => { S with arr := S.arr + 1, wl := wl, wt := wt, wn := wn, xl := one (F.c 7).toNat 10 1 3 (addC now (F.c 17)) tb, xn := 1, tk := upT S.tk tb (F.c 19 * 1048576, now) }) (fun tb => { S with arr := S.arr + 1, wl := wl, wt := wt, wn := wn, xl := one (F.c 7).toNat 10 1 3 (addC now (F.c 17)) tb, xn := 1, tk := upT S.tk tb (F.c 19 * 1048576, now) }) (fun tb => (hbo tb).choose) hx rfl hn h (by omega) (by rw [har]; omega) ?wa ?in_ ?pu ?i2 ?bo).mono ?_
    case wa => exact fun w' q => hw2 A w' (S.arr + 1) q
    case in_ =>
      intro w' q
      refine (box_in A.xb A.xt A.xr (F.c 7).toNat S.xl (emp (F.c 7).toNat) S.xn 0 (F.c 17) (F.c 18) (F.c 19) now 0 none false 10 1 3 w' q.bx ?_ (emp_gets hrm.1 hrm.2 pb3)).mono ?_
      · rw [hxl, hxn]
        exact sweeps_none (by rw [emp_len]; omega) (tkn_emp _)
      · rintro e w'' ⟨rfl, h1, h2⟩
        have r := q.box h2 h1
        exact ⟨rfl, r.1, r.2⟩
    case pu =>
      intro w' q
      refine (box_put A.xb A.xt A.xr (F.c 7).toNat (emp (F.c 7).toNat) (emp (F.c 7).toNat) 0 0 (F.c 17) (F.c 18) (F.c 19) now (spot0 (F.c 7).toNat 10 1 3) 10 1 3 w' q.bx (sweeps_none (by rw [emp_len]; omega) (tkn_emp _)) (emp_gets hrm.1 hrm.2 pb3) (at1_emp hrm.1 10 1 3) (by rw [emp_len]; exact spot0_lt hrm.1 10 1 3) ⟨by omega, by omega⟩ r18 r19 ⟨hnow.1, by omega⟩).mono ?_
      rintro e w'' ⟨tb, rfl, hge, h1, h2, h3⟩
      have r := q.put (v := (F.c 19 * 1048576, now)) h3 h1 hge h2
      exact ⟨rfl, tb, _, hge, r.1, r.2⟩
    case i2 =>
      intro w' tb lim q
      refine (box_in A.xb A.xt A.xr (F.c 7).toNat _ _ 1 1 (F.c 17) (F.c 18) (F.c 19) now (addC now (F.c 17)) (some ⟨tb, 0, none⟩) true 10 1 3 w' q.bx (sweeps_stay (one_gets hrm.1 hrm.2 pb3 _ _) (tkn_one hrm.1 _ _ _ _ _) hnow.1 (by omega)) (one_gets hrm.1 hrm.2 pb3 _ _)).mono ?_
      rintro e w'' ⟨rfl, h1, h2⟩
      have r := q.box h2 h1
      exact ⟨rfl, r.1, r.2⟩
    case bo =>
      intro w' tb lim q
      obtain ⟨lv', b1, b2, b3, b4⟩ := (hbo tb).choose_spec
      rw [← hrE tb]
      exact b4 (A.more tb lim) w' q
    · rintro e w' ⟨tb, lim, rfl, h1, h2, h3⟩
      obtain ⟨lv', b1, b2, b3, b4⟩ := (hbo tb).choose_spec
      refine ⟨_, _, ?_, h1, ⟨?_, ⟨?_, ?_⟩, ?_, _, tb, lv', now, htl, b1⟩, h2, rfl, fun j hj => PAd.more_tg (by omega)⟩
      · rw [har]
        rfl
      · exact b2
      · rw [b3.2.2.1]
        exact hw1.1
      · rw [b3.1]
        exact hw1.2
      · rw [b3.2.2.2]
        show S.arr + 1 = _
        rw [har]
        omega
  · have hbo := tok_boxed (k := 2 * k) (S := { S with arr := S.arr + 1, wl := wl, wt := wt, wn := wn, xl := one (F.c 7).toNat 10 1 3 til tb, xn := 1 }) (now := now) (til := til) (tb := tb) (lv := lv) (tn := tn) (taken := taken)
      ⟨rfl, rfl, hB.tk, hB.t0, hB.lvr, hB.tkn, hB.sum, hB.tilr⟩ ⟨hJ.L, hJ.Ll, hJ.tll, hJ.q⟩ (by omega) hF ⟨hnow.1, by omega⟩ n (seqX x S.arr) (hx.seq _) (hxs _) hn
    have hrE : rB F { S with arr := S.arr + 1, wl := wl, wt := wt, wn := wn, xl := one (F.c 7).toNat 10 1 3 til tb, xn := 1 } lv tn now n = rB F S lv tn now n := rfl
    rw [hrE] at hbo
    obtain ⟨S4, lv', b1, b2, b3, b4⟩ := hbo
    refine ⟨rB F S lv tn now n, rB_range _ _ _ _ _ _, fun A w h => ?_⟩
    have hrr := rB_range F S lv tn now n
    have hin : ∀ w', Pol w' A F { S with arr := S.arr + 1, wl := wl, wt := wt, wn := wn, xl := one (F.c 7).toNat 10 1 3 til tb, xn := 1 } → Calls Tryz.prog 38 #[.pointer (some ⟨A.xb, 0, none⟩), .agg (pfx 10 1 3), .int .i64 now] w' fun e w'' => e = .returned (.bool true) ∧ Pol w'' A F { S with arr := S.arr + 1, wl := wl, wt := wt, wn := wn, xl := one (F.c 7).toNat 10 1 3 til tb, xn := 1 } ∧ Tur A.tg [9] w' w'' := by
      intro w' q
      refine (box_in A.xb A.xt A.xr (F.c 7).toNat _ _ 1 1 (F.c 17) (F.c 18) (F.c 19) now til (some ⟨tb, 0, none⟩) true 10 1 3 w' q.bx (sweeps_stay (one_gets hrm.1 hrm.2 pb3 _ _) (tkn_one hrm.1 _ _ _ _ _) hnow.1 hB.tilr) (one_gets hrm.1 hrm.2 pb3 _ _)).mono ?_
      rintro e w'' ⟨rfl, h1, h2⟩
      have r := q.box h2 h1
      exact ⟨rfl, r.1, r.2⟩
    have hSS : ({ S with arr := S.arr + 1, wl := wl, wt := wt, wn := wn } : PSt) = { S with arr := S.arr + 1, wl := wl, wt := wt, wn := wn, xl := one (F.c 7).toNat 10 1 3 til tb, xn := 1 } := by
      rw [← hB.xl, ← hB.xn]
    refine (arrive_in (F := F) (A := A) (S := S) (S1 := { S with arr := S.arr + 1, wl := wl, wt := wt, wn := wn }) (S2 := { S with arr := S.arr + 1, wl := wl, wt := wt, wn := wn, xl := one (F.c 7).toNat 10 1 3 til tb, xn := 1 }) (S3 := { S with arr := S.arr + 1, wl := wl, wt := wt, wn := wn, xl := one (F.c 7).toNat 10 1 3 til tb, xn := 1 }) (S4 := S4) n now (rB F S lv tn now n) x (pfx 10 1 3) dr hx rfl hn h (by omega) (by rw [har]; omega) (fun w' q => hw2 A w' (S.arr + 1) q) (fun w' q => hin w' (hSS ▸ q)) hin (fun w' q => b4 A w' q)).mono ?_
    rintro e w' ⟨rfl, h1, h2⟩
    refine ⟨A, S4, ?_, h1, ⟨b2, ⟨?_, ?_⟩, ?_, til, tb, lv', now, htil, b1⟩, h2, rfl, fun j hj => rfl⟩
    · rw [har, decide_eq_false (show ¬ k = 0 by omega)]
    · rw [b3.2.2.1]
      exact hw1.1
    · rw [b3.1]
      exact hw1.2
    · rw [b3.2.2.2]
      show S.arr + 1 = _
      rw [har]
      omega
end
end Go.Proofs.YtpanmfdbdgecaaaGreat.C

namespace Go.Proofs.YtpanmfdbdgecaaaGreat.C
open Go.RowKit
set_option linter.unusedVariables false
/-- An engine at a time, whenever its wire is free, that has what it should, and none of whose blocks is one of mine. -/
def EngN (Z : Nat → Prop) (eb : Nat) (F : PCf) (t : Int) (P : PSt → Prop) (w : World) : Prop := ∃ a S N nx, a.eb = eb ∧ (∀ k, Z k → k < w.heap.size ∧ a.A.tg k = 0) ∧ Eng w a F S t N nx ∧ P S
section
variable {Z Y : Nat → Prop} {w w' : World} {eb : Nat} {F : PCf} {t : Int} {P : PSt → Prop}
theorem EngN.below (h : EngN Z eb F t P w) (p : Below w.heap.size w w') : EngN Z eb F t P w' := by
  obtain ⟨a, S, N, nx, e1, e2, e3, e4⟩ := h
  exact ⟨a, S, N, nx, e1, fun k hk => ⟨Nat.lt_of_lt_of_le (e2 k hk).1 p.size, (e2 k hk).2⟩, e3.below p, e4⟩
theorem EngN.drew (h : EngN Z eb F t P w) : EngN Z eb F t P w.drew := h.below (Below.refl _ _).drew
theorem EngN.mine (h : EngN Z eb F t P w) (p : Below w.heap.size w w') {x : Nat} (h1 : w.heap.size ≤ x) (h2 : x < w'.heap.size) : EngN (fun k => Z k ∨ k = x) eb F t P w' := by
  obtain ⟨a, S, N, nx, e1, e2, e3, e4⟩ := h
  refine ⟨a, S, N, nx, e1, fun k hk => ?_, e3.below p, e4⟩
  rcases hk with hk | rfl
  · exact ⟨Nat.lt_of_lt_of_le (e2 k hk).1 p.size, (e2 k hk).2⟩
  · exact ⟨h2, e3.pol.ok.hi _ (Nat.le_trans e3.pol.lim h1)⟩
theorem EngN.sub (h : EngN Y eb F t P w) (hs : ∀ k, Z k → Y k) : EngN Z eb F t P w := by
  obtain ⟨a, S, N, nx, e1, e2, e3, e4⟩ := h
  exact ⟨a, S, N, nx, e1, fun k hk => e2 k (hs k hk), e3, e4⟩
theorem EngN.imp {Q : PSt → Prop} (h : EngN Z eb F t P w) (hs : ∀ S, P S → Q S) : EngN Z eb F t Q w := by
  obtain ⟨a, S, N, nx, e1, e2, e3, e4⟩ := h
  exact ⟨a, S, N, nx, e1, e2, e3, hs S e4⟩
theorem EngN.set (h : EngN Z eb F t P w) {x : Nat} (hx : Z x) (cs : List Value) (o : Nat) : EngN Z eb F t P (w.setCells x o cs) := by
  obtain ⟨a, S, N, nx, e1, e2, e3, e4⟩ := h
  refine ⟨a, S, N, nx, e1, fun k hk => ⟨?_, (e2 k hk).2⟩, e3.fresh (e2 x hx).2 cs o, e4⟩
  exact Nat.lt_of_lt_of_le (e2 k hk).1 (Two.setCells (g := x) (h := x) (.inl rfl) cs o (Two.refl x x w)).size
theorem engn_clock (h : EngN Z eb F t P w) (t' : Int) (h0 : t ≤ t') (h1 : t' ≤ 4611686018427387903) :
    Calls Tryz.prog 16 #[.pointer (some ⟨eb, 0, none⟩), .int .i64 t'] w fun e w' => e = .returned (.int .i64 0) ∧ EngN Z eb F t' P w' ∧ Kp Z w w' := by
  obtain ⟨a, S, N, nx, rfl, e2, e3, e4⟩ := h
  refine (eng_clock t' e3 h0 h1).mono ?_
  rintro e w' ⟨rfl, g1, g2⟩
  exact ⟨rfl, ⟨a, S, N, nx, rfl, fun k hk => ⟨Nat.lt_of_lt_of_le (e2 k hk).1 g2.size, (e2 k hk).2⟩, g1, e4⟩, Kp.of_tur g2 (fun k hk => (e2 k hk).2) (by decide)⟩
end
section
variable {Z : Nat → Prop} {w : World} {eb : Nat} {F : PCf} {now taken : Int} {k : Nat}
theorem tok_frame (h : EngN Z eb F now (TK F now k taken) w) (g c n : Nat) (B : Nat → Nat) (hf : FrAt w g 0 n c B) (hg : Z g) (hu : UdpB B n) (hpk : PkP (pktB B n) (n : Nat) (pfx 10 1 3)) (hn : 1 ≤ n ∧ n ≤ 9216) (hk : k ≤ 400) (ht : F.c 16 = 1) (htm : F.c 17 = 1099511627776) (hnow : 0 ≤ now ∧ now < 1099511627776) (dr : Array Value) (hdr : dr.size = 2) :
    Calls Tryz.prog 11 #[.pointer (some ⟨eb, 0, none⟩), .slice (some ⟨g, 0, none⟩) n c, .agg dr] w fun e w' => ∃ r : Int, (r = 0 ∨ r = 8 ∨ r = 9) ∧ e = .returned (.agg #[.int .i64 (k : Nat), .int .i64 r, .int .i64 (if r = 0 then 2 * F.c 0 else -1), .int .i64 (-1), .bool (decide (k = 0)), .bool false]) ∧ EngN Z eb F now (TM F now k (taken + if r = 0 then (n : Int) else 0)) w' ∧ Kp Z w w' := by
  obtain ⟨a, S, N, nx, rfl, e2, e3, e4⟩ := h
  obtain ⟨r, hr, har⟩ := tok_arrive e4 hk e3.pol.fok ht htm hnow (n : Nat) (pktB B n) dr hpk (by omega)
  obtain ⟨q, rfl⟩ := Int.eq_ofNat_of_zero_le (show 0 ≤ r by omega)
  refine (frame_arr g 0 n c B dr hdr e3 hf (e2 g hg).2 hu (k : Nat) (if ((q : Nat) : Int) = 0 then 2 * F.c 0 else -1) q (by omega) (decide (k = 0)) false (fun _ S2 => TM F now k (taken + if ((q : Nat) : Int) = 0 then (n : Int) else 0) S2) (fun w' p => har a.A w' p)).mono ?_
  rintro e w1 ⟨A2, S2, rfl, h1, h2, h3, h4, h5⟩
  exact ⟨(q : Nat), hr, rfl, ⟨{ a with A := A2 }, S2, _, nx, rfl, fun j hj => ⟨Nat.lt_of_lt_of_le (e2 j hj).1 h3.size, (h5 j (e2 j hj).1).trans (e2 j hj).2⟩, h1, h2⟩, Kp.of_tur h3 (fun j hj => (e2 j hj).2) (by decide)⟩
theorem JS.left {S : PSt} {m : Nat} {x : Array Value} {l : List (Array Value)} {y' : Tcl} {n : Int} (h : JS F S m) (hl : S.L[penC F]? = some (x :: l)) (hw : ∀ z ∈ l, WPk z) (hn : 0 ≤ n ∧ n ≤ 9216) (hline : S.line = [penC F]) (hy : PickOk (F.c 8) y') (htl : penC F < S.tl.length) : JS F (leftS F { S with tl := S.tl.set (penC F) y' } n l) (m + 1) := by
  have hcl := lt_of_some hl
  refine ⟨⟨l, if l = [] then ⟨false, false, 0⟩ else y', List.getElem?_set_self hcl, hw, ?_, ?_⟩, ?_, ?_, h.q.sub hn⟩
  · show (if l = [] then (S.tl.set (penC F) y').set (penC F) ⟨false, false, 0⟩ else S.tl.set (penC F) y')[penC F]? = _
    by_cases h0 : l = []
    · rw [if_pos h0, if_pos h0]
      exact List.getElem?_set_self (by rw [List.length_set]; exact htl)
    · rw [if_neg h0, if_neg h0]
      exact List.getElem?_set_self htl
  · by_cases h0 : l = []
    · refine .inl ⟨h0, ?_, by rw [if_pos h0]⟩
      show (if l = [] then [] else S.line) = []
      rw [if_pos h0]
    · refine .inr ⟨h0, ?_, by rw [if_neg h0]; exact hy⟩
      show (if l = [] then [] else S.line) = _
      rw [if_neg h0]
      exact hline
  · show (S.L.set (penC F) l).length ≤ 129
    rw [List.length_set]
    exact h.Ll
  · show (if l = [] then (S.tl.set (penC F) y').set (penC F) ⟨false, false, 0⟩ else S.tl.set (penC F) y').length ≤ 129
    have := h.tll
    split <;> simp <;> omega
theorem tok_poll (h : EngN Z eb F now (TM F now k taken) w) (hk : k ≤ 400) (hnow : 0 ≤ now ∧ now < 1099511627776) :
    Calls Tryz.prog 25 #[.pointer (some ⟨eb, 0, none⟩)] w fun e w' => (∃ r, e = .returned r) ∧ EngN Z eb F now (TK F now (k + 1) taken) w' ∧ Kp Z w w' := by
  obtain ⟨a, S, N, nx, rfl, e2, e3, e4⟩ := h
  have hF := e3.pol.fok
  have hrt := hF.right
  obtain ⟨hJ, hW, har, til, tb, lv, tn, htil, hB⟩ := e4
  have next : ∀ S', JS F S' (2 * k + 2) → (S'.wl = S.wl ∧ S'.wn = S.wn ∧ S'.xl = S.xl ∧ S'.xn = S.xn ∧ S'.arr = S.arr ∧ S'.tk = S.tk) → TK F now (k + 1) taken S' := by
    rintro S' j ⟨s1, s2, s3, s4, s5, s6⟩
    refine ⟨j, ⟨by rw [s2]; exact hW.wn, by rw [s1]; exact hW.wl⟩, s5.trans har, .inr ⟨by omega, til, tb, lv, tn, htil, ⟨s3.trans hB.xl, s4.trans hB.xn, by rw [s6]; exact hB.tk, hB.t0, hB.lvr, hB.tkn, hB.sum, hB.tilr⟩⟩⟩
  refine (eng_poll (fun S' _ => TK F now (k + 1) taken S') e3 (fun w' q => ?_)).mono ?_
  · by_cases hb : nx ≤ now
    · obtain ⟨pl, y, h1, h2, h3, h4⟩ := hJ.L
      rcases h4 with ⟨h5, h6, h7⟩ | ⟨h5, h6, h7⟩
      · refine (sched_poll_none q hnow.1 (by omega) hb h6).mono ?_
        rintro e w'' ⟨rfl, hBB⟩
        exact ⟨0, 0, 0, 0, 0, false, rfl, S, nx, q.below hBB, next S hJ.up ⟨rfl, rfl, rfl, rfl, rfl, rfl⟩, Tur.of_below hBB⟩
      · cases pl with
        | nil => exact absurd rfl h5
        | cons x l =>
          obtain ⟨n, s, p1, p2, p3, p4⟩ := h2 x (by simp)
          have hok := hJ.q.ok hrt.reserve hrt.shared (by omega)
          refine (sched_poll_pen n s x l y q hnow.1 (by omega) hb p1 p4 ⟨p2, p3⟩ h1 hok hJ.tll h3 h7 h6).mono ?_
          rintro e w'' ⟨rfl, ⟨y', k1, k2⟩, hT⟩
          exact ⟨_, _, _, _, _, true, rfl, _, _, k2, next _ (hJ.left h1 (fun z hz => h2 z (by simp [hz])) ⟨by omega, p3⟩ h6 k1 (lt_of_some h3)) ⟨rfl, rfl, rfl, rfl, rfl, rfl⟩, hT⟩
    · refine (sched_poll_busy q hnow.1 (by omega) (by omega)).mono ?_
      rintro e w'' ⟨rfl, hBB⟩
      exact ⟨0, 0, 0, 0, 0, false, rfl, S, nx, q.below hBB, next S hJ.up ⟨rfl, rfl, rfl, rfl, rfl, rfl⟩, Tur.of_below hBB⟩
  · rintro e w1 ⟨h0, S', N', nx', g1, g2, g3⟩
    exact ⟨h0, ⟨a, S', N', nx', rfl, fun j hj => ⟨Nat.lt_of_lt_of_le (e2 j hj).1 g3.size, (e2 j hj).2⟩, g1, g2⟩, Kp.of_tur g3 (fun j hj => (e2 j hj).2) (by decide)⟩
end
/-- The engine at the beginning. -/
theorem tok_begin (cv kv : Array Value) (c : Nat → Int) (w : World) (hv : Cfg cv c) (hr : RightC c) (hk : kv.size = 16) :
    Calls Tryz.prog 9 #[.agg cv, .agg kv] w fun e w' => ∃ eb G, e = .returned (.tuple #[.pointer (some ⟨eb, 0, none⟩), .int .i64 0]) ∧ EngN (fun k => k < w.heap.size) eb ⟨cv, c, kv, G⟩ 0 (TK ⟨cv, c, kv, G⟩ 0 0 0) w' ∧ Below w.heap.size w w' := by
  refine (engine_new cv c kv w hv hr hk).mono ?_
  rintro e w' ⟨a, G, rfl, h1, h2, h3, h4⟩
  have hb := hr.buckets
  refine ⟨a.eb, G, rfl, ⟨a, _, _, 0, rfl, fun k hk => ⟨Nat.lt_of_lt_of_le hk h4.size, h3 k hk⟩, h2, ⟨⟨[], ⟨false, false, 0⟩, ?_, by simp, ?_, .inl ⟨rfl, rfl, rfl⟩⟩, ?_, ?_, ⟨by show -(((2 * 0 : Nat) : Int) * 9216) ≤ 0; omega, hr.shared.1, ?_, ?_⟩⟩, ⟨?_, .inl rfl⟩, rfl, .inl ⟨rfl, rfl, rfl, rfl⟩⟩, h4⟩
  · show (List.replicate (2 * (c 0).toNat + 1) ([] : List (Array Value)))[2 * (c 0).toNat]? = some []
    rw [List.getElem?_replicate, if_pos (by omega)]
  · show (List.replicate (2 * (c 0).toNat + 1) (⟨false, false, 0⟩ : Tcl))[2 * (c 0).toNat]? = _
    rw [List.getElem?_replicate, if_pos (by omega)]
  · show (List.replicate (2 * (c 0).toNat + 1) ([] : List (Array Value))).length ≤ 129
    rw [List.length_replicate]
    omega
  · show (List.replicate (2 * (c 0).toNat + 1) (⟨false, false, 0⟩ : Tcl)).length ≤ 129
    rw [List.length_replicate]
    omega
  · show (List.replicate (2 * (c 0).toNat + 1) (0 : Int)).length ≤ 129
    rw [List.length_replicate]
    omega
  · intro x hx
    have : x = 0 := (List.mem_replicate.1 (show x ∈ List.replicate (2 * (c 0).toNat + 1) (0 : Int) from hx)).2
    omega
  · show (0 : Int) ≤ 0 / c 15
    rw [Int.zero_ediv]
    exact Int.le_refl _
end Go.Proofs.YtpanmfdbdgecaaaGreat.C

namespace Go.Proofs.YtpanmfdbdgecaaaGreat.C
open Go.RowKit
set_option linter.unusedVariables false
theorem in_no (n a b : Int) (w : World) (h : ¬ (a ≤ n ∧ n ≤ b)) : Calls Tryz.prog 118 #[.int .i64 n, .int .i64 a, .int .i64 b] w fun e w' => e = .returned (.bool false) ∧ w' = w := by
  by_cases h0 : a ≤ n
  · have h1 : decide (n ≤ b) = false := decide_eq_false (by omega)
    clear h
    go_enter Tryz.func118, Tryz.ntmps118
    go_wp2
    go_ret
    exact ⟨rfl, rfl⟩
  · have h1 : decide (a ≤ n) = false := decide_eq_false h0
    clear h h0
    go_enter Tryz.func118, Tryz.ntmps118
    go_wp2
    go_ret
    exact ⟨rfl, rfl⟩
theorem in_any (n a b : Int) (w : World) : Calls Tryz.prog 118 #[.int .i64 n, .int .i64 a, .int .i64 b] w fun e w' => e = .returned (.bool (decide (a ≤ n ∧ n ≤ b))) ∧ w' = w := by
  by_cases h : a ≤ n ∧ n ≤ b
  · rw [decide_eq_true h]
    exact config_in n a b w h.1 h.2
  · rw [decide_eq_false h]
    exact in_no n a b w h
theorem tuned_no (tg up dn : Int) (w : World) (h : ¬ (0 ≤ tg ∧ tg ≤ 1073741824 ∧ 0 ≤ up ∧ up ≤ 65536 ∧ 0 ≤ dn ∧ dn ≤ 65536)) : Calls Tryz.prog 122 #[.int .i64 tg, .int .i64 up, .int .i64 dn] w fun e w' => e = .returned (.bool false) ∧ w' = w := by
  have hc : (¬ 0 ≤ tg) ∨ (0 ≤ tg ∧ ¬ tg ≤ 1073741824) ∨ (0 ≤ tg ∧ tg ≤ 1073741824 ∧ ¬ 0 ≤ up) ∨ (0 ≤ tg ∧ tg ≤ 1073741824 ∧ 0 ≤ up ∧ ¬ up ≤ 65536) ∨ (0 ≤ tg ∧ tg ≤ 1073741824 ∧ 0 ≤ up ∧ up ≤ 65536 ∧ ¬ 0 ≤ dn) ∨ (0 ≤ tg ∧ tg ≤ 1073741824 ∧ 0 ≤ up ∧ up ≤ 65536 ∧ 0 ≤ dn ∧ ¬ dn ≤ 65536) := by omega
  rcases hc with a0 | ⟨a0, a1⟩ | ⟨a0, a1, a2⟩ | ⟨a0, a1, a2, a3⟩ | ⟨a0, a1, a2, a3, a4⟩ | ⟨a0, a1, a2, a3, a4, a5⟩
  · have e : decide (0 ≤ tg) = false := decide_eq_false a0
    clear h a0
    go_enter Tryz.func122, Tryz.ntmps122
    go_wp2
    go_ret
    exact ⟨rfl, rfl⟩
  · have e : decide (tg ≤ 1073741824) = false := decide_eq_false a1
    clear h a1
    go_enter Tryz.func122, Tryz.ntmps122
    go_wp2
    go_ret
    exact ⟨rfl, rfl⟩
  · have e : decide (0 ≤ up) = false := decide_eq_false a2
    clear h a2
    go_enter Tryz.func122, Tryz.ntmps122
    go_wp2
    go_ret
    exact ⟨rfl, rfl⟩
  · have e : decide (up ≤ 65536) = false := decide_eq_false a3
    clear h a3
    go_enter Tryz.func122, Tryz.ntmps122
    go_wp2
    go_ret
    exact ⟨rfl, rfl⟩
  · have e : decide (0 ≤ dn) = false := decide_eq_false a4
    clear h a4
    go_enter Tryz.func122, Tryz.ntmps122
    go_wp2
    go_ret
    exact ⟨rfl, rfl⟩
  · have e : decide (dn ≤ 65536) = false := decide_eq_false a5
    clear h a5
    go_enter Tryz.func122, Tryz.ntmps122
    go_wp2
    go_ret
    exact ⟨rfl, rfl⟩
set_option maxRecDepth 100000 in
theorem blue_no (lv bn tg hd up dn : Int) (w : World) (h : ¬ (1 ≤ lv ∧ lv ≤ 4 ∧ 1 ≤ bn ∧ bn ≤ 64 ∧ 0 ≤ hd ∧ hd ≤ 4611686018427387903 ∧ 0 ≤ tg ∧ tg ≤ 1073741824 ∧ 0 ≤ up ∧ up ≤ 65536 ∧ 0 ≤ dn ∧ dn ≤ 65536)) :
    Calls Tryz.prog 63 #[.int .i64 lv, .int .i64 bn, .int .i64 tg, .int .i64 hd, .int .i64 up, .int .i64 dn] w fun e w' => e = .returned (.tuple #[.pointer none, .int .i64 1]) ∧ w' = w := by
  have hc : (lv < 1) ∨ (1 ≤ lv ∧ 4 < lv) ∨ (1 ≤ lv ∧ lv ≤ 4 ∧ bn < 1) ∨ (1 ≤ lv ∧ lv ≤ 4 ∧ 1 ≤ bn ∧ 64 < bn) ∨ (1 ≤ lv ∧ lv ≤ 4 ∧ 1 ≤ bn ∧ bn ≤ 64 ∧ hd < 0) ∨ (1 ≤ lv ∧ lv ≤ 4 ∧ 1 ≤ bn ∧ bn ≤ 64 ∧ 0 ≤ hd ∧ 4611686018427387903 < hd) ∨ (1 ≤ lv ∧ lv ≤ 4 ∧ 1 ≤ bn ∧ bn ≤ 64 ∧ 0 ≤ hd ∧ hd ≤ 4611686018427387903 ∧ ¬ (0 ≤ tg ∧ tg ≤ 1073741824 ∧ 0 ≤ up ∧ up ≤ 65536 ∧ 0 ≤ dn ∧ dn ≤ 65536)) := by omega
  rcases hc with a0 | ⟨a0, a1⟩ | ⟨a0, a1, a2⟩ | ⟨a0, a1, a2, a3⟩ | ⟨a0, a1, a2, a3, a4⟩ | ⟨a0, a1, a2, a3, a4, a5⟩ | ⟨a0, a1, a2, a3, a4, a5, a6⟩
  · clear h
    go_enter Tryz.func63, Tryz.ntmps63
    go_wp2
    go_ret2
    exact ⟨rfl, rfl⟩
  · clear h
    go_enter Tryz.func63, Tryz.ntmps63
    go_wp2
    go_ret2
    exact ⟨rfl, rfl⟩
  · clear h
    go_enter Tryz.func63, Tryz.ntmps63
    go_wp2
    go_ret2
    exact ⟨rfl, rfl⟩
  · clear h
    go_enter Tryz.func63, Tryz.ntmps63
    go_wp2
    go_ret2
    exact ⟨rfl, rfl⟩
  · clear h
    go_enter Tryz.func63, Tryz.ntmps63
    go_wp2
    go_ret2
    exact ⟨rfl, rfl⟩
  · clear h
    go_enter Tryz.func63, Tryz.ntmps63
    go_wp2
    go_ret2
    exact ⟨rfl, rfl⟩
  · have C2 := Lib.hid (tuned_no tg up dn w a6)
    clear h a6
    go_enter Tryz.func63, Tryz.ntmps63
    go_wp2_with fail
    refine C2.out.mono ?_
    rintro e w1 ⟨rfl, rfl⟩
    go_wp2
    go_ret2
    exact ⟨rfl, rfl⟩
theorem blue_any (lv bn tg hd up dn : Int) (w : World) :
    Calls Tryz.prog 63 #[.int .i64 lv, .int .i64 bn, .int .i64 tg, .int .i64 hd, .int .i64 up, .int .i64 dn] w fun e w' => ∃ p n, e = .returned (.tuple #[p, .int .i64 n]) ∧ (n = 0 ↔ (1 ≤ lv ∧ lv ≤ 4 ∧ 1 ≤ bn ∧ bn ≤ 64 ∧ 0 ≤ hd ∧ hd ≤ 4611686018427387903 ∧ 0 ≤ tg ∧ tg ≤ 1073741824 ∧ 0 ≤ up ∧ up ≤ 65536 ∧ 0 ≤ dn ∧ dn ≤ 65536)) ∧ Below w.heap.size w w' := by
  by_cases h : 1 ≤ lv ∧ lv ≤ 4 ∧ 1 ≤ bn ∧ bn ≤ 64 ∧ 0 ≤ hd ∧ hd ≤ 4611686018427387903 ∧ 0 ≤ tg ∧ tg ≤ 1073741824 ∧ 0 ≤ up ∧ up ≤ 65536 ∧ 0 ≤ dn ∧ dn ≤ 65536
  · have h0 := h
    obtain ⟨a0, a1, a2, a3, a4, a5, a6, a7, a8, a9, a10, a11⟩ := h
    obtain ⟨lv, rfl⟩ := Int.eq_ofNat_of_zero_le (show 0 ≤ lv by omega)
    obtain ⟨bn, rfl⟩ := Int.eq_ofNat_of_zero_le (show 0 ≤ bn by omega)
    refine (blue_new lv bn tg hd up dn w (by omega) (by omega) (by omega) (by omega) a6 a7 a8 a9 a10 a11 a4 a5).mono ?_
    rintro e w' ⟨rfl, _, hB⟩
    exact ⟨_, 0, rfl, ⟨fun _ => h0, fun _ => rfl⟩, hB⟩
  · refine (blue_no lv bn tg hd up dn w h).mono ?_
    rintro e w' ⟨rfl, rfl⟩
    exact ⟨_, 1, rfl, ⟨fun h1 => by omega, fun h1 => absurd h1 h⟩, Below.refl _ _⟩
theorem sketch_no (n : Int) (w : World) (h : ¬ (1 ≤ n ∧ n ≤ 64)) : Calls Tryz.prog 123 #[.int .i64 n] w fun e w' => e = .returned (.tuple #[.pointer none, .int .i64 1]) ∧ w' = w := by
  have hc : (n < 1) ∨ (1 ≤ n ∧ 64 < n) := by omega
  rcases hc with a0 | ⟨a0, a1⟩
  · clear h
    go_enter Tryz.func123, Tryz.ntmps123
    go_wp2
    go_ret2
    exact ⟨rfl, rfl⟩
  · clear h
    go_enter Tryz.func123, Tryz.ntmps123
    go_wp2
    go_ret2
    exact ⟨rfl, rfl⟩
theorem table_no (n : Int) (w : World) (h : ¬ (1 ≤ n ∧ n ≤ 64)) : Calls Tryz.prog 125 #[.int .i64 n] w fun e w' => e = .returned (.tuple #[.pointer none, .int .i64 1]) ∧ w' = w := by
  have hc : (n < 1) ∨ (1 ≤ n ∧ 64 < n) := by omega
  rcases hc with a0 | ⟨a0, a1⟩
  · clear h
    go_enter Tryz.func125, Tryz.ntmps125
    go_wp2
    go_ret2
    exact ⟨rfl, rfl⟩
  · clear h
    go_enter Tryz.func125, Tryz.ntmps125
    go_wp2
    go_ret2
    exact ⟨rfl, rfl⟩
theorem may_any (n : Int) (w : World) : Calls Tryz.prog 124 #[.int .i64 n] w fun e w' => e = .returned (.bool (decide (1 ≤ n ∧ n ≤ 4611686018427387903))) ∧ w' = w := by
  by_cases h : 1 ≤ n ∧ n ≤ 4611686018427387903
  · rw [decide_eq_true h]
    obtain ⟨h0, h1⟩ := h
    go_enter Tryz.func124, Tryz.ntmps124
    go_wp2
    go_ret
    exact ⟨rfl, rfl⟩
  · rw [decide_eq_false h]
    have hc : (¬ 1 ≤ n) ∨ (1 ≤ n ∧ ¬ n ≤ 4611686018427387903) := by omega
    rcases hc with a0 | ⟨a0, a1⟩
    · have e : decide (1 ≤ n) = false := decide_eq_false a0
      clear h a0
      go_enter Tryz.func124, Tryz.ntmps124
      go_wp2
      go_ret
      exact ⟨rfl, rfl⟩
    · have e : decide (n ≤ 4611686018427387903) = false := decide_eq_false a1
      clear h a1
      go_enter Tryz.func124, Tryz.ntmps124
      go_wp2
      go_ret
      exact ⟨rfl, rfl⟩
set_option maxRecDepth 100000 in
theorem window_any (n ns thr : Int) (w : World) :
    Calls Tryz.prog 64 #[.int .i64 n, .int .i64 ns, .int .i64 thr] w fun e w' => ∃ p k, e = .returned (.tuple #[p, .int .i64 k]) ∧ (k = 0 ↔ (1 ≤ n ∧ n ≤ 64 ∧ 1 ≤ ns ∧ ns ≤ 4611686018427387903 ∧ 1 ≤ thr ∧ thr ≤ 4611686018427387903)) ∧ Below w.heap.size w w' := by
  by_cases h : 1 ≤ n ∧ n ≤ 64
  · obtain ⟨m, rfl⟩ := Int.eq_ofNat_of_zero_le (show 0 ≤ n by omega)
    by_cases h2 : 1 ≤ ns ∧ ns ≤ 4611686018427387903
    · by_cases h3 : 1 ≤ thr ∧ thr ≤ 4611686018427387903
      · refine (window_new m ns thr w (by omega) (by omega) h2.1 h2.2 h3.1 h3.2).mono ?_
        rintro e w' ⟨_, _, _, rfl, _, _, hB⟩
        exact ⟨_, 0, rfl, ⟨fun _ => ⟨h.1, h.2, h2.1, h2.2, h3.1, h3.2⟩, fun _ => rfl⟩, hB⟩
      · have C1 := Lib.hid (sketch_new m w (by omega) (by omega))
        have C2 := Lib.hid (may_any ns)
        have C3 := Lib.hid (may_any thr)
        rw [decide_eq_true h2] at C2
        rw [decide_eq_false h3] at C3
        have H3 := Lib.hid h3
        clear h h2 h3
        refine calls_hide fun Q HQ => ?_
        go_enter Tryz.func64, Tryz.ntmps64
        go_wp2_with fail
        refine C1.out.mono ?_
        rintro e w1 ⟨rfl, _, hB⟩
        have HB := Lib.hid hB
        clear hB
        go_wp2_with fail
        refine (C2.out _).mono ?_
        rintro e w2 ⟨rfl, rfl⟩
        go_wp2_with fail
        refine (C3.out _).mono ?_
        rintro e w3 ⟨rfl, rfl⟩
        go_wp2
        exact HQ.out _ _ ⟨_, 1, rfl, ⟨fun h1 => by omega, fun h1 => absurd ⟨h1.2.2.2.2.1, h1.2.2.2.2.2⟩ H3.out⟩, HB.out⟩
    · have C1 := Lib.hid (sketch_new m w (by omega) (by omega))
      have C2 := Lib.hid (may_any ns)
      rw [decide_eq_false h2] at C2
      have H2 := Lib.hid h2
      clear h h2
      refine calls_hide fun Q HQ => ?_
      go_enter Tryz.func64, Tryz.ntmps64
      go_wp2_with fail
      refine C1.out.mono ?_
      rintro e w1 ⟨rfl, _, hB⟩
      have HB := Lib.hid hB
      clear hB
      go_wp2_with fail
      refine (C2.out _).mono ?_
      rintro e w2 ⟨rfl, rfl⟩
      go_wp2
      exact HQ.out _ _ ⟨_, 1, rfl, ⟨fun h1 => by omega, fun h1 => absurd ⟨h1.2.2.1, h1.2.2.2.1⟩ H2.out⟩, HB.out⟩
  · have C1 := Lib.hid (sketch_no n w h)
    have H1 := Lib.hid h
    clear h
    refine calls_hide fun Q HQ => ?_
    go_enter Tryz.func64, Tryz.ntmps64
    go_wp2_with fail
    refine C1.out.mono ?_
    rintro e w1 ⟨rfl, rfl⟩
    go_wp2
    exact HQ.out _ _ ⟨_, 1, rfl, ⟨fun h1 => by omega, fun h1 => absurd ⟨h1.1, h1.2.1⟩ H1.out⟩, Below.refl _ _⟩
theorem token_no (rate burst : Int) (w : World) (h : ¬ (0 ≤ rate ∧ rate ≤ 1073741824 ∧ 1 ≤ burst ∧ burst ≤ 1073741824)) : Calls Tryz.prog 70 #[.int .i64 rate, .int .i64 burst] w fun e w' => e = .returned (.tuple #[.pointer none, .int .i64 1]) ∧ w' = w := by
  have hc : (rate < 0) ∨ (0 ≤ rate ∧ 1073741824 < rate) ∨ (0 ≤ rate ∧ rate ≤ 1073741824 ∧ burst < 1) ∨ (0 ≤ rate ∧ rate ≤ 1073741824 ∧ 1 ≤ burst ∧ 1073741824 < burst) := by omega
  rcases hc with a0 | ⟨a0, a1⟩ | ⟨a0, a1, a2⟩ | ⟨a0, a1, a2, a3⟩
  · clear h
    go_enter Tryz.func70, Tryz.ntmps70
    go_wp2
    go_ret2
    exact ⟨rfl, rfl⟩
  · clear h
    go_enter Tryz.func70, Tryz.ntmps70
    go_wp2
    go_ret2
    exact ⟨rfl, rfl⟩
  · clear h
    go_enter Tryz.func70, Tryz.ntmps70
    go_wp2
    go_ret2
    exact ⟨rfl, rfl⟩
  · clear h
    go_enter Tryz.func70, Tryz.ntmps70
    go_wp2
    go_ret2
    exact ⟨rfl, rfl⟩
set_option maxRecDepth 100000 in
theorem box_any (n term rate burst : Int) (w : World) :
    Calls Tryz.prog 65 #[.int .i64 n, .int .i64 term, .int .i64 rate, .int .i64 burst] w fun e w' => ∃ p k, e = .returned (.tuple #[p, .int .i64 k]) ∧ (k = 0 ↔ (1 ≤ n ∧ n ≤ 64 ∧ 1 ≤ term ∧ term ≤ 4611686018427387903 ∧ 0 ≤ rate ∧ rate ≤ 1073741824 ∧ 1 ≤ burst ∧ burst ≤ 1073741824)) ∧ Below w.heap.size w w' := by
  by_cases h : 1 ≤ n ∧ n ≤ 64
  · obtain ⟨m, rfl⟩ := Int.eq_ofNat_of_zero_le (show 0 ≤ n by omega)
    by_cases h2 : 1 ≤ term ∧ term ≤ 4611686018427387903
    · by_cases h3 : 0 ≤ rate ∧ rate ≤ 1073741824 ∧ 1 ≤ burst ∧ burst ≤ 1073741824
      · refine (box_new m term rate burst w (by omega) (by omega) h2.1 h2.2 h3.1 h3.2.1 h3.2.2.1 h3.2.2.2).mono ?_
        rintro e w' ⟨_, _, _, rfl, _, _, hB⟩
        exact ⟨_, 0, rfl, ⟨fun _ => ⟨h.1, h.2, h2.1, h2.2, h3⟩, fun _ => rfl⟩, hB⟩
      · have C1 := Lib.hid (table_new m w (by omega) (by omega))
        have C2 := Lib.hid (fun w' => token_no rate burst w' h3)
        have H3 := Lib.hid h3
        obtain ⟨a0, a1⟩ := h2
        clear h h3
        refine calls_hide fun Q HQ => ?_
        go_enter Tryz.func65, Tryz.ntmps65
        go_wp2_with fail
        refine C1.out.mono ?_
        rintro e w1 ⟨rfl, _, hB⟩
        have HB := Lib.hid hB
        clear hB
        go_wp2_with fail
        refine (C2.out _).mono ?_
        rintro e w2 ⟨rfl, rfl⟩
        go_wp2
        exact HQ.out _ _ ⟨_, 1, rfl, ⟨fun h1 => by omega, fun h1 => absurd h1.2.2.2.2 H3.out⟩, HB.out⟩
    · have C1 := Lib.hid (table_new m w (by omega) (by omega))
      have H2 := Lib.hid h2
      have hc : (term < 1) ∨ (1 ≤ term ∧ 4611686018427387903 < term) := by omega
      clear h h2
      rcases hc with a0 | ⟨a0, a1⟩
      · skip
        refine calls_hide fun Q HQ => ?_
        go_enter Tryz.func65, Tryz.ntmps65
        go_wp2_with fail
        refine C1.out.mono ?_
        rintro e w1 ⟨rfl, _, hB⟩
        have HB := Lib.hid hB
        clear hB
        go_wp2
        exact HQ.out _ _ ⟨_, 1, rfl, ⟨fun h1 => by omega, fun h1 => absurd ⟨h1.2.2.1, h1.2.2.2.1⟩ H2.out⟩, HB.out⟩
      · skip
        refine calls_hide fun Q HQ => ?_
        go_enter Tryz.func65, Tryz.ntmps65
        go_wp2_with fail
        refine C1.out.mono ?_
        rintro e w1 ⟨rfl, _, hB⟩
        have HB := Lib.hid hB
        clear hB
        go_wp2
        exact HQ.out _ _ ⟨_, 1, rfl, ⟨fun h1 => by omega, fun h1 => absurd ⟨h1.2.2.1, h1.2.2.2.1⟩ H2.out⟩, HB.out⟩
  · have C1 := Lib.hid (table_no n w h)
    have H1 := Lib.hid h
    clear h
    refine calls_hide fun Q HQ => ?_
    go_enter Tryz.func65, Tryz.ntmps65
    go_wp2_with fail
    refine C1.out.mono ?_
    rintro e w1 ⟨rfl, rfl⟩
    go_wp2
    exact HQ.out _ _ ⟨_, 1, rfl, ⟨fun h1 => by omega, fun h1 => absurd ⟨h1.1, h1.2.1⟩ H1.out⟩, Below.refl _ _⟩
/-- The parts of a config that may be. -/
def PartsC (c : Nat → Int) : Prop := (1 ≤ c 2 ∧ c 2 ≤ 4 ∧ 1 ≤ c 3 ∧ c 3 ≤ 64 ∧ 0 ≤ c 14 ∧ c 14 ≤ 4611686018427387903 ∧ 0 ≤ c 13 ∧ c 13 ≤ 1073741824 ∧ 0 ≤ c 4 ∧ c 4 ≤ 65536 ∧ 0 ≤ c 5 ∧ c 5 ≤ 65536) ∧ (1 ≤ c 6 ∧ c 6 ≤ 64 ∧ 1 ≤ c 15 ∧ c 15 ≤ 4611686018427387903 ∧ 1 ≤ c 16 ∧ c 16 ≤ 4611686018427387903) ∧ (1 ≤ c 7 ∧ c 7 ≤ 64 ∧ 1 ≤ c 17 ∧ c 17 ≤ 4611686018427387903 ∧ 0 ≤ c 18 ∧ c 18 ≤ 1073741824 ∧ 1 ≤ c 19 ∧ c 19 ≤ 1073741824)
set_option maxRecDepth 100000 in
theorem parts_no (cv : Array Value) (c : Nat → Int) (w : World) (hv : Cfg cv c) (hr : ¬ PartsC c) :
    Calls Tryz.prog 119 #[.agg cv] w fun e w' => e = .returned (.bool false) ∧ Below w.heap.size w w' := by
  have C1 := Lib.hid (fun w' => blue_any (c 2) (c 3) (c 13) (c 14) (c 4) (c 5) w')
  have C2 := Lib.hid (fun w' => window_any (c 6) (c 15) (c 16) w')
  have C3 := Lib.hid (fun w' => box_any (c 7) (c 17) (c 18) (c 19) w')
  have HC : Hid (∀ w' : World, w'.heap[w.heap.size]? = some (.cells cv 26 (0, 0)) → w'.cell? ⟨w.heap.size, 2, none⟩ = some (.int .i64 (c 2)) ∧ w'.cell? ⟨w.heap.size, 3, none⟩ = some (.int .i64 (c 3)) ∧ w'.cell? ⟨w.heap.size, 13, none⟩ = some (.int .i64 (c 13)) ∧ w'.cell? ⟨w.heap.size, 14, none⟩ = some (.int .i64 (c 14)) ∧ w'.cell? ⟨w.heap.size, 4, none⟩ = some (.int .i64 (c 4)) ∧ w'.cell? ⟨w.heap.size, 5, none⟩ = some (.int .i64 (c 5))) := Lib.hid fun w' hb =>
    ⟨hv.cell hb 2 (by decide), hv.cell hb 3 (by decide), hv.cell hb 13 (by decide), hv.cell hb 14 (by decide), hv.cell hb 4 (by decide), hv.cell hb 5 (by decide)⟩
  have HD : Hid (∀ w' : World, w'.heap[w.heap.size]? = some (.cells cv 26 (0, 0)) → w'.cell? ⟨w.heap.size, 6, none⟩ = some (.int .i64 (c 6)) ∧ w'.cell? ⟨w.heap.size, 15, none⟩ = some (.int .i64 (c 15)) ∧ w'.cell? ⟨w.heap.size, 16, none⟩ = some (.int .i64 (c 16)) ∧ w'.cell? ⟨w.heap.size, 7, none⟩ = some (.int .i64 (c 7)) ∧ w'.cell? ⟨w.heap.size, 17, none⟩ = some (.int .i64 (c 17)) ∧ w'.cell? ⟨w.heap.size, 18, none⟩ = some (.int .i64 (c 18)) ∧ w'.cell? ⟨w.heap.size, 19, none⟩ = some (.int .i64 (c 19))) := Lib.hid fun w' hb =>
    ⟨hv.cell hb 6 (by decide), hv.cell hb 15 (by decide), hv.cell hb 16 (by decide), hv.cell hb 7 (by decide), hv.cell hb 17 (by decide), hv.cell hb 18 (by decide), hv.cell hb 19 (by decide)⟩
  have HR := Lib.hid hr
  clear hv hr
  refine calls_hide fun Q HQ => ?_
  go_enter Tryz.func119, Tryz.ntmps119
  go_upto_region 1 with ((with_reducible refine arm_box 1 0 26 cv ?_ ?_); rfl; intro w1 HB HX HS)
  obtain ⟨c2, c3, c13, c14, c4, c5⟩ := HC.out _ HX.out
  go_wp2_with fail
  refine (C1.out _).mono ?_
  rintro e w2 ⟨p1, n1, rfl, hi1, hB2⟩
  obtain ⟨d6, d15, d16, d7, d17, d18, d19⟩ := HD.out _ (keep_block hB2 HX.out)
  have HX2 := Lib.hid (keep_block hB2 HX.out)
  have HB2 := Lib.hid (HB.out.trans (hB2.mono HB.out.size))
  have HI1 := Lib.hid hi1
  clear hB2 hi1 HB HX HS c2 c3 c13 c14 c4 c5 C1 HC
  go_wp2_with fail
  refine (C2.out _).mono ?_
  rintro e w3 ⟨p2, n2, rfl, hi2, hB3⟩
  clear d6 d15 d16 d7 d17 d18 d19
  obtain ⟨d6, d15, d16, d7, d17, d18, d19⟩ := HD.out _ (keep_block hB3 HX2.out)
  have HB3 := Lib.hid (HB2.out.trans (hB3.mono HB2.out.size))
  have HI2 := Lib.hid hi2
  clear hB3 hi2 HB2 HX2
  go_wp2_with fail
  refine (C3.out _).mono ?_
  rintro e w4 ⟨p3, n3, rfl, hi3, hB4⟩
  have HB4 := Lib.hid (HB3.out.trans (hB4.mono HB3.out.size))
  have HI3 := Lib.hid hi3
  clear hB4 hi3 HB3 d6 d15 d16 d7 d17 d18 d19
  by_cases h1 : n1 = 0
  · by_cases h2 : n2 = 0
    · by_cases h3 : n3 = 0
      · exact absurd ⟨HI1.out.1 h1, HI2.out.1 h2, HI3.out.1 h3⟩ HR.out
      · subst h1
        subst h2
        have e3 : (n3 == 0) = false := by simp [h3]
        go_wp2
        exact HQ.out _ _ ⟨rfl, HB4.out⟩
    · subst h1
      have e2 : (n2 == 0) = false := by simp [h2]
      go_wp2
      exact HQ.out _ _ ⟨rfl, HB4.out⟩
  · have e1 : (n1 == 0) = false := by simp [h1]
    go_wp2
    exact HQ.out _ _ ⟨rfl, HB4.out⟩
theorem right_iff (c : Nat → Int) : RightC c ↔ ((1 ≤ c 0 ∧ c 0 ≤ 64) ∧ (1 ≤ c 1 ∧ c 1 ≤ 4096) ∧ (9216 ≤ c 8 ∧ c 8 ≤ 1073741824) ∧ (1 ≤ c 11 ∧ c 11 ≤ 1000000) ∧ (0 ≤ c 9 ∧ c 9 ≤ 1073741824) ∧ (0 ≤ c 10 ∧ c 10 ≤ 1073741824) ∧ (0 ≤ c 12 ∧ c 12 ≤ 1073741824) ∧ PartsC c) := by
  constructor
  · intro h
    obtain ⟨h0, h1, h2, h3, h4, h5, h6, h7, h8, h9, h10, h11, h12, h13, h14, h15, h16, h17, h18, h19⟩ := h
    exact ⟨h0, h1, h8, h11, h9, h10, h12, ⟨h2.1, h2.2, h3.1, h3.2, h14.1, h14.2, h13.1, h13.2, h4.1, h4.2, h5.1, h5.2⟩, ⟨h6.1, h6.2, h15.1, h15.2, h16.1, h16.2⟩, h7.1, h7.2, h17.1, h17.2, h18.1, h18.2, h19.1, h19.2⟩
  · rintro ⟨h0, h1, h8, h11, h9, h10, h12, ⟨a1, a2, a3, a4, a5, a6, a7, a8, a9, a10, a11, a12⟩, ⟨b1, b2, b3, b4, b5, b6⟩, d1, d2, d3, d4, d5, d6, d7, d8⟩
    exact ⟨h0, h1, ⟨a1, a2⟩, ⟨a3, a4⟩, ⟨a9, a10⟩, ⟨a11, a12⟩, ⟨b1, b2⟩, ⟨d1, d2⟩, h8, h9, h10, h11, h12, ⟨a7, a8⟩, ⟨a5, a6⟩, ⟨b3, b4⟩, ⟨b5, b6⟩, ⟨d3, d4⟩, ⟨d5, d6⟩, ⟨d7, d8⟩⟩
set_option maxRecDepth 100000 in
set_option maxHeartbeats 2000000 in
theorem right_no (cv : Array Value) (c : Nat → Int) (w : World) (hv : Cfg cv c) (hr : ¬ RightC c) :
    Calls Tryz.prog 58 #[.agg cv] w fun e w' => e = .returned (.bool false) ∧ Below w.heap.size w w' := by
  rw [right_iff] at hr
  have HV := Lib.hid hv
  clear hv
  have CP := Lib.hid (fun w' (h : ¬ PartsC c) => parts_no cv c w' HV.out h)
  by_cases h0 : 1 ≤ c 0 ∧ c 0 ≤ 64
  · have C0 := Lib.hid (fun w' => config_in (c 0) 1 64 w' h0.1 h0.2)
    by_cases h1 : 1 ≤ c 1 ∧ c 1 ≤ 4096
    · have C1 := Lib.hid (fun w' => config_in (c 1) 1 4096 w' h1.1 h1.2)
      by_cases h8 : 9216 ≤ c 8 ∧ c 8 ≤ 1073741824
      · have C8 := Lib.hid (fun w' => config_in (c 8) 9216 1073741824 w' h8.1 h8.2)
        by_cases h11 : 1 ≤ c 11 ∧ c 11 ≤ 1000000
        · have C11 := Lib.hid (fun w' => config_in (c 11) 1 1000000 w' h11.1 h11.2)
          by_cases h9 : 0 ≤ c 9 ∧ c 9 ≤ 1073741824
          · have C9 := Lib.hid (fun w' => config_in (c 9) 0 1073741824 w' h9.1 h9.2)
            by_cases h10 : 0 ≤ c 10 ∧ c 10 ≤ 1073741824
            · have C10 := Lib.hid (fun w' => config_in (c 10) 0 1073741824 w' h10.1 h10.2)
              by_cases h12 : 0 ≤ c 12 ∧ c 12 ≤ 1073741824
              · have C12 := Lib.hid (fun w' => config_in (c 12) 0 1073741824 w' h12.1 h12.2)
                have C99 := Lib.hid (fun w' => CP.out w' (fun hp => hr ⟨h0, h1, h8, h11, h9, h10, h12, hp⟩))
                clear CP hr h0 h1 h8 h11 h9 h10 h12
                refine calls_hide fun Q HQ => ?_
                go_enter Tryz.func58, Tryz.ntmps58
                go_upto_region 1 with ((with_reducible refine arm_box 1 0 26 cv ?_ ?_); rfl; intro w1 HB HX HS)
                have c0 := HV.out.cell HX.out 0 (by decide)
                have c1 := HV.out.cell HX.out 1 (by decide)
                have c8 := HV.out.cell HX.out 8 (by decide)
                have c11 := HV.out.cell HX.out 11 (by decide)
                have c9 := HV.out.cell HX.out 9 (by decide)
                have c10 := HV.out.cell HX.out 10 (by decide)
                have c12 := HV.out.cell HX.out 12 (by decide)
                have hld := cfg_load HX.out HV.out
                clear HS HV
                go_wp2_with fail
                refine (C0.out _).mono ?_
                rintro e w2 ⟨rfl, rfl⟩
                go_wp2_with fail
                refine (C1.out _).mono ?_
                rintro e w3 ⟨rfl, rfl⟩
                go_wp2_with fail
                refine (C8.out _).mono ?_
                rintro e w4 ⟨rfl, rfl⟩
                go_wp2_with fail
                refine (C11.out _).mono ?_
                rintro e w5 ⟨rfl, rfl⟩
                go_wp2_with fail
                refine (C9.out _).mono ?_
                rintro e w6 ⟨rfl, rfl⟩
                go_wp2_with fail
                refine (C10.out _).mono ?_
                rintro e w7 ⟨rfl, rfl⟩
                go_wp2_with fail
                refine (C12.out _).mono ?_
                rintro e w8 ⟨rfl, rfl⟩
                go_wp2_with ((with_reducible refine arm_loadg 39 1 26 (.pointer (some ⟨w.heap.size, 0, none⟩)) (.agg cv) hld ?_ ?_ ?_); rfl; rfl)
                refine (C99.out _).mono ?_
                rintro e w9 ⟨rfl, hB9⟩
                have HB9 := Lib.hid (HB.out.trans (hB9.mono HB.out.size))
                clear hB9 c0 c1 c8 c11 c9 c10 c12 hld
                go_wp2
                exact HQ.out _ _ ⟨rfl, HB9.out⟩
              · have C12 := Lib.hid (fun w' => in_no (c 12) 0 1073741824 w' h12)
                clear CP hr h0 h1 h8 h11 h9 h10 h12
                refine calls_hide fun Q HQ => ?_
                go_enter Tryz.func58, Tryz.ntmps58
                go_upto_region 1 with ((with_reducible refine arm_box 1 0 26 cv ?_ ?_); rfl; intro w1 HB HX HS)
                have c0 := HV.out.cell HX.out 0 (by decide)
                have c1 := HV.out.cell HX.out 1 (by decide)
                have c8 := HV.out.cell HX.out 8 (by decide)
                have c11 := HV.out.cell HX.out 11 (by decide)
                have c9 := HV.out.cell HX.out 9 (by decide)
                have c10 := HV.out.cell HX.out 10 (by decide)
                have c12 := HV.out.cell HX.out 12 (by decide)
                have hld := cfg_load HX.out HV.out
                clear HS HV
                go_wp2_with fail
                refine (C0.out _).mono ?_
                rintro e w2 ⟨rfl, rfl⟩
                go_wp2_with fail
                refine (C1.out _).mono ?_
                rintro e w3 ⟨rfl, rfl⟩
                go_wp2_with fail
                refine (C8.out _).mono ?_
                rintro e w4 ⟨rfl, rfl⟩
                go_wp2_with fail
                refine (C11.out _).mono ?_
                rintro e w5 ⟨rfl, rfl⟩
                go_wp2_with fail
                refine (C9.out _).mono ?_
                rintro e w6 ⟨rfl, rfl⟩
                go_wp2_with fail
                refine (C10.out _).mono ?_
                rintro e w7 ⟨rfl, rfl⟩
                go_wp2_with fail
                refine (C12.out _).mono ?_
                rintro e w8 ⟨rfl, rfl⟩
                go_wp2
                exact HQ.out _ _ ⟨rfl, HB.out⟩
            · have C10 := Lib.hid (fun w' => in_no (c 10) 0 1073741824 w' h10)
              clear CP hr h0 h1 h8 h11 h9 h10
              refine calls_hide fun Q HQ => ?_
              go_enter Tryz.func58, Tryz.ntmps58
              go_upto_region 1 with ((with_reducible refine arm_box 1 0 26 cv ?_ ?_); rfl; intro w1 HB HX HS)
              have c0 := HV.out.cell HX.out 0 (by decide)
              have c1 := HV.out.cell HX.out 1 (by decide)
              have c8 := HV.out.cell HX.out 8 (by decide)
              have c11 := HV.out.cell HX.out 11 (by decide)
              have c9 := HV.out.cell HX.out 9 (by decide)
              have c10 := HV.out.cell HX.out 10 (by decide)
              have c12 := HV.out.cell HX.out 12 (by decide)
              have hld := cfg_load HX.out HV.out
              clear HS HV
              go_wp2_with fail
              refine (C0.out _).mono ?_
              rintro e w2 ⟨rfl, rfl⟩
              go_wp2_with fail
              refine (C1.out _).mono ?_
              rintro e w3 ⟨rfl, rfl⟩
              go_wp2_with fail
              refine (C8.out _).mono ?_
              rintro e w4 ⟨rfl, rfl⟩
              go_wp2_with fail
              refine (C11.out _).mono ?_
              rintro e w5 ⟨rfl, rfl⟩
              go_wp2_with fail
              refine (C9.out _).mono ?_
              rintro e w6 ⟨rfl, rfl⟩
              go_wp2_with fail
              refine (C10.out _).mono ?_
              rintro e w7 ⟨rfl, rfl⟩
              go_wp2
              exact HQ.out _ _ ⟨rfl, HB.out⟩
          · have C9 := Lib.hid (fun w' => in_no (c 9) 0 1073741824 w' h9)
            clear CP hr h0 h1 h8 h11 h9
            refine calls_hide fun Q HQ => ?_
            go_enter Tryz.func58, Tryz.ntmps58
            go_upto_region 1 with ((with_reducible refine arm_box 1 0 26 cv ?_ ?_); rfl; intro w1 HB HX HS)
            have c0 := HV.out.cell HX.out 0 (by decide)
            have c1 := HV.out.cell HX.out 1 (by decide)
            have c8 := HV.out.cell HX.out 8 (by decide)
            have c11 := HV.out.cell HX.out 11 (by decide)
            have c9 := HV.out.cell HX.out 9 (by decide)
            have c10 := HV.out.cell HX.out 10 (by decide)
            have c12 := HV.out.cell HX.out 12 (by decide)
            have hld := cfg_load HX.out HV.out
            clear HS HV
            go_wp2_with fail
            refine (C0.out _).mono ?_
            rintro e w2 ⟨rfl, rfl⟩
            go_wp2_with fail
            refine (C1.out _).mono ?_
            rintro e w3 ⟨rfl, rfl⟩
            go_wp2_with fail
            refine (C8.out _).mono ?_
            rintro e w4 ⟨rfl, rfl⟩
            go_wp2_with fail
            refine (C11.out _).mono ?_
            rintro e w5 ⟨rfl, rfl⟩
            go_wp2_with fail
            refine (C9.out _).mono ?_
            rintro e w6 ⟨rfl, rfl⟩
            go_wp2
            exact HQ.out _ _ ⟨rfl, HB.out⟩
        · have C11 := Lib.hid (fun w' => in_no (c 11) 1 1000000 w' h11)
          clear CP hr h0 h1 h8 h11
          refine calls_hide fun Q HQ => ?_
          go_enter Tryz.func58, Tryz.ntmps58
          go_upto_region 1 with ((with_reducible refine arm_box 1 0 26 cv ?_ ?_); rfl; intro w1 HB HX HS)
          have c0 := HV.out.cell HX.out 0 (by decide)
          have c1 := HV.out.cell HX.out 1 (by decide)
          have c8 := HV.out.cell HX.out 8 (by decide)
          have c11 := HV.out.cell HX.out 11 (by decide)
          have c9 := HV.out.cell HX.out 9 (by decide)
          have c10 := HV.out.cell HX.out 10 (by decide)
          have c12 := HV.out.cell HX.out 12 (by decide)
          have hld := cfg_load HX.out HV.out
          clear HS HV
          go_wp2_with fail
          refine (C0.out _).mono ?_
          rintro e w2 ⟨rfl, rfl⟩
          go_wp2_with fail
          refine (C1.out _).mono ?_
          rintro e w3 ⟨rfl, rfl⟩
          go_wp2_with fail
          refine (C8.out _).mono ?_
          rintro e w4 ⟨rfl, rfl⟩
          go_wp2_with fail
          refine (C11.out _).mono ?_
          rintro e w5 ⟨rfl, rfl⟩
          go_wp2
          exact HQ.out _ _ ⟨rfl, HB.out⟩
      · have C8 := Lib.hid (fun w' => in_no (c 8) 9216 1073741824 w' h8)
        clear CP hr h0 h1 h8
        refine calls_hide fun Q HQ => ?_
        go_enter Tryz.func58, Tryz.ntmps58
        go_upto_region 1 with ((with_reducible refine arm_box 1 0 26 cv ?_ ?_); rfl; intro w1 HB HX HS)
        have c0 := HV.out.cell HX.out 0 (by decide)
        have c1 := HV.out.cell HX.out 1 (by decide)
        have c8 := HV.out.cell HX.out 8 (by decide)
        have c11 := HV.out.cell HX.out 11 (by decide)
        have c9 := HV.out.cell HX.out 9 (by decide)
        have c10 := HV.out.cell HX.out 10 (by decide)
        have c12 := HV.out.cell HX.out 12 (by decide)
        have hld := cfg_load HX.out HV.out
        clear HS HV
        go_wp2_with fail
        refine (C0.out _).mono ?_
        rintro e w2 ⟨rfl, rfl⟩
        go_wp2_with fail
        refine (C1.out _).mono ?_
        rintro e w3 ⟨rfl, rfl⟩
        go_wp2_with fail
        refine (C8.out _).mono ?_
        rintro e w4 ⟨rfl, rfl⟩
        go_wp2
        exact HQ.out _ _ ⟨rfl, HB.out⟩
    · have C1 := Lib.hid (fun w' => in_no (c 1) 1 4096 w' h1)
      clear CP hr h0 h1
      refine calls_hide fun Q HQ => ?_
      go_enter Tryz.func58, Tryz.ntmps58
      go_upto_region 1 with ((with_reducible refine arm_box 1 0 26 cv ?_ ?_); rfl; intro w1 HB HX HS)
      have c0 := HV.out.cell HX.out 0 (by decide)
      have c1 := HV.out.cell HX.out 1 (by decide)
      have c8 := HV.out.cell HX.out 8 (by decide)
      have c11 := HV.out.cell HX.out 11 (by decide)
      have c9 := HV.out.cell HX.out 9 (by decide)
      have c10 := HV.out.cell HX.out 10 (by decide)
      have c12 := HV.out.cell HX.out 12 (by decide)
      have hld := cfg_load HX.out HV.out
      clear HS HV
      go_wp2_with fail
      refine (C0.out _).mono ?_
      rintro e w2 ⟨rfl, rfl⟩
      go_wp2_with fail
      refine (C1.out _).mono ?_
      rintro e w3 ⟨rfl, rfl⟩
      go_wp2
      exact HQ.out _ _ ⟨rfl, HB.out⟩
  · have C0 := Lib.hid (fun w' => in_no (c 0) 1 64 w' h0)
    clear CP hr h0
    refine calls_hide fun Q HQ => ?_
    go_enter Tryz.func58, Tryz.ntmps58
    go_upto_region 1 with ((with_reducible refine arm_box 1 0 26 cv ?_ ?_); rfl; intro w1 HB HX HS)
    have c0 := HV.out.cell HX.out 0 (by decide)
    have c1 := HV.out.cell HX.out 1 (by decide)
    have c8 := HV.out.cell HX.out 8 (by decide)
    have c11 := HV.out.cell HX.out 11 (by decide)
    have c9 := HV.out.cell HX.out 9 (by decide)
    have c10 := HV.out.cell HX.out 10 (by decide)
    have c12 := HV.out.cell HX.out 12 (by decide)
    have hld := cfg_load HX.out HV.out
    clear HS HV
    go_wp2_with fail
    refine (C0.out _).mono ?_
    rintro e w2 ⟨rfl, rfl⟩
    go_wp2
    exact HQ.out _ _ ⟨rfl, HB.out⟩
set_option maxRecDepth 100000 in
theorem police_no (cv kv : Array Value) (c : Nat → Int) (w : World) (hv : Cfg cv c) (hr : ¬ RightC c) :
    Calls Tryz.prog 35 #[.agg cv, .agg kv] w fun e w' => e = .returned (.tuple #[.pointer none, .int .i64 5]) ∧ Below w.heap.size w w' := by
  have C := Lib.hid (fun w' => right_no cv c w' hv hr)
  have HV := Lib.hid hv
  clear hv hr
  go_enter Tryz.func35, Tryz.ntmps35
  go_upto_region 1 with (first | ((with_reducible refine arm_box 2 0 26 cv ?_ ?_); rfl; intro w1 HB HX HS) | ((with_reducible refine arm_box 3 1 22 kv ?_ ?_); rfl; intro w2 HB2 HX2 HS2))
  have HB3 := Lib.hid (HB.out.trans (HB2.out.mono HB.out.size))
  have hld := cfg_load (keep_block HB2.out HX.out) HV.out
  clear HB HB2 HX2 HX HS HS2
  go_wp2_with ((with_reducible refine arm_load 9 2 26 (.pointer (some ⟨w.heap.size, 0, none⟩)) (.agg cv) hld ?_ ?_); rfl)
  refine (C.out _).mono ?_
  rintro e w3 ⟨rfl, hB⟩
  have HB4 := Lib.hid (HB3.out.trans (hB.mono HB3.out.size))
  clear hB hld
  go_wp2
  go_ret2
  exact ⟨rfl, HB4.out⟩
set_option maxRecDepth 100000 in
theorem sched_no (cv kv : Array Value) (c : Nat → Int) (w : World) (hv : Cfg cv c) (hk : kv.size = 16) (hr : ¬ RightC c) :
    Calls Tryz.prog 17 #[.agg cv, .agg kv] w fun e w' => e = .returned (.tuple #[.pointer none, .int .i64 5]) ∧ Below w.heap.size w w' := by
  have C := Lib.hid (fun w' => police_no cv kv c w' hv hr)
  have HV := Lib.hid hv
  have HK := Lib.hid hk
  clear hv hr hk
  go_enter Tryz.func17, Tryz.ntmps17
  go_upto_region 1 with (first | ((with_reducible refine arm_box 2 0 26 cv ?_ ?_); rfl; intro w1 HB HX HS) | ((with_reducible refine arm_box 3 1 22 kv ?_ ?_); rfl; intro w2 HB2 HX2 HS2))
  have HB3 := Lib.hid (HB.out.trans (HB2.out.mono HB.out.size))
  have hld := cfg_load (keep_block HB2.out HX.out) HV.out
  have hlk := keys_load HK.out HX2.out
  clear HB HB2 HX2 HX HS HS2
  generalize w1.heap.size = kb at *
  go_wp2_with (first | ((with_reducible refine arm_load 11 2 26 (.pointer (some ⟨w.heap.size, 0, none⟩)) (.agg cv) hld ?_ ?_); rfl) | ((with_reducible refine arm_load 12 3 22 (.pointer (some ⟨kb, 0, none⟩)) (.agg kv) hlk ?_ ?_); rfl))
  refine (C.out _).mono ?_
  rintro e w3 ⟨rfl, hB⟩
  have HB4 := Lib.hid (HB3.out.trans (hB.mono HB3.out.size))
  clear hB hld hlk
  go_wp2
  go_ret2
  exact ⟨rfl, HB4.out⟩
set_option maxRecDepth 100000 in
theorem engine_no (cv kv : Array Value) (c : Nat → Int) (w : World) (hv : Cfg cv c) (hk : kv.size = 16) (hr : ¬ RightC c) :
    Calls Tryz.prog 9 #[.agg cv, .agg kv] w fun e w' => e = .returned (.tuple #[.pointer none, .int .i64 5]) ∧ Below w.heap.size w w' := by
  have C := Lib.hid (fun w' => sched_no cv kv c w' hv hk hr)
  have HV := Lib.hid hv
  have HK := Lib.hid hk
  clear hv hr hk
  go_enter Tryz.func9, Tryz.ntmps9
  go_upto_region 1 with (first | ((with_reducible refine arm_box 2 0 26 cv ?_ ?_); rfl; intro w1 HB HX HS) | ((with_reducible refine arm_box 3 1 22 kv ?_ ?_); rfl; intro w2 HB2 HX2 HS2))
  have HB3 := Lib.hid (HB.out.trans (HB2.out.mono HB.out.size))
  have hld := cfg_load (keep_block HB2.out HX.out) HV.out
  have hlk := keys_load HK.out HX2.out
  clear HB HB2 HX2 HX HS HS2
  generalize w1.heap.size = kb at *
  go_wp2_with (first | ((with_reducible refine arm_load 9 2 26 (.pointer (some ⟨w.heap.size, 0, none⟩)) (.agg cv) hld ?_ ?_); rfl) | ((with_reducible refine arm_load 10 3 22 (.pointer (some ⟨kb, 0, none⟩)) (.agg kv) hlk ?_ ?_); rfl))
  refine (C.out _).mono ?_
  rintro e w3 ⟨rfl, hB⟩
  have HB4 := Lib.hid (HB3.out.trans (hB.mono HB3.out.size))
  clear hB hld hlk
  go_wp2
  go_ret2
  exact ⟨rfl, HB4.out⟩
end Go.Proofs.YtpanmfdbdgecaaaGreat.C
