/- The law TopFull: a packet arrives, whoever sends it. · The law TopFull: Arrive, whoever sends. · The engine of TopFull. · little and awake. · The law TopFull: its config, its inputs, its beginning. -/
import Derived.Test.YtpanmfdbdgecaaaGreatP19
namespace Go.Proofs.YtpanmfdbdgecaaaGreat.C
open Go.RowKit
set_option linter.unusedVariables false
/-- The tokens behind so many packets. -/
def Tks (S : PSt) (k : Nat) : Prop := ∀ (i : Nat) (x : Plc) (tb : Nat), S.xl[i]? = some x → x.tok = some tb → ∃ lv, S.tk tb = some (lv, 0) ∧ (1048576 - 60 * (k : Int)) * 1048576 ≤ lv ∧ lv ≤ 1048576 * 1048576
/-- Behind so many packets, when these are in the box. -/
structure FS (F : PCf) (room : Nat) (k : Nat) (ins : List Nat) (S : PSt) : Prop where
  j : ∃ l0 l2, JF S l0 l2 ∧ l0.length + l2.length = k
  b0 : ∃ b, S.b0 = [b] ∧ BinOk b ∧ b.p = 0
  wl : Skt S.wl k
  wn : S.wn = 0
  arr : S.arr = (k : Int)
  tab : Tab room S.xl ins 1099511627776
  xn : S.xn = (ins.length : Nat)
  tk : Tks S k
theorem Tks.up {S : PSt} {k : Nat} (h : Tks S k) : Tks S (k + 1) := fun i x tb h1 h2 => by
  obtain ⟨lv, a, b, c⟩ := h i x tb h1 h2
  exact ⟨lv, a, by omega, c⟩
section
variable {F : PCf} {room : Nat} {K FK : Nat → Nat} {S : PSt} {l0 l2 : List (Array Value)} {k : Nat} {ins : List Nat}
theorem JF.push0 (h : JF S l0 l2) (hF : FullF F room K) (hk : l0.length + l2.length ≤ 40) {x : Array Value} (hx : PkL x 60) (b : Bin) : JF (freeS F S x 60 0 0 0 l0 b) (l0 ++ [x]) l2 := by
  refine ⟨?_, ?_, (h.add0 hF hk).1, ?_, (wakeT_len _ _ _).trans h.tl, wake_count _ _ _ h.ln⟩
  · show S.L.set 0 _ = _
    rw [h.L]
    rfl
  · intro z hz
    rcases List.mem_append.1 hz with hz | hz
    · exact h.p0 z hz
    · rw [List.mem_singleton.1 hz]
      exact hx
  · show QU.addL _ _ _ _ _ _ = _
    rw [(h.add0 hF hk).2, List.length_append]
    rfl
/-- What the police has when a packet has joined the penalty class. -/
def join2S (F : PCf) (S : PSt) (x : Array Value) (l2 : List (Array Value)) : PSt :=
  { S with L := S.L.set 2 (l2 ++ [x]), sh := QU.addS (F.c 9) (F.c 10) S.sh S.ql (2 : Nat) 60, ql := QU.addL (F.c 9) (F.c 10) S.sh S.ql (2 : Nat) 60, b0 := S.b0, b1 := S.b1, tl := (wakeT S.tl S.line 2).1, line := (wakeT S.tl S.line 2).2 }
theorem JF.push2 (h : JF S l0 l2) (hF : FullF F room K) (hk : l0.length + l2.length ≤ 40) (x : Array Value) : JF (join2S F S x l2) l0 (l2 ++ [x]) := by
  refine ⟨?_, h.p0, (h.add2 hF hk).1, ?_, (wakeT_len _ _ _).trans h.tl, wake_count _ _ _ h.ln⟩
  · show S.L.set 2 _ = _
    rw [h.L]
    rfl
  · show QU.addL _ _ _ _ _ _ = _
    rw [(h.add2 hF hk).2, List.length_append]
    rfl
theorem JF.tot (h : JF S l0 l2) : total S.L = l0.length + l2.length := by
  rw [h.L]
  simp [total]
theorem JF.turn (h : JF S l0 l2) {c : Nat} (hc : c < 3) : ∃ y, S.tl[c]? = some y ∧ (y.awake = false → S.line.length < S.tl.length) := by
  have hl : c < S.tl.length := by rw [h.tl]; exact hc
  exact ⟨S.tl[c], List.getElem?_eq_getElem hl, wake_room h.ln (List.getElem?_eq_getElem hl)⟩
theorem full_join (h : JF S l0 l2) (hF : FullF F room K) (hk : l0.length + l2.length ≤ 40) {x : Array Value} (hx : PkL x 60) (A : PAd) (w : World) (hP : Pol w A F S) :
    Calls Tryz.prog 74 #[.pointer (some ⟨A.pb, 0, none⟩), .int .i64 (2 * F.c 0), .agg x] w fun e w' => e = .returned (.int .i64 0) ∧ Pol w' A F (join2S F S x l2) ∧ Tur A.tg [3, 4, 5, 6, 7] w w' := by
  obtain ⟨y, hy, hy2⟩ := h.turn (c := 2) (by decide)
  have hpc : (2 * F.c 0 : Int) = ((2 : Nat) : Int) := by rw [hF.c0]; rfl
  rw [hpc]
  refine join_yes 2 60 x l2 y S.b0 S.b1 hx hP (h.qok hF hk) (by rw [h.L]; rfl) (by rw [h.tl]; decide) (by decide) (h.fits hF hk).2 (by rw [h.tot, hF.c1]; show _ < 60; omega) hy hy2 (fun w2 S2 q2 e0 e1 => ?_)
  have hc := count_pen x hx.pk q2 true
  rw [hpc] at hc
  refine hc.mono ?_
  rintro e w3 ⟨rfl, hB⟩
  refine ⟨rfl, ?_, Tur.of_below hB⟩
  have := q2.below hB
  rw [← e0, ← e1]
  exact this
theorem gets_tok {l : List Plc} {b tb : Nat} {til : Int} (h : Gets l 10 1 b til (some ⟨tb, 0, none⟩) true) : ∃ (i : Nat) (x : Plc), l[i]? = some x ∧ x.tok = some tb := by
  rcases h.is with ⟨h0, _⟩ | ⟨_, i, x, h1, h2, h3, h4⟩
  · cases h0
  · refine ⟨i, x, h2, ?_⟩
    unfold tokV at h4
    cases hx : x.tok with
    | none => rw [hx] at h4; simp at h4
    | some t => rw [hx] at h4; simp at h4; rw [h4]
theorem full_boxed (h : JF S l0 l2) (hF : FullF F room K) (hk : l0.length + l2.length ≤ 40) (hk2 : k ≤ 40) (hT : Tab room S.xl ins 1099511627776) (ht : Tks S k) {b : Nat} (hb : b ∈ ins) {x : Array Value} (hx : PkP x 60 (pfx 10 1 b)) :
    ∃ S', JF S' l0 (l2 ++ [x]) ∧ (S'.wl = S.wl ∧ S'.wn = S.wn ∧ S'.arr = S.arr ∧ S'.b0 = S.b0 ∧ S'.xl = S.xl ∧ S'.xn = S.xn) ∧ Tks S' (k + 1) ∧ ∀ (A : PAd) (w : World), Pol w A F S → Calls Tryz.prog 41 #[.pointer (some ⟨A.pb, 0, none⟩), .agg x, .int .i64 0] w fun e w' => e = .returned (.int .i64 0) ∧ Pol w' A F S' ∧ Tur A.tg [3, 4, 5, 6, 7, 9] w w' := by
  obtain ⟨tb, hg⟩ := hT.get hb
  obtain ⟨i, z, hz1, hz2⟩ := gets_tok hg
  obtain ⟨lv, ht1, ht2, ht3⟩ := ht i z tb hz1 hz2
  have hlen := hT.len8
  have hst : Stays S.xl 0 := hT.stays (by decide)
  have hlv : 60 * 1048576 ≤ lv := by omega
  have htake : takesT (levelT (F.c 18) (F.c 19 * 1048576) lv 0 0) 60 = true := by
    have e : levelT (F.c 18) (F.c 19 * 1048576) lv 0 0 = lv := if_pos (Int.le_refl _)
    rw [e]
    unfold takesT
    exact decide_eq_true ⟨by decide, by decide, hlv⟩
  have hle : levelT (F.c 18) (F.c 19 * 1048576) lv 0 0 = lv := if_pos (Int.le_refl _)
  have hJ2 : JF { S with xl := S.xl, xn := S.xn, tk := upT S.tk tb (lv - 60 * 1048576, 0) } l0 l2 := ⟨h.L, h.p0, h.sh, h.ql, h.tl, h.ln⟩
  refine ⟨join2S F { S with xl := S.xl, xn := S.xn, tk := upT S.tk tb (lv - 60 * 1048576, 0) } x l2, hJ2.push2 hF hk x, ⟨rfl, rfl, rfl, rfl, rfl, rfl⟩, ?_, fun A w hP => ?_⟩
  · intro i' x' tb' h1 h2
    show ∃ lv', upT S.tk tb (lv - 60 * 1048576, 0) tb' = some (lv', 0) ∧ _
    unfold upT
    by_cases he : tb' = tb
    · rw [if_pos he]
      exact ⟨_, rfl, by omega, by omega⟩
    · rw [if_neg he]
      obtain ⟨lv', a, b, c⟩ := ht i' x' tb' h1 h2
      exact ⟨lv', a, by omega, c⟩
  · refine (boxed_yes 60 0 0 x (pfx 10 1 b) hx rfl hP ⟨by decide, by decide⟩ (S1 := { S with xl := S.xl, xn := S.xn, tk := upT S.tk tb (lv - 60 * 1048576, 0) }) (S2 := join2S F { S with xl := S.xl, xn := S.xn, tk := upT S.tk tb (lv - 60 * 1048576, 0) } x l2) (fun w1 q1 => ?_) (fun w1 q1 => full_join hJ2 hF hk hx.l A w1 q1)).mono ?_
    · have htb := q1.tk tb (lv, 0) ht1
      have hmo : (0 : Int) ≤ F.c 19 * 1048576 ∧ F.c 19 * 1048576 ≤ 1125899906842624 := by rw [hF.c19]; decide
      refine (box_take A.xb A.xt A.xr (F.c 7).toNat S.xl S.xl S.xn S.xn (F.c 17) (F.c 18) (F.c 19) 0 1099511627776 tb (F.c 18) (F.c 19 * 1048576) lv 0 60 10 1 b w1 q1.bx (sweeps_many hlen.1 hlen.2 hst (by decide)) hg htb.1 (by decide) (by decide) ⟨by omega, by omega⟩ hmo).mono ?_
      rintro e w2 ⟨rfl, g1, g2, g3⟩
      rw [htake]
      rw [htake, if_pos rfl, ite_self, hle] at g2
      have r := q1.take (v := (lv - 60 * 1048576, 0)) ht1 g3 g1 g2
      exact ⟨rfl, r.1, r.2⟩
    · rintro e w' ⟨rfl, h1, h2⟩
      exact ⟨rfl, h1, h2⟩
theorem full_wadd (hW : Skt S.wl k) (hn : S.wn = 0) (hF : FullF F room K) (hk : k < 64) {b : Nat} (hb : b < 256) :
    ∃ (wl : List Slt) (wt : Int), Skt wl (k + 1) ∧ ∀ (A : PAd) (w : World) (ar : Int), Pol w A F { S with arr := ar } → Calls Tryz.prog 37 #[.pointer (some ⟨A.wb, 0, none⟩), .int .i64 0, .agg (pfx 10 1 b), .int .i64 60] w fun e w' => e = .returned (.bool true) ∧ Pol w' A F { S with arr := ar, wl := wl, wt := wt, wn := S.wn } ∧ Tur A.tg [8] w w' := by
  have h6 : (F.c 6).toNat = 64 := by rw [hF.c6]; rfl
  obtain ⟨y, wl2, a1, a2, a3, a4, a5, a6⟩ := hW.add (room := 64) hb hk (Nat.le_refl _) (n := 60) (by decide)
  refine ⟨wl2, addC S.wt 60, a1, fun A w ar q => ?_⟩
  have had := a6 A.ws A.wr S.wt
  rw [← h6] at had
  refine (window_add A.wb A.ws A.wr (F.c 6).toNat S.wl S.wl wl2 S.wt S.wt (addC S.wt 60) (F.c 15) (F.c 16) S.wn S.wn 0 60 y (pfx 10 1 b) w q.wi rfl (pfx_all _ _ _) (by rw [hF.c15]; decide) (by decide) (.inr ⟨by rw [hn, Int.zero_ediv]; exact Int.le_refl _, rfl, rfl, rfl⟩) had a2 ⟨by omega, by omega⟩).mono ?_
  rintro e w'' ⟨rfl, h1, h2⟩
  have t : Tur A.tg [8] w w'' := Tur.of_amg h2 (fun k hk => by
    simp only [List.mem_cons, List.not_mem_nil, or_false] at hk
    rcases hk with rfl | rfl | rfl
    · simp [q.ok.w.1]
    · simp [q.ok.w.2.1]
    · simp [q.ok.w.2.2])
  refine ⟨?_, (q.rest t).setW h1, t⟩
  rw [decide_eq_true (by rw [hF.c16]; omega)]
end
end Go.Proofs.YtpanmfdbdgecaaaGreat.C

namespace Go.Proofs.YtpanmfdbdgecaaaGreat.C
open Go.RowKit
set_option linter.unusedVariables false
/-- The class, what is told, and who is in the box then. -/
def rCl (room : Nat) (ins : List Nat) (b : Nat) : Int := if b ∈ ins ∨ ins.length < room then 2 else 0
def rBo (room : Nat) (ins : List Nat) (b : Nat) : Bool := decide (b ∉ ins ∧ ins.length < room)
def rBf (room : Nat) (ins : List Nat) (b : Nat) : Bool := decide (b ∉ ins ∧ ¬ ins.length < room)
def nxtI (room : Nat) (ins : List Nat) (b : Nat) : List Nat := if b ∉ ins ∧ ins.length < room then ins ++ [b] else ins
section
variable {F : PCf} {room : Nat} {K FK : Nat → Nat} {S : PSt} {k : Nat} {ins : List Nat}
theorem full_in {b : Nat} {x fl : Array Value} (hS : FS F room k ins S) (hF : FullF F room K) (hk : k < 30) (hb : b < 256) (hx : PkP x 60 (pfx 10 1 b)) (hin : b ∈ ins) (A : PAd) (w : World) (dr : Array Value) (hP : Pol w A F S) :
    Calls Tryz.prog 20 #[.pointer (some ⟨A.pb, 0, none⟩), .agg x, .int .i64 0, .agg dr] w fun e w' => ∃ A' S', e = .returned (.agg #[.int .i64 (k : Nat), .int .i64 0, .int .i64 2, .int .i64 (-1), .bool false, .bool false]) ∧ Pol w' A' F S' ∧ FS F room (k + 1) ins S' ∧ Tur A.tg [1, 3, 4, 5, 6, 7, 8, 9] w w' ∧ A'.pb = A.pb ∧ ∀ j, j < w.heap.size → A'.tg j = A.tg j := by
  obtain ⟨l0, l2, hJ, hll⟩ := hS.j
  obtain ⟨wl, wt, hw1, hw2⟩ := full_wadd hS.wl hS.wn hF (by omega) hb
  obtain ⟨tb, hg⟩ := hS.tab.get hin
  have hlen := hS.tab.len8
  have hst : Stays S.xl 0 := hS.tab.stays (by decide)
  have hc2 : (2 * F.c 0 : Int) = 2 := by rw [hF.c0]; rfl
  obtain ⟨S', j1, ⟨j2, j3, j4, j5, j6, j7⟩, j8, j9⟩ := full_boxed (S := { S with arr := S.arr + 1, wl := wl, wt := wt, wn := S.wn }) (k := k) (b := b) (x := seqX x S.arr) ⟨hJ.L, hJ.p0, hJ.sh, hJ.ql, hJ.tl, hJ.ln⟩ hF (by omega) (by omega) hS.tab hS.tk hin (hx.seq _)
  have hi : ∀ w', Pol w' A F { S with arr := S.arr + 1, wl := wl, wt := wt, wn := S.wn } → Calls Tryz.prog 38 #[.pointer (some ⟨A.xb, 0, none⟩), .agg (pfx 10 1 b), .int .i64 0] w' fun e w'' => e = .returned (.bool true) ∧ Pol w'' A F { S with arr := S.arr + 1, wl := wl, wt := wt, wn := S.wn } ∧ Tur A.tg [9] w' w'' := fun w' q => by
    refine (box_in A.xb A.xt A.xr (F.c 7).toNat S.xl S.xl S.xn S.xn (F.c 17) (F.c 18) (F.c 19) 0 1099511627776 (some ⟨tb, 0, none⟩) true 10 1 b w' q.bx (sweeps_many hlen.1 hlen.2 hst (by decide)) hg).mono ?_
    rintro e w'' ⟨rfl, h1, h2⟩
    have r := q.box h2 h1
    exact ⟨rfl, r.1, r.2⟩
  refine (arrive_in (F := F) (A := A) (S := S) (S1 := { S with arr := S.arr + 1, wl := wl, wt := wt, wn := S.wn }) (S2 := { S with arr := S.arr + 1, wl := wl, wt := wt, wn := S.wn }) (S3 := { S with arr := S.arr + 1, wl := wl, wt := wt, wn := S.wn }) (S4 := S') 60 0 0 x (pfx 10 1 b) dr hx rfl ⟨by decide, by decide⟩ hP ⟨by decide, by decide⟩ (by rw [hS.arr]; omega) (fun w' q => hw2 A w' (S.arr + 1) q) hi hi (fun w' q => j9 A w' q)).mono ?_
  rintro e w' ⟨rfl, h1, h2⟩
  refine ⟨A, S', ?_, h1, ⟨⟨_, _, j1, by rw [List.length_append]; show l0.length + (l2.length + 1) = _; omega⟩, by rw [j5]; exact hS.b0, by rw [j2]; exact hw1, by rw [j3]; exact hS.wn, ?_, by rw [j6]; exact hS.tab, by rw [j7]; exact hS.xn, j8⟩, h2, rfl, fun j hj => rfl⟩
  · rw [if_pos rfl, hc2, hS.arr]
  · rw [j4]
    show S.arr + 1 = _
    rw [hS.arr]
    omega
set_option maxHeartbeats 1000000 in
theorem full_new {b : Nat} {x fl : Array Value} (hS : FS F room k ins S) (hF : FullF F room K) (hk : k < 30) (hb : b < 256) (hx : PkP x 60 (pfx 10 1 b)) (hin : b ∉ ins) (hlt : ins.length < room) (A : PAd) (w : World) (dr : Array Value) (hP : Pol w A F S) :
    Calls Tryz.prog 20 #[.pointer (some ⟨A.pb, 0, none⟩), .agg x, .int .i64 0, .agg dr] w fun e w' => ∃ A' S', e = .returned (.agg #[.int .i64 (k : Nat), .int .i64 0, .int .i64 2, .int .i64 (-1), .bool true, .bool false]) ∧ Pol w' A' F S' ∧ FS F room (k + 1) (ins ++ [b]) S' ∧ Tur A.tg [1, 3, 4, 5, 6, 7, 8, 9] w w' ∧ A'.pb = A.pb ∧ ∀ j, j < w.heap.size → A'.tg j = A.tg j := by
  obtain ⟨l0, l2, hJ, hll⟩ := hS.j
  obtain ⟨wl, wt, hw1, hw2⟩ := full_wadd hS.wl hS.wn hF (by omega) hb
  obtain ⟨d, hd, hat, hy0, hocc, hg⟩ := hS.tab.miss hin hb
  have hlen := hS.tab.len8
  have hst : Stays S.xl 0 := hS.tab.stays (by decide)
  have hc2 : (2 * F.c 0 : Int) = 2 := by rw [hF.c0]; rfl
  have h7 : (F.c 7).toNat = room := by rw [hF.c7]; rfl
  have hadd : addC 0 (F.c 17) = 1099511627776 := by rw [hF.c17]; rfl
  have hT2 := fun tb : Nat => hS.tab.put (tb := tb) hin hb hd hy0 hocc hlt
  have hxn : S.xn + 1 = ((ins ++ [b]).length : Nat) := by rw [hS.xn, List.length_append]; rfl
  obtain ⟨s, hs⟩ : ∃ s, (frm room b + d) % (2 * room) = s := ⟨_, rfl⟩
  rw [hs] at hat hT2
  have hsl : s < S.xl.length := by rw [hS.tab.len, ← hs]; exact Nat.mod_lt _ (by omega)
  have hbo := fun tb : Nat => full_boxed (S := { S with arr := S.arr + 1, wl := wl, wt := wt, wn := S.wn, xl := S.xl.set s ⟨1, pfx 10 1 b, 1099511627776, some tb⟩, xn := S.xn + 1, tk := upT S.tk tb (F.c 19 * 1048576, 0) }) (k := k) (ins := ins ++ [b]) (b := b) (x := seqX x S.arr) ⟨hJ.L, hJ.p0, hJ.sh, hJ.ql, hJ.tl, hJ.ln⟩ hF (by omega) (by omega) (hT2 tb) (by
    intro i' x' tb' h1 h2
    show ∃ lv', upT S.tk tb (F.c 19 * 1048576, 0) tb' = some (lv', 0) ∧ _
    unfold upT
    by_cases he : tb' = tb
    · rw [if_pos he, hF.c19]
      exact ⟨_, rfl, by omega, by omega⟩
    · rw [if_neg he]
      by_cases hi : s = i'
      · subst hi
        have h1 : (S.xl.set s ⟨1, pfx 10 1 b, 1099511627776, some tb⟩)[s]? = some x' := h1
        rw [List.getElem?_set_self hsl] at h1
        injection h1 with h1
        subst h1
        injection h2 with h2
        exact absurd h2.symm he
      · have h1 : (S.xl.set s ⟨1, pfx 10 1 b, 1099511627776, some tb⟩)[i']? = some x' := h1
        rw [List.getElem?_set_ne hi] at h1
        exact hS.tk i' x' tb' h1 h2) (by simp) (hx.seq _)
  refine (arrive_put (F := F) (A := A) (S := S) (S1 := { S with arr := S.arr + 1, wl := wl, wt := wt, wn := S.wn }) (S2 := { S with arr := S.arr + 1, wl := wl, wt := wt, wn := S.wn }) 60 0 0 x (pfx 10 1 b) dr (fun tb => { S with arr := S.arr + 1, wl := wl, wt := wt, wn := S.wn, xl := S.xl.set s ⟨1, pfx 10 1 b, 1099511627776, some tb⟩, xn := S.xn + 1, tk := upT S.tk tb (F.c 19 * 1048576, 0) }) (fun tb => { S with arr := S.arr + 1, wl := wl, wt := wt, wn := S.wn, xl := S.xl.set s ⟨1, pfx 10 1 b, 1099511627776, some tb⟩, xn := S.xn + 1, tk := upT S.tk tb (F.c 19 * 1048576, 0) }) (fun tb => (hbo tb).choose) hx rfl ⟨by decide, by decide⟩ hP ⟨by decide, by decide⟩ (by rw [hS.arr]; omega) (fun w' q => hw2 A w' (S.arr + 1) q) ?in_ ?pu ?i2 ?bo).mono ?_
  case in_ =>
    intro w' q
    refine (box_in A.xb A.xt A.xr (F.c 7).toNat S.xl S.xl S.xn S.xn (F.c 17) (F.c 18) (F.c 19) 0 0 none false 10 1 b w' q.bx (sweeps_many hlen.1 hlen.2 hst (by decide)) hg).mono ?_
    rintro e w'' ⟨rfl, h1, h2⟩
    have r := q.box h2 h1
    exact ⟨rfl, r.1, r.2⟩
  case pu =>
    intro w' q
    refine (box_put A.xb A.xt A.xr (F.c 7).toNat S.xl S.xl S.xn S.xn (F.c 17) (F.c 18) (F.c 19) 0 s 10 1 b w' q.bx (sweeps_many hlen.1 hlen.2 hst (by decide)) hg hat hsl ⟨by rw [hS.xn]; omega, by rw [hS.xn, h7]; omega⟩ hP.fok.right.rate hP.fok.right.burst ⟨by decide, by decide⟩).mono ?_
    rintro e w'' ⟨tb, rfl, hge, h1, h2, h3⟩
    rw [hadd] at h1
    have r := q.put (v := (F.c 19 * 1048576, 0)) h3 h1 hge h2
    exact ⟨rfl, tb, _, hge, r.1, r.2⟩
  case i2 =>
    intro w' tb lim q
    obtain ⟨tb', hg'⟩ := (hT2 tb).get (b := b) (by simp)
    have hlen' := (hT2 tb).len8
    refine (box_in A.xb A.xt A.xr (F.c 7).toNat _ _ (S.xn + 1) (S.xn + 1) (F.c 17) (F.c 18) (F.c 19) 0 1099511627776 (some ⟨tb', 0, none⟩) true 10 1 b w' q.bx (sweeps_many hlen'.1 hlen'.2 ((hT2 tb).stays (by decide)) (by decide)) hg').mono ?_
    rintro e w'' ⟨rfl, h1, h2⟩
    have r := q.box h2 h1
    exact ⟨rfl, r.1, r.2⟩
  case bo =>
    intro w' tb lim q
    obtain ⟨b1, b2, b3, b4⟩ := (hbo tb).choose_spec
    exact b4 (A.more tb lim) w' q
  · rintro e w' ⟨tb, lim, rfl, h1, h2, h3⟩
    obtain ⟨j1, ⟨j2, j3, j4, j5, j6, j7⟩, j8, _⟩ := (hbo tb).choose_spec
    refine ⟨_, _, ?_, h1, ⟨⟨_, _, j1, by rw [List.length_append]; show l0.length + (l2.length + 1) = _; omega⟩, by rw [j5]; exact hS.b0, by rw [j2]; exact hw1, by rw [j3]; exact hS.wn, ?_, by rw [j6]; exact hT2 tb, by rw [j7]; exact hxn, j8⟩, h2, rfl, fun j hj => PAd.more_tg (by omega)⟩
    · rw [if_pos rfl, hc2, hS.arr]
    · rw [j4]
      show S.arr + 1 = _
      rw [hS.arr]
      omega
theorem touch0 (b : Bin) (h : b.p = 0) (t h' n : Int) : (touchB t h' 0 0 n b).p = 0 := by
  unfold touchB
  split
  · exact h
  · split
    · rw [h]; rfl
    · split
      · rw [h]; rfl
      · exact h
set_option maxHeartbeats 1000000 in
theorem full_no {b : Nat} {x fl : Array Value} (hS : FS F room k ins S) (hF : FullF F room K) (hk : k < 30) (hb : b < 256) (hx : PkP x 60 (pfx 10 1 b)) (hxf : PkF x fl) (hf : KeyOf fl FK) (hin : b ∉ ins) (hlt : ¬ ins.length < room) (A : PAd) (w : World) (hP : Pol w A F S) :
    Calls Tryz.prog 20 #[.pointer (some ⟨A.pb, 0, none⟩), .agg x, .int .i64 0, .agg #[.int .u64 0, .int .u64 0]] w fun e w' => ∃ A' S', e = .returned (.agg #[.int .i64 (k : Nat), .int .i64 0, .int .i64 0, .int .i64 (-1), .bool false, .bool true]) ∧ Pol w' A' F S' ∧ FS F room (k + 1) ins S' ∧ Tur A.tg [1, 3, 4, 5, 6, 7, 8, 9] w w' ∧ A'.pb = A.pb ∧ ∀ j, j < w.heap.size → A'.tg j = A.tg j := by
  obtain ⟨l0, l2, hJ, hll⟩ := hS.j
  obtain ⟨wl, wt, hw1, hw2⟩ := full_wadd hS.wl hS.wn hF (by omega) hb
  obtain ⟨d, hd, hat, hy0, hocc, hg⟩ := hS.tab.miss hin hb
  obtain ⟨bn, hbn, hbo, hbp⟩ := hS.b0
  have hlen := hS.tab.len8
  have hsz := hS.tab.sz
  have hst : Stays S.xl 0 := hS.tab.stays (by decide)
  have h7 : (F.c 7).toNat = room := by rw [hF.c7]; rfl
  have hJ1 : JF { S with arr := S.arr + 1, wl := wl, wt := wt, wn := S.wn } l0 l2 := ⟨hJ.L, hJ.p0, hJ.sh, hJ.ql, hJ.tl, hJ.ln⟩
  obtain ⟨y, hy, hy2⟩ := hJ.turn (c := 0) (by decide)
  have hi : ∀ w', Pol w' A F { S with arr := S.arr + 1, wl := wl, wt := wt, wn := S.wn } → Calls Tryz.prog 38 #[.pointer (some ⟨A.xb, 0, none⟩), .agg (pfx 10 1 b), .int .i64 0] w' fun e w'' => e = .returned (.bool false) ∧ Pol w'' A F { S with arr := S.arr + 1, wl := wl, wt := wt, wn := S.wn } ∧ Tur A.tg [9] w' w'' := fun w' q => by
    refine (box_in A.xb A.xt A.xr (F.c 7).toNat S.xl S.xl S.xn S.xn (F.c 17) (F.c 18) (F.c 19) 0 0 none false 10 1 b w' q.bx (sweeps_many hlen.1 hlen.2 hst (by decide)) hg).mono ?_
    rintro e w'' ⟨rfl, h1, h2⟩
    have r := q.box h2 h1
    exact ⟨rfl, r.1, r.2⟩
  have hcl : fallV K FK 0 (F.c 0).toNat = 0 := by
    have := fallV_lt K FK 0 (F.c 0).toNat (by rw [hF.c0]; decide)
    have h1 : (F.c 0).toNat = 1 := by rw [hF.c0]; rfl
    omega
  have hkk : fallV K FK 1 (F.c 3).toNat = 0 := by
    have := fallV_lt K FK 1 (F.c 3).toNat (by rw [hF.c3]; decide)
    have h1 : (F.c 3).toNat = 1 := by rw [hF.c3]; rfl
    omega
  have hp0 : (touchB (F.c 13) (F.c 14) (F.c 4) (F.c 5) 0 bn).p = 0 := by rw [hF.c4, hF.c5]; exact touch0 bn hbp _ _ _
  have hxs := hx.seq S.arr
  refine (arrive_full (F := F) (A := A) (S := S) (S1 := { S with arr := S.arr + 1, wl := wl, wt := wt, wn := S.wn }) (S2 := { S with arr := S.arr + 1, wl := wl, wt := wt, wn := S.wn }) (S3 := { S with arr := S.arr + 1, wl := wl, wt := wt, wn := S.wn }) (S4 := { S with arr := S.arr + 1, wl := wl, wt := wt, wn := S.wn }) (S5 := freeS F { S with arr := S.arr + 1, wl := wl, wt := wt, wn := S.wn } (seqX x S.arr) 60 0 0 0 l0 bn) 0 60 0 x (pfx 10 1 b) #[.int .u64 0, .int .u64 0] hx rfl rfl ⟨by decide, by decide⟩ hP (by rw [hS.arr]; omega) (fun w' q => hw2 A w' (S.arr + 1) q) hi ?pu hi ?fr).mono ?_
  case pu =>
    intro w' q
    refine (box_full A.xb A.xt A.xr (F.c 7).toNat S.xl S.xl S.xn S.xn (F.c 17) (F.c 18) (F.c 19) 0 _ 10 1 b w' q.bx (sweeps_many hlen.1 hlen.2 hst (by decide)) hg hat (by rw [hS.xn, h7]; omega) hP.fok.right.rate hP.fok.right.burst ⟨by decide, by decide⟩).mono ?_
    rintro e w'' ⟨rfl, h1, h2⟩
    have r := q.box h2 h1
    exact ⟨rfl, r.1, r.2⟩
  case fr =>
    intro w' vb V q hvb hV hvt
    exact free_ok K FK (seqX x S.arr) fl #[.int .u64 0, .int .u64 0] V 0 0 vb 60 0 0 l0 y bn q ⟨hF.c2, hF.key⟩ hxs.l (hxf.seq _) hf ⟨by decide, by decide⟩ hcl hkk (by rw [hbn]; rfl) hbo ⟨by decide, by decide⟩ (by rw [hJ.L]; rfl) (by rw [sum60 l0 hJ.p0, hF.c12]; omega) rfl rfl (by decide) (by rw [hp0]; decide) (hJ1.qok hF (by omega)) (by rw [hJ.tl]; decide) (hJ1.fits hF (by omega)).1 (by rw [hJ1.tot, hF.c1]; show _ < 60; omega) hy hy2 hvb hV hvt
  · rintro e w' ⟨rfl, h1, h2⟩
    refine ⟨A, _, ?_, h1, ⟨⟨_, _, hJ1.push0 hF (by omega) hxs.l bn, by rw [List.length_append]; show l0.length + 1 + l2.length = _; omega⟩, ⟨binA F 0 60 bn, ?_, ?_, hp0⟩, hw1, hS.wn, ?_, hS.tab, hS.xn, hS.tk.up⟩, h2, rfl, fun j hj => rfl⟩
    · rw [hS.arr]
      rfl
    · show S.b0.set 0 _ = _
      rw [hbn]
      rfl
    · refine ⟨?_, ?_, by rw [show (binA F 0 60 bn).p = 0 from hp0]; decide, by rw [show (binA F 0 60 bn).p = 0 from hp0]; decide⟩
      · show 0 ≤ (touchB (F.c 13) (F.c 14) (F.c 4) (F.c 5) 0 bn).changed
        unfold touchB
        have := hbo.1
        split
        · exact this
        · split
          · exact Int.le_refl _
          · split
            · exact Int.le_refl _
            · exact this
      · show (touchB (F.c 13) (F.c 14) (F.c 4) (F.c 5) 0 bn).changed ≤ _
        unfold touchB
        have := hbo.2.1
        split
        · exact this
        · split
          · exact (show (0 : Int) ≤ 4611686018427387903 by decide)
          · split
            · exact (show (0 : Int) ≤ 4611686018427387903 by decide)
            · exact this
    · show S.arr + 1 = _
      rw [hS.arr]
      omega
theorem full_arrive {b : Nat} {x fl : Array Value} (hS : FS F room k ins S) (hF : FullF F room K) (hk : k < 30) (hb : b < 256) (hx : PkP x 60 (pfx 10 1 b)) (hxf : PkF x fl) (hf : KeyOf fl FK) (A : PAd) (w : World) (hP : Pol w A F S) :
    Calls Tryz.prog 20 #[.pointer (some ⟨A.pb, 0, none⟩), .agg x, .int .i64 0, .agg #[.int .u64 0, .int .u64 0]] w fun e w' => ∃ A' S', e = .returned (.agg #[.int .i64 (k : Nat), .int .i64 0, .int .i64 (rCl room ins b), .int .i64 (-1), .bool (rBo room ins b), .bool (rBf room ins b)]) ∧ Pol w' A' F S' ∧ FS F room (k + 1) (nxtI room ins b) S' ∧ Tur A.tg [1, 3, 4, 5, 6, 7, 8, 9] w w' ∧ A'.pb = A.pb ∧ ∀ j, j < w.heap.size → A'.tg j = A.tg j := by
  by_cases hin : b ∈ ins
  · have e1 : rCl room ins b = 2 := if_pos (.inl hin)
    have e2 : rBo room ins b = false := decide_eq_false fun h => h.1 hin
    have e3 : rBf room ins b = false := decide_eq_false fun h => h.1 hin
    have e4 : nxtI room ins b = ins := if_neg fun h => h.1 hin
    rw [e1, e2, e3, e4]
    exact full_in (fl := fl) hS hF hk hb hx hin A w _ hP
  · by_cases hlt : ins.length < room
    · have e1 : rCl room ins b = 2 := if_pos (.inr hlt)
      have e2 : rBo room ins b = true := decide_eq_true ⟨hin, hlt⟩
      have e3 : rBf room ins b = false := decide_eq_false fun h => h.2 hlt
      have e4 : nxtI room ins b = ins ++ [b] := if_pos ⟨hin, hlt⟩
      rw [e1, e2, e3, e4]
      exact full_new (fl := fl) hS hF hk hb hx hin hlt A w _ hP
    · have e1 : rCl room ins b = 0 := if_neg fun h => h.elim hin hlt
      have e2 : rBo room ins b = false := decide_eq_false fun h => hlt h.2
      have e3 : rBf room ins b = true := decide_eq_true ⟨hin, hlt⟩
      have e4 : nxtI room ins b = ins := if_neg fun h => hlt h.2
      rw [e1, e2, e3, e4]
      exact full_no hS hF hk hb hx hxf hf hin hlt A w hP
end
end Go.Proofs.YtpanmfdbdgecaaaGreat.C

namespace Go.Proofs.YtpanmfdbdgecaaaGreat.C
open Go.RowKit
set_option linter.unusedVariables false
/-- An engine at 0, that has seen so many, none of whose blocks is one of mine. -/
def EngF (Z : Nat → Prop) (eb : Nat) (F : PCf) (room k : Nat) (ins : List Nat) (w : World) : Prop := ∃ a S N nx, a.eb = eb ∧ (∀ j, Z j → j < w.heap.size ∧ a.A.tg j = 0) ∧ Eng w a F S 0 N nx ∧ N 8 = (ins.length : Nat) ∧ FS F room k ins S
section
variable {Z Y : Nat → Prop} {w w' : World} {eb : Nat} {F : PCf} {room k : Nat} {ins : List Nat} {K : Nat → Nat}
theorem EngF.below (h : EngF Z eb F room k ins w) (p : Below w.heap.size w w') : EngF Z eb F room k ins w' := by
  obtain ⟨a, S, N, nx, e1, e2, e3, e4⟩ := h
  exact ⟨a, S, N, nx, e1, fun k hk => ⟨Nat.lt_of_lt_of_le (e2 k hk).1 p.size, (e2 k hk).2⟩, e3.below p, e4⟩
theorem EngF.drew (h : EngF Z eb F room k ins w) : EngF Z eb F room k ins w.drew := h.below (Below.refl _ _).drew
theorem EngF.mine (h : EngF Z eb F room k ins w) (p : Below w.heap.size w w') {x : Nat} (h1 : w.heap.size ≤ x) (h2 : x < w'.heap.size) : EngF (fun k => Z k ∨ k = x) eb F room k ins w' := by
  obtain ⟨a, S, N, nx, e1, e2, e3, e4⟩ := h
  refine ⟨a, S, N, nx, e1, fun k hk => ?_, e3.below p, e4⟩
  rcases hk with hk | rfl
  · exact ⟨Nat.lt_of_lt_of_le (e2 k hk).1 p.size, (e2 k hk).2⟩
  · exact ⟨h2, e3.pol.ok.hi _ (Nat.le_trans e3.pol.lim h1)⟩
theorem EngF.sub (h : EngF Y eb F room k ins w) (hs : ∀ k, Z k → Y k) : EngF Z eb F room k ins w := by
  obtain ⟨a, S, N, nx, e1, e2, e3, e4⟩ := h
  exact ⟨a, S, N, nx, e1, fun k hk => e2 k (hs k hk), e3, e4⟩
theorem EngF.set (h : EngF Z eb F room k ins w) {x : Nat} (hx : Z x) (cs : List Value) (o : Nat) : EngF Z eb F room k ins (w.setCells x o cs) := by
  obtain ⟨a, S, N, nx, e1, e2, e3, e4⟩ := h
  refine ⟨a, S, N, nx, e1, fun k hk => ⟨?_, (e2 k hk).2⟩, e3.fresh (e2 x hx).2 cs o, e4⟩
  exact Nat.lt_of_lt_of_le (e2 k hk).1 (Two.setCells (g := x) (h := x) (.inl rfl) cs o (Two.refl x x w)).size
theorem adN_ne (N : Nat → Int) (k j : Nat) (n : Int) (h : j ≠ k) : adN N k n j = N j := if_neg h
theorem adN_at (N : Nat → Int) (k : Nat) (n : Int) : adN N k n k = addC (N k) n := if_pos rfl
theorem frB_ne (N : Nat → Int) (k j : Nat) (b : Bool) (h : j ≠ k) : frB N k b j = N j := by
  cases b
  · rfl
  · exact adN_ne N k j 1 h
/-- What is counted of those that were put into the box. -/
theorem frN_8 (N : Nat → Int) (n : Int) (bo bf : Bool) (m : Nat) (hm : m ≤ 100) (h : N 8 = (m : Nat)) : frN N n 0 bo bf 8 = ((m + if bo then 1 else 0 : Nat) : Int) := by
  have e : addC ((m : Nat) : Int) 1 = ((m + 1 : Nat) : Int) := by
    rw [addC_small (by omega) (by decide) (by omega)]
    rfl
  have e2 : adN (adN (adN (adN N 0 1) 2 1) 6 n) 3 1 8 = (m : Nat) := by
    rw [adN_ne _ _ _ _ (by decide), adN_ne _ _ _ _ (by decide), adN_ne _ _ _ _ (by decide), adN_ne _ _ _ _ (by decide), h]
  unfold frN
  rw [frB_ne _ _ _ _ (by decide)]
  cases bo
  · exact e2
  · show adN (adN (adN (adN (adN N 0 1) 2 1) 6 n) 3 1) 8 1 8 = _
    rw [adN_at, e2]
    exact e
theorem nxt_len (ins : List Nat) (b : Nat) : (nxtI room ins b).length = ins.length + if rBo room ins b then 1 else 0 := by
  unfold nxtI rBo
  by_cases h : b ∉ ins ∧ ins.length < room
  · rw [if_pos h, decide_eq_true h]
    simp
  · rw [if_neg h, decide_eq_false h]
    simp
theorem full_frame (h : EngF Z eb F room k ins w) (hF : FullF F room K) (hk : k < 30) (g c b : Nat) (hb : b < 256) (hf : FrAt w g 0 60 c (pbB b 46)) (hg : Z g) :
    Calls Tryz.prog 11 #[.pointer (some ⟨eb, 0, none⟩), .slice (some ⟨g, 0, none⟩) 60 c, .agg #[.int .u64 0, .int .u64 0]] w fun e w' => e = .returned (.agg #[.int .i64 (k : Nat), .int .i64 0, .int .i64 (rCl room ins b), .int .i64 (-1), .bool (rBo room ins b), .bool (rBf room ins b)]) ∧ EngF Z eb F room (k + 1) (nxtI room ins b) w' ∧ Kp Z w w' := by
  obtain ⟨a, S, N, nx, rfl, e2, e3, e4, e5⟩ := h
  have hu := pb_udp (nn := b) (all := 46) hb (by decide) (by decide)
  have hpk : pktB (pbB b 46) 60 = pktX 10 1 b 7 9 0 0 0 1000 53 60 := pb_pkt b 46
  have hx : PkP (pktB (pbB b 46) 60) 60 (pfx 10 1 b) := by rw [hpk]; exact pktX_pre 10 1 b 7 9 0 0 0 1000 53 60
  have hxf : PkF (pktB (pbB b 46) 60) (flowX 10 1 b 7 9 0 0 0 1000 53) := by rw [hpk]; unfold PkF; kernel_rfl
  have hkf := key_flow 10 1 b 7 9 0 0 0 ⟨by decide, by decide, hb, by decide⟩ ⟨by decide, by decide, by decide, by decide⟩
  have hsz : ins.length ≤ 100 := by have := e5.tab.sz; have := hF.rm; omega
  refine (frame_arr g 0 60 c (pbB b 46) #[.int .u64 0, .int .u64 0] rfl e3 hf (e2 g hg).2 hu (k : Nat) (rCl room ins b) 0 (by decide) (rBo room ins b) (rBf room ins b) (fun _ S2 => FS F room (k + 1) (nxtI room ins b) S2) (fun w' p => full_arrive e5 hF hk hb hx hxf hkf a.A w' p)).mono ?_
  rintro e w1 ⟨A2, S2, rfl, h1, h2, h3, h4, h5⟩
  refine ⟨rfl, ⟨{ a with A := A2 }, S2, _, nx, rfl, fun j hj => ⟨Nat.lt_of_lt_of_le (e2 j hj).1 h3.size, (h5 j (e2 j hj).1).trans (e2 j hj).2⟩, h1, ?_, h2⟩, Kp.of_tur h3 (fun j hj => (e2 j hj).2) (by decide)⟩
  rw [frN_8 N _ _ _ ins.length hsz e4, nxt_len]
/-- A row that is mine has grown. -/
theorem EngF.grown (h : EngF Z eb F room k ins w) {row : Option Nat} (hg : w.grownBy w' row) (hz : ∀ j, row = some j → Z j) : EngF Z eb F room k ins w' := by
  obtain ⟨a, S, N, nx, e1, e2, e3, e4⟩ := h
  have t : Tur a.A.tg [0] w w' := ⟨hg.os, hg.tape, hg.output, hg.size, fun j hj hn => hg.block j hj (fun e => hn (by rw [(e2 j (hz j e.symm)).2]; decide))⟩
  exact ⟨a, S, N, nx, e1, fun j hj => ⟨Nat.lt_of_lt_of_le (e2 j hj).1 hg.size, (e2 j hj).2⟩, e3.tur t (by intro j h1 h2; simp; omega), e4⟩
/-- .. and its new block is mine. -/
theorem EngF.grown2 (h : EngF Z eb F room k ins w) {row : Option Nat} (hg : w.grownBy w' row) (hz : ∀ j, row = some j → Z j) {x : Nat} (h1 : w.heap.size = x) (h2 : x < w'.heap.size) : EngF (fun j => Z j ∨ j = x) eb F room k ins w' := by
  obtain ⟨a, S, N, nx, e1, e2, e3, e4⟩ := h
  have t : Tur a.A.tg [0] w w' := ⟨hg.os, hg.tape, hg.output, hg.size, fun j hj hn => hg.block j hj (fun e => hn (by rw [(e2 j (hz j e.symm)).2]; decide))⟩
  refine ⟨a, S, N, nx, e1, fun j hj => ?_, e3.tur t (by intro j h1 h2; simp; omega), e4⟩
  rcases hj with hj | rfl
  · exact ⟨Nat.lt_of_lt_of_le (e2 j hj).1 hg.size, (e2 j hj).2⟩
  · exact ⟨h2, e3.pol.ok.hi _ (Nat.le_trans e3.pol.lim (Nat.le_of_eq h1))⟩
theorem own_keep {base n size : Nat} {e : TypeId} {v : Value} {xs : List Value} (o : w.ownsRow base e size v n xs) (p : Kp Z w w') (hz : ∀ g, v.ownBlock = some g → Z g) : w'.ownsRow base e size v n xs := by
  refine ⟨o.1, ?_⟩
  rcases o.2 with h | ⟨g, cap, cur, rfl, h1, h2, h3⟩
  · exact .inl h
  · exact .inr ⟨g, cap, cur, rfl, h1, p.keep h2 (hz g rfl), h3⟩
set_option maxRecDepth 100000 in
theorem eng_boxed_many {a : EAd} {S : PSt} {N : Nat → Int} {nx now : Int} (h : Eng w a F S now N nx) (hl : S.xl.length ≤ 65536) (hm : (tkn S.xl).length ≤ 8) (hst : Stays S.xl now) (hn0 : 0 ≤ now) :
    Calls Tryz.prog 14 #[.pointer (some ⟨a.eb, 0, none⟩)] w fun e w' => (∃ B c, e = .returned (.slice B (tkn S.xl).length c)) ∧ Eng w' a F S now N nx ∧ Tur a.A.tg [9] w w' := by
  have CB : Hid (∀ w', Tur a.A.tg [] w w' → Calls Tryz.prog 33 #[.pointer (some ⟨a.A.pb, 0, none⟩), .int .i64 now] w' fun e w'' => ∃ B n c, e = .returned (.slice B n c) ∧ n = (tkn S.xl).length ∧ Pol w'' a.A F S ∧ Tur a.A.tg [9] w' w'') := Lib.hid fun w' q => by
    have hp := (h.tur q (by simp)).pol
    refine (police_boxed (now := now) hp (fun e w'' => ∃ B n c, e = .returned (.slice B n c) ∧ n = (tkn S.xl).length ∧ Pol w'' a.A F S ∧ Tur a.A.tg [9] w' w'') ?_).mono ?_
    · refine (box_all_many a.A.xb a.A.xt a.A.xr (F.c 7).toNat S.xl S.xn (F.c 17) (F.c 18) (F.c 19) now w' hp.bx hl hm hst hn0).mono ?_
      rintro e w'' ⟨⟨B, c, rfl⟩, h1, h2⟩
      obtain ⟨p1, p2⟩ := hp.box h2 h1
      exact ⟨B, _, c, rfl, B, _, c, rfl, rfl, p1, p2⟩
    · rintro e w'' ⟨B, n, c, rfl, B', n', c', h1, h2⟩
      obtain ⟨⟨⟨rfl⟩, rfl, rfl⟩⟩ := h1
      exact ⟨_, _, _, rfl, h2⟩
  have HE := Lib.hid h
  have HL : Hid (∀ w', Tur a.A.tg [9] w w' → w'.cell? ⟨a.eb, 1, none⟩ = some (.pointer (some ⟨a.A.pb, 0, none⟩)) ∧ w'.cell? ⟨a.eb, 2, none⟩ = some (.int .i64 now)) := Lib.hid fun w' q => by
    have := (h.en.tur q (by rw [h.tags.1]; decide)).cells
    exact ⟨this.2.1, this.2.2.1⟩
  clear h hst hl hm
  refine calls_hide fun Q HQ => ?_
  go_enter Tryz.func14, Tryz.ntmps14
  go_wp2_with fail
  refine wp_region_held_drew (S := Tur a.A.tg [9] w) (by kernel_rfl) (Tur.refl _ _ _).drew (fun hHeld => ?_)
  refine wpAnyH_take (i := 0) (oi := ⟨some 5, _, _, _, _, _⟩) (v := ?_) rfl (by kernel_rfl) (by kernel_rfl) (by kernel_rfl) (fun _ _ _ h => h) (Or.inl ⟨by rfl, ?_⟩) hHeld ?_
  rotate_left
  · intro w hSw
    go_simp
    try with_reducible rfl
  try simp only [Act.put, List.setIfInBounds_toArray, List.set_cons_zero, List.set_cons_succ]
  refine wpAnyH_take (i := 1) (oi := ⟨some 6, _, _, _, _, _⟩) (v := ?_) rfl (by kernel_rfl) (by kernel_rfl) (by kernel_rfl) (fun _ _ _ h => h) (Or.inl ⟨by rfl, ?_⟩) hHeld ?_
  rotate_left
  · intro w hSw
    go_simp
    try with_reducible rfl
  try simp only [Act.put, List.setIfInBounds_toArray, List.set_cons_zero, List.set_cons_succ]
  refine wpAnyH_take (i := 2) (oi := ⟨some 7, _, _, _, _, _⟩) (v := ?_) rfl (by kernel_rfl) (by kernel_rfl) (by kernel_rfl) (fun _ _ _ h => h) (Or.inl ⟨by rfl, ?_⟩) hHeld ?_
  rotate_left
  · intro w hSw
    go_simp
    try with_reducible rfl
  try simp only [Act.put, List.setIfInBounds_toArray, List.set_cons_zero, List.set_cons_succ]
  refine wpAnyH_take (i := 3) (oi := ⟨some 8, _, _, _, _, _⟩) (v := ?_) rfl (by kernel_rfl) (by kernel_rfl) (by kernel_rfl) (fun _ _ _ h => h) (Or.inl ⟨by rfl, ?_⟩) hHeld ?_
  rotate_left
  · intro w hSw
    obtain ⟨k0, k1⟩ := HL.out w hSw
    go_simp
    try with_reducible rfl
  try simp only [Act.put, List.setIfInBounds_toArray, List.set_cons_zero, List.set_cons_succ]
  refine wpAnyH_take (i := 4) (oi := ⟨some 9, _, _, _, _, _⟩) (v := ?_) rfl (by kernel_rfl) (by kernel_rfl) (by kernel_rfl) (fun _ _ _ h => h) (Or.inl ⟨by rfl, ?_⟩) hHeld ?_
  rotate_left
  · intro w hSw
    go_simp
    try with_reducible rfl
  try simp only [Act.put, List.setIfInBounds_toArray, List.set_cons_zero, List.set_cons_succ]
  refine wpAnyH_take (i := 5) (oi := ⟨some 10, _, _, _, _, _⟩) (v := ?_) rfl (by kernel_rfl) (by kernel_rfl) (by kernel_rfl) (fun _ _ _ h => h) (Or.inl ⟨by rfl, ?_⟩) hHeld ?_
  rotate_left
  · intro w hSw
    go_simp
    try with_reducible rfl
  try simp only [Act.put, List.setIfInBounds_toArray, List.set_cons_zero, List.set_cons_succ]
  refine wpAnyH_take (i := 6) (oi := ⟨some 11, _, _, _, _, _⟩) (v := ?_) rfl (by kernel_rfl) (by kernel_rfl) (by kernel_rfl) (fun _ _ _ h => h) (Or.inl ⟨by rfl, ?_⟩) hHeld ?_
  rotate_left
  · intro w hSw
    go_simp
    try with_reducible rfl
  try simp only [Act.put, List.setIfInBounds_toArray, List.set_cons_zero, List.set_cons_succ]
  refine wpAnyH_take (i := 7) (oi := ⟨some 12, _, _, _, _, _⟩) (v := ?_) rfl (by kernel_rfl) (by kernel_rfl) (by kernel_rfl) (fun _ _ _ h => h) (Or.inl ⟨by rfl, ?_⟩) hHeld ?_
  rotate_left
  · intro w hSw
    obtain ⟨k0, k1⟩ := HL.out w hSw
    go_simp
    try with_reducible rfl
  try simp only [Act.put, List.setIfInBounds_toArray, List.set_cons_zero, List.set_cons_succ]
  refine wpAnyH_ready (rs := [8]) (by kernel_rfl) (by simp) ?_
  refine AllReadyH.cons rfl (fun K hK => ?_) AllReadyH.nil
  go_simp
  go_wp2_with (go_at_call 33; go_must (refine (CB.out _ (Tur.refl _ _ _).drew).mono ?_; rintro e w8 ⟨B, n, c, rfl, hn, hP, hT⟩))
  refine hK.out _ _ (hHeld.trans hT) (fun hHeld => ?_)
  clear hK K
  refine wpAnyH_take (i := 9) (oi := ⟨some 2, _, _, _, _, _⟩) (v := ?_) rfl (by kernel_rfl) (by kernel_rfl) (by kernel_rfl) (fun _ _ _ h => h) (Or.inl ⟨by rfl, ?_⟩) hHeld ?_
  rotate_left
  · intro w hSw
    go_simp
    try with_reducible rfl
  try simp only [Act.put, List.setIfInBounds_toArray, List.set_cons_zero, List.set_cons_succ]
  refine wpAnyH_done (by kernel_rfl) ?_ _
  have HP := Lib.hid (HE.out.setPol hHeld (by decide) hP rfl (fun _ _ => rfl))
  have HT := Lib.hid hHeld
  have HN := Lib.hid hn
  clear hP hT hn hHeld
  go_wp2
  refine HQ.out _ _ ⟨⟨B, c, ?_⟩, HP.out, HT.out⟩
  rw [← HN.out]
  rfl
theorem full_all (h : EngF Z eb F room k ins w) : Calls Tryz.prog 14 #[.pointer (some ⟨eb, 0, none⟩)] w fun e w' => (∃ B c, e = .returned (.slice B ins.length c)) ∧ EngF Z eb F room k ins w' ∧ Kp Z w w' := by
  obtain ⟨a, S, N, nx, rfl, e2, e3, e4, e5⟩ := h
  have hlen := e5.tab.len8
  refine (eng_boxed_many e3 hlen.1 hlen.2 (e5.tab.stays (by decide)) (by decide)).mono ?_
  rintro e w' ⟨h0, g1, g2⟩
  rw [e5.tab.cnt] at h0
  exact ⟨h0, ⟨a, S, N, nx, rfl, fun j hj => ⟨Nat.lt_of_lt_of_le (e2 j hj).1 g2.size, (e2 j hj).2⟩, g1, e4, e5⟩, Kp.of_tur g2 (fun j hj => (e2 j hj).2) (by decide)⟩
/-- What is counted, as it is told. -/
def stX (N : Nat → Int) : Array Value := #[.int .i64 (N 0), .int .i64 (N 1), .int .i64 (N 2), .int .i64 (N 3), .int .i64 (N 4), .int .i64 (N 5), .int .i64 (N 6), .int .i64 (N 7), .int .i64 (N 8), .int .i64 (N 9), .int .i64 (N 10), .int .i64 (N 11), .int .i64 (N 12), .int .i64 (N 13), .int .i64 (N 14), .int .i64 (N 15), .int .i64 (N 16), .int .i64 (N 17), .int .i64 (N 18), .int .i64 (N 19), .int .i64 (N 20), .int .i64 (N 21), .int .i64 (N 22), .int .i64 (N 23), .int .i64 (N 24), .int .i64 (N 25), .int .i64 (N 26), .int .i64 (N 27), .int .i64 (N 28), .int .i64 (N 29), .int .i64 (N 30)]
def stZ : Array Value := #[.int .i64 0, .int .i64 0, .int .i64 0, .int .i64 0, .int .i64 0, .int .i64 0, .int .i64 0, .int .i64 0, .int .i64 0, .int .i64 0, .int .i64 0, .int .i64 0, .int .i64 0, .int .i64 0, .int .i64 0, .int .i64 0, .int .i64 0, .int .i64 0, .int .i64 0, .int .i64 0, .int .i64 0, .int .i64 0, .int .i64 0, .int .i64 0, .int .i64 0, .int .i64 0, .int .i64 0, .int .i64 0, .int .i64 0, .int .i64 0, .int .i64 0]
theorem stX_size (N : Nat → Int) : (stX N).size = 31 := rfl
theorem stX_all (N : Nat → Int) : (stX N).all (·.oneCell') = true := by kernel_rfl
theorem stX_at (N : Nat → Int) (j : Nat) (v : Value) (h : (stX N)[j]? = some v) : j < 31 ∧ v = .int .i64 (N j) := by
  have hj : j < 31 := (Array.getElem?_eq_some_iff.1 h).1
  have : j = 0 ∨ j = 1 ∨ j = 2 ∨ j = 3 ∨ j = 4 ∨ j = 5 ∨ j = 6 ∨ j = 7 ∨ j = 8 ∨ j = 9 ∨ j = 10 ∨ j = 11 ∨ j = 12 ∨ j = 13 ∨ j = 14 ∨ j = 15 ∨ j = 16 ∨ j = 17 ∨ j = 18 ∨ j = 19 ∨ j = 20 ∨ j = 21 ∨ j = 22 ∨ j = 23 ∨ j = 24 ∨ j = 25 ∨ j = 26 ∨ j = 27 ∨ j = 28 ∨ j = 29 ∨ j = 30 := by omega
  refine ⟨hj, ?_⟩
  rcases this with rfl | rfl | rfl | rfl | rfl | rfl | rfl | rfl | rfl | rfl | rfl | rfl | rfl | rfl | rfl | rfl | rfl | rfl | rfl | rfl | rfl | rfl | rfl | rfl | rfl | rfl | rfl | rfl | rfl | rfl | rfl <;> exact (Option.some.inj h).symm
theorem st_zero : (Tryz.prog.info? 49).map (fun i => (i.zero, i.size)) = some (some (.agg stZ), 31) := by kernel_rfl
set_option maxRecDepth 100000 in
theorem eng_stats {a : EAd} {S : PSt} {N : Nat → Int} {nx now : Int} (h : Eng w a F S now N nx) :
    Calls Tryz.prog 15 #[.pointer (some ⟨a.eb, 0, none⟩)] w fun e w' => e = .returned (.agg (stX N)) ∧ Below w.heap.size w w' := by
  obtain ⟨E, e1, e2, e3, e4, e5, e6⟩ := h.en.ptr
  have hs31 : (Tryz.prog.info? 49).map (·.size) = some (stX N).size := by rw [stX_size]; kernel_rfl
  have hall := stX_all N
  have hsz := stX_size N
  have hat := stX_at N
  have hzz := st_zero
  have hzs : stZ.size = 31 := rfl
  generalize stX N = X at *
  generalize stZ = Z at *
  have hl : ∀ w' : World, Below w.heap.size w w' → (Instr.loadAt 49 (.pointer (some ⟨a.eb, 3, none⟩))).run Tryz.prog w' = .ok (.agg X) w' := fun w' p => by
    refine box_load_mid (t := 49) (x := E) (keep_block p e1) (fun j v hv => ?_) _ Tryz.underlying49 rfl hs31
    obtain ⟨hj, rfl⟩ := hat j v (by rw [← hv, Array.getElem?_toList])
    exact e6 j hj
  have HZ := Lib.hid hzz
  have HS := Lib.hid hs31
  have HA := Lib.hid hall
  have H2 := Lib.hid (hzs.trans hsz.symm)
  have HLD := Lib.hid hl
  clear hl hzz hs31 hall hzs hsz hat e1 e2 e3 e4 e5 e6 h
  refine calls_hide fun Q HQ => ?_
  go_enter Tryz.func15, Tryz.ntmps15
  go_upto_region 1 with ((with_reducible refine arm_alloc 2 49 Z 31 HZ.out ?_); intro w1 HB HX HS1)
  have hl1 := HLD.out w1 HB.out
  have hst := box_store (t := 49) (x := X) HX.out HS.out HA.out H2.out
  have hbx := Lib.hid (box_whole (cs := X) HX.out H2.out.symm)
  have hf := Lib.hid (below_setCells (b := w.heap.size) (Nat.le_refl _) X.toList 0 HB.out)
  go_wp2_with (first | ((with_reducible refine arm_load 9 8 49 (.pointer (some ⟨a.eb, 3, none⟩)) (.agg X) hl1 ?_ ?_); rfl) | ((with_reducible refine arm_store 2 9 49 _ _ _ hst ?_ ?_ ?_); rfl; rfl))
  refine bodyPost_ret (results_cell_row rfl _ _ _ _ _ _ _ rfl hbx.out Tryz.underlying49 rfl HS.out) rfl ?_
  exact HQ.out _ _ ⟨rfl, hf.out⟩
theorem full_stats (h : EngF Z eb F room k ins w) : Calls Tryz.prog 15 #[.pointer (some ⟨eb, 0, none⟩)] w fun e w' => ∃ N : Nat → Int, e = .returned (.agg (stX N)) ∧ N 8 = (ins.length : Nat) ∧ Below w.heap.size w w' := by
  obtain ⟨a, S, N, nx, rfl, e2, e3, e4, e5⟩ := h
  refine (eng_stats e3).mono ?_
  rintro e w' ⟨rfl, g⟩
  exact ⟨N, rfl, e4, g⟩
end
end Go.Proofs.YtpanmfdbdgecaaaGreat.C

namespace Go.Proofs.YtpanmfdbdgecaaaGreat.C
open Go.RowKit
set_option linter.unusedVariables false
theorem Tur.lower {f : Nat → Nat} {ks : List Nat} {a b : World} {m : Nat} (t : Tur f ks a b) (h : ∀ k, k < m → f k ∉ ks) (hm : m ≤ a.heap.size) : Below m a b := ⟨t.os, t.tape, t.output, t.size, fun k hk => t.block k (Nat.lt_of_lt_of_le hk hm) (h k hk)⟩
def cfgV (c : Nat → Int) : Array Value := ((List.range 20).map fun i => Value.int .i64 (c i)).toArray
theorem cfgV_ok (c : Nat → Int) : Cfg (cfgV c) c := ⟨by simp [cfgV], fun i hi => by simp [cfgV, List.getElem?_range hi]⟩
def litC : Nat → Int := fun i => [1, 2, 1, 1, 0, 0, 1, 1, 9216, 1000, 0, 2, 1000, 0, 0, 1, 1099511627776, 1, 0, 1].getD i 0
theorem litC_right : RightC litC := ⟨by decide, by decide, by decide, by decide, by decide, by decide, by decide, by decide, by decide, by decide, by decide, by decide, by decide, by decide, by decide, by decide, by decide, by decide, by decide, by decide⟩
theorem build_lit (w : World) : (Instr.build 26 #[(0, .int .i64 1), (1, .int .i64 2), (2, .int .i64 1), (3, .int .i64 1), (6, .int .i64 1), (7, .int .i64 1), (8, .int .i64 9216), (9, .int .i64 1000), (11, .int .i64 2), (12, .int .i64 1000), (15, .int .i64 1), (16, .int .i64 1099511627776), (17, .int .i64 1), (19, .int .i64 1)]).run Tryz.prog w = .ok (.agg (cfgV litC)) w := run_build w 26 _ _ (by kernel_rfl)
def CZ : Array Value := cfgV (fun _ => 0)
theorem cz_zero : (Tryz.prog.info? 26).map (fun i => (i.zero, i.size)) = some (some (.agg CZ), 20) := by kernel_rfl
theorem cfg_all (c : Nat → Int) : (cfgV c).all (·.oneCell') = true := by kernel_rfl
set_option maxRecDepth 100000 in
theorem little_is (w : World) : Calls Tryz.prog 13 #[] w fun e w' => e = .returned (.agg (cfgV litC)) ∧ Below w.heap.size w w' := by
  have hb := build_lit
  have hz := cz_zero
  have hs : (Tryz.prog.info? 26).map (·.size) = some (cfgV litC).size := by rw [(cfgV_ok litC).size]; exact cfg_size
  have ha := cfg_all litC
  have h20 := (cfgV_ok litC).size
  have hc : CZ.size = 20 := (cfgV_ok _).size
  generalize cfgV litC = cv at *
  generalize CZ = Z at *
  have HZ := Lib.hid hz
  have HS := Lib.hid hs
  have HA := Lib.hid ha
  have H2 := Lib.hid (hc.trans h20.symm)
  clear hz hs ha h20 hc
  refine calls_hide fun Q HQ => ?_
  go_enter Tryz.func13, Tryz.ntmps13
  go_upto_region 1 with ((with_reducible refine arm_alloc 0 26 Z 20 HZ.out ?_); intro w1 HB HX HS1)
  have hb1 := hb w1
  clear hb
  have hst := box_store (t := 26) (x := cv) HX.out HS.out HA.out H2.out
  have hbx := Lib.hid (box_whole (cs := cv) HX.out H2.out.symm)
  have hf := Lib.hid (below_setCells (b := w.heap.size) (Nat.le_refl _) cv.toList 0 HB.out)
  go_wp2_with (first | ((with_reducible refine arm_build 1 26 _ #[(0, .int .i64 1), (1, .int .i64 2), (2, .int .i64 1), (3, .int .i64 1), (6, .int .i64 1), (7, .int .i64 1), (8, .int .i64 9216), (9, .int .i64 1000), (11, .int .i64 2), (12, .int .i64 1000), (15, .int .i64 1), (16, .int .i64 1099511627776), (17, .int .i64 1), (19, .int .i64 1)] _ hb1 ?_ ?_); (first | rfl | simp [Act.eval])) | ((with_reducible refine arm_store 0 1 26 _ _ _ hst ?_ ?_ ?_); rfl; rfl))
  refine bodyPost_ret (results_cell_row rfl _ _ _ _ _ _ _ rfl hbx.out Tryz.underlying26 rfl HS.out) rfl ?_
  exact HQ.out _ _ ⟨rfl, hf.out⟩
def KEZ : Array Value := (List.replicate 16 (Value.int .u8 0)).toArray
theorem build_kez (w : World) : (Instr.build 22 #[]).run Tryz.prog w = .ok (.agg KEZ) w := run_build w 22 _ _ (by kernel_rfl)
def DZ : Array Value := #[.int .u64 0, .int .u64 0]
theorem build_dz (w : World) : (Instr.build 41 #[]).run Tryz.prog w = .ok (.agg DZ) w := run_build w 41 _ _ (by kernel_rfl)
set_option maxRecDepth 100000 in
set_option maxHeartbeats 1000000 in
theorem awake_is (w : World) : Calls Tryz.prog 8 #[] w fun e w' => e = .returned (.bool true) ∧ Below w.heap.size w w' := by
  have CL := Lib.hid little_is
  have CN := Lib.hid (fun w' => engine_new (cfgV litC) litC KEZ w' (cfgV_ok _) litC_right rfl)
  have hk := build_kez
  have hd := build_dz
  generalize cfgV litC = cv at *
  obtain ⟨kz, hkez⟩ : ∃ z, KEZ = z := ⟨_, rfl⟩
  obtain ⟨dz, hdz⟩ : ∃ z, DZ = z := ⟨_, rfl⟩
  rw [hkez] at hk CN
  rw [hdz] at hd
  clear hkez hdz
  refine calls_hide fun Q HQ => ?_
  go_enter Tryz.func8, Tryz.ntmps8
  go_wp2_with fail
  refine (CL.out _).mono ?_
  rintro e w1 ⟨rfl, hB1⟩
  have hk1 := hk w1
  have B1 := Lib.hid hB1
  clear hk hB1
  go_wp2_with ((with_reducible refine arm_build 6 22 _ #[] _ hk1 ?_ ?_); (first | rfl | simp [Act.eval]))
  refine (CN.out _).mono ?_
  rintro e w2 ⟨a, G, rfl, h0, hE, htg, hB⟩
  have B2 := Lib.hid (B1.out.trans (hB.mono B1.out.size))
  have HTG := Lib.hid fun k (hk : k < w.heap.size) => htg k (Nat.lt_of_lt_of_le hk B1.out.size)
  have CF := Lib.hid (frame_short dz hE)
  have hd2 := hd w2
  clear hd B1 hB hk1 CL CN htg h0 hE
  go_wp2_with ((with_reducible refine arm_build 11 41 _ #[] _ hd2 ?_ ?_); (first | rfl | simp [Act.eval]))
  refine CF.out.mono ?_
  rintro e w3 ⟨rfl, hE3, hT⟩
  have HB := Lib.hid (B2.out.trans (hT.lower (fun k hk => by rw [HTG.out k hk]; decide) B2.out.size))
  clear hT hE3 hd2 CF B2 HTG
  generalize a.eb = eb at *
  go_wp2_with fail
  exact HQ.out _ _ ⟨rfl, HB.out.alloc HB.out.size _⟩
end Go.Proofs.YtpanmfdbdgecaaaGreat.C

namespace Go.Proofs.YtpanmfdbdgecaaaGreat.C
open Go.RowKit
set_option linter.unusedVariables false
theorem blockAdd (a : Addr) (n : Nat) : (a.add n).block = a.block := by unfold Addr.add; split <;> rfl
/-- Numbers that came in, told by their list. -/
def Nums (k : IntKind) (w : World) (a : Option Addr) (L : List Int) : Prop := ∀ (i : Nat) (v : Int), L[i]? = some v → ∃ x, a = some x ∧ x.block < w.heap.size ∧ w.cell? (x.add i) = some (.int k v) ∧ (Lit.int k v).wf = true
theorem nums_of {k : IntKind} {w : World} {a : Option Addr} {len cap : Nat} {zs : List Int} (h : IsRow k w a len cap zs) : ∃ L : List Int, L.length = len ∧ Nums k w a L ∧ len ≤ 9223372036854775807 := by
  rcases h with ⟨rfl, rfl, rfl, rfl⟩ | ⟨x, rfl, hl, hc, hz, hcell, hwf⟩
  · exact ⟨[], rfl, fun i v h => by simp at h, by omega⟩
  · refine ⟨zs.take len, by simp; omega, fun i v hv => ?_, by simp only [maxLen] at hc; omega⟩
    have hi : i < len := by
      rcases Nat.lt_or_ge i len with h | h
      · exact h
      · rw [List.getElem?_eq_none (by simp; omega)] at hv; cases hv
    rw [List.getElem?_take_of_lt hi] at hv
    have hz0 : i < zs.length := by omega
    have hc0 := hcell i hz0
    have hb := World.block_lt_of_cell? w _ hc0
    rw [List.getD_eq_getElem?_getD, hv] at hc0
    exact ⟨x, rfl, by rw [← blockAdd]; exact hb, hc0, hwf v (List.mem_of_getElem? hv)⟩
theorem Nums.kept {k : IntKind} {w w' : World} {a : Option Addr} {L : List Int} (h : Nums k w a L) (hb : ∀ b, b < w.heap.size → w'.heap[b]? = w.heap[b]?) {i : Nat} {v : Int} (hv : L[i]? = some v) : ∃ x, a = some x ∧ w'.cell? (x.add i) = some (.int k v) ∧ (Lit.int k v).wf = true := by
  obtain ⟨x, hx, hlt, hc, hw⟩ := h i v hv
  exact ⟨x, hx, by rw [World.cell?_of_block (hb _ (by rw [blockAdd]; exact hlt))]; exact hc, hw⟩
set_option maxRecDepth 100000 in
theorem key_types : Tryz.prog.cellTypes Tryz.prog.depth 22 = some (List.replicate 16 5) := by kernel_rfl
section
open Go.ChangeShapes Go.WideShapes
variable {H : Type} {enc : TypeId × Value → H} {w : World} {base : Nat} {held : Bool}
theorem cell_u8 {P : Program} {r : Reach} {b : Nat} {t : TypeId} {v : Value} (hu : P.underlying t = some (.int .u8)) (h : Cell.okWide P w r b t v) : ∃ n : Nat, v = .int .u8 (n : Nat) := by
  cases v <;> simp [Cell.okWide, Cell.ok, hu] at h
  rename_i k n
  obtain ⟨rfl, h2⟩ := h
  have h3 : 0 ≤ n := h2.1
  exact ⟨n.toNat, by rw [Int.toNat_of_nonneg h3]⟩
set_option maxRecDepth 100000 in
theorem open_key {spare : Nat → Bool} {r : Reach} {b0 : Nat} {v : Value} {d : DataW H} {p : List MemPlace} (hv : Value.okWide Tryz.prog w r b0 22 v) (h : DataW.Trod enc Tryz.prog w base spare held 22 v d p) :
    ∃ cs : Array Value, v = .agg cs ∧ ∃ K, Key16 cs K := by
  have hu := Tryz.underlying22
  simp only [Value.okWide, hu] at hv
  obtain ⟨cs, rfl, hs, ts, ht, _, hc⟩ := hv
  rw [key_types] at ht
  injection ht with ht
  subst ht
  have hs16 : cs.size = 16 := hs.trans (by kernel_rfl)
  have hex : ∀ j, ∃ n : Nat, j < 16 → cs[j]? = some (.int .u8 (n : Nat)) := fun j => by
    by_cases hj : j < 16
    · obtain ⟨u, h1, h2⟩ := hc j cs[j] (Array.getElem?_eq_getElem (by omega))
      have hu2 := (List.mem_replicate.1 (List.mem_of_getElem? h1)).2
      subst hu2
      obtain ⟨n, hn⟩ := cell_u8 Tryz.underlying5 h2
      exact ⟨n, fun _ => by rw [Array.getElem?_eq_getElem (by omega), hn]⟩
    · exact ⟨0, fun h => absurd h hj⟩
  exact ⟨cs, rfl, fun j => (hex j).choose, ⟨hs16, fun j hj => (hex j).choose_spec hj⟩⟩
noncomputable def zero_key : Value := .agg KEZ
end
theorem Cfg.set {cv : Array Value} {c : Nat → Int} (h : Cfg cv c) (i : Nat) (v : Int) : Cfg (cv.setIfInBounds i (.int .i64 v)) (fun k => if k = i then v else c k) :=
  ⟨by rw [Array.size_setIfInBounds]; exact h.size, fun k hk => by
    by_cases e : k = i
    · subst e
      rw [Array.getElem?_setIfInBounds_self_of_lt (by rw [h.size]; exact hk), if_pos rfl]
    · rw [Array.getElem?_setIfInBounds_ne (fun e2 => e e2.symm), if_neg e]
      exact h.at_ k hk⟩
theorem Cfg.congr {cv : Array Value} {c d : Nat → Int} (h : Cfg cv c) (e : ∀ k, k < 20 → c k = d k) : Cfg cv d := ⟨h.size, fun i hi => by rw [← e i hi]; exact h.at_ i hi⟩
/-- The config of TopFull. -/
def fullC (R : Nat) : Nat → Int := fun i => [1, 60, 1, 1, 0, 0, 64, (R : Int), 9216, 1048576, 0, 2, 1048576, 0, 0, 1, 1, 1099511627776, 0, 1048576].getD i 0
theorem full_cfg (R : Nat) : Cfg (((((((((cfgV litC).setIfInBounds 7 (.int .i64 (R : Nat))).setIfInBounds 16 (.int .i64 1)).setIfInBounds 17 (.int .i64 1099511627776)).setIfInBounds 19 (.int .i64 1048576)).setIfInBounds 1 (.int .i64 60)).setIfInBounds 9 (.int .i64 1048576)).setIfInBounds 6 (.int .i64 64)).setIfInBounds 12 (.int .i64 1048576)) (fullC R) := by
  refine Cfg.congr (((((((((cfgV_ok litC).set 7 (R : Nat)).set 16 1).set 17 1099511627776).set 19 1048576).set 1 60).set 9 1048576).set 6 64).set 12 1048576) fun i hi => ?_
  have : i = 0 ∨ i = 1 ∨ i = 2 ∨ i = 3 ∨ i = 4 ∨ i = 5 ∨ i = 6 ∨ i = 7 ∨ i = 8 ∨ i = 9 ∨ i = 10 ∨ i = 11 ∨ i = 12 ∨ i = 13 ∨ i = 14 ∨ i = 15 ∨ i = 16 ∨ i = 17 ∨ i = 18 ∨ i = 19 := by omega
  rcases this with h | h | h | h | h | h | h | h | h | h | h | h | h | h | h | h | h | h | h | h <;> subst h <;> rfl
theorem fullC_right {R : Nat} (h : 1 ≤ R ∧ R ≤ 8) : RightC (fullC R) := by
  refine ⟨by simp [fullC], by simp [fullC], by simp [fullC], by simp [fullC], by simp [fullC], by simp [fullC], by simp [fullC], ?_, by simp [fullC], by simp [fullC], by simp [fullC], by simp [fullC], by simp [fullC], by simp [fullC], by simp [fullC], by simp [fullC], by simp [fullC], by simp [fullC], by simp [fullC], by simp [fullC]⟩
  have e7 : fullC R 7 = (R : Int) := rfl
  rw [e7]
  omega
theorem fullF {cv kv G : Array Value} {R : Nat} {K : Nat → Nat} (h : 1 ≤ R ∧ R ≤ 8) (hv : Cfg cv (fullC R)) (hk : Key16 kv K) : FullF ⟨cv, fullC R, kv, G⟩ R K :=
  ⟨⟨hv, fullC_right h⟩, rfl, rfl, rfl, rfl, rfl, rfl, rfl, rfl, rfl, rfl, rfl, rfl, rfl, rfl, rfl, rfl, rfl, rfl, h, hk⟩
theorem full_begin (cv kv : Array Value) (R : Nat) (w : World) (hv : Cfg cv (fullC R)) (hr : 1 ≤ R ∧ R ≤ 8) (hk : kv.size = 16) :
    Calls Tryz.prog 9 #[.agg cv, .agg kv] w fun e w' => ∃ eb G, e = .returned (.tuple #[.pointer (some ⟨eb, 0, none⟩), .int .i64 0]) ∧ EngF (fun j => j < w.heap.size) eb ⟨cv, fullC R, kv, G⟩ R 0 [] w' ∧ Below w.heap.size w w' := by
  refine (engine_new cv (fullC R) kv w hv (fullC_right hr) hk).mono ?_
  rintro e w' ⟨a, G, rfl, h1, h2, h3, h4⟩
  have e7 : (fullC R 7).toNat = R := rfl
  refine ⟨a.eb, G, rfl, ⟨a, _, _, 0, rfl, fun j hj => ⟨Nat.lt_of_lt_of_le hj h4.size, h3 j hj⟩, h2, rfl, ⟨[], [], ⟨rfl, by simp, rfl, rfl, rfl, rfl⟩, rfl⟩, ⟨⟨0, 0, 0⟩, rfl, by unfold BinOk; decide, rfl⟩, ⟨Nat.le_refl _, by simp [pst0]⟩, rfl, rfl, ?_, rfl, ?_⟩, h4⟩
  · have := tab_new hr 1099511627776
    unfold emp at this
    show Tab R (List.replicate (2 * (fullC R 7).toNat) plc0) [] _
    rw [e7]
    exact this
  · intro i x tb h5 h6
    have h5 : (List.replicate (2 * (fullC R 7).toNat) plc0)[i]? = some x := h5
    have := (List.mem_replicate.1 (List.mem_of_getElem? h5)).2
    rw [this] at h6
    cases h6
end Go.Proofs.YtpanmfdbdgecaaaGreat.C
