/- Turns of which several are awake: the first one is the last one. · Turns of which several are awake: Pick. · Turns of which one at most is awake: Pick. · The police: the first in the penalty class leaves. · The store: Head. · The police: Next, where only those in the box wait. · The pacer: Free, Send. · The scheduler: Free, Poll. · The police: Next, where several wait, none of them in the box. · The scheduler without an engine: Poll, where several wait. -/
import Derived.Test.YtpanmfdbdgecaaaGreatY15
namespace Go.Proofs.YtpanmfdbdgecaaaGreat.C
open Go.RowKit
set_option linter.unusedVariables false
section
variable {w : World} {pb b1 b2 c : Nat} {q : Int} {l : List Tcl} {r : List Nat}
theorem TnAt.turned (h : TnAt w pb b1 b2 q l (c :: r)) {C' : Array Value} {w' : World} (hC : w'.heap[b2]? = some (.cells C' 3 (0, 0))) (hs : C'.size = l.length) (hl : ∀ (j x : Nat), (r ++ [c])[j]? = some x → C'[j]? = some (.int .i64 (x : Nat))) (p : Two b2 b2 w w') : TnAt w' pb b1 b2 q l (r ++ [c]) := by
  obtain ⟨n1, n2, n3⟩ := h.ne
  have e : (r ++ [c]).length = (c :: r).length := by simp
  refine ⟨?_, (p.block b1 (Array.getElem?_eq_some_iff.1 h.row).1 n3 n3).trans h.row, ⟨C', hC, hs, hl⟩, by rw [e]; exact h.len⟩
  rw [e]
  exact (p.block pb (Array.getElem?_eq_some_iff.1 h.ptr).1 n2 n2).trans h.ptr
set_option maxRecDepth 100000 in
set_option maxHeartbeats 1000000 in
theorem last_many (x : Tcl) (h : TnAt w pb b1 b2 q l (c :: r)) (hl : l.length ≤ 129) (hx : l[c]? = some x) :
    Calls Tryz.prog 145 #[.pointer (some ⟨pb, 0, none⟩)] w fun e w' => e = .returned (.tuple #[]) ∧ TnAt w' pb b1 b2 q (l.set c ⟨x.awake, true, x.deficit⟩) (r ++ [c]) ∧ Amg [pb, b1, b2] w w' := by
  have hc := lt_of_some hx
  obtain ⟨c0, c1, c2, f2⟩ := h.c0
  obtain ⟨d0, d1, d2, ff⟩ := h.cls hx
  obtain ⟨ne1, ne2, ne3⟩ := h.ne
  obtain ⟨C, hC, hCs, hCl⟩ := h.lin
  have hc0 : w.cell? ⟨b2, 0, none⟩ = some (.int .i64 (c : Nat)) := cells_of_row hC 0 _ (hCl 0 c rfl)
  have hlen : r.length + 1 ≤ l.length := by have := h.len; simpa using this
  have HH := Lib.hid h
  have HX := Lib.hid hx
  obtain ⟨n, hn⟩ : ∃ n, n = l.length := ⟨_, rfl⟩
  obtain ⟨m1, hm1⟩ : ∃ m1, m1 = r.length := ⟨_, rfl⟩
  obtain ⟨m, hm⟩ : ∃ m, m = m1 + 1 := ⟨_, rfl⟩
  simp only [List.length_cons] at c2
  rw [← hn] at c1 c2 hc hCs hlen hl
  rw [← hm1, ← hm] at c2 hlen
  have HL := Lib.hid hl
  obtain ⟨tl, htl⟩ : ∃ tl : List Value, tl = r.map (fun x => Value.int .i64 (x : Nat)) := ⟨_, rfl⟩
  have htll : tl.length = m1 := by rw [htl, List.length_map, hm1]
  have htla : ∀ j, tl[j]? = (r[j]?).map (fun x => Value.int .i64 (x : Nat)) := fun j => by rw [htl, List.getElem?_map]
  clear htl
  obtain ⟨A, hA⟩ : ∃ A : Addr, (if n = 1 then some (⟨b2, 0, none⟩ : Addr) else some ⟨b2, 1, none⟩) = some A := by
    by_cases h : n = 1
    · exact ⟨_, if_pos h⟩
    · exact ⟨_, if_neg h⟩
  have hnews : ∀ j u, tl[j]? = some u → w.drew.cell? (A.add j) = some u := fun j u hu => by
    rw [htla] at hu
    obtain ⟨x, hx, rfl⟩ := Option.map_eq_some_iff.1 hu
    have hlt := lt_of_some hx
    have hA2 : A = ⟨b2, 1, none⟩ := by
      rw [if_neg (by omega)] at hA
      injection hA with hA
      exact hA.symm
    rw [hA2, OW.addr_off]
    exact cells_of_row (w := w.drew) hC (1 + j) _ (hCl _ _ (by rw [Nat.add_comm]; exact hx))
  have hone : ∀ u ∈ tl, u.oneCell' = true := fun u hu => by
    obtain ⟨j, hj⟩ := List.getElem?_of_mem hu
    rw [htla] at hj
    obtain ⟨x, hx, rfl⟩ := Option.map_eq_some_iff.1 hj
    rfl
  have hinf : (Tryz.prog.info? 3).map (·.size) = some 1 := by kernel_rfl
  have hcp : (Builtin.copy_ #[117, 117] 3 #[.slice (some ⟨b2, 0, none⟩) m n, .slice (some A) m1 (n - 1)]).run Tryz.prog w.drew = .ok (.int .i64 (m1 : Nat)) (w.drew.setCells b2 0 tl) := by
    have := run_copy_cells (P := Tryz.prog) w.drew 117 117 3 3 b2 0 m n A m1 (n - 1) tl Tryz.underlying117 hinf (by rw [htll, hm]; exact (Nat.min_eq_left (by omega)).symm) hnews
      (fun j hj => by
        have h1 : 0 + j < C.size := by omega
        rw [show w.drew.cell? ⟨b2, 0 + j, none⟩ = some C[0 + j] from cells_of_row (w := w.drew) hC _ _ (Array.getElem?_eq_getElem h1)]
        rfl) (fun j hj => frozen_of_row _ _ _ _ _ (show w.drew.heap[b2]? = _ from hC)) hone
    rw [htll] at this
    exact this
  have hcs : 0 + tl.length ≤ C.size := by omega
  have hX := block_setCells 3 tl 0 w.drew b2 C hC hcs
  have hT : Two b2 b2 w (w.drew.setCells b2 0 tl) := Two.setCells (g := b2) (h := b2) (b := b2) (.inl rfl) tl 0 ((Two.refl b2 b2 w).drewN 1)
  obtain ⟨C1, hC1⟩ : ∃ C1, (splice C.toList 0 tl).toArray = C1 := ⟨_, rfl⟩
  have hC1s : C1.size = n := by rw [← hC1, List.size_toArray, splice_length (by simpa using hcs), Array.length_toList, hCs]
  have hC1a : ∀ j : Nat, j < m1 → C1[j]? = tl[j]? := fun j hj => by
    rw [← hC1, List.getElem?_toArray, splice_at (by simpa using hcs)]
    rw [if_neg (by omega), if_pos (by omega)]
    rfl
  rw [hC1] at hX
  have hst := heap_setCell_same _ _ m1 _ _ (.int .i64 (c : Nat)) hX
  have hsl : ∀ (j x : Nat), (r ++ [c])[j]? = some x → (C1.setIfInBounds m1 (.int .i64 (c : Nat)))[j]? = some (.int .i64 (x : Nat)) := fun j x hx => by
    by_cases e : j = m1
    · subst e
      rw [List.getElem?_append_right (by omega), hm1, Nat.sub_self] at hx
      have : c = x := by simpa using hx
      subst this
      exact Array.getElem?_setIfInBounds_self_of_lt (by omega)
    · have hj : j < m1 := by
        have := lt_of_some hx
        simp only [List.length_append, List.length_singleton] at this
        omega
      rw [Array.getElem?_setIfInBounds_ne (fun e' => e e'.symm), hC1a j hj, htla]
      rw [List.getElem?_append_left (by omega)] at hx
      rw [hx]
      rfl
  have hT2 : Two b2 b2 w ((w.drew.setCells b2 0 tl).setCell ⟨b2, m1, none⟩ (.int .i64 (c : Nat))) := Two.setCell (x := ⟨b2, m1, none⟩) hT (.inl rfl) _
  have hP1 := (hT.block pb (Array.getElem?_eq_some_iff.1 h.ptr).1 ne2 ne2).trans h.ptr
  have e1 : (w.drew.setCells b2 0 tl).cell? ⟨pb, 1, none⟩ = some (.slice (some ⟨b1, 0, none⟩) l.length l.length) := cells_of_row hP1 1 _ rfl
  have e2 : (w.drew.setCells b2 0 tl).cell? ⟨pb, 2, none⟩ = some (.slice (some ⟨b2, 0, none⟩) (r.length + 1) l.length) := cells_of_row hP1 2 _ rfl
  rw [← hn] at e1 e2
  rw [← hm1, ← hm] at e2
  have ef := frozen_of_row _ _ m1 _ _ hX
  obtain ⟨u, et⟩ : ∃ u, (w.drew.setCells b2 0 tl).cell? ⟨b2, m1, none⟩ = some u := ⟨_, cells_of_row hX m1 _ (Array.getElem?_eq_getElem (by omega))⟩
  have hR := h.turned hst (by rw [Array.size_setIfInBounds, hC1s, hn]) hsl hT2
  have HR := Lib.hid hR
  have HT2 := Lib.hid hT2
  obtain ⟨g0, g1, g2, gf⟩ := hR.cls hx
  obtain ⟨k0, k1, k2, kf⟩ := hR.c0
  have gf1 := gf (c * 3 + 1)
  rw [← hn] at k1
  have hmI : (m : Int) = (m1 : Int) + 1 := by omega
  have hcn : (c : Int) < (n : Int) := by omega
  have hm1n : (m1 : Int) < (m : Int) := by omega
  have hmw : IntKind.i64.wrap ((m : Int) - 1) = (m1 : Int) := by rw [IntWalk.i64_in _ (by omega)]; omega
  have hmd : m - 1 = m1 := by omega
  have h1m : 1 ≤ m := by omega
  have h1mI : (1 : Int) ≤ (m : Int) := by omega
  have hmn : m ≤ n := hlen
  have hmnI : (m : Int) ≤ (n : Int) := by omega
  have h0m : (0 : Int) < (m : Int) := by omega
  clear h hx hC hCl hCs hnews hone hT hT2 hX hst hsl hC1a hC1 htla htll hcs hP1 hR hC1s gf ff d0 d1 d2 ne1 ne2 ne3 k2 kf g0 g2 hm1 hm hmI hlen hl hinf
  have HN := Lib.hid hn
  clear hn
  go_enter Tryz.func145, Tryz.ntmps145
  go_wp2_with fail
  go_region
  clear hcp hA c0 c1 c2 f2 hc0 e1
  generalize w.drew.setCells b2 0 tl = W at *
  go_wp2_with fail
  go_region
  go_wp2_with fail
  go_end0
  have rr := HR.out.setField HX.out 1 (.bool true) ⟨x.awake, true, x.deficit⟩ (by decide) rfl
  refine ⟨rfl, rr.below (Below.refl _ _).drew, ?_⟩
  exact ((Amg.of_two HT2.out (by simp) (by simp)).trans (Amg.of_two (Two.setCell (g := b1) (h := b1) (x := ⟨b1, c * 3 + 1, none⟩) (Two.refl b1 b1 _) (.inl rfl) (.bool true)) (by simp) (by simp))).drewN 1
end
end Go.Proofs.YtpanmfdbdgecaaaGreat.C

namespace Go.Proofs.YtpanmfdbdgecaaaGreat.C
open Go.RowKit
set_option linter.unusedVariables false
/-- What stands at a round of Pick: at first (1), and behind a turning (0). -/
def Rnd (hd : Nat → Int) (l : List Tcl) (line : List Nat) (k : Nat) (l1 : List Tcl) (line1 : List Nat) : Prop :=
  (k = 1 ∧ l1 = l ∧ line1 = line) ∨ (k = 0 ∧ ∃ c r y, line = c :: r ∧ l[c]? = some y ∧ y.fresh = false ∧ y.deficit < hd c ∧ l1 = l.set c ⟨true, true, y.deficit⟩ ∧ line1 = r ++ [c])
/-- What is told of turns that may be picked. -/
structure MayPick (q : Int) (l : List Tcl) (line : List Nat) : Prop where
  ne : line ≠ []
  nd : line.Nodup
  aw : ∀ c ∈ line, ∃ y, l[c]? = some y ∧ y.awake = true ∧ 0 ≤ y.deficit ∧ y.deficit ≤ q + 9216 ∧ (y.fresh = true → y.deficit ≤ 9216)
  fr : ∀ c ∈ line.tail, ∃ y, l[c]? = some y ∧ y.fresh = true
theorem Rnd.may {hd : Nat → Int} {q : Int} {l l1 : List Tcl} {line line1 : List Nat} {k : Nat} (h : MayPick q l line) (r : Rnd hd l line k l1 line1) (hq : 0 ≤ q) (hh : ∀ c ∈ line, hd c ≤ 9216) :
    MayPick q l1 line1 ∧ l1.length = l.length ∧ (∀ c, c ∈ line1 → c ∈ line) ∧ k ≤ 1 ∧ (k = 0 → ∀ c ∈ line1, ∃ y, l1[c]? = some y ∧ y.fresh = true) := by
  rcases r with ⟨rfl, rfl, rfl⟩ | ⟨rfl, c, r, y, rfl, hy, hf, hn, rfl, rfl⟩
  · exact ⟨h, rfl, fun c hc => hc, Nat.le_refl _, fun e => absurd e (by decide)⟩
  · have hct := lt_of_some hy
    have hcr : c ∉ r := (List.nodup_cons.1 h.nd).1
    have hne : ∀ d ∈ r, c ≠ d := fun d hd e => hcr (by rw [e]; exact hd)
    have mm : ∀ d, d ∈ r ++ [c] → d ∈ c :: r := fun d hd => by
      rcases List.mem_append.1 hd with x | x
      · exact List.mem_cons_of_mem _ x
      · rw [List.mem_singleton.1 x]
        simp
    have e : ∀ d ∈ r, (l.set c ⟨true, true, y.deficit⟩)[d]? = l[d]? := fun d hd => List.getElem?_set_ne (hne d hd)
    have e0 : (l.set c ⟨true, true, y.deficit⟩)[c]? = some ⟨true, true, y.deficit⟩ := List.getElem?_set_self hct
    have ff : ∀ d ∈ r ++ [c], ∃ z, (l.set c ⟨true, true, y.deficit⟩)[d]? = some z ∧ z.fresh = true := fun d hd => by
      rcases List.mem_append.1 hd with x | x
      · rw [e d x]
        exact h.fr d x
      · rw [List.mem_singleton.1 x]
        exact ⟨_, e0, rfl⟩
    obtain ⟨z, hz, z1, z2, z3, z4⟩ := h.aw c (by simp)
    rw [hy] at hz
    injection hz with hz
    subst hz
    have := hh c (by simp)
    refine ⟨⟨by simp, nodup_rot h.nd, fun d hd => ?_, fun d hd => ff d (List.mem_of_mem_tail hd)⟩, List.length_set, mm, by omega, fun _ => ff⟩
    rcases List.mem_append.1 hd with x | x
    · rw [e d x]
      exact h.aw d (List.mem_cons_of_mem _ x)
    · rw [List.mem_singleton.1 x]
      exact ⟨_, e0, rfl, z2, z3, fun _ => by show y.deficit ≤ 9216; omega⟩
theorem Rnd.pick {hd : Nat → Int} {q : Int} {l l1 : List Tcl} {line : List Nat} {k c : Nat} {r : List Nat} {y : Tcl} (h : Rnd hd l line k l1 (c :: r)) (hy : l1[c]? = some y) (hn : y.fresh = true ∨ hd c ≤ y.deficit) (h0 : k = 0 → y.fresh = true) : Picks q hd l line c (l1.set c (paid q y (hd c))) (c :: r) := by
  rcases h with ⟨rfl, rfl, e⟩ | ⟨rfl, c0, r0, y0, rfl, hy0, hf, hn0, rfl, e⟩
  · subst e
    exact .now c r y hy hn
  · exact .later c0 r0 y0 c r y hy0 hf hn0 e.symm hy (h0 rfl)
section
variable {w : World} {pb b1 b2 : Nat} {q : Int} {l : List Tcl} {line : List Nat}
set_option maxRecDepth 100000 in
set_option maxHeartbeats 2000000 in
theorem pick_many (sb : Nat) (hd : Nat → Int) (h : TnAt w pb b1 b2 q l line) (hl : l.length ≤ 129) (hm : MayPick q l line) (hq : 9216 ≤ q ∧ q ≤ 1073741824) (hn : ∀ c ∈ line, 1 ≤ hd c ∧ hd c ≤ 9216)
    (hhd : ∀ c ∈ line, ∀ w', Amg [pb, b1, b2] w w' → Calls Tryz.prog 242 #[.pointer (some ⟨sb, 0, none⟩), .int .i64 (c : Nat)] w' fun e w'' => e = .returned (.int .i64 (hd c)) ∧ Below w'.heap.size w' w'') :
    Calls Tryz.prog 88 #[.pointer (some ⟨pb, 0, none⟩), .iface 134 (.pointer (some ⟨sb, 0, none⟩))] w fun e w' => ∃ c l2 line2, e = .returned (.tuple #[.int .i64 (c : Nat), .bool true]) ∧ Picks q hd l line c l2 line2 ∧ TnAt w' pb b1 b2 q l2 line2 ∧ Amg [pb, b1, b2] w w' := by
  have CH := Lib.hid hhd
  obtain ⟨c0, c1, c2, f2⟩ := h.c0
  have HH := Lib.hid h
  have HM := Lib.hid hm
  have HQ := Lib.hid hq
  have HL := Lib.hid hl
  have HNN := Lib.hid hn
  clear h hhd hm hq hl hn
  go_enter Tryz.func88, Tryz.ntmps88
  go_wp2_with fail
  clear c0 c1 c2 f2
  go_loopg [6, 7, 8] 1 (fun k _ _ _ wr => ∃ l1 line1, TnAt wr pb b1 b2 q l1 line1 ∧ Rnd hd l line k l1 line1 ∧ Amg [pb, b1, b2] w wr)
  case atStart => exact ⟨l, line, HH.out, .inl ⟨rfl, rfl, rfl⟩, Amg.refl _ _⟩
  case round =>
    obtain ⟨l1, line1, hT, hR, hA⟩ := hrel
    obtain ⟨hM1, hlen, hsub, hk1, hk0⟩ := hR.may HM.out (by have := HQ.out; omega) (fun c hc => (HNN.out c hc).2)
    obtain ⟨c, r, rfl⟩ : ∃ c r, line1 = c :: r := by
      cases line1 with
      | nil => exact absurd rfl hM1.ne
      | cons c r => exact ⟨c, r, rfl⟩
    obtain ⟨y, hy, ya, yd0, yd1, yd2⟩ := hM1.aw c (by simp)
    have hcl := hsub c (by simp)
    obtain ⟨n, hn⟩ : ∃ n, n = hd c := ⟨_, rfl⟩
    have hnn := HNN.out c hcl
    have C1 := Lib.hid (CH.out c hcl wr hA)
    rw [← hn] at C1 hnn
    have HN := Lib.hid hn
    have hy0 : gk = 0 → y.fresh = true := fun e => by
      obtain ⟨z, hz, zf⟩ := hk0 e c (by simp)
      rw [hy] at hz
      injection hz with hz
      rw [hz]
      exact zf
    obtain ⟨C, hC, hCs, hCl⟩ := hT.lin
    have e0 : wr.cell? ⟨b2, 0, none⟩ = some (.int .i64 (c : Nat)) := cells_of_row hC 0 _ (hCl 0 c rfl)
    obtain ⟨c0, c1, c2, f2⟩ := hT.c0
    simp only [List.length_cons] at c2
    obtain ⟨m, hm⟩ : ∃ m, m = l1.length := ⟨_, rfl⟩
    obtain ⟨s, hs⟩ : ∃ s, s = r.length + 1 := ⟨_, rfl⟩
    have hlt := lt_of_some hy
    rw [← hm] at c1 c2 hlt
    rw [← hs] at c2
    have hm129 : m ≤ 129 := by rw [hm, hlen]; exact HL.out
    have hsm : s ≤ m := by have := hT.len; rw [← hm, List.length_cons, ← hs] at this; exact this
    have hs0 : (0 : Int) < (s : Int) := by omega
    have hcm : (c : Int) < (m : Int) := by omega
    have HT := Lib.hid hT
    have HA := Lib.hid hA
    have HY := Lib.hid hy
    have HR := Lib.hid hR
    have HK0 := Lib.hid hy0
    have HM0 := Lib.hid hm
    have HS0 := Lib.hid hs
    have HM9 := Lib.hid hm129
    have HB := Lib.hid (And.intro ya (And.intro yd0 (And.intro yd1 yd2)))
    have hn1 : ¬ (n < 1) := by omega
    have hn9 := hnn
    have HNN1 := Lib.hid hnn
    have hmin : (if (9216 : Int) < n then (9216 : Int) else n) = n := if_neg (by omega)
    clear hC hCs hCl hT hA hy hR hy0 hlen hm hs hM1 hsub hk1 hk0 hcl hn hm129 ya yd0 yd1 yd2 hnn
    go_wp2_with fail
    refine C1.out.mono ?_
    rintro e w1 ⟨rfl, hB1⟩
    have hT1 := HT.out.below hB1
    have HA1 := Lib.hid (HA.out.trans (Amg.of_below hB1))
    obtain ⟨d0, d1, d2, ff⟩ := hT1.cls HY.out
    have g1 := ff (c * 3 + 1)
    have g2 := ff (c * 3 + 2)
    obtain ⟨e0', e1', _, _⟩ := hT1.c0
    rw [← HM0.out] at e1'
    have HT1 := Lib.hid hT1
    clear hT1 ff hB1 c0 c1 c2 f2 e0 C1 HT HA
    obtain ⟨ya, yf, yd⟩ := y
    have hya : ya = true := HB.out.1
    subst hya
    have hd0 : 0 ≤ yd := HB.out.2.1
    have hd1 : yd ≤ q + 9216 := HB.out.2.2.1
    have hq := HQ.out
    have ss : ∀ (u v : Tcl), ((l1.set c u).set c v) = l1.set c v := fun u v => List.set_set ..
    have HSS := Lib.hid ss
    have hfix : ∀ (u : Tcl), (l1.set c u)[c]? = some u := fun u => List.getElem?_set_self (lt_of_some HY.out)
    have HFX := Lib.hid hfix
    clear ss hfix
    cases yf
    · by_cases hnd : n ≤ yd
      · have hw : IntKind.i64.wrap (yd - n) = yd - n := IntWalk.i64_in _ (by omega)
        have r1 := HT1.out.setField HY.out 2 (.int .i64 (yd - n)) ⟨true, false, yd - n⟩ (by decide) rfl
        have R1 := Lib.hid r1
        have RA := Lib.hid (HA1.out.trans (Amg.of_two (Two.setCell (g := b1) (h := b1) (x := ⟨b1, c * 3 + 2, none⟩) (Two.refl b1 b1 w1) (.inl rfl) (.int .i64 (yd - n))) (by simp) (by simp)))
        have RP := Lib.hid (HR.out.pick (q := q) HY.out (.inr (by rw [← HN.out]; exact hnd)) HK0.out)
        rw [← HN.out] at RP
        clear r1 hq hd0 hd1
        go_wp2
        go_ret2
        exact ⟨c, _, _, rfl, RP.out, R1.out, RA.out⟩
      · have hndI : yd < n := by omega
        have CL := Lib.hid (last_many ⟨true, false, yd⟩ HT1.out (by rw [← HM0.out]; exact HM9.out) HY.out)
        have HQ1 := Lib.hid hq
        have HND := Lib.hid hndI
        clear hq hd0 hd1
        go_wp2_with fail
        refine CL.out.mono ?_
        rintro e w2 ⟨rfl, hT2, hA2⟩
        have HT2 := Lib.hid hT2
        have HA2 := Lib.hid (HA1.out.trans hA2)
        clear hT2 hA2 CL d0 d1 d2 g1 g2 e0' e1'
        go_wp2_with fail
        have hk : gk = 1 ∧ l1 = l ∧ c :: r = line := by
          rcases HR.out with x | ⟨x, _⟩
          · exact x
          · exact absurd (HK0.out x) (by simp)
        obtain ⟨hk, rfl, rfl⟩ := hk
        go_roundg 0
        case rel => exact ⟨_, _, HT2.out, .inr ⟨rfl, c, r, ⟨true, false, yd⟩, rfl, HY.out, rfl, by rw [← HN.out]; exact HND.out, rfl, rfl⟩, HA2.out⟩
        omega
    · have hd2 : yd ≤ 9216 := HB.out.2.2.2 rfl
      have hw0 : IntKind.i64.wrap (yd + q) = yd + q := IntWalk.i64_in _ (by omega)
      have hw : IntKind.i64.wrap (yd + q - n) = yd + q - n := IntWalk.i64_in _ (by omega)
      have hle : n ≤ yd + q := by omega
      have r1 := HT1.out.setField HY.out 2 (.int .i64 (yd + q)) ⟨true, true, yd + q⟩ (by decide) rfl
      have r2 := r1.setField (HFX.out _) 1 (.bool false) ⟨true, false, yd + q⟩ (by decide) rfl
      rw [HSS.out] at r2
      have r3 := r2.setField (HFX.out _) 2 (.int .i64 (yd + q - n)) ⟨true, false, yd + q - n⟩ (by decide) rfl
      rw [HSS.out] at r3
      have R3 := Lib.hid r3
      have RA := Lib.hid (HA1.out.trans (Amg.of_two (Two.setCell (g := b1) (h := b1) (x := ⟨b1, c * 3 + 2, none⟩) (Two.setCell (g := b1) (h := b1) (x := ⟨b1, c * 3 + 1, none⟩) (Two.setCell (g := b1) (h := b1) (x := ⟨b1, c * 3 + 2, none⟩) (Two.refl b1 b1 w1) (.inl rfl) (.int .i64 (yd + q))) (.inl rfl) (.bool false)) (.inl rfl) (.int .i64 (yd + q - n))) (by simp) (by simp)))
      have RP := Lib.hid (HR.out.pick (q := q) HY.out (.inl rfl) HK0.out)
      rw [← HN.out] at RP
      clear r1 r2 r3 hq hd0 hd1 hd2
      go_wp2_with fail
      go_region
      go_wp2_with fail
      go_ret2
      exact ⟨c, _, _, rfl, RP.out, R3.out.below (Below.refl _ _).drew, RA.out.drewN 1⟩
end
end Go.Proofs.YtpanmfdbdgecaaaGreat.C

namespace Go.Proofs.YtpanmfdbdgecaaaGreat.C
open Go.RowKit
set_option linter.unusedVariables false
section
variable {w : World} {pb b1 b2 c : Nat} {q : Int} {l : List Tcl}
end
end Go.Proofs.YtpanmfdbdgecaaaGreat.C

namespace Go.Proofs.YtpanmfdbdgecaaaGreat.C
open Go.RowKit
set_option linter.unusedVariables false
section
variable {w : World} {A : PAd} {F : PCf} {S : PSt}
end
end Go.Proofs.YtpanmfdbdgecaaaGreat.C

namespace Go.Proofs.YtpanmfdbdgecaaaGreat.C
open Go.RowKit
set_option linter.unusedVariables false
section
variable {w : World} {a : Adr} {L : List (List (Array Value))} {R : Nat}
def headS (L : List (List (Array Value))) (c : Int) : Int := match atS L c 0 with | some x => lenP x | none => 0
set_option maxRecDepth 100000 in
theorem st_head (c : Int) (h : Sto w a L R) :
    Calls Tryz.prog 242 #[.pointer (some ⟨a.sb, 0, none⟩), .int .i64 c] w fun e w' => e = .returned (.int .i64 (headS L c)) ∧ Below w.heap.size w w' := by
  have CA := Lib.hid (st_at c 0 h)
  have hx : Pk ((atS L c 0).getD PZ) ∧ ((atS L c 0).getD PZ)[45]? = some (.int .i64 (headS L c)) := by
    unfold headS
    rcases atS_cases L c 0 with ⟨c, k, l, x, rfl, h0, hl, hx, he⟩ | ⟨he, hn⟩
    · rw [he]
      obtain ⟨A, fl, Q, h⟩ := h
      obtain ⟨q, hq, hql⟩ := h.lk.line hl
      have hkl := lt_of_some hx
      obtain ⟨p, hp⟩ : ∃ p, q[k]? = some p := ⟨_, List.getElem?_eq_getElem (by omega)⟩
      obtain ⟨l', x', h1, h2, h3⟩ := h.lk.at_ hq hp
      rw [hl] at h1
      injection h1 with h1
      subst h1
      rw [hx] at h2
      injection h2 with h2
      subst h2
      have := h.lk.ok l (List.mem_of_getElem? hl) x (List.mem_of_getElem? hx)
      exact ⟨h.slab.pk h3, lenP_cell (x := x) (by omega)⟩
    · rw [he]
      exact ⟨pk_zero, by rfl⟩
  clear h
  generalize (atS L c 0).getD PZ = x at *
  generalize (atS L c 0).isSome = o at *
  generalize headS L c = n at *
  obtain ⟨hpk, hn⟩ := hx
  have HPK := Lib.hid hpk
  have HN := Lib.hid hn
  clear hpk hn
  go_enter Tryz.func242, Tryz.ntmps242
  go_wp2_with fail
  refine CA.out.mono ?_
  rintro e w1 ⟨rfl, hB1⟩
  have HB1 := Lib.hid hB1
  clear hB1
  go_upto_region 2 with (first
    | ((with_reducible refine arm_alloc 5 68 PZ 46 pz_zero ?_); intro w2 HB HX HS; have hst := pkt_store HX.out HPK.out)
    | ((with_reducible refine arm_store 5 11 68 (.pointer (some ⟨w1.heap.size, 0, none⟩)) (.agg x) _ hst ?_ ?_ ?_); rfl; rfl))
  have hbx := box_whole HX.out (cs := x) HPK.out.size
  have hcell : (w2.setCells w1.heap.size 0 x.toList).cell? ⟨w1.heap.size, 45, none⟩ = some (.int .i64 n) := by rw [cell_of_row _ _ _ _ _ _ hbx]; exact HN.out
  have HB3 := Lib.hid (HB1.out.trans ((below_setCells (b := w1.heap.size) (Nat.le_refl _) x.toList 0 HB.out).mono HB1.out.size))
  clear hst hbx
  generalize w2.setCells w1.heap.size 0 x.toList = w3 at *
  go_wp2
  go_ret
  exact ⟨rfl, HB3.out⟩
end
end Go.Proofs.YtpanmfdbdgecaaaGreat.C

namespace Go.Proofs.YtpanmfdbdgecaaaGreat.C
open Go.RowKit
set_option linter.unusedVariables false
theorem results_cell_tmp2 {P : Program} {fn : Func} {p u v : Tmp} {ty : TypeId} (h : fn.results = #[.cell p ty, .tmp u, .tmp v]) (tmps : Array Value) (w : World) :
    (results fn tmps).run P w = ((asAddr (tmps.getD p undef)).run P w).andThen fun a w₁ => ((loadVar ty a).run P w₁).andThen fun x w₂ => .ok (.tuple #[x, tmps.getD u undef, tmps.getD v undef]) w₂ := by
  simp only [results, h]
  simp [Sem.run_bind, Result.andThen]
theorem res_row_tmp2 {P : Program} {fn : Func} {p u v : Tmp} {ty : TypeId} (h : fn.results = #[.cell p ty, .tmp u, .tmp v]) (tmps : Array Value) (w : World) (g : Nat) (t : TypeId) (cs : Array Value) (fr : Nat × Nat) (d : TypeDesc)
    (hp : tmps.getD p undef = .pointer (some ⟨g, 0, none⟩)) (hg : w.heap[g]? = some (.cells cs t fr))
    (hu : P.underlying ty = some d) (hd : (match d with | .struct _ | .array _ _ => true | _ => false) = true) (hi : (P.info? ty).map (·.size) = some cs.size) :
    (results fn tmps).run P w = .ok (.tuple #[.agg cs, tmps.getD u undef, tmps.getD v undef]) w := by
  rw [results_cell_tmp2 h, hp]
  simp [asAddr, run_loadVar_row w g t ty cs fr d hg hu hd hi]
section
variable {w : World} {A : PAd} {F : PCf} {S : PSt}
end
end Go.Proofs.YtpanmfdbdgecaaaGreat.C

namespace Go.Proofs.YtpanmfdbdgecaaaGreat.C
open Go.RowKit
set_option linter.unusedVariables false
section
variable {w : World} {b : Nat} {ns nx : Int}
theorem PaAt.cells (h : PaAt w b ns nx) : w.cell? ⟨b, 0, none⟩ = some (.int .i64 ns) ∧ w.cell? ⟨b, 1, none⟩ = some (.int .i64 nx) ∧ ∀ j, w.frozen? ⟨b, j, none⟩ = false :=
  ⟨cells_of_row h 0 _ rfl, cells_of_row h 1 _ rfl, fun j => frozen_of_row _ _ j _ _ h⟩
theorem PaAt.below {w' : World} (h : PaAt w b ns nx) (p : Below w.heap.size w w') : PaAt w' b ns nx := keep_block p h
theorem pace_free (now : Int) (h : PaAt w b ns nx) (h0 : 0 ≤ now) (h1 : now ≤ 4611686018427387903) :
    Calls Tryz.prog 87 #[.pointer (some ⟨b, 0, none⟩), .int .i64 now] w fun e w' => e = .returned (.bool (decide (nx ≤ now))) ∧ w' = w := by
  obtain ⟨c0, c1, _⟩ := h.cells
  by_cases hn : nx ≤ now
  · rw [decide_eq_true hn]
    go_enter Tryz.func87, Tryz.ntmps87
    go_wp2
    go_ret
    exact ⟨rfl, rfl⟩
  · rw [decide_eq_false hn]
    go_enter Tryz.func87, Tryz.ntmps87
    go_wp2
    go_ret
    exact ⟨rfl, rfl⟩
set_option maxRecDepth 100000 in
theorem pace_send (now n : Int) (h : PaAt w b ns nx) (h0 : 0 ≤ now) (h1 : now ≤ 4611686018427387903) (hn : 1 ≤ n ∧ n ≤ 9216) (hx : nx ≤ now) :
    Calls Tryz.prog 47 #[.pointer (some ⟨b, 0, none⟩), .int .i64 now, .int .i64 n] w fun e w' => e = .returned (.tuple #[.int .i64 now, .int .i64 (addC now (mulC n ns)), .int .i64 0]) ∧ PaAt w' b ns (addC now (mulC n ns)) ∧ Two b b w w' := by
  have CF := Lib.hid (pace_free now h h0 h1)
  rw [decide_eq_true hx] at CF
  obtain ⟨c0, c1, c2⟩ := h.cells
  have f1 := c2 1
  clear c2
  have HP := Lib.hid h
  have CM := Lib.hid (num_mul n ns)
  generalize mulC n ns = m at *
  have CA := Lib.hid (num_add now m)
  have hlt : b < w.heap.size := (Array.getElem?_eq_some_iff.1 h).1
  obtain ⟨hn0, hn1⟩ := hn
  generalize addC now m = s at *
  clear h hx
  go_enter Tryz.func47, Tryz.ntmps47
  go_wp2_with fail
  refine CF.out.mono ?_
  rintro e w1 ⟨rfl, rfl⟩
  go_wp2_with fail
  refine (CM.out _).mono ?_
  rintro e w2 ⟨rfl, rfl⟩
  go_wp2_with fail
  have x0 := Go.heap_alloc_new w2 (.cells #[.int .i64 now, .int .i64 m] 2)
  have hB : Below w2.heap.size w2 (w2.alloc (.cells #[.int .i64 now, .int .i64 m] 2)) := (Below.refl _ _).alloc (Nat.le_refl _) _
  refine (CA.out w2.heap.size _ (cells_of_row x0 0 _ rfl) (cells_of_row x0 1 _ rfl)).mono ?_
  rintro e w3 ⟨rfl, rfl⟩
  generalize w2.alloc (.cells #[.int .i64 now, .int .i64 m] 2) = w3 at *
  have hP3 := keep_block hB HP.out
  obtain ⟨d0, d1, d2⟩ := PaAt.cells (b := b) (ns := ns) (nx := nx) hP3
  have g1 := d2 1
  have hX := heap_setCell_same _ _ 1 _ _ (.int .i64 s) hP3
  have hT : Two b b w2 (w3.setCell ⟨b, 1, none⟩ (.int .i64 s)) := Two.setCell (g := b) (h := b) (x := ⟨b, 1, none⟩) (two_ofB hB) (.inl rfl) _
  have HX := Lib.hid (show PaAt (w3.setCell ⟨b, 1, none⟩ (.int .i64 s)) b ns s from hX)
  have HT := Lib.hid hT
  clear hX hT x0 hB hP3 d2 CA CM CF c0 c1 f1
  go_wp2_with fail
  have d1' := HX.out.cells.2.1
  generalize w3.setCell ⟨b, 1, none⟩ (.int .i64 s) = w4 at *
  go_region
  go_wp2
  go_ret3
  exact ⟨rfl, HX.out, HT.out.drewN 1⟩
end
end Go.Proofs.YtpanmfdbdgecaaaGreat.C

namespace Go.Proofs.YtpanmfdbdgecaaaGreat.C
open Go.RowKit
set_option linter.unusedVariables false
section
variable {w : World} {a : EAd} {F : PCf} {S : PSt} {now nx : Int} {N : Nat → Int}
theorem Eng.sc (h : Eng w a F S now N nx) : w.cell? ⟨a.sb, 0, none⟩ = some (.pointer (some ⟨a.A.pb, 0, none⟩)) ∧ w.cell? ⟨a.sb, 1, none⟩ = some (.pointer (some ⟨a.pc, 0, none⟩)) := ⟨cells_of_row h.sch 0 _ rfl, cells_of_row h.sch 1 _ rfl⟩
/-- A departure. -/
def depC (s c n f t : Int) : Array Value := #[.int .i64 s, .int .i64 c, .int .i64 n, .int .i64 f, .int .i64 t]
theorem dep_zero : (Tryz.prog.info? 74).map (fun i => (i.zero, i.size)) = some (some (.agg (depC 0 0 0 0 0)), 5) := by kernel_rfl
theorem dep_size : (Tryz.prog.info? 74).map (·.size) = some 5 := by kernel_rfl
theorem dep_all (s c n f t : Int) : (depC s c n f t).all (·.oneCell') = true := by kernel_rfl
theorem build_dep (s c n f t : Int) (w : World) : (Instr.build 74 #[(0, .int .i64 s), (1, .int .i64 c), (2, .int .i64 n), (3, .int .i64 f), (4, .int .i64 t)]).run Tryz.prog w = .ok (.agg (depC s c n f t)) w := run_build w 74 _ _ (by kernel_rfl)
theorem Eng.setPac {w' : World} (h : Eng w a F S now N nx) {nx' : Int} (p : Tur a.A.tg [12] w w') (k : PaAt w' a.pc (F.c 11) nx') : Eng w' a F S now N nx' := by
  obtain ⟨t1, t2, t3⟩ := h.tags
  exact ⟨h.pol.tur p (by intro k h1 h2; simp; omega), h.en.tur p (by rw [t1]; decide), p.keep h.sch (by rw [t2]; decide), k, h.tags⟩
end
end Go.Proofs.YtpanmfdbdgecaaaGreat.C

namespace Go.Proofs.YtpanmfdbdgecaaaGreat.C
open Go.RowKit
set_option linter.unusedVariables false
/-- A packet that waits: what is to be known of it. -/
structure WaitP (x : Array Value) (n s : Int) : Prop where
  len : PkL x n
  rng : 1 ≤ n ∧ n ≤ 9216
  seq : x[0]? = some (.int .i64 s)
  key : ∃ fl FK, PkF x fl ∧ KeyOf fl FK
/-- What the police has behind it. -/
def polledS (F : PCf) (S : PSt) (n now : Int) (c : Nat) (l2 : List Tcl) (line2 : List Nat) (l : List (Array Value)) (b : Bin) : PSt :=
  { (leftF F { S with tl := l2, line := line2 } n c l 0 0 b) with b0 := [touchB (F.c 13) (F.c 14) (F.c 4) (F.c 5) now ⟨subC b.bytes n, b.changed, b.p⟩] }
theorem Picks.head {q : Int} {hd : Nat → Int} {l : List Tcl} {line : List Nat} {c : Nat} {l2 : List Tcl} {line2 : List Nat} (h : Picks q hd l line c l2 line2) : ∃ r y, line2 = c :: r ∧ l2[c]? = some y ∧ y.awake = true ∧ l2.length = l.length ∧ c ∈ line := by
  cases h with
  | now _ r y hy hn => exact ⟨r, _, rfl, List.getElem?_set_self (lt_of_some hy), rfl, List.length_set, by simp⟩
  | later c0 r y _ r1 y1 hy hf hn hr hy1 hf1 =>
    refine ⟨r1, _, rfl, List.getElem?_set_self (lt_of_some hy1), rfl, by rw [List.length_set, List.length_set], ?_⟩
    have : c ∈ r ++ [c0] := by rw [hr]; simp
    rcases List.mem_append.1 this with x | x
    · exact List.mem_cons_of_mem _ x
    · rw [List.mem_singleton.1 x]
      simp
theorem Picks.nodup {q : Int} {hd : Nat → Int} {l : List Tcl} {line : List Nat} {c : Nat} {l2 : List Tcl} {line2 : List Nat} (h : Picks q hd l line c l2 line2) (hn : line.Nodup) : line2.Nodup := by
  cases h with
  | now _ r y hy _ => exact hn
  | later c0 r y _ r1 y1 hy hf _ hr hy1 hf1 =>
    rw [← hr]
    exact nodup_rot hn
section
variable {w : World} {A : PAd} {F : PCf} {S : PSt}
set_option maxRecDepth 100000 in
set_option maxHeartbeats 4000000 in
theorem next_many (K : Nat → Nat) (now : Int) (b : Bin) (h : Pol w A F S) (hv : Lv1 F K) (h3 : F.c 3 = 1) (hb : S.b0 = [b]) (hbo : BinOk b) (hnow : 0 ≤ now ∧ now ≤ 4611686018427387903) (hm : MayPick (F.c 8) S.tl S.line) (h8 : 9216 ≤ F.c 8) (hcl : ∀ c ∈ S.line, (c : Int) < F.c 0) (hpk : ∀ c ∈ S.line, ∃ x l n s, S.L[c]? = some (x :: l) ∧ WaitP x n s) (hok : QU.QOk (F.c 9) (F.c 10) S.sh S.ql) (htl : S.tl.length ≤ 129) :
    Calls Tryz.prog 46 #[.pointer (some ⟨A.pb, 0, none⟩), .int .i64 now] w fun e w' => ∃ c l2 line2 x l n s, e = .returned (.tuple #[.agg x, .int .i64 (c : Nat), .bool true]) ∧ Picks (F.c 8) (fun d => headS S.L (d : Nat)) S.tl S.line c l2 line2 ∧ S.L[c]? = some (x :: l) ∧ WaitP x n s ∧ Pol w' A F (polledS F S n now c l2 line2 l b) ∧ Tur A.tg [3, 4, 5, 6, 7] w w' := by
  have hq := h.fok.right.quantum
  have hup := h.fok.right.up
  have hdn := h.fok.right.down
  have hlv := hv.lv
  have HO := Lib.hid h.ok
  have HLI := Lib.hid h.lim
  have H1 : Hid (∀ w' S', Pol w' A F S' → w'.cell? ⟨A.pb, 23, none⟩ = some (.pointer (some ⟨A.tb, 0, none⟩)) ∧ w'.cell? ⟨A.pb, 21, none⟩ = some (.pointer (some ⟨A.st.sb, 0, none⟩))) := Lib.hid fun w' S' q => ⟨q.c23, q.c21⟩
  have CP : Hid (∀ w', Pol w' A F S → Calls Tryz.prog 88 #[.pointer (some ⟨A.tb, 0, none⟩), .iface 134 (.pointer (some ⟨A.st.sb, 0, none⟩))] w' fun e w'' => ∃ c l2 line2, e = .returned (.tuple #[.int .i64 (c : Nat), .bool true]) ∧ Picks (F.c 8) (fun d => headS S.L (d : Nat)) S.tl S.line c l2 line2 ∧ Pol w'' A F { S with tl := l2, line := line2 } ∧ Tur A.tg [5] w' w'') := Lib.hid fun w' q => by
    have ht := q.tn
    have tt : ∀ {a b : World}, Amg [A.tb, A.t1, A.t2] a b → Tur A.tg [5] a b := fun p => Tur.of_amg p (fun k hk => by
      obtain ⟨t1, t2, t3⟩ := q.ok.t
      simp only [List.mem_cons, List.not_mem_nil, or_false] at hk
      rcases hk with rfl | rfl | rfl <;> simp [t1, t2, t3])
    refine (pick_many A.st.sb (fun d => headS S.L (d : Nat)) ht htl hm ⟨h8, hq.2⟩ (fun c hc => ?_) (fun c hc w2 hA => ?_)).mono ?_
    · obtain ⟨x, l, n, s, hl, hx⟩ := hpk c hc
      have : headS S.L (c : Nat) = n := by
        unfold headS
        rw [show ((0 : Int)) = ((0 : Nat) : Int) from rfl, atS_some hl]
        exact hx.len.lenP
      show 1 ≤ headS S.L (c : Nat) ∧ headS S.L (c : Nat) ≤ 9216
      rw [this]
      exact hx.rng
    · have hs := (q.rest (tt hA)).sto (by decide)
      exact st_head (c : Nat) hs
    · rintro e w'' ⟨c, l2, line2, rfl, hp, hT, hA⟩
      exact ⟨c, l2, line2, rfl, hp, (q.rest (tt hA)).setT hT, tt hA⟩
  have CLV : Hid (∀ w' c l2 line2 x l n s, Picks (F.c 8) (fun d => headS S.L (d : Nat)) S.tl S.line c l2 line2 → S.L[c]? = some (x :: l) → WaitP x n s → Pol w' A F { S with tl := l2, line := line2 } → Calls Tryz.prog 79 #[.pointer (some ⟨A.pb, 0, none⟩), .int .i64 (c : Nat), .int .i64 0] w' fun e w'' => e = .returned (.tuple #[.agg x, .bool true]) ∧ Pol w'' A F (leftF F { S with tl := l2, line := line2 } n c l 0 0 b) ∧ Tur A.tg [3, 4, 5, 6, 7] w' w'') := Lib.hid fun w' c l2 line2 x l n s hp hl hx q => by
    obtain ⟨r, y, e1, e2, e3, e4, e5⟩ := hp.head
    obtain ⟨fl, FK, k1, k2⟩ := hx.key
    exact leave_free K FK x fl c 0 0 0 n (x :: l) l y b q hv hx.len k1 k2 (hcl c e5) (by rw [h3]; exact Nat.lt_one_iff.1 (fallV_lt K FK 1 1 (by omega))) (by show S.b0[0]? = some b; rw [hb]; rfl) hx.rng hl rfl rfl hok (by show l2.length ≤ 129; rw [e4]; exact htl) e2 e3 (by show line2[0]? = some c; rw [e1]; rfl) (hp.nodup hm.nd)
  have CPE : Hid (∀ w' S', Pol w' A F S' → Calls Tryz.prog 40 #[.pointer (some ⟨A.pb, 0, none⟩)] w' fun e w'' => e = .returned (.int .i64 (2 * F.c 0)) ∧ w'' = w') := Lib.hid fun w' S' q => police_penalty q
  have CBI : Hid (∀ w' S' fl FK, Pol w' A F S' → KeyOf fl FK → Calls Tryz.prog 80 #[.pointer (some ⟨A.pb, 0, none⟩), .int .i64 0, .agg fl] w' fun e w'' => (∃ v, e = .returned v ∧ BinsR w'.heap.size w'' v 0) ∧ Below w'.heap.size w' w'') := Lib.hid fun w' S' fl FK q hf => by
    have := police_bins K FK fl q hv hf
    rw [h3, show fallV K FK 1 (1 : Int).toNat = 0 from Nat.lt_one_iff.1 (fallV_lt K FK 1 1 (by omega))] at this
    exact this
  have CT : Hid (∀ (w' : World) (g c cl : Nat) (n : Int) (l2 : List Tcl) (line2 : List Nat) (l : List (Array Value)), Pol w' A F (leftF F { S with tl := l2, line := line2 } n cl l 0 0 b) → w'.cell? ⟨g, 0, none⟩ = some (.int .i64 0) → Calls Tryz.prog 81 #[.pointer (some ⟨A.u0, 0, none⟩), .slice (some ⟨g, 0, none⟩) 1 c, .int .i64 now] w' fun e w'' => e = .returned (.bool true) ∧ Pol w'' A F (polledS F S n now cl l2 line2 l b) ∧ Tur A.tg [6] w' w'') := Lib.hid fun w' g c cl n l2 line2 l q hc => by
    have hb0 := q.b0
    rw [hlv, h3] at hb0
    have e0 : (leftF F { S with tl := l2, line := line2 } n cl l 0 0 b).b0 = [⟨subC b.bytes n, b.changed, b.p⟩] := by
      show S.b0.set 0 _ = _
      rw [hb]
      rfl
    rw [e0] at hb0
    refine (blue_touch A.u0 A.v0 g c 0 1 [⟨subC b.bytes n, b.changed, b.p⟩] ⟨subC b.bytes n, b.changed, b.p⟩ (F.c 13) (F.c 14) (F.c 4) (F.c 5) now w' hb0 hc (by omega) (by omega) rfl hbo hnow hup hdn).mono ?_
    rintro e w'' ⟨rfl, hB, hT⟩
    have hT' : Tur A.tg [6] w' w'' := Tur.of_two hT (by simp [q.ok.b0.2]) (by simp [q.ok.b0.2])
    refine ⟨rfl, (q.rest hT').setB0 ?_, hT'⟩
    rw [hlv, h3]
    exact hB
  have HPK := Lib.hid hpk
  have HCL := Lib.hid hcl
  have HP0 := Lib.hid h
  have h00 : 0 < F.c 0 := by have := h.fok.right.buckets; omega
  have HPO := Lib.hid h00
  clear h hok hb hbo hm htl hup hdn hq h3 hv hlv hpk hcl h8
  go_enter Tryz.func46, Tryz.ntmps46
  go_upto_region 1 with ((with_reducible refine arm_alloc 4 68 PZ 46 pz_zero ?_); intro w1 HB HX HS)
  have HP1 := Lib.hid (HP0.out.below HB.out)
  have hlim : A.lim ≤ w.heap.size := HLI.out
  have HNI : Hid (∀ {a b : World} {ks : List Nat}, Tur A.tg ks a b → 0 ∉ ks → ∀ {k : Nat}, w.heap.size ≤ k → ∀ {o}, a.heap[k]? = some o → b.heap[k]? = some o) := Lib.hid fun q h0 k hk o ho => q.keep ho (by rw [HO.out.hi _ (Nat.le_trans hlim hk)]; exact h0)
  clear hlim
  go_wp2_with fail
  have HL1 : Hid (∀ w' ks, Tur A.tg ks w1 w' → 1 ∉ ks → w'.cell? ⟨A.pb, 23, none⟩ = some (.pointer (some ⟨A.tb, 0, none⟩)) ∧ w'.cell? ⟨A.pb, 21, none⟩ = some (.pointer (some ⟨A.st.sb, 0, none⟩))) := Lib.hid fun w' ks q h1 =>
    ⟨cells_of_row ((HP1.out.rest q).ptr h1) 23 _ (polC_hi HP1.out 3), cells_of_row ((HP1.out.rest q).ptr h1) 21 _ (polC_hi HP1.out 1)⟩
  refine wp_region_held_drew (S := Tur A.tg [5] w1) (by kernel_rfl) (Tur.refl _ _ _).drew (fun hHeld => ?_)
  refine wpAnyH_take (i := 0) (oi := ⟨some 16, _, _, _, _, _⟩) (v := ?_) rfl (by kernel_rfl) (by kernel_rfl) (by kernel_rfl) (fun _ _ _ h => h) (Or.inl ⟨by rfl, ?_⟩) hHeld ?_
  rotate_left
  · intro w hSw
    go_simp
    try with_reducible rfl
  try simp only [Act.put, List.setIfInBounds_toArray, List.set_cons_zero, List.set_cons_succ]
  refine wpAnyH_take (i := 1) (oi := ⟨some 17, _, _, _, _, _⟩) (v := ?_) rfl (by kernel_rfl) (by kernel_rfl) (by kernel_rfl) (fun _ _ _ h => h) (Or.inl ⟨by rfl, ?_⟩) hHeld ?_
  rotate_left
  · intro w hSw
    go_simp
    try with_reducible rfl
  try simp only [Act.put, List.setIfInBounds_toArray, List.set_cons_zero, List.set_cons_succ]
  refine wpAnyH_take (i := 2) (oi := ⟨some 18, _, _, _, _, _⟩) (v := ?_) rfl (by kernel_rfl) (by kernel_rfl) (by kernel_rfl) (fun _ _ _ h => h) (Or.inl ⟨by rfl, ?_⟩) hHeld ?_
  rotate_left
  · intro w hSw
    go_simp
    try with_reducible rfl
  try simp only [Act.put, List.setIfInBounds_toArray, List.set_cons_zero, List.set_cons_succ]
  refine wpAnyH_take (i := 3) (oi := ⟨some 19, _, _, _, _, _⟩) (v := ?_) rfl (by kernel_rfl) (by kernel_rfl) (by kernel_rfl) (fun _ _ _ h => h) (Or.inl ⟨by rfl, ?_⟩) hHeld ?_
  rotate_left
  · intro w hSw
    obtain ⟨k0, k1⟩ := HL1.out w _ hSw (by decide)
    go_simp
    try with_reducible rfl
  try simp only [Act.put, List.setIfInBounds_toArray, List.set_cons_zero, List.set_cons_succ]
  refine wpAnyH_take (i := 4) (oi := ⟨some 20, _, _, _, _, _⟩) (v := ?_) rfl (by kernel_rfl) (by kernel_rfl) (by kernel_rfl) (fun _ _ _ h => h) (Or.inl ⟨by rfl, ?_⟩) hHeld ?_
  rotate_left
  · intro w hSw
    go_simp
    try with_reducible rfl
  try simp only [Act.put, List.setIfInBounds_toArray, List.set_cons_zero, List.set_cons_succ]
  refine wpAnyH_take (i := 5) (oi := ⟨some 21, _, _, _, _, _⟩) (v := ?_) rfl (by kernel_rfl) (by kernel_rfl) (by kernel_rfl) (fun _ _ _ h => h) (Or.inl ⟨by rfl, ?_⟩) hHeld ?_
  rotate_left
  · intro w hSw
    go_simp
    try with_reducible rfl
  try simp only [Act.put, List.setIfInBounds_toArray, List.set_cons_zero, List.set_cons_succ]
  refine wpAnyH_take (i := 6) (oi := ⟨some 22, _, _, _, _, _⟩) (v := ?_) rfl (by kernel_rfl) (by kernel_rfl) (by kernel_rfl) (fun _ _ _ h => h) (Or.inl ⟨by rfl, ?_⟩) hHeld ?_
  rotate_left
  · intro w hSw
    go_simp
    try with_reducible rfl
  try simp only [Act.put, List.setIfInBounds_toArray, List.set_cons_zero, List.set_cons_succ]
  refine wpAnyH_take (i := 7) (oi := ⟨some 23, _, _, _, _, _⟩) (v := ?_) rfl (by kernel_rfl) (by kernel_rfl) (by kernel_rfl) (fun _ _ _ h => h) (Or.inl ⟨by rfl, ?_⟩) hHeld ?_
  rotate_left
  · intro w hSw
    obtain ⟨k0, k1⟩ := HL1.out w _ hSw (by decide)
    go_simp
    try with_reducible rfl
  try simp only [Act.put, List.setIfInBounds_toArray, List.set_cons_zero, List.set_cons_succ]
  refine wpAnyH_take (i := 8) (oi := ⟨some 24, _, _, _, _, _⟩) (v := ?_) rfl (by kernel_rfl) (by kernel_rfl) (by kernel_rfl) (fun _ _ _ h => h) (Or.inl ⟨by rfl, ?_⟩) hHeld ?_
  rotate_left
  · intro w hSw
    go_simp
    try with_reducible rfl
  try simp only [Act.put, List.setIfInBounds_toArray, List.set_cons_zero, List.set_cons_succ]
  refine wpAnyH_ready (rs := [9]) (by kernel_rfl) (by simp) ?_
  refine AllReadyH.cons rfl (fun K hK => ?_) AllReadyH.nil
  go_simp
  go_wp2_with (go_at_call 88; go_must (refine (CP.out _ HP1.out.drew).mono ?_; rintro e w9 ⟨cl, l2, line2, rfl, hp9, hP9, hT9⟩))
  refine hK.out _ _ (hHeld.trans hT9) (fun hHeld => ?_)
  clear hK K
  refine wpAnyH_take (i := 10) (oi := ⟨some 15, _, _, _, _, _⟩) (v := ?_) rfl (by kernel_rfl) (by kernel_rfl) (by kernel_rfl) (fun _ _ _ h => h) (Or.inl ⟨by rfl, ?_⟩) hHeld ?_
  rotate_left
  · intro w hSw
    go_simp
    try with_reducible rfl
  try simp only [Act.put, List.setIfInBounds_toArray, List.set_cons_zero, List.set_cons_succ]
  refine wpAnyH_take (i := 11) (oi := ⟨some 26, _, _, _, _, _⟩) (v := ?_) rfl (by kernel_rfl) (by kernel_rfl) (by kernel_rfl) (fun _ _ _ h => h) (Or.inl ⟨by rfl, ?_⟩) hHeld ?_
  rotate_left
  · intro w hSw
    go_simp
    try with_reducible rfl
  try simp only [Act.put, List.setIfInBounds_toArray, List.set_cons_zero, List.set_cons_succ]
  refine wpAnyH_take (i := 12) (oi := ⟨some 27, _, _, _, _, _⟩) (v := ?_) rfl (by kernel_rfl) (by kernel_rfl) (by kernel_rfl) (fun _ _ _ h => h) (Or.inl ⟨by rfl, ?_⟩) hHeld ?_
  rotate_left
  · intro w hSw
    go_simp
    try with_reducible rfl
  try simp only [Act.put, List.setIfInBounds_toArray, List.set_cons_zero, List.set_cons_succ]
  refine wpAnyH_take (i := 13) (oi := ⟨some 7, _, _, _, _, _⟩) (v := ?_) rfl (by kernel_rfl) (by kernel_rfl) (by kernel_rfl) (fun _ _ _ h => h) (Or.inl ⟨by rfl, ?_⟩) hHeld ?_
  rotate_left
  · intro w hSw
    go_simp
    try with_reducible rfl
  try simp only [Act.put, List.setIfInBounds_toArray, List.set_cons_zero, List.set_cons_succ]
  refine wpAnyH_take (i := 14) (oi := ⟨some 8, _, _, _, _, _⟩) (v := ?_) rfl (by kernel_rfl) (by kernel_rfl) (by kernel_rfl) (fun _ _ _ h => h) (Or.inl ⟨by rfl, ?_⟩) hHeld ?_
  rotate_left
  · intro w hSw
    go_simp
    try with_reducible rfl
  try simp only [Act.put, List.setIfInBounds_toArray, List.set_cons_zero, List.set_cons_succ]
  refine wpAnyH_done (by kernel_rfl) ?_ _
  obtain ⟨r, y, hl2, _, _, _, hmem⟩ := hp9.head
  obtain ⟨x, l, n, s, hx9, hw9⟩ := HPK.out cl hmem
  have hcl := HCL.out cl hmem
  obtain ⟨fl, FK, hxf, hf⟩ := hw9.key
  have HF := Lib.hid hf
  have HXF := Lib.hid hxf
  have HFS := Lib.hid hf.size
  have HPI := Lib.hid hp9
  have HX9 := Lib.hid hx9
  have HW9 := Lib.hid hw9
  have HP2 := Lib.hid hP9
  have HX2 := Lib.hid (HNI.out hHeld (by decide) (Nat.le_refl _) HX.out)
  have T2 : Hid (Tur A.tg [3, 4, 5, 6, 7] w w9) := Lib.hid ((Tur.of_below HB.out).trans (hHeld.sub (by simp)))
  have hne : ((cl : Int) == 2 * F.c 0) = false := beq_false_of_ne (by have := HPO.out; omega)
  have hq0 : (cl : Int).tdiv (F.c 0) = 0 := Int.tdiv_eq_zero_of_lt (by omega) hcl
  have hnz : ¬ (F.c 0 = 0) := by have := HPO.out; omega
  have HPK9 := Lib.hid hw9.len.pk
  clear hHeld hP9 hT9 HL1 HX HS HP1 CP hl2 hmem hx9 hw9 hxf hf hp9 hcl
  go_wp2_with fail
  refine (CLV.out _ _ _ _ _ _ _ _ HPI.out HX9.out HW9.out HP2.out).mono ?_
  rintro e w10 ⟨rfl, hP10, hT10⟩
  have HP3 := Lib.hid hP10
  have HX3 := Lib.hid (HNI.out hT10 (by decide) (Nat.le_refl _) HX2.out)
  have T3 : Hid (Tur A.tg [3, 4, 5, 6, 7] w w10) := Lib.hid (T2.out.trans hT10)
  have HS3 := Lib.hid T3.out.size
  clear hP10 hT10 HP2 HX2 T2 CLV
  go_upto_region 7 with (first
    | ((with_reducible refine arm_alloc 9 68 PZ 46 pz_zero ?_); intro w11 HB HX HS; have hst := pkt_store HX.out HPK9.out)
    | ((with_reducible refine arm_store 9 35 68 (.pointer (some ⟨w10.heap.size, 0, none⟩)) (.agg x) _ hst ?_ ?_ ?_); rfl; rfl))
  have hX4 := box_whole HX.out (cs := x) HPK9.out.size
  have hB4 := below_setCells (b := w10.heap.size) (Nat.le_refl _) x.toList 0 HB.out
  clear hst HX HB HS
  generalize w11.setCells w10.heap.size 0 x.toList = w12 at *
  have HP4 := Lib.hid (HP3.out.below hB4)
  have HR4 := Lib.hid (keep_block hB4 HX3.out)
  have T4 : Hid (Tur A.tg [3, 4, 5, 6, 7] w w12) := Lib.hid (T3.out.below hB4)
  have HX4 := Lib.hid hX4
  have HV4 := Lib.hid HS3.out
  generalize w10.heap.size = vb at HX4 HV4 ⊢
  clear hX4 hB4 HP3 HX3 T3 HS3
  have hne2 : ¬ ((cl : Int) = 2 * F.c 0) := by simpa using hne
  have hne3 : ((cl : Int) != 2 * F.c 0) = true := by simpa using hne
  obtain ⟨pn, hpn⟩ : ∃ pn, 2 * F.c 0 = pn := ⟨_, rfl⟩
  rw [hpn] at CPE hne hne2 hne3
  clear hpn
  go_wp2_with fail
  refine (CPE.out _ _ HP4.out).mono ?_
  rintro e w13 ⟨rfl, rfl⟩
  have k0 := HP4.out.lo 0 (by omega)
  have HLD : Hid (∀ w' ks, Tur A.tg ks w13 w' → 1 ∉ ks → 0 ∉ ks → w'.cell? ⟨A.pb, 24, none⟩ = some (.pointer (some ⟨A.u0, 0, none⟩)) ∧ (Instr.loadAt 58 (.pointer (some ⟨vb, 1, none⟩))).run Tryz.prog w' = .ok (.agg fl) w') := Lib.hid fun w' ks q h1 h0 =>
    ⟨cells_of_row ((HP4.out.rest q).ptr h1) 24 _ (polC_hi HP4.out 4), HXF.out.load HFS.out (HNI.out q h0 HV4.out HX4.out)⟩
  go_wp2_with fail
  refine wp_region_held_drew (S := Tur A.tg [6] w13) (by kernel_rfl) (Tur.refl _ _ _).drew (fun hHeld => ?_)
  refine wpAnyH_take (i := 0) (oi := ⟨some 48, _, _, _, _, _⟩) (v := ?_) rfl (by kernel_rfl) (by kernel_rfl) (by kernel_rfl) (fun _ _ _ h => h) (Or.inl ⟨by rfl, ?_⟩) hHeld ?_
  rotate_left
  · intro w hSw
    go_simp
    try with_reducible rfl
  try simp only [Act.put, List.setIfInBounds_toArray, List.set_cons_zero, List.set_cons_succ]
  refine wpAnyH_take (i := 1) (oi := ⟨some 49, _, _, _, _, _⟩) (v := ?_) rfl (by kernel_rfl) (by kernel_rfl) (by kernel_rfl) (fun _ _ _ h => h) (Or.inl ⟨by rfl, ?_⟩) hHeld ?_
  rotate_left
  · intro w hSw
    go_simp
    try with_reducible rfl
  try simp only [Act.put, List.setIfInBounds_toArray, List.set_cons_zero, List.set_cons_succ]
  refine wpAnyH_take (i := 2) (oi := ⟨some 50, _, _, _, _, _⟩) (v := ?_) rfl (by kernel_rfl) (by kernel_rfl) (by kernel_rfl) (fun _ _ _ h => h) (Or.inl ⟨by rfl, ?_⟩) hHeld ?_
  rotate_left
  · intro w hSw
    go_simp
    try with_reducible rfl
  try simp only [Act.put, List.setIfInBounds_toArray, List.set_cons_zero, List.set_cons_succ]
  refine wpAnyH_take (i := 3) (oi := ⟨some 51, _, _, _, _, _⟩) (v := ?_) rfl (by kernel_rfl) (by kernel_rfl) (by kernel_rfl) (fun _ _ _ h => h) (Or.inl ⟨by rfl, ?_⟩) hHeld ?_
  rotate_left
  · intro w hSw
    go_simp
    try with_reducible rfl
  try simp only [Act.put, List.setIfInBounds_toArray, List.set_cons_zero, List.set_cons_succ]
  refine wpAnyH_take (i := 4) (oi := ⟨some 52, _, _, _, _, _⟩) (v := ?_) rfl (by kernel_rfl) (by kernel_rfl) (by kernel_rfl) (fun _ _ _ h => h) (Or.inl ⟨by rfl, ?_⟩) hHeld ?_
  rotate_left
  · intro w hSw
    go_simp
    try with_reducible rfl
  try simp only [Act.put, List.setIfInBounds_toArray, List.set_cons_zero, List.set_cons_succ]
  refine wpAnyH_take (i := 5) (oi := ⟨some 53, _, _, _, _, _⟩) (v := ?_) rfl (by kernel_rfl) (by kernel_rfl) (by kernel_rfl) (fun _ _ _ h => h) (Or.inl ⟨by rfl, ?_⟩) hHeld ?_
  rotate_left
  · intro w hSw
    obtain ⟨k4, _⟩ := HLD.out w _ hSw (by decide) (by decide)
    go_simp
    try with_reducible rfl
  try simp only [Act.put, List.setIfInBounds_toArray, List.set_cons_zero, List.set_cons_succ]
  refine wpAnyH_take (i := 6) (oi := ⟨some 54, _, _, _, _, _⟩) (v := ?_) rfl (by kernel_rfl) (by kernel_rfl) (by kernel_rfl) (fun _ _ _ h => h) (Or.inl ⟨by rfl, ?_⟩) hHeld ?_
  rotate_left
  · intro w hSw
    go_simp
    try with_reducible rfl
  try simp only [Act.put, List.setIfInBounds_toArray, List.set_cons_zero, List.set_cons_succ]
  refine wpAnyH_take (i := 7) (oi := ⟨some 55, _, _, _, _, _⟩) (v := ?_) rfl (by kernel_rfl) (by kernel_rfl) (by kernel_rfl) (fun _ _ _ h => h) (Or.inl ⟨by rfl, ?_⟩) hHeld ?_
  rotate_left
  · intro w hSw
    go_simp
    try with_reducible rfl
  try simp only [Act.put, List.setIfInBounds_toArray, List.set_cons_zero, List.set_cons_succ]
  refine wpAnyH_take (i := 8) (oi := ⟨some 56, _, _, _, _, _⟩) (v := ?_) rfl (by kernel_rfl) (by kernel_rfl) (by kernel_rfl) (fun _ _ _ h => h) (Or.inl ⟨by rfl, ?_⟩) hHeld ?_
  rotate_left
  · intro w hSw
    go_simp
    try with_reducible rfl
  try simp only [Act.put, List.setIfInBounds_toArray, List.set_cons_zero, List.set_cons_succ]
  refine wpAnyH_take (i := 9) (oi := ⟨some 57, _, _, _, _, _⟩) (v := .agg fl) rfl (by kernel_rfl) (by kernel_rfl) (by kernel_rfl) (fun _ _ _ h => h) (Or.inl ⟨by rfl, fun w hSw => exec_load rfl (HLD.out w _ hSw (by decide) (by decide)).2⟩) hHeld ?_
  try simp only [Act.put, List.setIfInBounds_toArray, List.set_cons_zero, List.set_cons_succ]
  refine wpAnyH_take (i := 11) (oi := ⟨some 59, _, _, _, _, _⟩) (v := ?_) rfl (by kernel_rfl) (by kernel_rfl) (by kernel_rfl) (fun _ _ _ h => h) (Or.inl ⟨by rfl, ?_⟩) hHeld ?_
  rotate_left
  · intro w hSw
    go_simp
    try with_reducible rfl
  try simp only [Act.put, List.setIfInBounds_toArray, List.set_cons_zero, List.set_cons_succ]
  refine wpAnyH_ready (rs := [10]) (by kernel_rfl) (by simp) ?_
  refine AllReadyH.cons rfl (fun K hK => ?_) AllReadyH.nil
  go_simp
  go_wp2_with (go_at_call 80; go_must (refine (CBI.out _ _ fl FK HP4.out.drew HF.out).mono ?_; rintro e w10 ⟨⟨v, rfl, g, c, rfl, hge, hgc⟩, hB5⟩))
  refine hK.out _ _ (hHeld.trans (Tur.of_below hB5)) (fun hHeld => ?_)
  clear hK K
  refine wpAnyH_ready (rs := [12]) (by kernel_rfl) (by simp) ?_
  refine AllReadyH.cons rfl (fun K hK => ?_) AllReadyH.nil
  go_simp
  go_wp2_with (go_at_call 81; go_must (refine (CT.out _ g c _ _ _ _ _ (HP4.out.drew.below hB5) hgc).mono ?_; rintro e w12 ⟨rfl, hP6, hT6⟩))
  refine hK.out _ _ (hHeld.trans hT6) (fun hHeld => ?_)
  clear hK K
  refine wpAnyH_done (by kernel_rfl) ?_ _
  have HP6 := Lib.hid hP6
  have HX6 := Lib.hid (HNI.out hHeld (by decide) HV4.out HX4.out)
  have HR6 := Lib.hid (HNI.out hHeld (by decide) (Nat.le_refl _) HR4.out)
  have T6 : Hid (Tur A.tg [3, 4, 5, 6, 7] w w12) := Lib.hid (T4.out.trans (hHeld.sub (by simp)))
  have hld := pkt_load HX6.out HPK9.out
  have hst := pkt_store HR6.out HPK9.out
  have p : Tur A.tg [0] w12 (w12.setCells w.heap.size 0 x.toList) := Tur.of_two (Two.setCells (g := w.heap.size) (h := w.heap.size) (.inl rfl) x.toList 0 (Two.refl _ _ w12)) (by rw [HO.out.hi _ HLI.out]; simp) (by rw [HO.out.hi _ HLI.out]; simp)
  have FI := Lib.hid (And.intro (box_whole HR6.out (cs := x) HPK9.out.size) (And.intro (HP6.out.tur p (by intro k h1 h2; simp; omega)) (T6.out.fresh (Nat.le_refl _) x.toList 0)))
  clear p k0 hP6 hT6 hHeld hgc hge hB5
  go_wp2_with (first | ((with_reducible refine arm_load 61 9 68 (.pointer (some ⟨vb, 0, none⟩)) (.agg x) hld ?_ ?_); rfl) | ((with_reducible refine arm_store 4 61 68 (.pointer (some ⟨w.heap.size, 0, none⟩)) (.agg x) _ hst ?_ ?_ ?_); rfl; rfl))
  refine bodyPost_ret (res_row_tmp2 rfl _ _ _ _ _ _ _ rfl FI.out.1 Tryz.underlying68 rfl (by rw [pkt_size, HPK9.out.size])) rfl ?_
  exact ⟨_, _, _, _, _, _, _, rfl, HPI.out, HX9.out, HW9.out, FI.out.2.1, FI.out.2.2⟩
end
end Go.Proofs.YtpanmfdbdgecaaaGreat.C

namespace Go.Proofs.YtpanmfdbdgecaaaGreat.C
open Go.RowKit
set_option linter.unusedVariables false
structure Sch (w : World) (A : PAd) (sb pc : Nat) (F : PCf) (S : PSt) (nx : Int) : Prop where
  pol : Pol w A F S
  sch : w.heap[sb]? = some (.cells #[.pointer (some ⟨A.pb, 0, none⟩), .pointer (some ⟨pc, 0, none⟩)] 132 (0, 0))
  pac : PaAt w pc (F.c 11) nx
  tags : A.tg sb = 11 ∧ A.tg pc = 12
section
variable {w w' : World} {A : PAd} {sb pc : Nat} {F : PCf} {S S' : PSt} {now nx : Int} {ks : List Nat}
theorem Sch.tur (h : Sch w A sb pc F S nx) (p : Tur A.tg ks w w') (hk : ∀ k, 1 ≤ k → k ≤ 12 → k ∉ ks) : Sch w' A sb pc F S nx := by
  obtain ⟨t2, t3⟩ := h.tags
  exact ⟨h.pol.tur p (fun k h1 h2 => hk k h1 (by omega)), p.keep h.sch (by rw [t2]; exact hk _ (by omega) (by omega)), h.pac.tur p (by rw [t3]; exact hk _ (by omega) (by omega)), h.tags⟩
theorem Sch.below (h : Sch w A sb pc F S nx) (p : Below w.heap.size w w') : Sch w' A sb pc F S nx := h.tur (ks := []) (Tur.of_below p) (by simp)
theorem Sch.drew (h : Sch w A sb pc F S nx) : Sch w.drew A sb pc F S nx := h.below (Below.refl _ _).drew
theorem Sch.setPol (h : Sch w A sb pc F S nx) (p : Tur A.tg ks w w') (hk : 11 ∉ ks ∧ 12 ∉ ks) (q : Pol w' A F S') : Sch w' A sb pc F S' nx := by
  obtain ⟨t2, t3⟩ := h.tags
  exact ⟨q, p.keep h.sch (by rw [t2]; exact hk.1), h.pac.tur p (by rw [t3]; exact hk.2), h.tags⟩
theorem Sch.setPac (h : Sch w A sb pc F S nx) {nx' : Int} (p : Tur A.tg [12] w w') (k : PaAt w' pc (F.c 11) nx') : Sch w' A sb pc F S nx' := by
  obtain ⟨t2, t3⟩ := h.tags
  exact ⟨h.pol.tur p (by intro k h1 h2; simp; omega), p.keep h.sch (by rw [t2]; decide), k, h.tags⟩
theorem Sch.sc (h : Sch w A sb pc F S nx) : w.cell? ⟨sb, 0, none⟩ = some (.pointer (some ⟨A.pb, 0, none⟩)) ∧ w.cell? ⟨sb, 1, none⟩ = some (.pointer (some ⟨pc, 0, none⟩)) := ⟨cells_of_row h.sch 0 _ rfl, cells_of_row h.sch 1 _ rfl⟩
theorem Sch.lim (h : Sch w A sb pc F S nx) : A.lim ≤ w.heap.size := h.pol.lim
theorem Sch.fresh (h : Sch w A sb pc F S nx) {b : Nat} (hb : A.tg b = 0) (x : List Value) (o : Nat) : Sch (w.setCells b o x) A sb pc F S nx :=
  h.tur (ks := [0]) (Tur.of_two (Two.setCells (g := b) (h := b) (.inl rfl) x o (Two.refl _ _ w)) (by rw [hb]; simp) (by rw [hb]; simp)) (by intro k h1 h2; simp; omega)
theorem sch_police (h : Sch w A sb pc F S nx) : Calls Tryz.prog 19 #[.pointer (some ⟨sb, 0, none⟩)] w fun e w' => e = .returned (.pointer (some ⟨A.pb, 0, none⟩)) ∧ w' = w := sched_police sb _ _ w h.sch
theorem sch_free (h : Sch w A sb pc F S nx) (h0 : 0 ≤ now) (h1 : now ≤ 4611686018427387903) :
    Calls Tryz.prog 45 #[.pointer (some ⟨sb, 0, none⟩), .int .i64 now] w fun e w' => e = .returned (.bool (decide (nx ≤ now))) ∧ w' = w := by
  obtain ⟨c0, c1⟩ := h.sc
  have C := Lib.hid (pace_free now h.pac h0 h1)
  clear h
  generalize decide (nx ≤ now) = b at *
  go_enter Tryz.func45, Tryz.ntmps45
  go_wp2_with fail
  refine C.out.mono ?_
  rintro e w1 ⟨rfl, rfl⟩
  go_wp2
  go_ret
  exact ⟨rfl, rfl⟩
theorem sch_new (cv : Array Value) (c : Nat → Int) (kv : Array Value) (w : World) (hv : Cfg cv c) (hr : RightC c) (hk : kv.size = 16) :
    Calls Tryz.prog 17 #[.agg cv, .agg kv] w fun e w' => ∃ A G sb pc, e = .returned (.tuple #[.pointer (some ⟨sb, 0, none⟩), .int .i64 0]) ∧ Sch w' A sb pc ⟨cv, c, kv, G⟩ (pst0 (c 0).toNat (c 2).toNat (c 3).toNat (c 7).toNat) 0 ∧ (∀ k, k < w.heap.size → A.tg k = 0) ∧ Below w.heap.size w w' := by
  refine (sched_new cv c kv w hv hr hk).mono ?_
  rintro e w' ⟨A, G, sb, pc, rfl, hpb, hP, ⟨hl1, hl2, hl3⟩, hS, hA, hlo, hB⟩
  have hlw : w.heap.size ≤ A.lim := by have := hP.ok.lt hP.ok.pb (by omega); omega
  have htg : ∀ k, k < A.lim → (fun k => if k = sb then 11 else if k = pc then 12 else A.tg k) k = A.tg k := fun k hk => by
    show (if k = sb then 11 else if k = pc then 12 else A.tg k) = A.tg k
    rw [if_neg (by omega), if_neg (by omega)]
  have hhi : ∀ k, w'.heap.size ≤ k → (fun k => if k = sb then 11 else if k = pc then 12 else A.tg k) k = 0 := fun k hk => by
    show (if k = sb then 11 else if k = pc then 12 else A.tg k) = 0
    rw [if_neg (by omega), if_neg (by omega)]
    exact hP.ok.hi k (by omega)
  have hn3 : ¬ pc = sb := by omega
  exact ⟨A.re _ _, G, sb, pc, rfl, ⟨hP.re htg hhi (Nat.le_refl _), hS, hA, if_pos rfl, (if_neg hn3).trans (if_pos rfl)⟩, fun k hk => (htg k (by omega)).trans (hlo k hk), hB⟩
set_option maxRecDepth 100000 in
set_option maxHeartbeats 2000000 in
theorem sch_poll (K : Nat → Nat) (b : Bin) (h : Sch w A sb pc F S nx) (h0 : 0 ≤ now) (h1 : now ≤ 4611686018427387903) (hb : nx ≤ now) (hv : Lv1 F K) (h3 : F.c 3 = 1) (hb0 : S.b0 = [b]) (hbo : BinOk b) (hm : MayPick (F.c 8) S.tl S.line) (h8 : 9216 ≤ F.c 8) (hcl : ∀ c ∈ S.line, (c : Int) < F.c 0) (hpk : ∀ c ∈ S.line, ∃ x l n s, S.L[c]? = some (x :: l) ∧ WaitP x n s) (hok : QU.QOk (F.c 9) (F.c 10) S.sh S.ql) (htl : S.tl.length ≤ 129) :
    Calls Tryz.prog 23 #[.pointer (some ⟨sb, 0, none⟩), .int .i64 now] w fun e w' => ∃ c l2 line2 x l n s, e = .returned (.tuple #[.agg (depC s (c : Nat) n now (addC now (mulC n (F.c 11)))), .bool true]) ∧ Picks (F.c 8) (fun d => headS S.L (d : Nat)) S.tl S.line c l2 line2 ∧ S.L[c]? = some (x :: l) ∧ WaitP x n s ∧ Sch w' A sb pc F (polledS F S n now c l2 line2 l b) (addC now (mulC n (F.c 11))) ∧ Tur A.tg [3, 4, 5, 6, 7, 12] w w' := by
  have C := Lib.hid (fun w' (p : Below w.heap.size w w') => sch_free (h.below p) h0 h1)
  rw [decide_eq_true hb] at C
  have CN := Lib.hid (fun w' (p : Below w.heap.size w w') => next_many K now b (h.below p).pol hv h3 hb0 hbo ⟨h0, h1⟩ hm h8 hcl hpk hok htl)
  have HE := Lib.hid h
  have HNW := Lib.hid (And.intro h0 (And.intro h1 hb))
  have HLIM := Lib.hid h.lim
  have hz := dep_zero
  have hsz := dep_size
  have h50 : (depC 0 0 0 0 0).size = 5 := rfl
  generalize depC 0 0 0 0 0 = D0 at *
  have HZ := Lib.hid hz
  have HD05 := Lib.hid h50
  have HSZ := Lib.hid hsz
  have CS : Hid (∀ w' S' n fin, 1 ≤ n ∧ n ≤ 9216 → addC now (mulC n (F.c 11)) = fin → Sch w' A sb pc F S' nx → Calls Tryz.prog 47 #[.pointer (some ⟨pc, 0, none⟩), .int .i64 now, .int .i64 n] w' fun e w'' => e = .returned (.tuple #[.int .i64 now, .int .i64 fin, .int .i64 0]) ∧ Sch w'' A sb pc F S' fin ∧ Tur A.tg [12] w' w'') := Lib.hid fun w' S' n fin hn hfin q => by
    refine (pace_send now n q.pac h0 h1 hn HNW.out.2.2).mono ?_
    rintro e w'' ⟨rfl, k1, k2⟩
    rw [hfin] at k1 ⊢
    have t : Tur A.tg [12] w' w'' := Tur.of_two k2 (by simp [q.tags.2]) (by simp [q.tags.2])
    exact ⟨rfl, q.setPac t k1, t⟩
  clear h hz hsz hv h3 hb0 hbo hm h8 hcl hpk hok htl hb h0 h1 h50
  go_enter Tryz.func23, Tryz.ntmps23
  go_upto_region 1 with ((with_reducible refine arm_alloc 4 74 D0 5 HZ.out ?_); intro w1 HB HX HSS)
  have hzt : A.tg w.heap.size = 0 := HE.out.pol.ok.hi _ HLIM.out
  go_wp2_with fail
  refine (C.out _ HB.out).mono ?_
  rintro e w2 ⟨rfl, rfl⟩
  obtain ⟨c0, c1⟩ := (HE.out.below HB.out).sc
  go_wp2_with fail
  refine (CN.out _ HB.out).mono ?_
  rintro e w3 ⟨cl, l2, line2, x, l, n, s, rfl, hp, hL, hW, hP, hT⟩
  have HPI := Lib.hid hp
  have HLL := Lib.hid hL
  have HW := Lib.hid hW
  have HPK := Lib.hid hW.len.pk
  have HLN := Lib.hid hW.len.len
  have HXS := Lib.hid hW.seq
  have HE3 := Lib.hid ((HE.out.below HB.out).setPol hT (by decide) hP)
  have HX3 := Lib.hid (hT.keep HX.out (by rw [hzt]; decide))
  have T3 : Hid (Tur A.tg [3, 4, 5, 6, 7, 12] w w3) := Lib.hid ((Tur.of_below HB.out).trans (hT.sub (by simp)))
  obtain ⟨fin, hfin⟩ : ∃ fin, addC now (mulC n (F.c 11)) = fin := ⟨_, rfl⟩
  have ha := dep_all s (cl : Nat) n now fin
  have hbd := build_dep s (cl : Nat) n now fin
  have h5 : (depC s (cl : Nat) n now fin).size = 5 := rfl
  obtain ⟨D, hD⟩ : ∃ D, depC s (cl : Nat) n now fin = D := ⟨_, rfl⟩
  rw [hD] at ha hbd h5
  have HDD := Lib.hid hD
  have HBD := Lib.hid hbd
  have HA := Lib.hid ha
  have HS := Lib.hid (show (Tryz.prog.info? 74).map (·.size) = some D.size by rw [h5]; exact HSZ.out)
  have HD5 := Lib.hid h5
  have HFI := Lib.hid hfin
  have CS2 := Lib.hid (fun w' S' => CS.out w' S' n fin hW.rng hfin)
  clear hP hT HB HX HSS c0 c1 C CN hp hL hW hfin hD ha hbd h5 CS
  go_upto_region 4 with (first
    | ((with_reducible refine arm_alloc 6 68 PZ 46 pz_zero ?_); intro w4 HB HX HSS; have hst := pkt_store HX.out HPK.out)
    | ((with_reducible refine arm_store 6 24 68 (.pointer (some ⟨w3.heap.size, 0, none⟩)) (.agg x) _ hst ?_ ?_ ?_); rfl; rfl))
  have hX4 := box_whole HX.out (cs := x) HPK.out.size
  have hB4 := below_setCells (b := w3.heap.size) (Nat.le_refl _) x.toList 0 HB.out
  clear hst
  have hzv : A.tg w3.heap.size = 0 := HE3.out.pol.ok.hi _ HE3.out.pol.lim
  generalize w4.setCells w3.heap.size 0 x.toList = w5 at *
  have HE5 := Lib.hid (HE3.out.below hB4)
  have HX5 := Lib.hid (keep_block hB4 HX3.out)
  have HV5 := Lib.hid hX4
  have T5 : Hid (Tur A.tg [3, 4, 5, 6, 7, 12] w w5) := Lib.hid (T3.out.below hB4)
  clear hB4 hX4 HB HX HSS HX3 HE3 T3
  generalize w3.heap.size = vb at *
  have HL5 : Hid (∀ w' ks, Tur A.tg ks w5 w' → 11 ∉ ks → 0 ∉ ks → w'.cell? ⟨sb, 1, none⟩ = some (.pointer (some ⟨pc, 0, none⟩)) ∧ w'.cell? ⟨vb, 45, none⟩ = some (.int .i64 n)) := Lib.hid fun w' ks q h1 h0 =>
    ⟨cells_of_row (q.keep HE5.out.sch (by rw [HE5.out.tags.1]; exact h1)) 1 _ rfl, cells_of_row (q.keep HV5.out (by rw [hzv]; exact h0)) 45 _ HLN.out⟩
  go_wp2_with fail
  refine wp_region_held_drew (S := Tur A.tg [12] w5) (by kernel_rfl) (Tur.refl _ _ _).drew (fun hHeld => ?_)
  refine wpAnyH_take (i := 0) (oi := ⟨some 31, _, _, _, _, _⟩) (v := ?_) rfl (by kernel_rfl) (by kernel_rfl) (by kernel_rfl) (fun _ _ _ h => h) (Or.inl ⟨by rfl, ?_⟩) hHeld ?_
  rotate_left
  · intro w hSw
    go_simp
    try with_reducible rfl
  try simp only [Act.put, List.setIfInBounds_toArray, List.set_cons_zero, List.set_cons_succ]
  refine wpAnyH_take (i := 1) (oi := ⟨some 32, _, _, _, _, _⟩) (v := ?_) rfl (by kernel_rfl) (by kernel_rfl) (by kernel_rfl) (fun _ _ _ h => h) (Or.inl ⟨by rfl, ?_⟩) hHeld ?_
  rotate_left
  · intro w hSw
    go_simp
    try with_reducible rfl
  try simp only [Act.put, List.setIfInBounds_toArray, List.set_cons_zero, List.set_cons_succ]
  refine wpAnyH_take (i := 2) (oi := ⟨some 33, _, _, _, _, _⟩) (v := ?_) rfl (by kernel_rfl) (by kernel_rfl) (by kernel_rfl) (fun _ _ _ h => h) (Or.inl ⟨by rfl, ?_⟩) hHeld ?_
  rotate_left
  · intro w hSw
    go_simp
    try with_reducible rfl
  try simp only [Act.put, List.setIfInBounds_toArray, List.set_cons_zero, List.set_cons_succ]
  refine wpAnyH_take (i := 3) (oi := ⟨some 34, _, _, _, _, _⟩) (v := ?_) rfl (by kernel_rfl) (by kernel_rfl) (by kernel_rfl) (fun _ _ _ h => h) (Or.inl ⟨by rfl, ?_⟩) hHeld ?_
  rotate_left
  · intro w hSw
    obtain ⟨k0, k1⟩ := HL5.out w _ hSw (by decide) (by decide)
    go_simp
    try with_reducible rfl
  try simp only [Act.put, List.setIfInBounds_toArray, List.set_cons_zero, List.set_cons_succ]
  refine wpAnyH_take (i := 4) (oi := ⟨some 35, _, _, _, _, _⟩) (v := ?_) rfl (by kernel_rfl) (by kernel_rfl) (by kernel_rfl) (fun _ _ _ h => h) (Or.inl ⟨by rfl, ?_⟩) hHeld ?_
  rotate_left
  · intro w hSw
    go_simp
    try with_reducible rfl
  try simp only [Act.put, List.setIfInBounds_toArray, List.set_cons_zero, List.set_cons_succ]
  refine wpAnyH_take (i := 5) (oi := ⟨some 36, _, _, _, _, _⟩) (v := ?_) rfl (by kernel_rfl) (by kernel_rfl) (by kernel_rfl) (fun _ _ _ h => h) (Or.inl ⟨by rfl, ?_⟩) hHeld ?_
  rotate_left
  · intro w hSw
    go_simp
    try with_reducible rfl
  try simp only [Act.put, List.setIfInBounds_toArray, List.set_cons_zero, List.set_cons_succ]
  refine wpAnyH_take (i := 6) (oi := ⟨some 37, _, _, _, _, _⟩) (v := ?_) rfl (by kernel_rfl) (by kernel_rfl) (by kernel_rfl) (fun _ _ _ h => h) (Or.inl ⟨by rfl, ?_⟩) hHeld ?_
  rotate_left
  · intro w hSw
    obtain ⟨k0, k1⟩ := HL5.out w _ hSw (by decide) (by decide)
    go_simp
    try with_reducible rfl
  try simp only [Act.put, List.setIfInBounds_toArray, List.set_cons_zero, List.set_cons_succ]
  refine wpAnyH_ready (rs := [7]) (by kernel_rfl) (by simp) ?_
  refine AllReadyH.cons rfl (fun K hK => ?_) AllReadyH.nil
  go_simp
  go_wp2_with (go_at_call 47; go_must (refine (CS2.out _ _ HE5.out.drew).mono ?_; rintro e w7 ⟨rfl, hE7, hT7⟩))
  refine hK.out _ _ (hHeld.trans hT7) (fun hHeld => ?_)
  clear hK K
  refine wpAnyH_take (i := 8) (oi := ⟨some 30, _, _, _, _, _⟩) (v := ?_) rfl (by kernel_rfl) (by kernel_rfl) (by kernel_rfl) (fun _ _ _ h => h) (Or.inl ⟨by rfl, ?_⟩) hHeld ?_
  rotate_left
  · intro w hSw
    go_simp
    try with_reducible rfl
  try simp only [Act.put, List.setIfInBounds_toArray, List.set_cons_zero, List.set_cons_succ]
  refine wpAnyH_take (i := 9) (oi := ⟨some 39, _, _, _, _, _⟩) (v := ?_) rfl (by kernel_rfl) (by kernel_rfl) (by kernel_rfl) (fun _ _ _ h => h) (Or.inl ⟨by rfl, ?_⟩) hHeld ?_
  rotate_left
  · intro w hSw
    go_simp
    try with_reducible rfl
  try simp only [Act.put, List.setIfInBounds_toArray, List.set_cons_zero, List.set_cons_succ]
  refine wpAnyH_take (i := 10) (oi := ⟨some 40, _, _, _, _, _⟩) (v := ?_) rfl (by kernel_rfl) (by kernel_rfl) (by kernel_rfl) (fun _ _ _ h => h) (Or.inl ⟨by rfl, ?_⟩) hHeld ?_
  rotate_left
  · intro w hSw
    go_simp
    try with_reducible rfl
  try simp only [Act.put, List.setIfInBounds_toArray, List.set_cons_zero, List.set_cons_succ]
  refine wpAnyH_take (i := 11) (oi := ⟨some 41, _, _, _, _, _⟩) (v := ?_) rfl (by kernel_rfl) (by kernel_rfl) (by kernel_rfl) (fun _ _ _ h => h) (Or.inl ⟨by rfl, ?_⟩) hHeld ?_
  rotate_left
  · intro w hSw
    go_simp
    try with_reducible rfl
  try simp only [Act.put, List.setIfInBounds_toArray, List.set_cons_zero, List.set_cons_succ]
  refine wpAnyH_take (i := 12) (oi := ⟨some 9, _, _, _, _, _⟩) (v := ?_) rfl (by kernel_rfl) (by kernel_rfl) (by kernel_rfl) (fun _ _ _ h => h) (Or.inl ⟨by rfl, ?_⟩) hHeld ?_
  rotate_left
  · intro w hSw
    go_simp
    try with_reducible rfl
  try simp only [Act.put, List.setIfInBounds_toArray, List.set_cons_zero, List.set_cons_succ]
  refine wpAnyH_take (i := 13) (oi := ⟨some 10, _, _, _, _, _⟩) (v := ?_) rfl (by kernel_rfl) (by kernel_rfl) (by kernel_rfl) (fun _ _ _ h => h) (Or.inl ⟨by rfl, ?_⟩) hHeld ?_
  rotate_left
  · intro w hSw
    go_simp
    try with_reducible rfl
  try simp only [Act.put, List.setIfInBounds_toArray, List.set_cons_zero, List.set_cons_succ]
  refine wpAnyH_take (i := 14) (oi := ⟨some 11, _, _, _, _, _⟩) (v := ?_) rfl (by kernel_rfl) (by kernel_rfl) (by kernel_rfl) (fun _ _ _ h => h) (Or.inl ⟨by rfl, ?_⟩) hHeld ?_
  rotate_left
  · intro w hSw
    go_simp
    try with_reducible rfl
  try simp only [Act.put, List.setIfInBounds_toArray, List.set_cons_zero, List.set_cons_succ]
  refine wpAnyH_done (by kernel_rfl) ?_ _
  have HE7 := Lib.hid hE7
  have HX7 := Lib.hid (hHeld.keep HX5.out (by rw [hzt]; decide))
  have hV7 := hHeld.keep HV5.out (by rw [hzv]; decide)
  have T7 : Hid (Tur A.tg [3, 4, 5, 6, 7, 12] w w7) := Lib.hid (T5.out.trans (hHeld.sub (by simp)))
  have v0 := cells_of_row hV7 0 _ HXS.out
  have v45 := cells_of_row hV7 45 _ HLN.out
  have hst := box_store (t := 74) (x := D) HX7.out HS.out HA.out (HD05.out.trans HD5.out.symm)
  have hbx := Lib.hid (box_whole (cs := D) HX7.out (HD5.out.trans HD05.out.symm))
  have hb2 := HBD.out w7
  have FE := Lib.hid (And.intro (HE7.out.fresh hzt D.toList 0) (T7.out.fresh (Nat.le_refl _) D.toList 0))
  clear hHeld hE7 hT7 hV7 HL5 HE5 HX5 HV5 T5 CS2
  go_wp2_with (first | ((with_reducible refine arm_build 49 74 _ #[(0, .int .i64 s), (1, .int .i64 (cl : Nat)), (2, .int .i64 n), (3, .int .i64 now), (4, .int .i64 fin)] _ hb2 ?_ ?_); (first | rfl | simp [Act.eval])) | ((with_reducible refine arm_store 4 49 74 _ _ _ hst ?_ ?_ ?_); rfl; rfl))
  refine bodyPost_ret (res_row_tmp rfl _ _ _ _ _ _ _ rfl hbx.out Tryz.underlying74 rfl HS.out) rfl ?_
  rw [← HFI.out] at FE HDD
  exact ⟨_, _, _, _, _, _, _, by rw [← HDD.out]; rfl, HPI.out, HLL.out, HW.out, FE.out.1, FE.out.2⟩
end
end Go.Proofs.YtpanmfdbdgecaaaGreat.C
