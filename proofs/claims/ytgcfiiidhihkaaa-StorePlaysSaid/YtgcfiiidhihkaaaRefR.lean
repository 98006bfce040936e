/- The reference's store (a value): how it lies in memory; the walks of New, Class, Waits, Bytes. -/
import Derived.Test.YtgcfiiidhihkaaaOwn
import Derived.Test.YtgcfiiidhihkaaaStoA
import Derived.Test.YtgcfiiidhihkaaaFlows
import Derived.Test.YtgcfiiidhihkaaaPkA
namespace Go.Proofs.Ytgcfiiidhihkaaa.C
open Go.RowKit
set_option linter.unusedVariables false
/-- A packet of the lists: flat, of a length. -/
structure PF (x : Array Value) : Prop where
  flat : Flat Try.prog 79 x
  pk : Pk x
  len : x[45]? = some (.int .i64 (lenP x))
  rng : 1 ≤ lenP x ∧ lenP x ≤ 9216
/-- Packets, as cells. -/
def cellsL (l : List (Array Value)) : List Value := (l.map Array.toList).flatten
theorem cellsL_length {l : List (Array Value)} (h : ∀ x ∈ l, PF x) : (cellsL l).length = l.length * 46 := by
  unfold cellsL
  rw [flat_length 46 _ (fun c hc => by obtain ⟨x, hx, rfl⟩ := List.mem_map.1 hc; simpa using (h x hx).pk.size), List.length_map]
theorem cellsL_at {l : List (Array Value)} (h : ∀ x ∈ l, PF x) {k j : Nat} {x : Array Value} (hx : l[k]? = some x) (hj : j < 46) : (cellsL l)[k * 46 + j]? = x[j]? := by
  unfold cellsL
  rw [flat_at _ (fun c hc => by obtain ⟨x, hx, rfl⟩ := List.mem_map.1 hc; simpa using (h x hx).pk.size) k j x.toList (by simp [hx]) hj]
  simp
theorem cellsL_append (l r : List (Array Value)) : cellsL (l ++ r) = cellsL l ++ cellsL r := by simp [cellsL]
theorem cellsL_one (x : Array Value) : cellsL [x] = x.toList := by simp [cellsL]
theorem cellsL_oneCell {l : List (Array Value)} (h : ∀ x ∈ l, PF x) : ∀ u ∈ cellsL l, u.oneCell' = true := by
  intro u hu
  unfold cellsL at hu
  obtain ⟨c, hc, hu⟩ := List.mem_flatten.1 hu
  obtain ⟨x, hx, rfl⟩ := List.mem_map.1 hc
  exact Array.all_eq_true_iff_forall_mem.1 (h x hx).pk.one u (by simpa using hu)
/-- The reference's value. -/
@[reducible] def rv (g cap n m : Nat) : Value := .agg #[.slice (some ⟨g, 0, none⟩) n cap, .int .i64 (m : Nat)]
/-- Its lists in memory. -/
structure RS (w : World) (base g cap : Nat) (S : List Value) (L : List (List (Array Value))) : Prop where
  outer : w.ownsRow base 83 1 (.slice (some ⟨g, 0, none⟩) L.length cap) L.length S
  inner : ∀ (c : Nat) (l : List (Array Value)), L[c]? = some l → ∃ v, S[c]? = some v ∧ w.ownsRow base 79 46 v l.length (cellsL l)
  pf : ∀ l ∈ L, ∀ x ∈ l, PF x
section
variable {w w' : World} {base g cap m : Nat} {S : List Value} {L : List (List (Array Value))}
theorem RS.keep (h : RS w base g cap S L) (p : ∀ k, base ≤ k → k < w.heap.size → w'.heap[k]? = w.heap[k]?) : RS w' base g cap S L :=
  ⟨OW.keep h.outer p, fun c l hl => by obtain ⟨v, h1, h2⟩ := h.inner c l hl; exact ⟨v, h1, OW.keep h2 p⟩, h.pf⟩
theorem RS.below (h : RS w base g cap S L) (p : Below w.heap.size w w') : RS w' base g cap S L := h.keep fun k _ hk => p.block k hk
theorem RS.amg {bs : List Nat} (h : RS w base g cap S L) (p : Amg bs w w') (hb : ∀ x ∈ bs, x < base) : RS w' base g cap S L := h.keep fun k hk hk' => p.block k hk' fun hm => by have := hb k hm; omega
theorem RS.len (h : RS w base g cap S L) : S.length = L.length := by have := h.outer.1; omega
theorem RS.lt (h : RS w base g cap S L) : base ≤ g ∧ g < w.heap.size := World.ownsRow.lt h.outer g rfl
theorem RS.cell (h : RS w base g cap S L) {c : Nat} {v : Value} (hc : S[c]? = some v) : w.cell? ⟨g, c, none⟩ = some v := by
  have : c < S.length := (List.getElem?_eq_some_iff.1 hc).1
  rw [h.outer.cellAt c (by have := h.len; omega), hc]
/-- The c-th list: its slice, and its k-th packet. -/
theorem RS.line (h : RS w base g cap S L) {c : Nat} {l : List (Array Value)} (hl : L[c]? = some l) :
    ∃ A cp, w.cell? ⟨g, c, none⟩ = some (.slice A l.length cp) ∧ w.ownsRow base 79 46 (.slice A l.length cp) l.length (cellsL l) := by
  obtain ⟨v, h1, h2⟩ := h.inner c l hl
  obtain ⟨A, cp, rfl⟩ := OW.slice h2
  exact ⟨A, cp, h.cell h1, h2⟩
/-- A packet of a row. -/
theorem row_pkt {A : Option Addr} {cp : Nat} {l : List (Array Value)} (h : w.ownsRow base 79 46 (.slice A l.length cp) l.length (cellsL l)) (hp : ∀ x ∈ l, PF x) {k : Nat} {x : Array Value} (hx : l[k]? = some x) :
    ∃ gg, A = some ⟨gg, 0, none⟩ ∧ Laid w ⟨gg, k * 46, none⟩ x := by
  have hk := lt_of_some hx
  obtain ⟨gg, cp', hv, _, _⟩ := h.form (by omega)
  injection hv with hv1 hv2 hv3
  subst hv1 hv3
  refine ⟨gg, rfl, fun j v hv => ?_⟩
  have hpx := hp x (List.mem_of_getElem? hx)
  have hj : j < 46 := by
    have := (Array.getElem?_eq_some_iff.1 hv).1
    rw [hpx.pk.size] at this
    exact this
  rw [OW.addr_off, h.cellAt (k * 46 + j) (by have := Nat.mul_le_mul_right 46 (show k + 1 ≤ l.length by omega); omega), cellsL_at hp hx hj, hv]
end
theorem ref_box (g cap n m : Nat) (w : World) : (w.alloc (.cells #[.slice (some ⟨g, 0, none⟩) n cap, .int .i64 (m : Nat)] 89)).cell? ⟨w.heap.size, 0, none⟩ = some (.slice (some ⟨g, 0, none⟩) n cap) := by
  rw [cell_of_row _ _ _ _ _ _ (Go.heap_alloc_new w _)]; rfl
theorem make_rrows (n : Nat) (hn : n ≤ 65536) (W : World) : (Instr.makeSlice 87 (.int .i64 (n : Int)) (.int .i64 (n : Int))).run Try.prog W = .ok (.slice (some ⟨W.heap.size, 0, none⟩) n n) (W.alloc (.cells (List.replicate n (Value.slice none 0 0)).toArray 83)) := by
  obtain ⟨i0, hi, hz0, hz1, hz2⟩ := info_parts (show (Try.prog.info? 83).map (fun i => (i.zero, i.size, i.bytes)) = some (some (.slice none 0 0), 1, 24) by kernel_rfl)
  have hr := run_make (P := Try.prog) W 87 83 i0 (.slice none 0 0) Try.underlying87 hi hz0 .i64 .i64 n n (by omega) (by omega) (by rw [hz2]; omega) (by omega)
  simp only [Int.toNat_natCast] at hr
  rw [hr, hz1, Nat.mul_one]
  have e : madeCells (Value.slice none 0 0).cells n = (List.replicate n (Value.slice none 0 0)).toArray := by
    apply Array.toList_inj.1
    show (madeCells #[Value.slice none 0 0] n).toList = _
    rw [toList_madeCells_one]
  rw [e]
set_option maxRecDepth 100000 in
theorem rs_new (n m : Nat) (w : World) (base : Nat) (hb : base ≤ w.heap.size) (h1 : 1 ≤ n) (h2 : n ≤ 129) :
    Calls Try.prog 49 #[.int .i64 (n : Nat), .int .i64 (m : Nat)] w fun e w' => ∃ g cap, e = .returned (rv g cap n m) ∧ RS w' base g cap (List.replicate n (Value.slice none 0 0)) (List.replicate n []) ∧ Below w.heap.size w w' := by
  have hmk := make_rrows n (by omega)
  go_enter Try.func49, Try.ntmps49
  go_wp2
  have hbox : ((w.alloc (.cells #[Value.slice (some ⟨w.heap.size + 1, 0, none⟩) n n, .int .i64 (m : Nat)] 89)).alloc (.cells (List.replicate n (Value.slice none 0 0)).toArray 83)).heap[w.heap.size]? = some (.cells #[Value.slice (some ⟨w.heap.size + 1, 0, none⟩) n n, .int .i64 (m : Nat)] 89 (0, 0)) := by
    rw [Go.heap_alloc_old _ _ (by simp), Go.heap_alloc_new]
  (try simp only [Exit.inBlock, Exit.then])
  refine bodyPost_ret (results_cell_row rfl _ _ _ _ _ _ _ rfl hbox Try.underlying89 rfl rfl) rfl ?_
  refine ⟨w.heap.size + 1, n, rfl, ⟨?_, ?_, ?_⟩, ((Below.refl _ _).alloc (Nat.le_refl _) _).alloc (by simp) _⟩
  · have := World.ownsRow_lit (base := base) (e := 83) (size := 1) (w.alloc (.cells #[Value.slice (some ⟨w.heap.size + 1, 0, none⟩) n n, .int .i64 (m : Nat)] 89)) (List.replicate n (Value.slice none 0 0)).toArray n (by simp; omega) (by simp only [maxLen]; omega) (by simp)
    rw [List.length_replicate]
    simpa using this
  · intro c l hl
    rw [List.getElem?_replicate] at hl
    split at hl
    · injection hl with hl
      subst hl
      exact ⟨_, by rw [List.getElem?_replicate, if_pos (by assumption)], World.ownsRow_nil _ _ _ _⟩
    · cases hl
  · intro l hl
    obtain rfl := (List.mem_replicate.1 hl).2
    simp
section
variable {w : World} {base g cap m : Nat} {S : List Value} {L : List (List (Array Value))}
set_option maxRecDepth 100000 in
theorem rs_class (c : Int) (h : RS w base g cap S L) (hL : L.length ≤ 129) :
    Calls Try.prog 69 #[rv g cap L.length m, .int .i64 c] w fun e w' => ∃ A cp, e = .returned (.slice A (clsS L c).length cp) ∧ w'.ownsRow base 79 46 (.slice A (clsS L c).length cp) (clsS L c).length (cellsL (clsS L c)) ∧ Below w.heap.size w w' := by
  have hB : Below w.heap.size w (w.alloc (.cells #[.slice (some ⟨g, 0, none⟩) L.length cap, .int .i64 (m : Nat)] 89)) := (Below.refl _ _).alloc (Nat.le_refl _) _
  by_cases hc : 0 ≤ c ∧ c < L.length
  · obtain ⟨c, rfl⟩ := Int.eq_ofNat_of_zero_le hc.1
    obtain ⟨l, hl⟩ : ∃ l, L[c]? = some l := ⟨_, List.getElem?_eq_getElem (by omega)⟩
    rw [clsS_some hl]
    obtain ⟨A, cp, h1, h2⟩ := (h.below hB).line hl
    have H2 := Lib.hid h2
    have HB := Lib.hid hB
    have hcn : (c : Int) < (L.length : Int) := by omega
    have d0 : decide ((L.length : Int) ≤ (c : Int)) = false := decide_eq_false (by omega)
    have d1 : decide (L.length ≤ c) = false := decide_eq_false (by omega)
    generalize hn : l.length = n at *
    have HN := Lib.hid hn
    clear h hl h2 hc hn hB
    generalize L.length = n at *
    go_enter Try.func69, Try.ntmps69
    go_wp2
    go_ret
    exact ⟨A, cp, rfl, H2.out, HB.out⟩
  · rw [clsS_out hc]
    have HB := Lib.hid hB
    clear h hB
    by_cases h0 : c < 0
    · generalize L.length = n at *
      go_enter Try.func69, Try.ntmps69
      go_wp2
      go_ret
      exact ⟨none, 0, rfl, World.ownsRow_nil _ _ _ _, HB.out⟩
    · have h0' : 0 ≤ c := by omega
      have d0 : decide ((L.length : Int) ≤ c) = true := decide_eq_true (by omega)
      generalize L.length = n at *
      go_enter Try.func69, Try.ntmps69
      go_wp2
      go_ret
      exact ⟨none, 0, rfl, World.ownsRow_nil _ _ _ _, HB.out⟩
end
end Go.Proofs.Ytgcfiiidhihkaaa.C
