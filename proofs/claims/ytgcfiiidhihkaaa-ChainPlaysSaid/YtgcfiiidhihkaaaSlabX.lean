/- The walks of Set, Places and of awake; SlabNone. -/
import Derived.Test.YtgcfiiidhihkaaaSlabI
namespace Go.Proofs.Ytgcfiiidhihkaaa.C.SI
open Go.RowKit
set_option linter.unusedVariables false

theorem set_no (pb b : Nat) (first free i x : Int) (l : List (Place Int)) (w : World) (h : SAt w pb b first free l) (hl : l.length ≤ 65536) (hh : hasP l i = false) :
    Calls Try.prog 25 #[.pointer (some ⟨pb, 0, none⟩), .int .i64 i, .int .i64 x] w fun e w' => e = .returned (.bool false) ∧ w' = w := by
  have C := Lib.hid (has_any pb b first free i l w h hl)
  rw [hh] at C
  clear h hh
  go_enter Try.func25, Try.ntmps25
  go_wp2_with fail
  refine C.out.mono ?_
  rintro e w1 ⟨rfl, rfl⟩
  go_wp2
  go_ret
  exact ⟨rfl, rfl⟩
theorem set_yes (pb b i : Nat) (first free x : Int) (l : List (Place Int)) (p : Place Int) (w : World) (h : SAt w pb b first free l) (hl : l.length ≤ 65536) (hp : Hid (l[i]? = some p)) (ht : p.taken = true) :
    Calls Try.prog 25 #[.pointer (some ⟨pb, 0, none⟩), .int .i64 i, .int .i64 x] w fun e w' => e = .returned (.bool true) ∧ SAt w' pb b first free (l.set i { p with x := x }) ∧ Two pb b w w' := by
  have C := Lib.hid (has_any pb b first free i l w h hl)
  rw [hasP_in hp.out, ht] at C
  have hi := lt_of_some hp.out
  have c0 := h.c0
  obtain ⟨q0, _, _⟩ := h.at_ hp.out
  have f0 := h.fr (i * 3)
  have H := Lib.hid (h.setVal i hp.out x)
  clear h ht
  go_enter Try.func25, Try.ntmps25
  go_wp2_with fail
  refine C.out.mono ?_
  rintro e w1 ⟨rfl, rfl⟩
  go_wp2
  go_ret
  exact ⟨rfl, H.out, (Two.refl pb b _).setCell (x := ⟨b, i * 3, none⟩) (.inr rfl) _⟩
theorem places_any (pb b : Nat) (first free : Int) (l : List (Place Int)) (w : World) (h : SAt w pb b first free l) (hl : l.length ≤ 65536) :
    Calls Try.prog 32 #[.pointer (some ⟨pb, 0, none⟩)] w fun e w' => e = .returned (.int .i64 l.length) ∧ w' = w := by
  have c0 := h.c0
  clear h
  go_enter Try.func32, Try.ntmps32
  go_wp2
  go_ret
  exact ⟨rfl, rfl⟩
theorem places_nil (w : World) : Calls Try.prog 32 #[.pointer none] w fun e w' => e = .returned (.int .i64 0) ∧ w' = w := by
  go_enter Try.func32, Try.ntmps32
  go_wp2
  go_ret
  exact ⟨rfl, rfl⟩
section
variable {w : World} {pb b : Nat} {A : List (Option Int)} {fl : List Nat}
theorem s_set_no (i x : Int) (h : Slab w pb b A fl) (hg : getA A i = none) :
    Calls Try.prog 25 #[.pointer (some ⟨pb, 0, none⟩), .int .i64 i, .int .i64 x] w fun e w' => e = .returned (.bool false) ∧ w' = w := by
  obtain ⟨first, free, l, hS, hI, rfl, hl⟩ := h
  exact set_no pb b first free i x l w hS (by omega) (by rw [getA_hasP, hg]; rfl)
theorem s_set_yes (i x y : Int) (h : Slab w pb b A fl) (hg : getA A i = some y) :
    Calls Try.prog 25 #[.pointer (some ⟨pb, 0, none⟩), .int .i64 i, .int .i64 x] w fun e w' => e = .returned (.bool true) ∧ Slab w' pb b (A.set i.toNat (some x)) fl ∧ Two pb b w w' := by
  obtain ⟨first, free, l, hS, hI, rfl, hl⟩ := h
  obtain ⟨k, nx, rfl, hp⟩ := getA_some hg
  refine (set_yes pb b k first free x l ⟨y, true, nx⟩ w hS (by omega) hp rfl).mono ?_
  rintro e w' ⟨rfl, h1, h2⟩
  exact ⟨rfl, ⟨first, free, _, h1, hI.setX hp x, by rw [absP_set]; rfl, by rw [List.length_set]; exact hl⟩, h2⟩
theorem s_places (h : Slab w pb b A fl) :
    Calls Try.prog 32 #[.pointer (some ⟨pb, 0, none⟩)] w fun e w' => e = .returned (.int .i64 A.length) ∧ w' = w := by
  obtain ⟨first, free, l, hS, hI, rfl, hl⟩ := h
  have := places_any pb b first free l w hS (by omega)
  rw [absP_length]
  exact this
end

theorem awake (w : World) : Calls Try.prog 14 #[] w fun e w' => e = .returned (.bool true) ∧ Below w.heap.size w w' := by
  have C1 : Hid (Calls Try.prog 20 #[.int .i64 1] w _) := s_new 1 w (by omega) (by omega)
  go_enter Try.func14, Try.ntmps14
  go_wp2_with fail
  refine C1.out.mono ?_
  rintro e w1 ⟨rfl, hS, hB⟩
  have C2 : Hid (Calls Try.prog 21 #[.pointer (some ⟨w.heap.size + 1, 0, none⟩), .int .i64 5] w1 _) := s_take_yes 0 [] 5 hS
  clear C1 hS
  go_wp2_with fail
  refine C2.out.mono ?_
  rintro e w2 ⟨rfl, hS2, ht⟩
  have C3 : Hid (Calls Try.prog 23 #[.pointer (some ⟨w.heap.size + 1, 0, none⟩), .int .i64 (0 : Nat)] w2 _) := s_get_yes ((0 : Nat) : Int) 5 hS2 rfl
  clear C2 hS2
  go_wp2_with fail
  refine C3.out.mono ?_
  rintro e w3 ⟨rfl, rfl⟩
  go_wp2
  go_ret
  exact ⟨rfl, hB.trans (ht.below hB.size (by omega) (by omega))⟩

theorem getA_none (n : Nat) (i : Int) : getA (List.replicate n (none : Option Int)) i = none := by
  unfold getA
  split
  · rw [List.getElem?_replicate]
    split <;> rfl
  · rfl
theorem none_nat (p : Nat) (i : Int) (w : World) (hp : p ≤ 65535) : Calls Try.prog 5 #[.int .u16 p, .int .i64 i] w fun e w' => e = .returned (.bool true) ∧ Below w.heap.size w w' := by
  obtain ⟨n, hn⟩ : ∃ n, 1 + p % 4096 = n := ⟨_, rfl⟩
  have n1 : 1 ≤ n := by omega
  have n2 : n ≤ 4096 := by omega
  have e1 : (1 : Int) + (p : Int) % 4096 = (n : Int) := by omega
  clear hn
  have Ha := Lib.hid (awake w)
  go_enter Try.func5, Try.ntmps5
  go_wp2_with fail
  refine Ha.out.mono ?_
  rintro e w1 ⟨rfl, hB1⟩
  go_wp2_with fail
  refine (s_new n w1 n1 n2).mono ?_
  rintro e w2 ⟨rfl, hS, hB2⟩
  have C1 := Lib.hid (s_get_no i hS (getA_none n i))
  have C2 := Lib.hid (s_give_no i hS (getA_none n i))
  have C3 := Lib.hid (s_set_no i 5 hS (getA_none n i))
  have C4 := Lib.hid (s_free hS)
  rw [List.length_range'] at C4
  clear hS e1 Ha
  go_wp2_with fail
  refine C1.out.mono ?_
  rintro e w3 ⟨rfl, rfl⟩
  go_wp2_with fail
  refine C2.out.mono ?_
  rintro e w3 ⟨rfl, rfl⟩
  go_wp2_with fail
  refine C3.out.mono ?_
  rintro e w3 ⟨rfl, rfl⟩
  go_wp2_with fail
  refine C4.out.mono ?_
  rintro e w3 ⟨rfl, rfl⟩
  go_wp2
  go_ret
  exact ⟨rfl, hB1.trans (hB2.mono hB1.size)⟩
end Go.Proofs.Ytgcfiiidhihkaaa.C.SI
namespace Go.Proofs.Ytgcfiiidhihkaaa.C
open Go.RowKit
theorem walk_slabnone (p i : Int) (w : World) (hp : (Lit.int .u16 p).wf = true) (hi : (Lit.int .i64 i).wf = true) : Calls Try.prog 5 #[.int .u16 p, .int .i64 i] w fun e w' => e = .returned (.bool true) ∧ Below w.heap.size w w' := by
  obtain ⟨p0, p1⟩ := bounds_u16 hp
  obtain ⟨p, rfl⟩ := Int.eq_ofNat_of_zero_le p0
  exact SI.none_nat p i w (by omega)
end Go.Proofs.Ytgcfiiidhihkaaa.C
