/- The walk of Cut (rings of numbers). -/
import Derived.Test.YtpeedbnboghafaaRingX
import Derived.Deep.RegionHeld
namespace Go.Proofs.Ytpeedbnboghafaa.C.RI
open Go.RowKit
set_option linter.unusedVariables false
theorem cut_no (pb b first n : Nat) (i : Int) (l : List Int) (w : World) (h : RAt w pb b first n l) (hi : ¬ (0 ≤ i ∧ i < n)) :
    Calls Try.prog 28 #[.pointer (some ⟨pb, 0, none⟩), .int .i64 i] w fun e w' => e = .returned (.tuple #[.int .i64 0, .bool false]) ∧ w' = w := by
  have C := Lib.hid (at_no pb b first n i l w h hi)
  clear h hi
  go_enter Try.func28, Try.ntmps28
  go_wp2_with fail
  refine C.out.mono ?_
  rintro e w1 ⟨rfl, rfl⟩
  go_wp2
  go_ret2
  exact ⟨rfl, rfl⟩
theorem place_cells (pb b first k n : Nat) (w : World) (c0 : w.cell? ⟨pb, 0, none⟩ = some (.slice (some ⟨b, 0, none⟩) n n)) (c1 : w.cell? ⟨pb, 1, none⟩ = some (.int .i64 (first : Nat))) (hl : n ≤ 65536) (hf : first < n) (hk : k ≤ 65536) :
    Calls Try.prog 34 #[.pointer (some ⟨pb, 0, none⟩), .int .i64 (k : Nat)] w fun e w' => e = .returned (.int .i64 (pl first k n : Nat)) ∧ ∃ m, w' = w.drewN m := by
  have hp : ((pl first k n : Nat) : Int) = ((first : Int) + (k : Int)) % (n : Int) := by simp [pl]
  have hw1 : IntKind.i64.wrap ((first : Int) + (k : Int)) = (first : Int) + (k : Int) := IntWalk.i64_in _ (by omega)
  have ht : ((first : Int) + (k : Int)).tmod (n : Int) = ((first : Int) + (k : Int)) % (n : Int) := Int.tmod_eq_emod_of_nonneg (by omega)
  have hz : ((n : Int) == 0) = false := beq_false_of_ne (by omega)
  have hz' : ¬ (n : Int) = 0 := by omega
  have hw2 : IntKind.i64.wrap (((first : Int) + (k : Int)) % (n : Int)) = ((first : Int) + (k : Int)) % (n : Int) := IntWalk.i64_in _ ⟨by have := Int.emod_nonneg ((first : Int) + (k : Int)) hz'; omega, by have := Int.emod_lt_of_pos ((first : Int) + (k : Int)) (show (0 : Int) < n by omega); omega⟩
  rw [hp]
  clear hp
  go_enter Try.func34, Try.ntmps34
  go_wp2
  go_quiet (fail)
  go_wp2
  go_ret
  exact ⟨rfl, _, rfl⟩
set_option maxRecDepth 100000 in
set_option maxHeartbeats 4000000 in
theorem cut_yes (pb b first c : Nat) (x : Int) (l q : List Int) (w : World) (h : RAt w pb b first q.length l) (hI : RInv l first q) (hl : l.length ≤ 65536) (hc : c < q.length) (hx : q[c]? = some x) :
    Calls Try.prog 28 #[.pointer (some ⟨pb, 0, none⟩), .int .i64 (c : Nat)] w fun e w' => e = .returned (.tuple #[.int .i64 x, .bool true]) ∧ (∃ l', l'.length = l.length ∧ RAt w' pb b first (q.length - 1) l' ∧ RInv l' first (q.eraseIdx c)) ∧ Two pb b w w' := by
  have C := Lib.hid (at_yes pb b first q.length c x l w h hl hI.fst hI.len hc (hI.at_ c x hx))
  have H := Lib.hid h
  have HI := Lib.hid hI
  have hq := hI.len
  have hf := hI.fst
  have hst := RCut.start hI c
  have HST := Lib.hid hst
  clear h hI hx hst
  generalize hn : q.length = n at *
  have HN := Lib.hid hn
  clear hn
  go_enter Try.func28, Try.ntmps28
  go_wp2_with fail
  refine C.out.mono ?_
  rintro e w1 ⟨rfl, m, rfl⟩
  clear C
  go_wp2_with fail
  go_loopw [9] (fun u wr => ∃ (i : Nat) (l' : List Int), u = .int .i64 (i : Nat) ∧ c ≤ i ∧ i < n ∧ RAt wr pb b first n l' ∧ RCut l l' first q c i ∧ Two pb b w wr) (fun u _ => n - (intOf u).toNat)
  case atStart => exact ⟨c, l, rfl, Nat.le_refl _, hc, H.out.drewN m, HST.out, (Two.refl _ _ _).drewN m⟩
  case round =>
    obtain ⟨i, l', rfl, hci, hin, hR, hC, hT⟩ := hrel
    have hl' := hC.len
    have c2 := hR.c2
    by_cases hlt : i + 1 < n
    · obtain ⟨y, hy⟩ : ∃ y, q[i + 1]? = some y := ⟨_, List.getElem?_eq_getElem (by have := HN.out; omega)⟩
      obtain ⟨g1, g2⟩ := hC.step hf (by rw [HN.out]; exact hq) hci (by rw [HN.out]; exact hlt) hy
      have HP1 : Hid (∀ (W : World), W.cell? ⟨pb, 0, none⟩ = some (.slice (some ⟨b, 0, none⟩) l.length l.length) → W.cell? ⟨pb, 1, none⟩ = some (.int .i64 (first : Nat)) → Calls Try.prog 34 #[.pointer (some ⟨pb, 0, none⟩), .int .i64 (i : Nat)] W fun e w' => e = .returned (.int .i64 (pl first i l.length : Nat)) ∧ ∃ m, w' = W.drewN m) := fun W h0 h1 => place_cells pb b first i l.length W h0 h1 (by omega) (by omega) (by omega)
      have HP2 : Hid (∀ (W : World), W.cell? ⟨pb, 0, none⟩ = some (.slice (some ⟨b, 0, none⟩) l.length l.length) → W.cell? ⟨pb, 1, none⟩ = some (.int .i64 (first : Nat)) → Calls Try.prog 34 #[.pointer (some ⟨pb, 0, none⟩), .int .i64 ((i : Int) + 1)] W fun e w' => e = .returned (.int .i64 (pl first (i + 1) l.length : Nat)) ∧ ∃ m, w' = W.drewN m) := fun W h0 h1 => place_cells pb b first (i + 1) l.length W h0 h1 (by omega) (by omega) (by omega)
      have hp12 : ¬ pl first i l.length = pl first (i + 1) l.length := fun e => by have := pl_inj hf (by omega) (by omega) e; omega
      have hpbb := hR.ne
      have c1 := hR.c1
      have lt1 : pl first i l.length < l.length := pl_lt (by omega)
      have lt2 : pl first (i + 1) l.length < l.length := pl_lt (by omega)
      have c0 := hR.c0
      rw [hl'] at c0
      have cy := hR.at_ g1
      obtain ⟨z, hz⟩ : ∃ z, l'[pl first i l.length]? = some z := ⟨_, List.getElem?_eq_getElem (by omega)⟩
      have cz := hR.at_ hz
      have fz := hR.fr (pl first i l.length)
      have HR : Hid (∀ t, RAt ((wr.drewN t).setCell ⟨b, pl first i l.length, none⟩ (.int .i64 y)) pb b first n (l'.set (pl first i l.length) y)) := fun t => (hR.drewN t).setX _ y
      have HSt : Hid (∀ t, ((wr.drewN t).setCell ⟨b, pl first i l.length, none⟩ (.int .i64 y)).cell? ⟨pb, 0, none⟩ = some (.slice (some ⟨b, 0, none⟩) l.length l.length) ∧ ((wr.drewN t).setCell ⟨b, pl first i l.length, none⟩ (.int .i64 y)).cell? ⟨pb, 1, none⟩ = some (.int .i64 (first : Nat)) ∧ ((wr.drewN t).setCell ⟨b, pl first i l.length, none⟩ (.int .i64 y)).cell? ⟨b, pl first (i + 1) l.length, none⟩ = some (.int .i64 y)) := fun t => by
        have h := HR.out t
        have h0 := h.c0
        rw [List.length_set, hl'] at h0
        exact ⟨h0, h.c1, h.at_ (by rw [List.getElem?_set_ne hp12]; exact g1)⟩
      have HC2 := Lib.hid g2
      generalize pl first i l.length = p1 at *
      generalize pl first (i + 1) l.length = p2 at *
      clear hR hC hy g1 g2 hz
      go_wp2_with fail
      have hwi : IntKind.i64.wrap ((i : Int) + 1) = (i : Int) + 1 := IntWalk.i64_in _ (by omega)
      have hp21 : ¬ p2 = p1 := fun e => hp12 e.symm
      have hbpb : ¬ b = pb := fun e => hpbb e.symm
      go_region_held (fun w' => w'.cell? ⟨pb, 0, none⟩ = some (.slice (some ⟨b, 0, none⟩) l.length l.length) ∧ w'.cell? ⟨pb, 1, none⟩ = some (.int .i64 (first : Nat)) ∧ w'.cell? ⟨b, p2, none⟩ = some (.int .i64 y)) (first | exact HSt.out _ | go_keep)
        (first
          | (go_at_call_of 34 (Value.int IntKind.i64 (i : Int)); refine (HP1.out _ ?_ ?_).mono ?_; (simp [*]); (simp [*]); rintro e w5 ⟨rfl, q5, rfl⟩)
          | (go_at_call 34; refine (HP2.out _ ?_ ?_).mono ?_; (simp [*]); (simp [*]); rintro e w5 ⟨rfl, q5, rfl⟩))
      all_goals
        go_wp2
        go_roundw
        case rel => exact ⟨i + 1, _, by go_num, by omega, by omega, HR.out _, HC2.out, (hT.drewN _).setCell (x := ⟨b, p1, none⟩) (.inr rfl) _⟩
        case measure => simp [intOf]; omega
    · have hin' : i + 1 = n := by omega
      have g := hC.done hf (by rw [HN.out]; exact hq) (by rw [HN.out]; exact hc) (by rw [HN.out]; exact hin') 0
      rw [HN.out] at g
      have f2 := hR.f 2
      have hR2 := hR.setN (n - 1)
      have HP : Hid (∀ t, Calls Try.prog 34 #[.pointer (some ⟨pb, 0, none⟩), .int .i64 ((n : Int) - 1)] ((wr.setCell ⟨pb, 2, none⟩ (.int .i64 ((n : Int) - 1))).drewN t) fun e w' => e = .returned (.int .i64 (pl first (n - 1) l'.length : Nat)) ∧ ∃ m, w' = ((wr.setCell ⟨pb, 2, none⟩ (.int .i64 ((n : Int) - 1))).drewN t).drewN m) := fun t => by
        have e1 : (n : Int) - 1 = ((n - 1 : Nat) : Int) := by omega
        rw [e1]
        exact place_any pb b first (n - 1) (n - 1) l' _ (hR2.drewN t) (by omega) (by omega) (by omega)
      have e1 : ((n - 1 : Nat) : Int) = (n : Int) - 1 := by omega
      rw [e1] at hR2
      have lt1 : pl first (n - 1) l'.length < l'.length := pl_lt (by omega)
      have c0 := hR2.c0
      have d2 := hR2.c2
      rw [e1] at d2
      obtain ⟨z, hz⟩ : ∃ z, l'[pl first (n - 1) l'.length]? = some z := ⟨_, List.getElem?_eq_getElem (by omega)⟩
      have cz := hR2.at_ hz
      have fz := hR2.fr (pl first (n - 1) l'.length)
      have HR : Hid (∀ t, RAt (((wr.setCell ⟨pb, 2, none⟩ (.int .i64 ((n : Int) - 1))).drewN t).setCell ⟨b, pl first (n - 1) l'.length, none⟩ (.int .i64 0)) pb b first (n - 1) (l'.set (pl first (n - 1) l'.length) 0)) := fun t => (hR2.drewN t).setX _ 0
      have HG := Lib.hid g
      generalize pl first (n - 1) l'.length = p1 at *
      clear hR hR2 hC hz g e1
      go_wp2_with fail
      go_region_with (go_at_call 34; refine (HP.out _).mono ?_; rintro e w5 ⟨rfl, q5, rfl⟩)
      all_goals
        go_wp2
        go_ret2
        exact ⟨rfl, ⟨_, by rw [List.length_set]; exact hl', HR.out _, HG.out⟩, ((hT.setCell (x := ⟨pb, 2, none⟩) (.inl rfl) _).drewN _).setCell (x := ⟨b, p1, none⟩) (.inr rfl) _⟩
section
variable {w : World} {pb b room : Nat} {q : List Int}
theorem r_cut_no (i : Int) (h : Ring w pb b room q) (hi : ¬ (0 ≤ i ∧ i < q.length)) :
    Calls Try.prog 28 #[.pointer (some ⟨pb, 0, none⟩), .int .i64 i] w fun e w' => e = .returned (.tuple #[.int .i64 0, .bool false]) ∧ w' = w := by
  obtain ⟨first, l, h1, h2, rfl, h4⟩ := h
  exact cut_no pb b first _ i l w h1 hi
theorem r_cut (c : Nat) (x : Int) (h : Ring w pb b room q) (hx : q[c]? = some x) :
    Calls Try.prog 28 #[.pointer (some ⟨pb, 0, none⟩), .int .i64 (c : Nat)] w fun e w' => e = .returned (.tuple #[.int .i64 x, .bool true]) ∧ Ring w' pb b room (q.eraseIdx c) ∧ Two pb b w w' := by
  obtain ⟨first, l, h1, h2, rfl, h4⟩ := h
  have hc := lt_of_some hx
  refine (cut_yes pb b first c x l q w h1 h2 (by omega) hc hx).mono ?_
  rintro e w' ⟨rfl, ⟨l', hl', h5, h6⟩, h7⟩
  refine ⟨rfl, ⟨first, l', ?_, h6, hl', h4⟩, h7⟩
  rw [List.length_eraseIdx_of_lt hc]
  exact h5
end
end Go.Proofs.Ytpeedbnboghafaa.C.RI
