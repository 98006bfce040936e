/- Boxes of mail, told by what is in them: New, Put, Take, Len, Drain. -/
import Derived.Test.YtpeedbnboghafaaMail
import Derived.Maps.AppendAt
import Derived.Deep.AppendLies
import Derived.Outline
import Derived.Conc.LoneSelectN
import Derived.Deep.DeepMust
namespace Go.Proofs.Ytpeedbnboghafaa.C
open Go.RowKit Go.Conc
set_option linter.unusedVariables false

def ints (l : List Int) : List Value := l.map (Value.int .i64)
theorem ints_length (l : List Int) : (ints l).length = l.length := by simp [ints]
theorem ints_at (l : List Int) (c : Nat) : (ints l)[c]? = (l[c]?).map (Value.int .i64) := by simp [ints]

/-- A box in memory: its struct in block pb, its channel in block c, for cap things; what is in it. -/
def MBox (w : World) (pb c cap : Nat) (l : List Int) : Prop :=
  w.heap[pb]? = some (.cells #[.chan (some c)] 71 (0, 0)) ∧ ∃ s r, w.heap[c]? = some (.chan cap (ints l).toArray false s r false)
section
variable {w : World} {pb c cap : Nat} {l : List Int}
theorem MBox.cell (h : MBox w pb c cap l) : w.cell? ⟨pb, 0, none⟩ = some (.chan (some c)) := by rw [cell_of_row _ _ _ _ _ _ h.1]; rfl
theorem MBox.lt (h : MBox w pb c cap l) : pb < w.heap.size ∧ c < w.heap.size := by
  obtain ⟨h1, s, r, h2⟩ := h
  exact ⟨(Array.getElem?_eq_some_iff.1 h1).1, (Array.getElem?_eq_some_iff.1 h2).1⟩
theorem MBox.ne (h : MBox w pb c cap l) : pb ≠ c := by
  rintro rfl
  obtain ⟨h1, s, r, h2⟩ := h
  rw [h1] at h2
  cases h2
theorem MBox.drewN (h : MBox w pb c cap l) (n : Nat) : MBox (w.drewN n) pb c cap l := h
theorem MBox.below (h : MBox w pb c cap l) {w' : World} (p : Below w.heap.size w w') : MBox w' pb c cap l := by
  obtain ⟨l1, l2⟩ := h.lt
  obtain ⟨h1, s, r, h2⟩ := h
  exact ⟨(p.block pb l1).trans h1, s, r, (p.block c l2).trans h2⟩
theorem MBox.grown (h : MBox w pb c cap l) {w' : World} {row : Option Nat} (p : w.grownBy w' row) (h1 : some pb ≠ row) (h2 : some c ≠ row) : MBox w' pb c cap l := by
  obtain ⟨l1, l2⟩ := h.lt
  obtain ⟨g1, s, r, g2⟩ := h
  exact ⟨(p.block pb l1 h1).trans g1, s, r, (p.block c l2 h2).trans g2⟩
theorem MBox.set (h : MBox w pb c cap l) (l' : List Int) (s r : Nat) : MBox (w.setChan c cap (ints l').toArray false s r false) pb c cap l' := by
  obtain ⟨l1, l2⟩ := h.lt
  refine ⟨?_, s, r, heap_setChan _ _ _ _ _ _ _ _ l2⟩
  simp only [World.setChan]
  rw [Array.getElem?_setIfInBounds_ne (fun e => h.ne e.symm)]
  exact h.1
theorem two_setChan {g c : Nat} (w : World) (cap : Nat) (buf : Array Value) (cl : Bool) (s r : Nat) (tm : Bool) : Two g c w (w.setChan c cap buf cl s r tm) :=
  ⟨rfl, rfl, rfl, by simp [World.setChan], fun k _ _ h2 => by simp only [World.setChan]; rw [Array.getElem?_setIfInBounds_ne (fun e => h2 e.symm)]⟩

theorem b_put_room (x : Int) (h : MBox w pb c cap l) (hl : l.length < cap) :
    Calls Try.prog 23 #[.pointer (some ⟨pb, 0, none⟩), .int .i64 x] w fun e w' => e = .returned (.bool true) ∧ MBox w' pb c cap (l ++ [x]) ∧ Two pb c w w' := by
  have hc := h.cell
  obtain ⟨_, s, r, h2⟩ := id h
  refine (put_room pb c cap s r x _ w hc h2 (by simpa [ints] using hl)).mono ?_
  rintro e w' ⟨rfl, rfl⟩
  have e : (ints l).toArray.push (.int .i64 x) = (ints (l ++ [x])).toArray := by simp [ints]
  rw [e]
  exact ⟨rfl, h.set _ _ _, two_setChan _ _ _ _ _ _ _⟩
theorem b_put_full (x : Int) (h : MBox w pb c cap l) (hl : ¬ l.length < cap) :
    Calls Try.prog 23 #[.pointer (some ⟨pb, 0, none⟩), .int .i64 x] w fun e w' => e = .returned (.bool false) ∧ w' = w := by
  have hc := h.cell
  obtain ⟨_, s, r, h2⟩ := h
  exact put_full pb c cap s r x _ w hc h2 (by simpa [ints] using hl)
theorem b_take_some (x : Int) (t : List Int) (h : MBox w pb c cap (x :: t)) :
    Calls Try.prog 26 #[.pointer (some ⟨pb, 0, none⟩)] w fun e w' => e = .returned (.tuple #[.int .i64 x, .bool true]) ∧ MBox w' pb c cap t ∧ Two pb c w w' := by
  have hc := h.cell
  obtain ⟨_, s, r, h2⟩ := id h
  refine (take_some pb c cap s r (.int .i64 x) _ w hc h2 (by simp [ints]) (by simp [ints])).mono ?_
  rintro e w' ⟨rfl, rfl⟩
  have e : (ints (x :: t)).toArray.extract 1 (ints (x :: t)).toArray.size = (ints t).toArray := by
    apply Array.toList_inj.1
    simp [ints, List.take_of_length_le]
  rw [e]
  exact ⟨rfl, h.set _ _ _, two_setChan _ _ _ _ _ _ _⟩
theorem b_take_none (h : MBox w pb c cap []) :
    Calls Try.prog 26 #[.pointer (some ⟨pb, 0, none⟩)] w fun e w' => e = .returned (.tuple #[.int .i64 0, .bool false]) ∧ w' = w := by
  have hc := h.cell
  obtain ⟨_, s, r, h2⟩ := h
  exact take_none pb c cap s r w hc h2
theorem b_len (h : MBox w pb c cap l) :
    Calls Try.prog 25 #[.pointer (some ⟨pb, 0, none⟩)] w fun e w' => e = .returned (.int .i64 l.length) ∧ w' = w := by
  have hc := h.cell
  obtain ⟨_, s, r, h2⟩ := h
  have hl : ∀ ty, (Builtin.len_ #[69] ty #[.chan (some c)]).run Try.prog w = .ok (.int .i64 l.length) w := fun ty => by
    rw [run_len_chan 69 ty Try.underlying69 h2]
    simp [ints, goInt]
  clear h2
  go_enter Try.func25, Try.ntmps25
  go_wp2
  go_ret
  exact ⟨rfl, rfl⟩
theorem b_new (n : Nat) (w : World) (h1 : 1 ≤ n) (h2 : n ≤ 4096) :
    Calls Try.prog 22 #[.int .i64 n] w fun e w' => e = .returned (.tuple #[.pointer (some ⟨w.heap.size + 1, 0, none⟩), .int .i64 0]) ∧ MBox w' (w.heap.size + 1) w.heap.size n [] ∧ Below w.heap.size w w' := by
  have hmk : ∀ W : World, (Instr.makeChan 69 (.int .i64 (n : Int))).run Try.prog W = .ok (.chan (some W.heap.size)) (W.alloc (.chan n #[] false 0 0 false)) := fun W => by
    obtain ⟨i, hi, hb⟩ := Option.map_eq_some_iff.1 (show (Try.prog.info? 3).map (·.bytes) = some 8 by kernel_rfl)
    exact run_makeChan (P := Try.prog) (w := W) Try.underlying69 hi .i64 n (by omega) (by rw [hb]; omega)
  have hd1 : decide (n < 1) = false := by simp; omega
  have hd2 : decide (4096 < n) = false := by simp; omega
  go_enter Try.func22, Try.ntmps22
  go_wp2
  go_ret2
  refine ⟨rfl, ⟨by rw [heap_alloc2_new], 0, 0, by rw [heap_alloc2_old]; rfl⟩, ((Below.refl _ _).alloc (Nat.le_refl _) _).alloc (by simp) _⟩
theorem drain_nil (most : Int) (w : World) (hm0 : -9223372036854775808 ≤ most) (hm1 : most ≤ 9223372036854775807) :
    Calls Try.prog 24 #[.pointer none, .int .i64 most] w fun e w' => e = .returned (.slice none 0 0) ∧ w' = w := by
  by_cases h : most < 0
  · go_enter Try.func24, Try.ntmps24
    go_wp2_with fail
    go_loop [10, 5] (fun c v => c = .int .i64 0 ∧ v = .slice none 0 0) (fun _ _ => 0)
    case atStart => exact ⟨rfl, rfl⟩
    case round =>
      obtain ⟨rfl, rfl⟩ := hrel
      go_wp2
      go_ret
      exact ⟨rfl, rfl⟩
  · have h' : 0 ≤ most := by omega
    go_enter Try.func24, Try.ntmps24
    go_wp2_with fail
    go_loop [10, 5] (fun c v => c = .int .i64 0 ∧ v = .slice none 0 0) (fun _ _ => 0)
    case atStart => exact ⟨rfl, rfl⟩
    case round =>
      obtain ⟨rfl, rfl⟩ := hrel
      by_cases h0 : 0 < most
      · go_wp2_with (go_at_call 26; refine (take_nil _).mono ?_; rintro e w1 ⟨rfl, rfl⟩)
        go_ret
        exact ⟨rfl, rfl⟩
      · go_wp2
        go_ret
        exact ⟨rfl, rfl⟩
theorem Two.alloc_grown {g h : Nat} {w w1 w' : World} {o : Obj} {row : Option Nat} (p : Two g h w w1) (hg : (w1.alloc o).grownBy w' row) (hr : ∀ k, row = some k → w.heap.size ≤ k) : Two g h w w' :=
  ⟨hg.os.trans p.os, hg.tape.trans p.tape, hg.output.trans p.output, Nat.le_trans p.size (Nat.le_trans (by simp) hg.size), fun k hk h1 h2 =>
    (hg.block k (by have := p.size; simp; omega) (fun e => by have := hr k e.symm; omega)).trans ((Below.heap_alloc _ _ _ (by have := p.size; omega)).trans (p.block k hk h1 h2))⟩
theorem take_get (l : List Int) (k : Nat) (x : Int) (t : List Int) (h : l.drop k = x :: t) : l.take (k + 1) = l.take k ++ [x] ∧ l.drop (k + 1) = t ∧ k < l.length := by
  have hk : k < l.length := by
    rcases Nat.lt_or_ge k l.length with h' | h'
    · exact h'
    · rw [List.drop_of_length_le h'] at h; cases h
  rw [List.drop_eq_getElem_cons hk] at h
  injection h with h1 h2
  refine ⟨?_, h2, hk⟩
  rw [List.take_succ_eq_append_getElem hk, h1]
theorem int_info : (Try.prog.info? 3).map (fun i => (i.zero, i.size, i.bytes)) = some (some (.int .i64 0), 1, 8) := by kernel_rfl
set_option maxHeartbeats 1000000 in
theorem drain_nat (m : Nat) (h : MBox w pb c cap l) (hl : l.length ≤ 4096) (hm : m ≤ 9223372036854775807) :
    Calls Try.prog 24 #[.pointer (some ⟨pb, 0, none⟩), .int .i64 m] w fun e w' => ∃ v, e = .returned v ∧ w'.ownsRow w.heap.size 3 1 v (l.take m).length (ints (l.take m)) ∧ MBox w' pb c cap (l.drop m) ∧ Two pb c w w' := by
  obtain ⟨i0, hi, hz0, hz1, hz2⟩ := info_parts int_info
  obtain ⟨lt1, lt2⟩ := h.lt
  have HB := Lib.hid h
  clear h
  go_enter Try.func24, Try.ntmps24
  go_wp2_with fail
  go_loopw [10, 5] (fun i v wr => ∃ k : Nat, k ≤ m ∧ k ≤ l.length ∧ i = .int .i64 k ∧ wr.ownsRow w.heap.size 3 1 v (l.take k).length (ints (l.take k)) ∧ MBox wr pb c cap (l.drop k) ∧ Two pb c w wr)
    (fun i _ _ => l.length + 1 - (intOf i).toNat)
  case atStart => exact ⟨0, by omega, by omega, rfl, World.ownsRow_nil _ _ _ _, HB.out, Two.refl _ _ _⟩
  case round =>
    obtain ⟨k, hk, hkl, rfl, hown, hbox, ht⟩ := hrel
    by_cases hlt : k < m
    · cases hd : l.drop k with
      | nil =>
        have hlen : l.length ≤ k := by
          have := congrArg List.length hd
          simp at this
          omega
        have e1 : l.take m = l.take k := by rw [List.take_of_length_le (by omega), List.take_of_length_le hlen]
        have e2 : l.drop m = l.drop k := by rw [hd, List.drop_of_length_le (by omega)]
        have C := hbox
        rw [hd] at C
        have C1 := Lib.hid (b_take_none C)
        have E1 := Lib.hid e1
        have E2 := Lib.hid e2
        clear C hd e1 e2
        go_wp2_with fail
        refine C1.out.mono ?_
        rintro e w1 ⟨rfl, rfl⟩
        go_wp2
        go_ret
        rw [E1.out, E2.out]
        exact ⟨_, rfl, hown, hbox, ht⟩
      | cons x t =>
        rw [hd] at hbox
        obtain ⟨e1, e2, hkl'⟩ := take_get l k x t hd
        have C1 := Lib.hid (b_take_some x t hbox)
        have E1 := Lib.hid e1
        have E2 := Lib.hid e2
        clear hd e1 e2 hbox
        have hnk : (l.take k).length = k := by simp; omega
        have HNK := Lib.hid hnk
        have hsz := ht.size
        clear hnk
        go_wp2_with fail
        refine C1.out.mono ?_
        rintro e w1 ⟨rfl, hbox1, ht1⟩
        have hne : u5.ownBlock = none ∨ ∃ g, u5.ownBlock = some g ∧ w.heap.size ≤ g := by
          cases ho : u5.ownBlock with
          | none => exact .inl rfl
          | some g => exact .inr ⟨g, rfl, (hown.lt g ho).1⟩
        have hown1 : w1.ownsRow w.heap.size 3 1 u5 (l.take k).length (ints (l.take k)) := by
          refine ⟨hown.1, ?_⟩
          rcases hown.2 with h0 | ⟨g, cp, cur, hv, hg, hh, r⟩
          · exact .inl h0
          · exact .inr ⟨g, cp, cur, hv, hg, (ht1.block g (Array.getElem?_eq_some_iff.1 hh).1 (by omega) (by omega)).trans hh, r⟩
        have hsz1 : w.heap.size ≤ w1.heap.size := Nat.le_trans hsz ht1.size
        clear hown
        go_wp2_with (at_builtin; go_must (refine wpList_append_own_at _ rfl (.tmp 19) (.tmp 21) 49 rfl w.heap.size 3 i0 (.int .i64 0) 1 8 Try.underlying49 hi hz0 hz1 hz2 rfl (by omega) u5 (l.take k).length (ints (l.take k)) rfl (hown1.alloc _) ⟨w1.heap.size, 0, none⟩ 1 1 [.int .i64 x] rfl rfl ?_ ?_ ?_ ?_ ?_ ?_))
        · intro j u hu
          cases j with
          | zero =>
            simp at hu
            subst hu
            simp [Addr.add]
          | succ j => simp at hu
        · simp [Value.oneCell']
        · simp only [maxLen]; rw [HNK.out]; omega
        · rw [HNK.out]; omega
        · simp; omega
        · intro v' w' hown' hg _ hat
          have hbox2 : MBox w' pb c cap t := MBox.grown (MBox.below hbox1 ((Below.refl _ _).alloc (Nat.le_refl _) _)) hg (by rcases hne with h | ⟨g, h, hg⟩ <;> rw [h] <;> simp; omega) (by rcases hne with h | ⟨g, h, hg⟩ <;> rw [h] <;> simp; omega)
          have ht2 : Two pb c w w' := (ht.trans ht1).alloc_grown hg (fun g h => (by rcases hne with h' | ⟨g', h', hg'⟩ <;> rw [h'] at h <;> simp at h; omega))
          have hown2 : w'.ownsRow w.heap.size 3 1 v' (l.take (k + 1)).length (ints (l.take (k + 1))) := by rw [E1.out, show (l.take k ++ [x]).length = k + 1 by rw [List.length_append, HNK.out]; rfl]; simpa [ints, HNK.out] using hown'
          clear hown' hown1 hbox1 hg hat ht ht1 hne hsz
          go_wp2
          go_roundw
          case rel => exact ⟨k + 1, by omega, by omega, by go_num, hown2, by rw [E2.out]; exact hbox2, ht2⟩
          case measure => simp [intOf]; omega
    · obtain rfl : k = m := by omega
      go_wp2
      go_ret
      exact ⟨_, rfl, hown, hbox, ht⟩
end
end Go.Proofs.Ytpeedbnboghafaa.C
