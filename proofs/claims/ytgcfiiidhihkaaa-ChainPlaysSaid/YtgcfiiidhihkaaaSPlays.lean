/- The walk of SlabPlays. -/
import Derived.Test.YtgcfiiidhihkaaaKeeps
import Derived.Test.YtgcfiiidhihkaaaSlabFull
import Derived.Deep.DeepCutAuto
import Derived.RegionTactic
namespace Go.Proofs.Ytgcfiiidhihkaaa.C
open Go.RowKit
set_option linter.unusedVariables false
def hasV (A : List (Option Int)) : List Value := A.map fun o => Value.bool o.isSome
def whatV (ws : List Int) : List Value := ws.map (Value.int .i64 ·)
/-- Where SlabPlays stands. -/
structure SP (w0 : World) (b bh bt n : Nat) (A : List (Option Int)) (fl : List Nat) (ws : List Int) (w : World) : Prop where
  slab : SI.Slab w (b + 1) b A fl
  has : w.heap[bh]? = some (.cells (hasV A).toArray 4 (0, 0))
  what : w.heap[bt]? = some (.cells (whatV ws).toArray 3 (0, 0))
  lenA : A.length = n
  lenW : ws.length = n
  val : ∀ (i : Nat) (x : Int), A[i]? = some (some x) → ws[i]? = some x
  below : Below w0.heap.size w0 w
  at0 : w0.heap.size ≤ b
  at1 : b + 1 < bh
  at2 : b + 1 < bt
  ne : bh ≠ bt
section
variable {w0 w : World} {b bh bt n : Nat} {A : List (Option Int)} {fl : List Nat} {ws : List Int}
theorem SP.hcell (h : SP w0 b bh bt n A fl ws w) {i : Nat} {o : Option Int} (hi : A[i]? = some o) : w.cell? ⟨bh, i, none⟩ = some (.bool o.isSome) := by
  rw [cell_of_row _ _ _ _ _ _ h.has]; simp [hasV, hi]
theorem SP.wcell (h : SP w0 b bh bt n A fl ws w) {i : Nat} {x : Int} (hi : ws[i]? = some x) : w.cell? ⟨bt, i, none⟩ = some (.int .i64 x) := by
  rw [cell_of_row _ _ _ _ _ _ h.what]; simp [whatV, hi]
theorem SP.hfr (h : SP w0 b bh bt n A fl ws w) (i : Nat) : w.frozen? ⟨bh, i, none⟩ = false := frozen_of_row _ _ _ _ _ h.has
theorem SP.wfr (h : SP w0 b bh bt n A fl ws w) (i : Nat) : w.frozen? ⟨bt, i, none⟩ = false := frozen_of_row _ _ _ _ _ h.what
/-- Behind an act of the slab's own. -/
structure SPs (w0 : World) (b bh bt n : Nat) (A A' : List (Option Int)) (fl' : List Nat) (ws : List Int) (w : World) : Prop where
  slab : SI.Slab w (b + 1) b A' fl'
  has : w.heap[bh]? = some (.cells (hasV A).toArray 4 (0, 0))
  what : w.heap[bt]? = some (.cells (whatV ws).toArray 3 (0, 0))
  below : Below w0.heap.size w0 w
theorem SP.two (h : SP w0 b bh bt n A fl ws w) {w' : World} {A' : List (Option Int)} {fl' : List Nat} (hs : SI.Slab w' (b + 1) b A' fl') (p : Two (b + 1) b w w') : SPs w0 b bh bt n A A' fl' ws w' := by
  have h0 := h.at0
  have h1 := h.at1
  have h2 := h.at2
  exact ⟨hs, (p.block bh (Array.getElem?_eq_some_iff.1 h.has).1 (by omega) (by omega)).trans h.has, (p.block bt (Array.getElem?_eq_some_iff.1 h.what).1 (by omega) (by omega)).trans h.what, h.below.trans (p.below h.below.size (by omega) (by omega))⟩
theorem SP.took (h : SP w0 b bh bt n A fl ws w) {w' : World} {i : Nat} {x : Int} {fl' : List Nat} (hs : SPs w0 b bh bt n A (A.set i (some x)) fl' ws w') (hi : i < n) :
    SP w0 b bh bt n (A.set i (some x)) fl' (ws.set i x) ((w'.setCell ⟨bh, i, none⟩ (.bool true)).setCell ⟨bt, i, none⟩ (.int .i64 x)) := by
  obtain ⟨s1, s2, s3, s4⟩ := hs
  obtain ⟨_, _, _, e1, e2, hv, hb, h0, h1, h2, hne⟩ := h
  have ht : Two bh bt w' ((w'.setCell ⟨bh, i, none⟩ (.bool true)).setCell ⟨bt, i, none⟩ (.int .i64 x)) := ((Two.refl bh bt w').setCell (.inl rfl) _).setCell (.inr rfl) _
  refine ⟨s1.two ht (by omega) (by omega) (by omega) (by omega), ?_, ?_, by simpa using e1, by simpa using e2, ?_, (s4.setCell (by show _ ≤ bh; omega) _).setCell (by show _ ≤ bt; omega) _, h0, h1, h2, hne⟩
  · rw [heap_setCell_other _ _ _ _ (fun e => hne e), heap_setCell_same _ _ i _ _ _ s2]
    simp [hasV, List.map_set]
  · rw [heap_setCell_same _ _ i _ _ _ ((heap_setCell_other _ _ _ _ (fun e => hne e.symm)).trans s3)]
    simp [whatV, List.map_set]
  · intro j y hj
    by_cases e : i = j
    · subst e
      rw [List.getElem?_set_self (by omega)] at hj
      rw [List.getElem?_set_self (by omega)]
      injection hj with hj
    · rw [List.getElem?_set_ne e] at hj ⊢
      exact hv j y hj
theorem SP.gave (h : SP w0 b bh bt n A fl ws w) {w' : World} {i : Nat} {fl' : List Nat} (hs : SPs w0 b bh bt n A (A.set i none) fl' ws w') (hi : i < n) :
    SP w0 b bh bt n (A.set i none) fl' ws (w'.setCell ⟨bh, i, none⟩ (.bool false)) := by
  obtain ⟨s1, s2, s3, s4⟩ := hs
  obtain ⟨_, _, _, e1, e2, hv, hb, h0, h1, h2, hne⟩ := h
  have ht : Two bh bh w' (w'.setCell ⟨bh, i, none⟩ (.bool false)) := (Two.refl bh bh w').setCell (.inl rfl) _
  refine ⟨s1.two ht (by omega) (by omega) (by omega) (by omega), ?_, (heap_setCell_other _ _ _ _ (fun e => hne e.symm)).trans s3, by simpa using e1, e2, ?_, s4.setCell (by show _ ≤ bh; omega) _, h0, h1, h2, hne⟩
  · rw [heap_setCell_same _ _ i _ _ _ s2]
    simp [hasV, List.map_set]
  · intro j y hj
    by_cases e : i = j
    · subst e
      rw [List.getElem?_set_self (by omega)] at hj
      cases hj
    · rw [List.getElem?_set_ne e] at hj
      exact hv j y hj
theorem SP.was (h : SP w0 b bh bt n A fl ws w) {w' : World} {i : Nat} {x : Int} {fl' : List Nat} (hs : SPs w0 b bh bt n A (A.set i (some x)) fl' ws w') (hi : ∃ y, A[i]? = some (some y)) :
    SP w0 b bh bt n (A.set i (some x)) fl' (ws.set i x) (w'.setCell ⟨bt, i, none⟩ (.int .i64 x)) := by
  obtain ⟨y, hy⟩ := hi
  have hlt := lt_of_some hy
  obtain ⟨s1, s2, s3, s4⟩ := hs
  obtain ⟨_, _, _, e1, e2, hv, hb, h0, h1, h2, hne⟩ := h
  have ht : Two bt bt w' (w'.setCell ⟨bt, i, none⟩ (.int .i64 x)) := (Two.refl bt bt w').setCell (.inl rfl) _
  refine ⟨s1.two ht (by omega) (by omega) (by omega) (by omega), ?_, ?_, by simpa using e1, by simpa using e2, ?_, s4.setCell (by show _ ≤ bt; omega) _, h0, h1, h2, hne⟩
  · rw [heap_setCell_other _ _ _ _ (fun e => hne e), s2]
    have : hasV (A.set i (some x)) = hasV A := by
      unfold hasV
      apply List.ext_getElem?
      intro j
      by_cases e : i = j
      · subst e
        rw [List.getElem?_map, List.getElem?_map, List.getElem?_set_self hlt, hy]
        rfl
      · simp [List.getElem?_set_ne e]
    rw [this]
  · rw [heap_setCell_same _ _ i _ _ _ s3]
    simp [whatV, List.map_set]
  · intro j z hj
    by_cases e : i = j
    · subst e
      rw [List.getElem?_set_self (by omega)] at hj
      rw [List.getElem?_set_self (by omega)]
      injection hj with hj
    · rw [List.getElem?_set_ne e] at hj ⊢
      exact hv j z hj
/-- What there is at a place. -/
theorem getA_cases (A : List (Option Int)) (i : Int) : (i < 0 ∧ getA A i = none) ∨ (0 ≤ i ∧ (A.length : Int) ≤ i ∧ getA A i = none) ∨ ∃ (k : Nat) (o : Option Int), i = k ∧ k < A.length ∧ A[k]? = some o ∧ getA A i = o := by
  by_cases h0 : i < 0
  · exact .inl ⟨h0, by unfold getA; rw [if_neg (by omega)]⟩
  · obtain ⟨k, rfl⟩ := Int.eq_ofNat_of_zero_le (show 0 ≤ i by omega)
    by_cases hk : k < A.length
    · exact .inr (.inr ⟨k, A[k], rfl, hk, List.getElem?_eq_getElem hk, by rw [getA_nat, List.getElem?_eq_getElem hk]; rfl⟩)
    · exact .inr (.inl ⟨by omega, by omega, by rw [getA_nat, List.getElem?_eq_none (by omega)]; rfl⟩)
end
theorem make_ints (n : Nat) (hn : n ≤ 65536) (W : World) : (Instr.makeSlice 35 (.int .i64 (n : Int)) (.int .i64 (n : Int))).run Try.prog W = .ok (.slice (some ⟨W.heap.size, 0, none⟩) n n) (W.alloc (.cells (whatV (List.replicate n 0)).toArray 3)) := by
  obtain ⟨i0, hi, hz0, hz1, hz2⟩ := info_parts (show (Try.prog.info? 3).map (fun i => (i.zero, i.size, i.bytes)) = some (some (.int .i64 0), 1, 8) by kernel_rfl)
  have hr := run_make (P := Try.prog) W 35 3 i0 (.int .i64 0) Try.underlying35 hi hz0 .i64 .i64 n n (by omega) (by omega) (by rw [hz2]; omega) (by omega)
  simp only [Int.toNat_natCast] at hr
  rw [hr, hz1, Nat.mul_one]
  have e : madeCells (Value.int .i64 0).cells n = (whatV (List.replicate n 0)).toArray := by
    apply Array.toList_inj.1
    show (madeCells #[Value.int .i64 0] n).toList = _
    rw [toList_madeCells_one]
    simp [whatV]
  rw [e]
theorem make_has (n : Nat) (hn : n ≤ 65536) (W : World) : (Instr.makeSlice 28 (.int .i64 (n : Int)) (.int .i64 (n : Int))).run Try.prog W = .ok (.slice (some ⟨W.heap.size, 0, none⟩) n n) (W.alloc (.cells (hasV (List.replicate n none)).toArray 4)) := by
  rw [make_bools n hn W]
  simp [hasV]
theorem SP.start_ {w0 w w' : World} {b bh bt n : Nat} (h0 : w0.heap.size ≤ b) (h1 : b + 1 < w.heap.size) (hS : SI.Slab w (b + 1) b (List.replicate n none) (List.range' 0 n)) (hB : Below w0.heap.size w0 w) (p : Below w.heap.size w w')
    (g1 : w.heap.size ≤ bh) (g2 : w.heap.size ≤ bt) (hne : bh ≠ bt) (h2 : w'.heap[bh]? = some (.cells (hasV (List.replicate n none)).toArray 4 (0, 0))) (h3 : w'.heap[bt]? = some (.cells (whatV (List.replicate n 0)).toArray 3 (0, 0))) :
    SP w0 b bh bt n (List.replicate n none) (List.range' 0 n) (List.replicate n 0) w' :=
  ⟨hS.below p, h2, h3, by simp, by simp, (fun i x h => by
    rw [List.getElem?_replicate] at h
    split at h <;> cases h), hB.trans (p.mono hB.size), h0, by omega, by omega, hne⟩
theorem alloc2_0 (w : World) (o1 o2 : Obj) : ((w.alloc o1).alloc o2).heap[w.heap.size]? = some o1 := by
  rw [Go.heap_alloc_old _ _ (by simp), Go.heap_alloc_new]
theorem alloc2_1 (w : World) (o1 o2 : Obj) : ((w.alloc o1).alloc o2).heap[w.heap.size + 1]? = some o2 := by
  have := Go.heap_alloc_new (w.alloc o1) o2
  rwa [show (w.alloc o1).heap.size = w.heap.size + 1 by simp] at this
theorem SP.start {w0 w : World} {b n : Nat} (h0 : w0.heap.size ≤ b) (h1 : b + 1 < w.heap.size) (hS : SI.Slab w (b + 1) b (List.replicate n none) (List.range' 0 n)) (hB : Below w0.heap.size w0 w) :
    SP w0 b w.heap.size (w.heap.size + 1) n (List.replicate n none) (List.range' 0 n) (List.replicate n 0) ((w.alloc (.cells (hasV (List.replicate n none)).toArray 4)).alloc (.cells (whatV (List.replicate n 0)).toArray 3)).drew :=
  SP.start_ h0 h1 hS hB (((Below.refl _ _).alloc (Nat.le_refl _) _).alloc (by simp) _).drew (Nat.le_refl _) (by omega) (by omega) (alloc2_0 _ _ _) (alloc2_1 _ _ _)
theorem SP.start' {w0 w : World} {b n : Nat} (h0 : w0.heap.size ≤ b) (h1 : b + 1 < w.heap.size) (hS : SI.Slab w (b + 1) b (List.replicate n none) (List.range' 0 n)) (hB : Below w0.heap.size w0 w) :
    SP w0 b (w.heap.size + 1) w.heap.size n (List.replicate n none) (List.range' 0 n) (List.replicate n 0) ((w.alloc (.cells (whatV (List.replicate n 0)).toArray 3)).alloc (.cells (hasV (List.replicate n none)).toArray 4)).drew :=
  SP.start_ h0 h1 hS hB (((Below.refl _ _).alloc (Nat.le_refl _) _).alloc (by simp) _).drew (by omega) (Nat.le_refl _) (by omega) (alloc2_1 _ _ _) (alloc2_0 _ _ _)
set_option maxRecDepth 100000 in
set_option maxHeartbeats 1000000 in
theorem splays_none (n : Int) (a bb : Option Addr) (len lb cap cb : Nat) (w : World) (h : 150 < len ∨ (len ≤ 150 ∧ lb < len)) (hm : len ≤ 9223372036854775807) (hm2 : lb ≤ 9223372036854775807) :
    Calls Try.prog 7 #[.int .i64 n, .slice a len cap, .slice bb lb cb] w fun e w' => e = .returned (.bool true) ∧ Below w.heap.size w w' := by
  have Ha := Lib.hid SI.awake
  rcases h with h | ⟨h0, h⟩
  · go_enter Try.func7, Try.ntmps7
    go_wp2_with fail
    refine (Ha.out _).mono ?_
    rintro e w1 ⟨rfl, hB1⟩
    go_wp2_with fail
    refine (Ha.out _).mono ?_
    rintro e w2 ⟨rfl, hB2⟩
    go_wp2
    go_ret
    exact ⟨rfl, hB1.trans (hB2.mono hB1.size)⟩
  · have d1 : decide (150 < len) = false := by simp; omega
    go_enter Try.func7, Try.ntmps7
    go_wp2_with fail
    refine (Ha.out _).mono ?_
    rintro e w1 ⟨rfl, hB1⟩
    go_wp2_with fail
    refine (Ha.out _).mono ?_
    rintro e w2 ⟨rfl, hB2⟩
    go_wp2
    go_ret
    exact ⟨rfl, hB1.trans (hB2.mono hB1.size)⟩
set_option maxRecDepth 100000 in
set_option maxHeartbeats 1000000 in
theorem splays_bad (n : Int) (a bb : Option Addr) (len lb cap cb : Nat) (w : World) (h : len ≤ 150) (h' : len ≤ lb) (hm2 : lb ≤ 9223372036854775807) (hc : n < 1 ∨ (1 ≤ n ∧ 4096 < n)) :
    Calls Try.prog 7 #[.int .i64 n, .slice a len cap, .slice bb lb cb] w fun e w' => e = .returned (.bool true) ∧ Below w.heap.size w w' := by
  have Ha := Lib.hid SI.awake
  have d1 : decide (150 < len) = false := by simp; omega
  have d2 : decide (lb < len) = false := by simp; omega
  have CN := Lib.hid (fun w' => SI.new_bad n w' (by omega))
  have CF := Lib.hid SI.free_nil
  have CP := Lib.hid SI.places_nil
  rcases hc with hc | ⟨hc0, hc⟩
  all_goals
    go_enter Try.func7, Try.ntmps7
    go_wp2_with fail
    refine (Ha.out _).mono ?_
    rintro e w1 ⟨rfl, hB1⟩
    go_wp2_with fail
    refine (CN.out _).mono ?_
    rintro e w2 ⟨rfl, rfl⟩
    go_wp2_with fail
    refine (CF.out _).mono ?_
    rintro e w2 ⟨rfl, rfl⟩
    go_wp2_with fail
    refine (CP.out _).mono ?_
    rintro e w2 ⟨rfl, rfl⟩
    go_wp2
    go_ret
    exact ⟨rfl, hB1⟩
set_option maxRecDepth 100000 in
set_option maxHeartbeats 4000000 in
theorem splays_main (n : Nat) (a bb : Option Addr) (K L : List Int) (cap cb : Nat) (w : World) (h : K.length ≤ 150) (h' : K.length ≤ L.length) (hm2 : L.length ≤ 9223372036854775807) (h1 : 1 ≤ n) (h2 : n ≤ 4096) (hK : Nums .u8 w a K) (hL : Nums .i16 w bb L) :
    Calls Try.prog 7 #[.int .i64 (n : Nat), .slice a K.length cap, .slice bb L.length cb] w fun e w' => e = .returned (.bool true) ∧ Below w.heap.size w w' := by
  have Ha := Lib.hid (SI.awake w)
  have d1 : decide (150 < K.length) = false := by simp; omega
  have d2 : decide (L.length < K.length) = false := by simp; omega
  have HK := Lib.hid hK
  have HL := Lib.hid hL
  clear hK hL
  generalize hlK : K.length = lK at *
  generalize hlL : L.length = lL at *
  have HLK := Lib.hid hlK
  have HLL := Lib.hid hlL
  clear hlK hlL
  go_enter Try.func7, Try.ntmps7
  go_wp2_with fail
  refine Ha.out.mono ?_
  rintro e w1 ⟨rfl, hB1⟩
  have CN := Lib.hid (SI.s_new n w1 h1 h2)
  clear Ha
  go_wp2_with fail
  refine CN.out.mono ?_
  rintro e w2 ⟨rfl, hS, hB2⟩
  have hB := hB1.trans (hB2.mono hB1.size)
  have hs1 := hB1.size
  have hlt := hS.lt
  have HS := Lib.hid hS
  have HB := Lib.hid hB
  clear CN hB1 hB2 hS hB
  generalize w1.heap.size = b at *
  go_upto_region 6 with (fail)
  go_cut [9, 10] from 65 to 68 (fun s9 s10 wc => ∃ bh bt, s9 = .slice (some ⟨bh, 0, none⟩) n n ∧ s10 = .slice (some ⟨bt, 0, none⟩) n n ∧ SP w b bh bt n (List.replicate n none) (List.range' 0 n) (List.replicate n 0) wc)
  case first =>
    have hmk := make_has n (by omega)
    have hmk2 := make_ints n (by omega)
    go_region
    all_goals
      go_wp2_with fail
      go_meet
    all_goals
      case rel =>
        refine ⟨_, _, rfl, rfl, ?_⟩
        first
          | exact SP.start hs1 hlt.1 HS.out HB.out
          | exact SP.start' hs1 hlt.1 HS.out HB.out
  case rest =>
    obtain ⟨bh, bt, rfl, rfl, hP⟩ := hcut
    have HP := Lib.hid hP
    clear hP HS HB hlt hs1
    go_wp2_with fail
    go_loopw [11, 71] (fun t c wr => ∃ (k : Nat) (A : List (Option Int)) (fl : List Nat) (ws : List Int), k ≤ lK ∧ c = .int .i64 k ∧ t = .int .i64 ((n - fl.length : Nat) : Nat) ∧ SP w b bh bt n A fl ws wr) (fun _ c _ => lK - (intOf c).toNat)
    case atStart => exact ⟨0, _, _, _, by omega, rfl, by simp, HP.out⟩
    case round =>
      obtain ⟨k, A, fl, ws, hk, rfl, rfl, hP⟩ := hrel
      have hfl := hP.slab.fl_le.1
      rw [hP.lenA] at hfl
      by_cases hlt : k < lK
      · obtain ⟨kd, hkd⟩ : ∃ v, K[k]? = some v := ⟨_, List.getElem?_eq_getElem (by have := HLK.out; omega)⟩
        obtain ⟨at_, hat⟩ : ∃ v, L[k]? = some v := ⟨_, List.getElem?_eq_getElem (by have := HLL.out; omega)⟩
        obtain ⟨xk, rfl, hck, hwk⟩ := HK.out.below hP.below hkd
        obtain ⟨xl, rfl, hcl, hwl⟩ := HL.out.below hP.below hat
        obtain ⟨hk0, hk1⟩ := bounds_u8 hwk
        obtain ⟨hl0, hl1⟩ := bounds_i16 hwl
        obtain ⟨kd, rfl⟩ := Int.eq_ofNat_of_zero_le hk0
        clear hkd hat hwk hwl hk0
        have HP1 := Lib.hid hP
        clear hP HP
        go_upto_region 12 with (fail)
        go_cut [14] from 79 to 91 (fun s wc => s = .bool (getA A at_).isSome ∧ wc = wr)
        case first =>
          rcases getA_cases A at_ with ⟨h0, e⟩ | ⟨h0, h1', e⟩ | ⟨k', o, rfl, hk', ho, e⟩
          · have E := Lib.hid e
            clear e
            go_wp2_with fail
            go_meet
            case rel => exact ⟨by rw [E.out]; rfl, rfl⟩
          · have E := Lib.hid e
            have hln := HP1.out.lenA
            have h1'' : (n : Int) ≤ at_ := by omega
            have d3 : decide (at_ < (n : Int)) = false := decide_eq_false (by omega)
            clear hln h1' e
            go_wp2_with fail
            go_meet
            case rel => exact ⟨by rw [E.out]; rfl, rfl⟩
          · have E := Lib.hid e
            have hln := HP1.out.lenA
            have hc := HP1.out.hcell ho
            have h1'' : (k' : Int) < (n : Int) := by omega
            have h1n : k' < n := by omega
            clear hln hk' e ho
            cases o with
            | none =>
              have hc : wr.cell? ⟨bh, k', none⟩ = some (.bool false) := hc
              go_wp2_with fail
              go_meet
              case rel => exact ⟨by rw [E.out]; rfl, rfl⟩
            | some x =>
              have hc : wr.cell? ⟨bh, k', none⟩ = some (.bool true) := hc
              go_wp2_with fail
              go_meet
              case rel => exact ⟨by rw [E.out]; rfl, rfl⟩
        case rest =>
          obtain ⟨rfl, rfl⟩ := hcut
          go_upto_region 13 with (fail)
          rename_i hK13
          have HK13 := Lib.hid hK13
          clear hK13
          generalize hth : (getA A at_).isSome = th at *
          have HTH := Lib.hid hth
          generalize ht : n - fl.length = t at *
          have HT := Lib.hid ht
          have HFL := Lib.hid hfl
          clear hth ht hfl
          go_wp2_with fail
          refine HK13.out _ _ ?_
          clear HK13
          go_cut [11, 14, 96] from 97 to 195 (fun s11 s14 s96 wc => ∃ (A' : List (Option Int)) (fl' : List Nat) (ws' : List Int), s11 = .int .i64 ((n - fl'.length : Nat) : Nat) ∧ SP w b bh bt n A' fl' ws' wc)
          case first =>
            have h4 : kd % 4 = 0 ∨ kd % 4 = 1 ∨ kd % 4 = 2 ∨ kd % 4 = 3 := by omega
            have HEND : Hid (∀ (A' : List (Option Int)) (fl' : List Nat) (ws' : List Int) (t' : Int) (wc : World), t' = ((n - fl'.length : Nat) : Int) → SP w b bh bt n A' fl' ws' wc → ∃ (A' : List (Option Int)) (fl' : List Nat) (ws' : List Int), Value.int .i64 t' = .int .i64 ((n - fl'.length : Nat) : Nat) ∧ SP w b bh bt n A' fl' ws' wc) := fun A' fl' ws' t' wc e h => ⟨A', fl', ws', by rw [e], h⟩
            rcases h4 with h4 | h4 | h4 | h4
            -- taken
            iterate 2
              · have e0 : (kd : Int) % 4 = ((kd % 4 : Nat) : Int) := by omega
                rw [h4] at e0
                clear h4
                cases fl with
                | nil =>
                  as_aux_lemma =>
                  have C := Lib.hid (SI.s_take_no at_ HP1.out.slab)
                  have hn : t = n := by have := HT.out; simpa using this.symm
                  have dt : decide ((t : Int) < (n : Int)) = false := decide_eq_false (by omega)
                  have dtn : decide (t < n) = false := decide_eq_false (by omega)
                  clear hn
                  go_wp2_with fail
                  refine C.out.mono ?_
                  rintro e w5 ⟨rfl, rfl⟩
                  go_wp2_with fail
                  go_meet
                  case rel => exact HEND.out A [] ws _ _ (by have := HT.out; omega) HP1.out
                | cons i r =>
                  as_aux_lemma =>
                  have C := Lib.hid (SI.s_take_yes i r at_ HP1.out.slab)
                  have hA : A[i]? = some none := (HP1.out.slab.mem i).1 (by simp)
                  have hin : i < n := by have := lt_of_some hA; have := HP1.out.lenA; omega
                  have hr : r.length + 1 ≤ n := HFL.out
                  have htn : t + 1 = n - r.length := by have := HT.out; simp only [List.length_cons] at this; omega
                  have dt : decide ((t : Int) < (n : Int)) = true := decide_eq_true (by omega)
                  have dtn : decide (t < n) = true := decide_eq_true (by omega)
                  have di : decide ((n : Int) ≤ (i : Int)) = false := decide_eq_false (by omega)
                  have din : decide (n ≤ i) = false := decide_eq_false (by omega)
                  have dj : decide ((i : Int) < 0) = false := decide_eq_false (by omega)
                  have hwt : IntKind.i64.wrap ((t : Int) + 1) = (t : Int) + 1 := IntWalk.i64_in _ (by omega)
                  have HA := Lib.hid hA
                  have HTN := Lib.hid htn
                  clear hA hr htn
                  go_wp2_with fail
                  refine C.out.mono ?_
                  rintro e w5 ⟨rfl, hS5, hT5⟩
                  have hs := HP1.out.two hS5 hT5
                  have hc : w5.cell? ⟨bh, i, none⟩ = some (.bool false) := by rw [cell_of_row _ _ _ _ _ _ hs.has]; simp [hasV, HA.out]
                  have fc : w5.frozen? ⟨bh, i, none⟩ = false := frozen_of_row _ _ _ _ _ hs.has
                  obtain ⟨y, hy⟩ : ∃ y, ws[i]? = some y := ⟨_, List.getElem?_eq_getElem (by have := HP1.out.lenW; omega)⟩
                  have hc2 : w5.cell? ⟨bt, i, none⟩ = some (.int .i64 y) := by rw [cell_of_row _ _ _ _ _ _ hs.what]; simp [whatV, hy]
                  have fc2 : w5.frozen? ⟨bt, i, none⟩ = false := frozen_of_row _ _ _ _ _ hs.what
                  have hne := HP1.out.ne
                  have hne' : ¬ bt = bh := fun e => hne e.symm
                  have HF := Lib.hid (HP1.out.took hs hin)
                  clear hS5 hT5 hs hy
                  go_wp2_with fail
                  go_meet
                  case rel => exact HEND.out _ r _ _ _ (by have := HTN.out; omega) HF.out
            -- given back
            · have e0 : (kd : Int) % 4 = ((kd % 4 : Nat) : Int) := by omega
              rw [h4] at e0
              clear h4
              rcases getA_cases A at_ with ⟨h0, e⟩ | ⟨h0, h1', e⟩ | ⟨k', o, rfl, hk', ho, e⟩
              iterate 2
                · as_aux_lemma =>
                  have C := Lib.hid (SI.s_give_no at_ HP1.out.slab e)
                  have hthf : th = false := by rw [← HTH.out, e]; rfl
                  clear e
                  subst hthf
                  go_wp2_with fail
                  refine C.out.mono ?_
                  rintro e w5 ⟨rfl, rfl⟩
                  go_wp2_with fail
                  go_meet
                  case rel => exact HEND.out A fl ws _ _ (by have := HT.out; omega) HP1.out
              · cases o with
                | none =>
                  as_aux_lemma =>
                  have C := Lib.hid (SI.s_give_no (k' : Nat) HP1.out.slab e)
                  have hthf : th = false := by rw [← HTH.out, e]; rfl
                  clear e ho
                  subst hthf
                  go_wp2_with fail
                  refine C.out.mono ?_
                  rintro e w5 ⟨rfl, rfl⟩
                  go_wp2_with fail
                  go_meet
                  case rel => exact HEND.out A fl ws _ _ (by have := HT.out; omega) HP1.out
                | some x =>
                  as_aux_lemma =>
                  have C := Lib.hid (SI.s_give_yes (k' : Nat) x HP1.out.slab e)
                  have hthf : th = true := by rw [← HTH.out, e]; rfl
                  have hin : k' < n := by have := HP1.out.lenA; omega
                  have hinI : (k' : Int) < (n : Int) := by omega
                  have hy := HP1.out.val k' x ho
                  have HY := Lib.hid hy
                  have HO := Lib.hid ho
                  clear e ho hy hk'
                  subst hthf
                  go_wp2_with fail
                  refine C.out.mono ?_
                  rintro e w5 ⟨rfl, hS5, hT5⟩
                  rw [Int.toNat_natCast] at hS5
                  have hr : fl.length + 1 ≤ n := by
                    have := hS5.fl_le.1
                    rw [List.length_set, HP1.out.lenA, List.length_cons] at this
                    exact this
                  have hs := HP1.out.two hS5 hT5
                  have hc : w5.cell? ⟨bh, k', none⟩ = some (.bool true) := by rw [cell_of_row _ _ _ _ _ _ hs.has]; simp [hasV, HO.out]
                  have fc : w5.frozen? ⟨bh, k', none⟩ = false := frozen_of_row _ _ _ _ _ hs.has
                  have hc2 : w5.cell? ⟨bt, k', none⟩ = some (.int .i64 x) := by rw [cell_of_row _ _ _ _ _ _ hs.what]; simp [whatV, HY.out]
                  have hwt : IntKind.i64.wrap ((t : Int) - 1) = (t : Int) - 1 := IntWalk.i64_in _ (by have := HT.out; omega)
                  have HR := Lib.hid hr
                  have HF := Lib.hid (HP1.out.gave hs hin)
                  clear hS5 hT5 hs hr
                  go_wp2_with fail
                  go_meet
                  case rel => exact HEND.out _ (k' :: fl) ws _ _ (by have := HT.out; have := HR.out; simp only [List.length_cons]; omega) HF.out
            -- changed
            · have e0 : (kd : Int) % 4 = ((kd % 4 : Nat) : Int) := by omega
              rw [h4] at e0
              clear h4
              have hwk : IntKind.i64.wrap (1000 + (k : Int)) = 1000 + (k : Int) := IntWalk.i64_in _ (by omega)
              rcases getA_cases A at_ with ⟨h0, e⟩ | ⟨h0, h1', e⟩ | ⟨k', o, rfl, hk', ho, e⟩
              iterate 2
                · as_aux_lemma =>
                  have C := Lib.hid (SI.s_set_no at_ (1000 + (k : Int)) HP1.out.slab e)
                  have hthf : th = false := by rw [← HTH.out, e]; rfl
                  clear e
                  subst hthf
                  go_wp2_with fail
                  refine C.out.mono ?_
                  rintro e w5 ⟨rfl, rfl⟩
                  go_wp2_with fail
                  go_meet
                  case rel => exact HEND.out A fl ws _ _ (by have := HT.out; omega) HP1.out
              · cases o with
                | none =>
                  as_aux_lemma =>
                  have C := Lib.hid (SI.s_set_no (k' : Nat) (1000 + (k : Int)) HP1.out.slab e)
                  have hthf : th = false := by rw [← HTH.out, e]; rfl
                  clear e ho
                  subst hthf
                  go_wp2_with fail
                  refine C.out.mono ?_
                  rintro e w5 ⟨rfl, rfl⟩
                  go_wp2_with fail
                  go_meet
                  case rel => exact HEND.out A fl ws _ _ (by have := HT.out; omega) HP1.out
                | some x =>
                  as_aux_lemma =>
                  have C := Lib.hid (SI.s_set_yes (k' : Nat) (1000 + (k : Int)) x HP1.out.slab e)
                  have hthf : th = true := by rw [← HTH.out, e]; rfl
                  have hin : k' < n := by have := HP1.out.lenA; omega
                  have hinI : (k' : Int) < (n : Int) := by omega
                  have hy := HP1.out.val k' x ho
                  have HY := Lib.hid hy
                  have HO := Lib.hid ho
                  clear e ho hy hk'
                  subst hthf
                  go_wp2_with fail
                  refine C.out.mono ?_
                  rintro e w5 ⟨rfl, hS5, hT5⟩
                  rw [Int.toNat_natCast] at hS5
                  have hs := HP1.out.two hS5 hT5
                  have hc2 : w5.cell? ⟨bt, k', none⟩ = some (.int .i64 x) := by rw [cell_of_row _ _ _ _ _ _ hs.what]; simp [whatV, HY.out]
                  have fc2 : w5.frozen? ⟨bt, k', none⟩ = false := frozen_of_row _ _ _ _ _ hs.what
                  have HF := Lib.hid (HP1.out.was hs ⟨x, HO.out⟩)
                  clear hS5 hT5 hs
                  go_wp2_with fail
                  go_meet
                  case rel => exact HEND.out _ fl _ _ _ (by have := HT.out; omega) HF.out
          case rest =>
            as_aux_lemma =>
            obtain ⟨A', fl', ws', rfl, hP'⟩ := hcut
            have hfl' := hP'.slab.fl_le.1
            rw [hP'.lenA] at hfl'
            have CF := Lib.hid (SI.s_free hP'.slab)
            have CP : Hid (Calls Try.prog 32 #[.pointer (some ⟨b + 1, 0, none⟩)] wc fun e w' => e = .returned (.int .i64 (n : Nat)) ∧ w' = wc) := by
              obtain ⟨first, free, l, hS, hI, rfl, hl⟩ := hP'.slab
              have := SI.places_any (b + 1) b first free l wc hS (by omega)
              have e := hP'.lenA
              rw [absP_length] at e
              rwa [e] at this
            have HP2 := Lib.hid hP'
            clear hP' HP1 HTH HT HFL hck hcl
            have ef : ((n : Int) - ((n - fl'.length : Nat) : Int)) = (fl'.length : Int) := by omega
            generalize hfn : fl'.length = fn at *
            have HFN := Lib.hid hfn
            clear hfn
            generalize hts : n - fn = ts at *
            have HTS := Lib.hid hts
            clear hts
            have hwts : IntKind.i64.wrap ((n : Int) - (ts : Int)) = (fn : Int) := by rw [ef]; exact IntWalk.i64_in _ (by omega)
            clear ef
            go_wp2_with fail
            refine CF.out.mono ?_
            rintro e w5 ⟨rfl, rfl⟩
            go_wp2_with fail
            refine CP.out.mono ?_
            rintro e w5 ⟨rfl, rfl⟩
            clear CF CP
            obtain ⟨mn, hmn⟩ : ∃ mn, min n 40 = mn := ⟨_, rfl⟩
            have hmnI : (if (40 : Int) < (n : Int) then (40 : Int) else (n : Int)) = (mn : Int) := by split <;> omega
            have hm1 : mn ≤ n := by omega
            clear hmn
            go_wp2_with fail
            go_loopw [19] (fun c wq => ∃ i : Int, -1 ≤ i ∧ i ≤ (mn : Int) + 1 ∧ c = .int .i64 i ∧ wq = w5) (fun c _ => ((mn : Int) + 1 - intOf c).toNat)
            case atStart => exact ⟨-1, by omega, by omega, rfl, rfl⟩
            case round =>
              obtain ⟨i, hi0, hi1, rfl, rfl⟩ := hrel
              by_cases him : i ≤ (mn : Int)
              · have di : decide (i ≤ (mn : Int)) = true := decide_eq_true him
                have hwi : IntKind.i64.wrap (i + 1) = i + 1 := IntWalk.i64_in _ (by omega)
                rcases getA_cases A' i with ⟨h0, e⟩ | ⟨h0, h1', e⟩ | ⟨k', o, rfl, hk', ho, e⟩
                · have C := Lib.hid (SI.s_get_no i HP2.out.slab e)
                  clear e
                  go_wp2_with fail
                  refine C.out.mono ?_
                  rintro e w6 ⟨rfl, rfl⟩
                  go_wp2_with fail
                  go_roundw
                  case rel => exact ⟨i + 1, by omega, by omega, by go_num, by first | rfl | trivial⟩
                  case measure => simp [intOf]; omega
                · have C := Lib.hid (SI.s_get_no i HP2.out.slab e)
                  have d3 : decide (i < (n : Int)) = false := decide_eq_false (by have := HP2.out.lenA; omega)
                  clear e h1'
                  go_wp2_with fail
                  refine C.out.mono ?_
                  rintro e w6 ⟨rfl, rfl⟩
                  go_wp2_with fail
                  go_roundw
                  case rel => exact ⟨i + 1, by omega, by omega, by go_num, by first | rfl | trivial⟩
                  case measure => simp [intOf]; omega
                · have hin : k' < n := by have := HP2.out.lenA; omega
                  have hinI : (k' : Int) < (n : Int) := by omega
                  have d3 : decide ((k' : Int) < (n : Int)) = true := decide_eq_true hinI
                  have d3n : decide (k' < n) = true := decide_eq_true hin
                  have din : decide (k' ≤ mn) = true := decide_eq_true (by omega)
                  have hc := HP2.out.hcell ho
                  cases o with
                  | none =>
                    have hc : wr.cell? ⟨bh, k', none⟩ = some (.bool false) := hc
                    have C := Lib.hid (SI.s_get_no (k' : Nat) HP2.out.slab e)
                    clear e ho hk'
                    go_wp2_with fail
                    refine C.out.mono ?_
                    rintro e w6 ⟨rfl, rfl⟩
                    go_wp2_with fail
                    go_roundw
                    case rel => exact ⟨(k' : Int) + 1, by omega, by omega, by go_num, by first | rfl | trivial⟩
                    case measure => simp [intOf]; omega
                  | some x =>
                    have hc : wr.cell? ⟨bh, k', none⟩ = some (.bool true) := hc
                    have hc2 := HP2.out.wcell (HP2.out.val k' x ho)
                    have C := Lib.hid (SI.s_get_yes (k' : Nat) x HP2.out.slab e)
                    clear e ho hk'
                    go_wp2_with fail
                    refine C.out.mono ?_
                    rintro e w6 ⟨rfl, rfl⟩
                    go_wp2_with fail
                    go_roundw
                    case rel => exact ⟨(k' : Int) + 1, by omega, by omega, by go_num, by first | rfl | trivial⟩
                    case measure => simp [intOf]; omega
              · have di : decide (i ≤ (mn : Int)) = false := decide_eq_false him
                go_wp2
                go_roundw
                case rel =>
                  refine ⟨k + 1, A', fl', ws', by omega, by go_num, by rw [HFN.out, HTS.out], HP2.out⟩
                case measure => simp [intOf]; omega
      · have HB9 := Lib.hid hP.below
        clear hP
        go_wp2
        go_ret
        exact ⟨rfl, HB9.out⟩
theorem walk_splays (n : Int) (a bb : Option Addr) (len cap lb cb : Nat) (zs ys : List Int) (w : World) (hn : (Lit.int .i64 n).wf = true) (hK : IsRow .u8 w a len cap zs) (hL : IsRow .i16 w bb lb cb ys) :
    Calls Try.prog 7 #[.int .i64 n, .slice a len cap, .slice bb lb cb] w fun e w' => e = .returned (.bool true) ∧ Below w.heap.size w w' := by
  obtain ⟨K, rfl, hK, hm⟩ := nums_of hK
  obtain ⟨L, rfl, hL, hm2⟩ := nums_of hL
  by_cases h : K.length ≤ 150 ∧ K.length ≤ L.length
  · by_cases hc : 1 ≤ n ∧ n ≤ 4096
    · obtain ⟨n, rfl⟩ := Int.eq_ofNat_of_zero_le (show 0 ≤ n by omega)
      exact splays_main n a bb K L cap cb w h.1 h.2 hm2 (by omega) (by omega) hK hL
    · exact splays_bad n a bb K.length L.length cap cb w h.1 h.2 hm2 (by omega)
  · exact splays_none n a bb K.length L.length cap cb w (by omega) hm hm2
end Go.Proofs.Ytgcfiiidhihkaaa.C
