/- The walk of RingPlays. -/
import Derived.Test.YtpeedbnboghafaaRingC
import Derived.Test.YtpeedbnboghafaaMailO
import Derived.Deep.RegionHeld
import Derived.Deep.CutRange
import Derived.Deep.DeepMust
namespace Go.Proofs.Ytpeedbnboghafaa.C
open Go.RowKit
set_option linter.unusedVariables false
/-- Numbers that came in, of whatever kind. -/
def NumsK (k : IntKind) (w : World) (a : Option Addr) (L : List Int) : Prop := ∀ (i : Nat) (v : Int), L[i]? = some v → ∃ x, a = some x ∧ x.block < w.heap.size ∧ w.cell? (x.add i) = some (.int k v) ∧ (Lit.int k v).wf = true
theorem numsK_of {k : IntKind} {w : World} {a : Option Addr} {len cap : Nat} {zs : List Int} (h : IsRow k w a len cap zs) : ∃ L : List Int, L.length = len ∧ NumsK k w a L ∧ len ≤ 9223372036854775807 := by
  rcases h with ⟨rfl, rfl, rfl, rfl⟩ | ⟨x, rfl, hl, hc, hz, hcell, hwf⟩
  · exact ⟨[], rfl, fun i v h => by simp at h, by omega⟩
  · refine ⟨zs.take len, by simp; omega, fun i v hv => ?_, by simp only [maxLen] at hc; omega⟩
    have hi : i < len := by
      rcases Nat.lt_or_ge i len with h | h
      · exact h
      · rw [List.getElem?_eq_none (by simp; omega)] at hv; cases hv
    rw [List.getElem?_take_of_lt hi] at hv
    have hz0 : i < zs.length := by omega
    have hc0 := hcell i hz0
    have hb := World.block_lt_of_cell? w _ hc0
    have hbl : (x.add i).block = x.block := by unfold Addr.add; split <;> rfl
    rw [List.getD_eq_getElem?_getD, hv] at hc0
    exact ⟨x, rfl, by rw [← hbl]; exact hb, hc0, hwf v (List.mem_of_getElem? hv)⟩
theorem NumsK.below {k : IntKind} {w w' : World} {a : Option Addr} {L : List Int} (h : NumsK k w a L) (hb : Below w.heap.size w w') {i : Nat} {v : Int} (hv : L[i]? = some v) : ∃ x, a = some x ∧ w'.cell? (x.add i) = some (.int k v) ∧ (Lit.int k v).wf = true := by
  obtain ⟨x, hx, hlt, hc, hw⟩ := h i v hv
  have hbl : (x.add i).block = x.block := by unfold Addr.add; split <;> rfl
  exact ⟨x, hx, by rw [hb.cell (by rw [hbl]; exact hlt)]; exact hc, hw⟩
/-- An append onto what the call owns, at the operation: whatever is appended, nothing too. -/
theorem wp_append_own_at {P : Program} (w : World) {o : Oper} {a : Act} {K : Act → World → Prop} {Q : Exit → Act → World → Prop} (s x : Operand) (t : TypeId)
    (ho : o.op = .call { callee := .builtin .append, args := #[s, x], argTypes := #[t, t] })
    (base : Nat) (e : TypeId) (i : TypeInfo) (z : Value) (size bytes : Nat) (ht : P.underlying t = some (.slice e)) (hi : P.info? e = some i) (hz : i.zero = some z)
    (hsize : i.size = size) (hby : i.bytes = bytes) (hzs : z.cells.size = size) (hsz : 0 < size)
    (v : Value) (n : Nat) (xs : List Value) (hs : a.eval s = v) (hown : w.ownsRow base e size v n xs)
    (ad : Addr) (m c : Nat) (news : List Value) (hx : a.eval x = .slice (some ad) m c) (hl : news.length = m * size) (hnews : ∀ j u, news[j]? = some u → w.cell? (ad.add j) = some u) (h1 : ∀ u ∈ news, u.oneCell' = true)
    (h63 : n + m ≤ maxLen) (hbytes : (n + m) * bytes ≤ 140737488355328) (hbase : base ≤ w.heap.size)
    (h : ∀ v' w', w'.ownsRow base e size v' (n + m) (xs ++ news) → w.grownBy w' v.ownBlock → (v'.ownBlock = v.ownBlock ∨ v'.ownBlock = some w.heap.size) → K (a.put o.dst v') w') : o.wp P a w K Q := by
  obtain ⟨v', w', hr, h2, h3, h4, h5⟩ := run_append_own_at (P := P) w base t o.type e i z size bytes ht hi hz hsize hby hzs hsz v n xs hown ad m c news hl hnews h1 h63 hbytes hbase
  unfold Oper.wp execOp
  simp only [ho, resolve, invoke, builtin, Sem.run_bind, Sem.run_pure, Result.andThen_ok, List.map_toArray, List.map_cons, List.map_nil, hs, hx, hr]
  exact h v' w' h2 h3 h5
theorem own_empty {W : World} {base b : Nat} {e : TypeId} {size : Nat} (h : W.heap[b]? = some (.cells #[] e (0, 0))) (hb : base ≤ b) : W.ownsRow base e size (.slice (some ⟨b, 0, none⟩) 0 0) 0 [] :=
  ⟨by simp, .inr ⟨b, 0, #[], rfl, hb, h, Nat.le_refl _, by simp [maxLen], by simp, by simp⟩⟩
theorem own_below {w w' : World} {base n : Nat} {e : TypeId} {size : Nat} {v : Value} {xs : List Value} (o : w.ownsRow base e size v n xs) (p : Below w.heap.size w w') : w'.ownsRow base e size v n xs :=
  World.ownsRow.kept (row := none) o ⟨p.os, p.tape, p.output, p.size, fun k hk _ => p.block k hk⟩ (by
    cases hv : v.ownBlock
    · exact .inl rfl
    · exact .inr (by simp))
theorem addr_off (g o j : Nat) : (⟨g, o, none⟩ : Addr).add j = ⟨g, o + j, none⟩ := by
  unfold Addr.add
  split
  · rename_i h
    subst h
    rfl
  · rfl
/-- Where RingPlays stands: the ring has q, and so has the list v. -/
structure RP (w0 : World) (b base room : Nat) (v : Value) (q : List Int) (w : World) : Prop where
  ring : RI.Ring w (b + 1) b room q
  own : w.ownsRow base 3 1 v q.length (ints q)
  below : Below w0.heap.size w0 w
  at0 : w0.heap.size ≤ b
  at1 : b + 1 < base
  at2 : base ≤ w.heap.size
section
variable {w0 w : World} {b base room : Nat} {v : Value} {q : List Int}
theorem RP.drewN (h : RP w0 b base room v q w) (n : Nat) : RP w0 b base room v q (w.drewN n) := ⟨h.ring.drewN n, h.own, ⟨h.below.os, h.below.tape, h.below.output, h.below.size, h.below.block⟩, h.at0, h.at1, h.at2⟩
/-- Behind an act of the ring's own. -/
theorem RP.two (h : RP w0 b base room v q w) {w' : World} (p : Two (b + 1) b w w') : w'.ownsRow base 3 1 v q.length (ints q) ∧ Below w0.heap.size w0 w' ∧ base ≤ w'.heap.size :=
  have h0 := h.at0
  have h1 := h.at1
  ⟨own_two h.own p (by omega) (by omega), h.below.trans (p.below h.below.size (by omega) (by omega)), Nat.le_trans h.at2 p.size⟩
theorem RP.form (h : RP w0 b base room v q w) (hn : 0 < q.length) : ∃ g cap, v = .slice (some ⟨g, 0, none⟩) q.length cap ∧ base ≤ g ∧ q.length ≤ cap := by
  rcases h.own.2 with ⟨_, h0⟩ | ⟨g, cap, cur, hv, hb, hg, hc, _⟩
  · omega
  · exact ⟨g, cap, hv, hb, hc⟩
end
theorem int_info3 : (Try.prog.info? 3).map (fun i => (i.zero, i.size, i.bytes)) = some (some (.int .i64 0), 1, 8) := by kernel_rfl
set_option maxRecDepth 100000 in
set_option maxHeartbeats 1000000 in
theorem rplays_none (n : Int) (a bb : Option Addr) (len lb cap cb : Nat) (w : World) (h : 200 < len ∨ (len ≤ 200 ∧ lb < len)) (hm : len ≤ 9223372036854775807) (hm2 : lb ≤ 9223372036854775807) :
    Calls Try.prog 8 #[.int .i64 n, .slice a len cap, .slice bb lb cb] w fun e w' => e = .returned (.bool true) ∧ Below w.heap.size w w' := by
  have Ha := Lib.hid RI.awake
  rcases h with h | ⟨h0, h⟩
  · go_enter Try.func8, Try.ntmps8
    go_wp2_with fail
    refine (Ha.out _).mono ?_
    rintro e w1 ⟨rfl, hB1⟩
    go_wp2_with fail
    refine (Ha.out _).mono ?_
    rintro e w2 ⟨rfl, hB2⟩
    go_wp2
    go_ret
    exact ⟨rfl, hB1.trans (hB2.mono hB1.size)⟩
  · have d1 : decide (200 < len) = false := by simp; omega
    go_enter Try.func8, Try.ntmps8
    go_wp2_with fail
    refine (Ha.out _).mono ?_
    rintro e w1 ⟨rfl, hB1⟩
    go_wp2_with fail
    refine (Ha.out _).mono ?_
    rintro e w2 ⟨rfl, hB2⟩
    go_wp2
    go_ret
    exact ⟨rfl, hB1.trans (hB2.mono hB1.size)⟩
set_option maxRecDepth 100000 in
set_option maxHeartbeats 1000000 in
theorem rplays_bad (n : Int) (a bb : Option Addr) (len lb cap cb : Nat) (w : World) (h : len ≤ 200) (h' : len ≤ lb) (hm2 : lb ≤ 9223372036854775807) (hc : n < 1 ∨ (1 ≤ n ∧ 4096 < n)) :
    Calls Try.prog 8 #[.int .i64 n, .slice a len cap, .slice bb lb cb] w fun e w' => e = .returned (.bool true) ∧ Below w.heap.size w w' := by
  have Ha := Lib.hid RI.awake
  have d1 : decide (200 < len) = false := by simp; omega
  have d2 : decide (lb < len) = false := by simp; omega
  have CN := Lib.hid (fun w' => RI.new_bad n w' (by omega))
  have CF := Lib.hid RI.len_nil
  have CP := Lib.hid RI.room_nil
  have CU := Lib.hid (RI.push_nil 1)
  rcases hc with hc | ⟨hc0, hc⟩
  all_goals
    go_enter Try.func8, Try.ntmps8
    go_wp2_with fail
    refine (Ha.out _).mono ?_
    rintro e w1 ⟨rfl, hB1⟩
    go_wp2_with fail
    refine (CN.out _).mono ?_
    rintro e w2 ⟨rfl, rfl⟩
    go_wp2_with fail
    refine (CF.out _).mono ?_
    rintro e w2 ⟨rfl, rfl⟩
    go_wp2_with fail
    refine (CP.out _).mono ?_
    rintro e w2 ⟨rfl, rfl⟩
    go_wp2_with fail
    refine (CU.out _).mono ?_
    rintro e w2 ⟨rfl, m, rfl⟩
    go_wp2
    go_ret
    exact ⟨rfl, below_drewN hB1 m⟩
set_option maxRecDepth 100000 in
set_option maxHeartbeats 4000000 in
theorem rplays_main (n : Nat) (a bb : Option Addr) (K L : List Int) (cap cb : Nat) (w : World) (h : K.length ≤ 200) (h' : K.length ≤ L.length) (hm2 : L.length ≤ 9223372036854775807) (h1 : 1 ≤ n) (h2 : n ≤ 4096) (hK : NumsK .u8 w a K) (hL : NumsK .i16 w bb L) :
    Calls Try.prog 8 #[.int .i64 (n : Nat), .slice a K.length cap, .slice bb L.length cb] w fun e w' => e = .returned (.bool true) ∧ Below w.heap.size w w' := by
  obtain ⟨i0, hi, hz0, hz1, hz2⟩ := info_parts int_info3
  have Hi := Lib.hid hi
  have Hz0 := Lib.hid hz0
  have Hz1 := Lib.hid hz1
  have Hz2 := Lib.hid hz2
  have Ha := Lib.hid (RI.awake w)
  have d1 : decide (200 < K.length) = false := by simp; omega
  have d2 : decide (L.length < K.length) = false := by simp; omega
  have HK := Lib.hid hK
  have HL := Lib.hid hL
  clear hK hL hi hz0 hz1 hz2
  generalize hlK : K.length = lK at *
  generalize hlL : L.length = lL at *
  have HLK := Lib.hid hlK
  have HLL := Lib.hid hlL
  clear hlK hlL
  go_enter Try.func8, Try.ntmps8
  go_wp2_with fail
  refine Ha.out.mono ?_
  rintro e w1 ⟨rfl, hB1⟩
  have CN := Lib.hid (RI.r_new n w1 h1 h2)
  clear Ha
  go_wp2_with fail
  refine CN.out.mono ?_
  rintro e w2 ⟨rfl, hS, hB2⟩
  have hlt := hS.lt
  have hP : RP w w1.heap.size w2.heap.size n (.slice none 0 0) [] w2 := ⟨hS, World.ownsRow_nil _ _ _ _, hB1.trans (hB2.mono hB1.size), hB1.size, hlt.1, Nat.le_refl _⟩
  have HP := Lib.hid hP
  clear CN hB1 hB2 hS hP hlt
  generalize w1.heap.size = b at *
  generalize w2.heap.size = base at *
  go_wp2_with fail
  go_loopw [9, 68] (fun v c wr => ∃ (k : Nat) (q : List Int), k ≤ lK ∧ c = .int .i64 k ∧ RP w b base n v q wr) (fun _ c _ => lK - (intOf c).toNat)
  case atStart => exact ⟨0, _, by omega, rfl, HP.out⟩
  case round =>
    obtain ⟨k, q, hk, rfl, hP⟩ := hrel
    obtain ⟨A9, c9, rfl⟩ := own_slice hP.own
    by_cases hlt : k < lK
    · obtain ⟨kd, hkd⟩ : ∃ v, K[k]? = some v := ⟨_, List.getElem?_eq_getElem (by have := HLK.out; omega)⟩
      obtain ⟨at_, hat⟩ : ∃ v, L[k]? = some v := ⟨_, List.getElem?_eq_getElem (by have := HLL.out; omega)⟩
      obtain ⟨xk, rfl, hck, hwk⟩ := HK.out.below hP.below hkd
      obtain ⟨xl, rfl, hcl, hwl⟩ := HL.out.below hP.below hat
      obtain ⟨hk0, hk1⟩ := bounds_u8 hwk
      obtain ⟨hl0, hl1⟩ := bounds_i16 hwl
      obtain ⟨kd, rfl⟩ := Int.eq_ofNat_of_zero_le hk0
      have hql := hP.ring.len.1
      clear hkd hat hwk hwl hk0
      have HP1 := Lib.hid hP
      clear hP HP
      generalize hqn : q.length = qn at *
      have HQN := Lib.hid hqn
      clear hqn
      go_upto_region 12 with (fail)
      rename_i hK12
      have HK12 := Lib.hid hK12
      clear hK12
      go_wp2_with fail
      refine HK12.out _ _ ?_
      clear HK12
      go_cut [9, 11, 12, 13, 14, 80] from 81 to 135 (fun s9 s11 s12 s13 s14 s80 wc => ∃ (q' : List Int) (x : Int) (o : Bool), s11 = .int .i64 x ∧ s13 = .int .i64 x ∧ s12 = .bool o ∧ s14 = .bool o ∧ RP w b base n s9 q' wc)
      case first =>
        have h4 : kd % 4 = 0 ∨ kd % 4 = 1 ∨ kd % 4 = 2 ∨ kd % 4 = 3 := by omega
        rcases h4 with h4 | h4 | h4 | h4
        iterate 2
          · have e0 : (kd : Int) % 4 = ((kd % 4 : Nat) : Int) := by omega
            rw [h4] at e0
            clear h4
            by_cases hroom : qn < n
            · as_aux_lemma =>
              have C := Lib.hid (RI.r_push at_ HP1.out.ring (by have := HQN.out; omega))
              have dr : decide ((qn : Int) < (n : Int)) = true := decide_eq_true (by omega)
              have drn : decide (qn < n) = true := decide_eq_true hroom
              go_wp2_with fail
              refine C.out.mono ?_
              rintro e w5 ⟨rfl, hR5, hT5⟩
              obtain ⟨ho5, hB5, hs5⟩ := HP1.out.two hT5
              rw [HQN.out] at ho5
              have Hge := Lib.hid (own_ge ho5)
              have HR5 := Lib.hid hR5
              clear C hT5 hR5
              go_wp2_with (at_builtin; go_must (refine wpList_append_own_at _ rfl (.tmp 132) (.tmp 134) 49 rfl base 3 i0 (.int .i64 0) 1 8 Try.underlying49 Hi.out Hz0.out Hz1.out Hz2.out rfl (by omega) (.slice A9 qn c9) qn (ints q) rfl (ho5.alloc _) ⟨w5.heap.size, 0, none⟩ 1 1 [.int .i64 at_] rfl rfl ?_ ?_ ?_ ?_ ?_ ?_))
              · exact cell_one_new _ _ _
              · simp [Value.oneCell']
              · simp only [maxLen]; omega
              · omega
              · simp; omega
              · intro v9 w9 hown9 hg9 _ hat
                have hR9 : RI.Ring w9 (b + 1) b n (q ++ [at_]) := RI.Ring.grown (RI.Ring.below HR5.out ((Below.refl _ _).alloc (Nat.le_refl _) _)) hg9 (fun e => by have := Hge.out _ e.symm; have := HP1.out.at1; omega) (fun e => by have := Hge.out _ e.symm; have := HP1.out.at1; omega)
                have hB9 : Below w.heap.size w w9 := (hB5.alloc hB5.size _).grown hg9 (by have := hB5.size; simp; omega) (fun q hq => by have := Hge.out q hq; have := HP1.out.at1; have := HP1.out.at0; omega)
                have hs9 : base ≤ w9.heap.size := Nat.le_trans hs5 (Nat.le_trans (by simp) hg9.size)
                rw [show ints q ++ [Value.int .i64 at_] = ints (q ++ [at_]) by simp [ints], show qn + 1 = (q ++ [at_]).length by rw [List.length_append, HQN.out]; rfl] at hown9
                have HF := Lib.hid (RP.mk hR9 hown9 hB9 HP1.out.at0 HP1.out.at1 hs9)
                clear hR9 hown9 hB9 hg9 hat
                go_wp2_with fail
                go_meet
                case rel => exact ⟨_, 0, true, rfl, rfl, rfl, rfl, HF.out⟩
            · as_aux_lemma =>
              have C := Lib.hid (RI.r_push_full at_ HP1.out.ring (by have := HQN.out; omega))
              have dr : decide ((qn : Int) < (n : Int)) = false := decide_eq_false (by omega)
              have drn : decide (qn < n) = false := decide_eq_false hroom
              go_wp2_with fail
              refine C.out.mono ?_
              rintro e w5 ⟨rfl, hR5, hT5⟩
              obtain ⟨ho5, hB5, hs5⟩ := HP1.out.two hT5
              have HF := Lib.hid (RP.mk hR5 ho5 hB5 HP1.out.at0 HP1.out.at1 hs5)
              clear C hT5 hR5 ho5
              go_wp2_with fail
              go_meet
              case rel => exact ⟨q, 0, false, rfl, rfl, rfl, rfl, HF.out⟩
        · have e0 : (kd : Int) % 4 = ((kd % 4 : Nat) : Int) := by omega
          rw [h4] at e0
          clear h4
          cases q with
          | nil =>
            as_aux_lemma =>
            have C := Lib.hid (RI.r_pop_none HP1.out.ring)
            have hq0 : qn = 0 := HQN.out.symm
            have dc : decide ((0 : Int) < (qn : Int)) = false := decide_eq_false (by omega)
            have dcn : decide (0 < qn) = false := decide_eq_false (by omega)
            clear hq0
            go_wp2_with fail
            refine C.out.mono ?_
            rintro e w5 ⟨rfl, rfl⟩
            go_wp2_with fail
            go_meet
            case rel => exact ⟨[], 0, false, rfl, rfl, rfl, rfl, HP1.out⟩
          | cons x t =>
            as_aux_lemma =>
            have hcq : 0 < qn := by have := HQN.out; simp only [List.length_cons] at this; omega
            have hx : (x :: t)[0]? = some x := rfl
            have C := Lib.hid (RI.r_pop x t HP1.out.ring)
            obtain ⟨g, cp, hv, hg1, hcp⟩ := HP1.out.form (by simp)
            injection hv with hv1 hv2 hv3
            subst hv1 hv3
            have hcpq : qn ≤ c9 := by have := HQN.out; omega
            have HX := Lib.hid hx
            have dc : decide ((0 : Int) < (qn : Int)) = true := decide_eq_true (by omega)
            have dcn : decide (0 < qn) = true := decide_eq_true hcq
            clear hx hv2 hcp
            go_wp2_with fail
            refine C.out.mono ?_
            rintro e w5 ⟨rfl, hR5, hT5⟩
            obtain ⟨ho5, hB5, hs5⟩ := HP1.out.two hT5
            have HO5 := Lib.hid ho5
            have hcx : w5.cell? ⟨g, 0, none⟩ = some (.int .i64 x) := by
              rw [HQN.out] at ho5
              rw [ho5.cellAt 0 (by omega), ints_at, HX.out]
              rfl
            have HR5 := Lib.hid hR5
            clear C hT5 hR5 ho5
            have hb1 : (0 : Int) ≤ (c9 : Int) := by omega
            have hb2 : (1 : Int) ≤ (qn : Int) := by omega
            have hb3 : (qn : Int) ≤ (c9 : Int) := by omega
            have hb6 : (0 : Int) ≤ (qn : Int) := by omega
            have hb7 : (1 : Int) ≤ (c9 : Int) := by omega
            have hw1 : IntKind.i64.wrap 1 = 1 := by decide
            go_wp2_with fail
            refine wp_region_held_drew (S := fun w' => Below w5.heap.size w5 w') (by kernel_rfl) ((Below.refl _ _).drew) (fun hHeld => ?_)
            refine wpAnyH_take (i := 1) (oi := ⟨some 112, _, _, _, _, _⟩) (v := ?_) rfl (by kernel_rfl) (by kernel_rfl) (by kernel_rfl) (fun _ _ _ h => h) (Or.inl ⟨by rfl, ?_⟩) hHeld ?_
            rotate_left
            · intro w hSw
              go_simp
              try with_reducible rfl
            try simp only [Act.put, List.setIfInBounds_toArray, List.set_cons_zero, List.set_cons_succ]
            refine wpAnyH_take (i := 2) (oi := ⟨some 113, _, _, _, _, _⟩) (v := ?_) rfl (by kernel_rfl) (by kernel_rfl) (by kernel_rfl) (fun _ _ _ h => h) (Or.inl ⟨by rfl, ?_⟩) hHeld ?_
            rotate_left
            · intro w hSw
              go_simp
              try with_reducible rfl
            try simp only [Act.put, List.setIfInBounds_toArray, List.set_cons_zero, List.set_cons_succ]
            refine wpAnyH_take (i := 3) (oi := ⟨some 114, _, _, _, _, _⟩) (v := ?_) rfl (by kernel_rfl) (by kernel_rfl) (by kernel_rfl) (fun _ _ _ h => h) (Or.inl ⟨by rfl, ?_⟩) hHeld ?_
            rotate_left
            · intro w hSw
              go_simp
              try with_reducible rfl
            try simp only [Act.put, List.setIfInBounds_toArray, List.set_cons_zero, List.set_cons_succ]
            refine wpAnyH_take (i := 5) (oi := ⟨some 116, _, _, _, _, _⟩) (v := ?_) rfl (by kernel_rfl) (by kernel_rfl) (by kernel_rfl) (fun _ _ _ h => h) (Or.inl ⟨by rfl, ?_⟩) hHeld ?_
            rotate_left
            · intro w hSw
              go_simp
              try with_reducible rfl
            try simp only [Act.put, List.setIfInBounds_toArray, List.set_cons_zero, List.set_cons_succ]
            refine wpAnyH_take (i := 6) (oi := ⟨some 117, _, _, _, _, _⟩) (v := ?_) rfl (by kernel_rfl) (by kernel_rfl) (by kernel_rfl) (fun _ _ _ h => h) (Or.inl ⟨by rfl, ?_⟩) hHeld ?_
            rotate_left
            · intro w hSw
              go_simp
              try with_reducible rfl
            try simp only [Act.put, List.setIfInBounds_toArray, List.set_cons_zero, List.set_cons_succ]
            refine wpAnyH_take (i := 7) (oi := ⟨some 118, _, _, _, _, _⟩) (v := ?_) rfl (by kernel_rfl) (by kernel_rfl) (by kernel_rfl) (fun _ _ _ h => h) (Or.inl ⟨by rfl, ?_⟩) hHeld ?_
            rotate_left
            · intro w hSw
              go_simp
              try with_reducible rfl
            try simp only [Act.put, List.setIfInBounds_toArray, List.set_cons_zero, List.set_cons_succ]
            refine wpAnyH_take (i := 8) (oi := ⟨some 119, _, _, _, _, _⟩) (v := ?_) rfl (by kernel_rfl) (by kernel_rfl) (by kernel_rfl) (fun _ _ _ h => h) (Or.inl ⟨by rfl, ?_⟩) hHeld ?_
            rotate_left
            · intro w hSw
              go_simp
              try with_reducible rfl
            try simp only [Act.put, List.setIfInBounds_toArray, List.set_cons_zero, List.set_cons_succ]
            refine wpAnyH_ready (rs := [0]) (by kernel_rfl) (by simp) ?_
            refine AllReadyH.cons rfl (fun K hK => ?_) AllReadyH.nil
            go_simp
            refine hK.out _ _ (hHeld.alloc hHeld.size _) (fun hHeld => ?_)
            clear hK K
            have HE : ((w5.alloc (.cells #[] 3)).drew).ownsRow base 3 1 (.slice (some ⟨w5.heap.size, 0, none⟩) 0 0) 0 [] := own_empty (Go.heap_alloc_new w5 _) hs5
            refine wpAnyH_ready (rs := [4]) (by kernel_rfl) (by simp) ?_
            refine AllReadyH.cons (o := ⟨some 115, _, _, _, _, _⟩) rfl (fun K hK => ?_) AllReadyH.nil
            rw [if_pos (by rfl)]
            refine wp_append_own_at _ (.tmp 111) (.tmp 114) 49 rfl base 3 i0 (.int .i64 0) 1 8 Try.underlying49 Hi.out Hz0.out Hz1.out Hz2.out rfl (by omega) (.slice (some ⟨w5.heap.size, 0, none⟩) 0 0) 0 [] (by rfl) HE ⟨g, 0, none⟩ 0 c9 ((ints (x :: t)).take 0) (by rfl) ?hl ?hnews ?h1 ?h63 ?hbytes ?hbase ?next
            case hl => simp [ints]
            case hnews =>
              intro j u hu
              rw [List.getElem?_take] at hu
              split at hu
              · have := HO5.out.cells (g := g) rfl j u hu
                have h2 := (hHeld.cell (p := (⟨g, 0, none⟩ : Addr).add j) (by have := World.block_lt_of_cell? w5 _ this; exact this)).trans this
                exact h2
              · cases hu
            case h1 =>
              intro u hu
              obtain ⟨z, _, rfl⟩ := List.mem_map.1 (List.mem_of_mem_take hu)
              rfl
            case h63 => simp only [maxLen]; omega
            case hbytes => omega
            case hbase => exact Nat.le_trans hs5 hHeld.size
            case next =>
              intro v6 w6 hown6 hg6 hat6
              have hB6 : Below w5.heap.size w5 w6 := hHeld.grown hg6 hHeld.size (fun q hq => by simp [Value.ownBlock] at hq; omega)
              rw [Nat.zero_add, List.nil_append] at hown6
              have hge6 : ∀ q, v6.ownBlock = some q → w5.heap.size ≤ q := by
                intro q hq
                rcases hat6 with h | h
                · rw [h] at hq; simp [Value.ownBlock] at hq; omega
                · rw [h] at hq; simp at hq; omega
              have hsz6 : w5.heap.size ≤ w6.heap.size := hB6.size
              clear hg6 hat6 HE
              refine hK.out _ _ hB6 (fun hHeld => ?_)
              clear hK K
              try simp only [Act.put, List.setIfInBounds_toArray, List.set_cons_zero, List.set_cons_succ]
              refine wpAnyH_ready (rs := [9]) (by kernel_rfl) (by simp) ?_
              refine AllReadyH.cons (o := ⟨some 120, _, _, _, _, _⟩) rfl (fun K hK => ?_) AllReadyH.nil
              rw [if_pos (by rfl)]
              obtain ⟨A, hA, hA2⟩ : ∃ A : Addr, (if c9 = 1 then some (⟨g, 0, none⟩ : Addr) else some ⟨g, 1, none⟩) = some A ∧ (1 < qn → A = ⟨g, 1, none⟩) := by
                by_cases e : c9 = 1
                · exact ⟨_, by rw [if_pos e], fun h => by omega⟩
                · exact ⟨_, by rw [if_neg e], fun h => rfl⟩
              refine wp_append_own_at _ (.tmp 115) (.tmp 119) 49 rfl base 3 i0 (.int .i64 0) 1 8 Try.underlying49 Hi.out Hz0.out Hz1.out Hz2.out rfl (by omega) v6 0 ((ints (x :: t)).take 0) (by rfl) hown6 A (qn - 1) (c9 - 1) ((ints (x :: t)).drop 1) (by simp [Act.eval]; exact hA) ?hl ?hnews ?h1 ?h63 ?hbytes ?hbase ?next
              case hl => simp [ints]; have := HQN.out; simp only [List.length_cons] at this; omega
              case hnews =>
                intro j u hu
                rw [List.getElem?_drop] at hu
                have hj : 1 + j < qn := by
                  have := (List.getElem?_eq_some_iff.1 hu).1
                  rw [ints_length, HQN.out] at this
                  exact this
                rw [hA2 (by omega)]
                have := HO5.out.cells (g := g) rfl (1 + j) u hu
                rw [show (⟨g, 1, none⟩ : Addr).add j = (⟨g, 0, none⟩ : Addr).add (1 + j) by rw [addr_off, addr_off, Nat.zero_add]]
                exact (hHeld.cell (World.block_lt_of_cell? w5 _ this)).trans this
              case h1 =>
                intro u hu
                obtain ⟨z, _, rfl⟩ := List.mem_map.1 (List.mem_of_mem_drop hu)
                rfl
              case h63 => simp only [maxLen]; omega
              case hbytes => omega
              case hbase => exact Nat.le_trans hs5 hHeld.size
              case next =>
                intro v9 w9 hown9 hg9 hat9
                have hB9 : Below w5.heap.size w5 w9 := hHeld.grown hg9 hHeld.size hge6
                have el : ((x :: t).eraseIdx 0).length = 0 + (qn - 1) := by rw [List.length_eraseIdx_of_lt (by have := HQN.out; omega), HQN.out]; omega
                have ex : (ints (x :: t)).take 0 ++ (ints (x :: t)).drop 1 = ints ((x :: t).eraseIdx 0) := by
                  unfold ints
                  rw [List.eraseIdx_eq_take_drop_succ, List.map_append, List.map_take, List.map_drop]
                rw [ex, ← el] at hown9
                have HF := Lib.hid (RP.mk (HR5.out.below hB9) hown9 (hB5.trans (hB9.mono hB5.size)) HP1.out.at0 HP1.out.at1 (Nat.le_trans hs5 hB9.size))
                obtain ⟨A10, c10, rfl⟩ := own_slice hown9
                clear hown9 hg9 hat9 el ex hA hA2 hown6 hge6 hsz6 hB6
                refine hK.out _ _ hB9 (fun hHeld => ?_)
                clear hK K
                try simp only [Act.put, List.setIfInBounds_toArray, List.set_cons_zero, List.set_cons_succ]
                refine wpAnyH_take (i := 10) (oi := ⟨some 9, _, _, _, _, _⟩) (v := ?_) rfl (by kernel_rfl) (by kernel_rfl) (by kernel_rfl) (fun _ _ _ h => h) (Or.inl ⟨by rfl, ?_⟩) hHeld ?_
                rotate_left
                · intro w hSw
                  go_simp
                  try with_reducible rfl
                try simp only [Act.put, List.setIfInBounds_toArray, List.set_cons_zero, List.set_cons_succ]
                refine wpAnyH_done (by kernel_rfl) ?_ _
                go_wp2_with fail
                all_goals
                  go_meet
                  case rel => exact ⟨_, x, true, rfl, rfl, rfl, rfl, HF.out⟩
        · have e0 : (kd : Int) % 4 = ((kd % 4 : Nat) : Int) := by omega
          rw [h4] at e0
          clear h4
          by_cases h0 : at_ < 0
          · as_aux_lemma =>
            have C := Lib.hid (RI.r_cut_no at_ HP1.out.ring (by omega))
            go_wp2_with fail
            refine C.out.mono ?_
            rintro e w5 ⟨rfl, rfl⟩
            go_wp2_with fail
            go_meet
            case rel => exact ⟨q, 0, false, rfl, rfl, rfl, rfl, HP1.out⟩
          · obtain ⟨c, rfl⟩ := Int.eq_ofNat_of_zero_le (show 0 ≤ at_ by omega)
            by_cases hcq : c < qn
            · as_aux_lemma =>
              obtain ⟨x, hx⟩ : ∃ x, q[c]? = some x := ⟨_, List.getElem?_eq_getElem (by have := HQN.out; omega)⟩
              have C := Lib.hid (RI.r_cut c x HP1.out.ring hx)
              obtain ⟨g, cp, hv, hg1, hcp⟩ := HP1.out.form (by have := HQN.out; omega)
              injection hv with hv1 hv2 hv3
              subst hv1 hv3
              have hcpq : qn ≤ c9 := by have := HQN.out; omega
              have HX := Lib.hid hx
              have dc : decide ((c : Int) < (qn : Int)) = true := decide_eq_true (by omega)
              have dcn : decide (c < qn) = true := decide_eq_true hcq
              clear hx hv2 hcp
              go_wp2_with fail
              refine C.out.mono ?_
              rintro e w5 ⟨rfl, hR5, hT5⟩
              obtain ⟨ho5, hB5, hs5⟩ := HP1.out.two hT5
              have HO5 := Lib.hid ho5
              have hcx : w5.cell? ⟨g, c, none⟩ = some (.int .i64 x) := by
                rw [HQN.out] at ho5
                rw [ho5.cellAt c (by omega), ints_at, HX.out]
                rfl
              have HR5 := Lib.hid hR5
              clear C hT5 hR5 ho5
              have hb1 : (c : Int) ≤ (c9 : Int) := by omega
              have hb2 : (c : Int) + 1 ≤ (qn : Int) := by omega
              have hb3 : (qn : Int) ≤ (c9 : Int) := by omega
              have hb4 : (0 : Int) ≤ (c : Int) := by omega
              have hb5 : (0 : Int) ≤ (c : Int) + 1 := by omega
              have hb6 : (c : Int) ≤ (qn : Int) := by omega
              have hwc : IntKind.i64.wrap ((c : Int) + 1) = (c : Int) + 1 := IntWalk.i64_in _ (by omega)
              go_wp2_with fail
              refine wp_region_held_drew (S := fun w' => Below w5.heap.size w5 w') (by kernel_rfl) ((Below.refl _ _).drew) (fun hHeld => ?_)
              refine wpAnyH_take (i := 1) (oi := ⟨some 112, _, _, _, _, _⟩) (v := ?_) rfl (by kernel_rfl) (by kernel_rfl) (by kernel_rfl) (fun _ _ _ h => h) (Or.inl ⟨by rfl, ?_⟩) hHeld ?_
              rotate_left
              · intro w hSw
                go_simp
                try with_reducible rfl
              try simp only [Act.put, List.setIfInBounds_toArray, List.set_cons_zero, List.set_cons_succ]
              refine wpAnyH_take (i := 2) (oi := ⟨some 113, _, _, _, _, _⟩) (v := ?_) rfl (by kernel_rfl) (by kernel_rfl) (by kernel_rfl) (fun _ _ _ h => h) (Or.inl ⟨by rfl, ?_⟩) hHeld ?_
              rotate_left
              · intro w hSw
                go_simp
                try with_reducible rfl
              try simp only [Act.put, List.setIfInBounds_toArray, List.set_cons_zero, List.set_cons_succ]
              refine wpAnyH_take (i := 3) (oi := ⟨some 114, _, _, _, _, _⟩) (v := ?_) rfl (by kernel_rfl) (by kernel_rfl) (by kernel_rfl) (fun _ _ _ h => h) (Or.inl ⟨by rfl, ?_⟩) hHeld ?_
              rotate_left
              · intro w hSw
                go_simp
                try with_reducible rfl
              try simp only [Act.put, List.setIfInBounds_toArray, List.set_cons_zero, List.set_cons_succ]
              refine wpAnyH_take (i := 5) (oi := ⟨some 116, _, _, _, _, _⟩) (v := ?_) rfl (by kernel_rfl) (by kernel_rfl) (by kernel_rfl) (fun _ _ _ h => h) (Or.inl ⟨by rfl, ?_⟩) hHeld ?_
              rotate_left
              · intro w hSw
                go_simp
                try with_reducible rfl
              try simp only [Act.put, List.setIfInBounds_toArray, List.set_cons_zero, List.set_cons_succ]
              refine wpAnyH_take (i := 6) (oi := ⟨some 117, _, _, _, _, _⟩) (v := ?_) rfl (by kernel_rfl) (by kernel_rfl) (by kernel_rfl) (fun _ _ _ h => h) (Or.inl ⟨by rfl, ?_⟩) hHeld ?_
              rotate_left
              · intro w hSw
                go_simp
                try with_reducible rfl
              try simp only [Act.put, List.setIfInBounds_toArray, List.set_cons_zero, List.set_cons_succ]
              refine wpAnyH_take (i := 7) (oi := ⟨some 118, _, _, _, _, _⟩) (v := ?_) rfl (by kernel_rfl) (by kernel_rfl) (by kernel_rfl) (fun _ _ _ h => h) (Or.inl ⟨by rfl, ?_⟩) hHeld ?_
              rotate_left
              · intro w hSw
                go_simp
                try with_reducible rfl
              try simp only [Act.put, List.setIfInBounds_toArray, List.set_cons_zero, List.set_cons_succ]
              refine wpAnyH_take (i := 8) (oi := ⟨some 119, _, _, _, _, _⟩) (v := ?_) rfl (by kernel_rfl) (by kernel_rfl) (by kernel_rfl) (fun _ _ _ h => h) (Or.inl ⟨by rfl, ?_⟩) hHeld ?_
              rotate_left
              · intro w hSw
                go_simp
                try with_reducible rfl
              try simp only [Act.put, List.setIfInBounds_toArray, List.set_cons_zero, List.set_cons_succ]
              refine wpAnyH_ready (rs := [0]) (by kernel_rfl) (by simp) ?_
              refine AllReadyH.cons rfl (fun K hK => ?_) AllReadyH.nil
              go_simp
              refine hK.out _ _ (hHeld.alloc hHeld.size _) (fun hHeld => ?_)
              clear hK K
              have HE : ((w5.alloc (.cells #[] 3)).drew).ownsRow base 3 1 (.slice (some ⟨w5.heap.size, 0, none⟩) 0 0) 0 [] := own_empty (Go.heap_alloc_new w5 _) hs5
              refine wpAnyH_ready (rs := [4]) (by kernel_rfl) (by simp) ?_
              refine AllReadyH.cons (o := ⟨some 115, _, _, _, _, _⟩) rfl (fun K hK => ?_) AllReadyH.nil
              rw [if_pos (by rfl)]
              refine wp_append_own_at _ (.tmp 111) (.tmp 114) 49 rfl base 3 i0 (.int .i64 0) 1 8 Try.underlying49 Hi.out Hz0.out Hz1.out Hz2.out rfl (by omega) (.slice (some ⟨w5.heap.size, 0, none⟩) 0 0) 0 [] (by rfl) HE ⟨g, 0, none⟩ c c9 ((ints q).take c) (by rfl) ?hl ?hnews ?h1 ?h63 ?hbytes ?hbase ?next
              case hl => simp [ints]; have := HQN.out; omega
              case hnews =>
                intro j u hu
                rw [List.getElem?_take] at hu
                split at hu
                · have := HO5.out.cells (g := g) rfl j u hu
                  have h2 := (hHeld.cell (p := (⟨g, 0, none⟩ : Addr).add j) (by have := World.block_lt_of_cell? w5 _ this; exact this)).trans this
                  exact h2
                · cases hu
              case h1 =>
                intro u hu
                obtain ⟨z, _, rfl⟩ := List.mem_map.1 (List.mem_of_mem_take hu)
                rfl
              case h63 => simp only [maxLen]; omega
              case hbytes => omega
              case hbase => exact Nat.le_trans hs5 hHeld.size
              case next =>
                intro v6 w6 hown6 hg6 hat6
                have hB6 : Below w5.heap.size w5 w6 := hHeld.grown hg6 hHeld.size (fun q hq => by simp [Value.ownBlock] at hq; omega)
                rw [Nat.zero_add, List.nil_append] at hown6
                have hge6 : ∀ q, v6.ownBlock = some q → w5.heap.size ≤ q := by
                  intro q hq
                  rcases hat6 with h | h
                  · rw [h] at hq; simp [Value.ownBlock] at hq; omega
                  · rw [h] at hq; simp at hq; omega
                have hsz6 : w5.heap.size ≤ w6.heap.size := hB6.size
                clear hg6 hat6 HE
                refine hK.out _ _ hB6 (fun hHeld => ?_)
                clear hK K
                try simp only [Act.put, List.setIfInBounds_toArray, List.set_cons_zero, List.set_cons_succ]
                refine wpAnyH_ready (rs := [9]) (by kernel_rfl) (by simp) ?_
                refine AllReadyH.cons (o := ⟨some 120, _, _, _, _, _⟩) rfl (fun K hK => ?_) AllReadyH.nil
                rw [if_pos (by rfl)]
                obtain ⟨A, hA, hA2⟩ : ∃ A : Addr, (if c9 = c + 1 then some (⟨g, 0, none⟩ : Addr) else some ⟨g, c + 1, none⟩) = some A ∧ (c + 1 < qn → A = ⟨g, c + 1, none⟩) := by
                  by_cases e : c9 = c + 1
                  · exact ⟨_, by rw [if_pos e], fun h => by omega⟩
                  · exact ⟨_, by rw [if_neg e], fun h => rfl⟩
                refine wp_append_own_at _ (.tmp 115) (.tmp 119) 49 rfl base 3 i0 (.int .i64 0) 1 8 Try.underlying49 Hi.out Hz0.out Hz1.out Hz2.out rfl (by omega) v6 c ((ints q).take c) (by rfl) hown6 A (qn - (c + 1)) (c9 - (c + 1)) ((ints q).drop (c + 1)) (by simp [Act.eval]; exact hA) ?hl ?hnews ?h1 ?h63 ?hbytes ?hbase ?next
                case hl => simp [ints]; have := HQN.out; omega
                case hnews =>
                  intro j u hu
                  rw [List.getElem?_drop] at hu
                  have hj : c + 1 + j < qn := by
                    have := (List.getElem?_eq_some_iff.1 hu).1
                    rw [ints_length, HQN.out] at this
                    exact this
                  rw [hA2 (by omega)]
                  have := HO5.out.cells (g := g) rfl (c + 1 + j) u hu
                  rw [show (⟨g, c + 1, none⟩ : Addr).add j = (⟨g, 0, none⟩ : Addr).add (c + 1 + j) by rw [addr_off, addr_off, Nat.zero_add]]
                  exact (hHeld.cell (World.block_lt_of_cell? w5 _ this)).trans this
                case h1 =>
                  intro u hu
                  obtain ⟨z, _, rfl⟩ := List.mem_map.1 (List.mem_of_mem_drop hu)
                  rfl
                case h63 => simp only [maxLen]; omega
                case hbytes => omega
                case hbase => exact Nat.le_trans hs5 hHeld.size
                case next =>
                  intro v9 w9 hown9 hg9 hat9
                  have hB9 : Below w5.heap.size w5 w9 := hHeld.grown hg9 hHeld.size hge6
                  have el : (q.eraseIdx c).length = c + (qn - (c + 1)) := by rw [List.length_eraseIdx_of_lt (by have := HQN.out; omega), HQN.out]; omega
                  have ex : (ints q).take c ++ (ints q).drop (c + 1) = ints (q.eraseIdx c) := by
                    unfold ints
                    rw [List.eraseIdx_eq_take_drop_succ, List.map_append, List.map_take, List.map_drop]
                  rw [ex, ← el] at hown9
                  have HF := Lib.hid (RP.mk (HR5.out.below hB9) hown9 (hB5.trans (hB9.mono hB5.size)) HP1.out.at0 HP1.out.at1 (Nat.le_trans hs5 hB9.size))
                  obtain ⟨A10, c10, rfl⟩ := own_slice hown9
                  clear hown9 hg9 hat9 el ex hA hA2 hown6 hge6 hsz6 hB6
                  refine hK.out _ _ hB9 (fun hHeld => ?_)
                  clear hK K
                  try simp only [Act.put, List.setIfInBounds_toArray, List.set_cons_zero, List.set_cons_succ]
                  refine wpAnyH_take (i := 10) (oi := ⟨some 9, _, _, _, _, _⟩) (v := ?_) rfl (by kernel_rfl) (by kernel_rfl) (by kernel_rfl) (fun _ _ _ h => h) (Or.inl ⟨by rfl, ?_⟩) hHeld ?_
                  rotate_left
                  · intro w hSw
                    go_simp
                    try with_reducible rfl
                  try simp only [Act.put, List.setIfInBounds_toArray, List.set_cons_zero, List.set_cons_succ]
                  refine wpAnyH_done (by kernel_rfl) ?_ _
                  go_wp2_with fail
                  all_goals
                    go_meet
                    case rel => exact ⟨_, x, true, rfl, rfl, rfl, rfl, HF.out⟩
            · as_aux_lemma =>
              have C := Lib.hid (RI.r_cut_no (c : Nat) HP1.out.ring (by have := HQN.out; omega))
              have dc : decide ((c : Int) < (qn : Int)) = false := decide_eq_false (by omega)
              have dcn : decide (c < qn) = false := decide_eq_false hcq
              go_wp2_with fail
              refine C.out.mono ?_
              rintro e w5 ⟨rfl, rfl⟩
              go_wp2_with fail
              go_meet
              case rel => exact ⟨q, 0, false, rfl, rfl, rfl, rfl, HP1.out⟩
      case rest =>
        as_aux_lemma =>
        obtain ⟨q', x', o', rfl, rfl, rfl, rfl, hP'⟩ := hcut
        obtain ⟨A', c', rfl⟩ := own_slice hP'.own
        have CF := Lib.hid (RI.r_len hP'.ring)
        have CP := Lib.hid (RI.r_room hP'.ring)
        have hq4 : q'.length ≤ 4096 := by have := hP'.ring.len; omega
        have HO : Hid (∀ (i : Nat) (y : Int), q'[i]? = some y → ∃ g, A' = some ⟨g, 0, none⟩ ∧ wc.cell? ⟨g, i, none⟩ = some (.int .i64 y)) := by
          intro i y hy
          have hi := (List.getElem?_eq_some_iff.1 hy).1
          obtain ⟨g, cp, hv, _, _⟩ := hP'.form (by omega)
          injection hv with hv1 hv2 hv3
          subst hv1 hv3
          refine ⟨g, rfl, ?_⟩
          rw [hP'.own.cellAt i (by omega), ints_at, hy]
          rfl
        have HP2 := Lib.hid hP'
        clear hP' HP1 HQN hql
        generalize hln : q'.length = ln at *
        have HLN := Lib.hid hln
        clear hln
        go_wp2_with fail
        refine CF.out.mono ?_
        rintro e w5 ⟨rfl, rfl⟩
        go_wp2_with fail
        refine CP.out.mono ?_
        rintro e w5 ⟨rfl, rfl⟩
        clear CF CP
        go_wp2_with fail
        obtain ⟨wo, rfl⟩ : ∃ wo : World, wo = w5 := ⟨_, rfl⟩
        go_loopw [16] (fun c wq => ∃ (i : Int) (m : Nat), -1 ≤ i ∧ i ≤ (ln : Int) + 1 ∧ c = .int .i64 i ∧ wq = wo.drewN m) (fun c _ => ((ln : Int) + 1 - intOf c).toNat)
        case atStart => exact ⟨-1, 0, by omega, by omega, rfl, rfl⟩
        case round =>
          obtain ⟨i, m, hi0, hi1, rfl, rfl⟩ := hrel
          by_cases him : i ≤ (ln : Int)
          · have di : decide (i ≤ (ln : Int)) = true := decide_eq_true him
            have hwi : IntKind.i64.wrap (i + 1) = i + 1 := IntWalk.i64_in _ (by omega)
            by_cases hneg : i < 0
            · have C := Lib.hid (RI.r_at_no i (HP2.out.ring.drewN m) (by omega))
              go_wp2_with fail
              refine C.out.mono ?_
              rintro e w6 ⟨rfl, rfl⟩
              go_wp2_with fail
              go_roundw
              case rel => exact ⟨i + 1, m, by omega, by omega, by go_num, by first | rfl | trivial⟩
              case measure => simp [intOf]; omega
            · obtain ⟨k', rfl⟩ := Int.eq_ofNat_of_zero_le (show 0 ≤ i by omega)
              by_cases hkl : k' < ln
              · obtain ⟨y, hy⟩ : ∃ y, q'[k']? = some y := ⟨_, List.getElem?_eq_getElem (by have := HLN.out; omega)⟩
                have C := Lib.hid (RI.r_at k' y (HP2.out.ring.drewN m) hy)
                obtain ⟨g, rfl, hc⟩ := HO.out k' y hy
                have d3 : decide ((k' : Int) < (ln : Int)) = true := decide_eq_true (by omega)
                have d3n : decide (k' < ln) = true := decide_eq_true hkl
                have d4n : decide (k' ≤ ln) = true := decide_eq_true (by omega)
                clear hy
                go_wp2_with fail
                refine C.out.mono ?_
                rintro e w6 ⟨rfl, m', rfl⟩
                try simp only [World.drewN_drewN]
                go_wp2_with fail
                go_roundw
                case rel => exact ⟨(k' : Int) + 1, _, by omega, by omega, by go_num, by first | rfl | trivial⟩
                case measure => simp [intOf]; omega
              · have C := Lib.hid (RI.r_at_no (k' : Nat) (HP2.out.ring.drewN m) (by have := HLN.out; omega))
                have d3 : decide ((k' : Int) < (ln : Int)) = false := decide_eq_false (by omega)
                have d3n : decide (k' < ln) = false := decide_eq_false hkl
                have d4n : decide (k' ≤ ln) = true := decide_eq_true (by omega)
                go_wp2_with fail
                refine C.out.mono ?_
                rintro e w6 ⟨rfl, rfl⟩
                go_wp2_with fail
                go_roundw
                case rel => exact ⟨(k' : Int) + 1, m, by omega, by omega, by go_num, by first | rfl | trivial⟩
                case measure => simp [intOf]; omega
          · have di : decide (i ≤ (ln : Int)) = false := decide_eq_false him
            go_wp2_with fail
            go_roundw
            case rel =>
              refine ⟨k + 1, q', by omega, by go_num, ?_⟩
              have := HP2.out.drewN m
              exact this
            case measure => simp [intOf]; omega
    · have HB9 := Lib.hid hP.below
      clear hP
      go_wp2
      go_ret
      exact ⟨rfl, HB9.out⟩
theorem walk_ringplays (n : Int) (a : Option Addr) (len cap : Nat) (zs : List Int) (bb : Option Addr) (lb cb : Nat) (ys : List Int) (w : World) (hn : (Lit.int .i64 n).wf = true) (hK : IsRow .u8 w a len cap zs) (hL : IsRow .i16 w bb lb cb ys) :
    Calls Try.prog 8 #[.int .i64 n, .slice a len cap, .slice bb lb cb] w fun e w' => e = .returned (.bool true) ∧ Below w.heap.size w w' := by
  obtain ⟨K, rfl, hK, hm⟩ := numsK_of hK
  obtain ⟨L, rfl, hL, hm2⟩ := numsK_of hL
  by_cases h : K.length ≤ 200 ∧ K.length ≤ L.length
  · by_cases hc : 1 ≤ n ∧ n ≤ 4096
    · obtain ⟨n, rfl⟩ := Int.eq_ofNat_of_zero_le (show 0 ≤ n by omega)
      exact rplays_main n a bb K L cap cb w h.1 h.2 hm2 (by omega) (by omega) hK hL
    · exact rplays_bad n a bb K.length L.length cap cb w h.1 h.2 hm2 (by omega)
  · exact rplays_none n a bb K.length L.length cap cb w (by omega) hm hm2
end Go.Proofs.Ytpeedbnboghafaa.C
