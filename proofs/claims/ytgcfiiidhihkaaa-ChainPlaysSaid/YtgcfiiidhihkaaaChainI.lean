/- The walk of the reference's Cut (chains): done; Cut at whatever numbers. -/
import Derived.Test.YtgcfiiidhihkaaaChainH
namespace Go.Proofs.Ytgcfiiidhihkaaa.C
open Go.RowKit
set_option linter.unusedVariables false
/-- An append onto what the call owns, at the operation: whatever is appended, nothing too. -/
theorem wp_append_own_at {P : Program} (w : World) {o : Oper} {a : Act} {K : Act → World → Prop} {Q : Exit → Act → World → Prop} (s x : Operand) (t : TypeId)
    (ho : o.op = .call { callee := .builtin .append, args := #[s, x], argTypes := #[t, t] })
    (base : Nat) (e : TypeId) (i : TypeInfo) (z : Value) (size bytes : Nat) (ht : P.underlying t = some (.slice e)) (hi : P.info? e = some i) (hz : i.zero = some z)
    (hsize : i.size = size) (hby : i.bytes = bytes) (hzs : z.cells.size = size) (hsz : 0 < size)
    (v : Value) (n : Nat) (xs : List Value) (hs : a.eval s = v) (hown : w.ownsRow base e size v n xs)
    (ad : Addr) (m c : Nat) (news : List Value) (hx : a.eval x = .slice (some ad) m c) (hl : news.length = m * size) (hnews : ∀ j u, news[j]? = some u → w.cell? (ad.add j) = some u) (h1 : ∀ u ∈ news, u.oneCell' = true)
    (h63 : n + m ≤ maxLen) (hbytes : (n + m) * bytes ≤ 140737488355328) (hbase : base ≤ w.heap.size)
    (h : ∀ v' w', w'.ownsRow base e size v' (n + m) (xs ++ news) → w.grownBy w' v.ownBlock → (v'.ownBlock = v.ownBlock ∨ v'.ownBlock = some w.heap.size) → K (a.put o.dst v') w') : o.wp P a w K Q := by
  obtain ⟨v', w', hr, h2, h3, h4, h5⟩ := run_append_own_at (P := P) w base t o.type e i z size bytes ht hi hz hsize hby hzs hsz v n xs hown ad m c news hl hnews h1 h63 hbytes hbase
  unfold Oper.wp execOp
  simp only [ho, resolve, invoke, builtin, Sem.run_bind, Sem.run_pure, Result.andThen_ok, List.map_toArray, List.map_cons, List.map_nil, hs, hx, hr]
  exact h v' w' h2 h3 h5
theorem addr_off (g o j : Nat) : (⟨g, o, none⟩ : Addr).add j = ⟨g, o + j, none⟩ := by
  unfold Addr.add
  split
  · rename_i h
    subst h
    rfl
  · rfl
set_option maxRecDepth 100000 in
set_option maxHeartbeats 2000000 in
theorem rc_cut_yes (base g cap m l k p : Nat) (S : List Value) (Q : List (List Nat)) (q : List Nat) (w : World) (h : CR w base g cap S Q) (hQ : Q.length ≤ 129) (hq4 : ∀ q ∈ Q, q.length ≤ 4096) (hq : Q[l]? = some q) (hp : q[k]? = some p) :
    Calls Try.prog 39 #[cv g cap Q.length m, .int .i64 (l : Nat), .int .i64 (k : Nat)] w fun e w' => ∃ g' cap' S', e = .returned (cv g' cap' Q.length m) ∧ CR w' base g' cap' S' (Q.set l (q.eraseIdx k)) ∧ Below w.heap.size w w' := by
  obtain ⟨i0, hi, hz0, hz1, hz2⟩ := info_parts int_info
  have Hi := Lib.hid hi
  have Hz0 := Lib.hid hz0
  have Hz1 := Lib.hid hz1
  have Hz2 := Lib.hid hz2
  have hln := lt_of_some hq
  have hkn := lt_of_some hp
  have hq4' := hq4 q (List.mem_of_getElem? hq)
  have CL := Lib.hid (fun w' hR => rc_at base g cap m (l : Nat) (k : Nat) S Q w' hR hQ (by omega) hq4)
  rw [atQ_some hq hp] at CL
  have CW := Lib.hid (fun x w' hR hx => rc_with base g cap m l S Q (q.eraseIdx k) x w' hR hx hln hQ)
  obtain ⟨hK, hb2⟩ := two_boxes (m := m) h
  have hgl := h.lt
  have HQQ := Lib.hid hq
  have HPP := Lib.hid hp
  clear h hq4 hi hz0 hz1 hz2 hq hp
  have HK := Lib.hid hK
  have HB2 := Lib.hid hb2
  have hlI : (l : Int) < (Q.length : Int) := by omega
  generalize hn : Q.length = n at *
  have HN := Lib.hid hn
  clear hn hK hb2
  go_enter Try.func39, Try.ntmps39
  go_upto_region 1 with (fail)
  generalize (w.alloc (.cells #[.slice (some ⟨g, 0, none⟩) n cap, .int .i64 (m : Nat)] 57)).alloc (.cells #[.slice none 0 0, .int .i64 0] 57) = wA at *
  have k0 := HK.out.c0
  rw [HN.out] at k0
  have k1 := HK.out.c1
  go_wp2_with fail
  refine (CL.out _ HK.out.row).mono ?_
  rintro e w1 ⟨rfl, hB⟩
  have hK1 := HK.out.next hB
  have hb1 := keepB hB HB2.out
  clear k0 k1 HK HB2 CL hB
  obtain ⟨A, c, cl, _, hrow, hcell⟩ := hK1.row.line HQQ.out
  obtain ⟨gg, rfl, _⟩ := hcell k p HPP.out
  have hqc : q.length ≤ c := by
    rcases hrow.2 with ⟨h0, _⟩ | ⟨g2, cp, cur, hv, _, _, hc, _⟩
    · cases h0
    · injection hv with _ _ hv3
      omega
  have hbs : base ≤ w1.heap.size := by have := hK1.row.lt; omega
  have HF : Hid (∀ w', Two (w.heap.size + 1) (w.heap.size + 1) w1 w' → w'.cell? ⟨w.heap.size, 0, none⟩ = some (.slice (some ⟨g, 0, none⟩) n cap) ∧ w'.cell? ⟨w.heap.size, 1, none⟩ = some (.int .i64 (m : Nat)) ∧ w'.cell? ⟨g, l, none⟩ = some (.slice (some ⟨gg, 0, none⟩) q.length c)) := fun w' ht => by
    have k0 := hK1.c0
    rw [HN.out] at k0
    exact ⟨ht.keepc k0 (by simp) (by simp), ht.keepc hK1.c1 (by simp) (by simp), ht.keepc cl (by simp; omega) (by simp; omega)⟩
  have HK1 := Lib.hid hK1
  have HB1 := Lib.hid hb1
  have HROW := Lib.hid hrow
  clear hK1 hb1 cl hrow hcell
  generalize hql : q.length = ql at *
  have HQL := Lib.hid hql
  clear hql
  have hy1 : (k : Int) ≤ (c : Int) := by omega
  have hy2 : (k : Int) + 1 ≤ (ql : Int) := by omega
  have hy3 : (ql : Int) ≤ (c : Int) := by omega
  have hy4 : (0 : Int) ≤ (k : Int) := by omega
  have hy5 : (0 : Int) ≤ (k : Int) + 1 := by omega
  have hy6 : (k : Int) ≤ (ql : Int) := by omega
  have hwk : IntKind.i64.wrap ((k : Int) + 1) = (k : Int) + 1 := IntWalk.i64_in _ (by omega)
  go_wp2_with fail
  refine wp_region_held_drew (S := Two (w.heap.size + 1) (w.heap.size + 1) w1) (by kernel_rfl) ((Two.refl _ _ _).next (Below.refl _ _).drew) (fun hHeld => ?_)
  refine wpAnyH_take (i := 0) (oi := ⟨some 13, _, _, _, _, _⟩) (v := ?_) rfl (by kernel_rfl) (by kernel_rfl) (by kernel_rfl) (fun _ _ _ h => h) (Or.inl ⟨by rfl, ?_⟩) hHeld ?_
  rotate_left
  · intro w hSw
    obtain ⟨k0, k1, k2⟩ := HF.out w hSw
    go_simp
    try with_reducible rfl
  try simp only [Act.put, List.setIfInBounds_toArray, List.set_cons_zero, List.set_cons_succ]
  refine wpAnyH_take (i := 1) (oi := ⟨some 14, _, _, _, _, _⟩) (v := ?_) rfl (by kernel_rfl) (by kernel_rfl) (by kernel_rfl) (fun _ _ _ h => h) (Or.inl ⟨by rfl, ?_⟩) hHeld ?_
  rotate_left
  · intro w hSw
    go_simp
    try with_reducible rfl
  try simp only [Act.put, List.setIfInBounds_toArray, List.set_cons_zero, List.set_cons_succ]
  refine wpAnyH_take (i := 3) (oi := ⟨some 16, _, _, _, _, _⟩) (v := ?_) rfl (by kernel_rfl) (by kernel_rfl) (by kernel_rfl) (fun _ _ _ h => h) (Or.inl ⟨by rfl, ?_⟩) hHeld ?_
  rotate_left
  · intro w hSw
    go_simp
    try with_reducible rfl
  try simp only [Act.put, List.setIfInBounds_toArray, List.set_cons_zero, List.set_cons_succ]
  refine wpAnyH_take (i := 4) (oi := ⟨some 17, _, _, _, _, _⟩) (v := ?_) rfl (by kernel_rfl) (by kernel_rfl) (by kernel_rfl) (fun _ _ _ h => h) (Or.inl ⟨by rfl, ?_⟩) hHeld ?_
  rotate_left
  · intro w hSw
    obtain ⟨k0, k1, k2⟩ := HF.out w hSw
    go_simp
    try with_reducible rfl
  try simp only [Act.put, List.setIfInBounds_toArray, List.set_cons_zero, List.set_cons_succ]
  refine wpAnyH_take (i := 5) (oi := ⟨some 18, _, _, _, _, _⟩) (v := ?_) rfl (by kernel_rfl) (by kernel_rfl) (by kernel_rfl) (fun _ _ _ h => h) (Or.inl ⟨by rfl, ?_⟩) hHeld ?_
  rotate_left
  · intro w hSw
    go_simp
    try with_reducible rfl
  try simp only [Act.put, List.setIfInBounds_toArray, List.set_cons_zero, List.set_cons_succ]
  refine wpAnyH_take (i := 6) (oi := ⟨some 19, _, _, _, _, _⟩) (v := ?_) rfl (by kernel_rfl) (by kernel_rfl) (by kernel_rfl) (fun _ _ _ h => h) (Or.inl ⟨by rfl, ?_⟩) hHeld ?_
  rotate_left
  · intro w hSw
    go_simp
    try with_reducible rfl
  try simp only [Act.put, List.setIfInBounds_toArray, List.set_cons_zero, List.set_cons_succ]
  refine wpAnyH_take (i := 7) (oi := ⟨some 20, _, _, _, _, _⟩) (v := ?_) rfl (by kernel_rfl) (by kernel_rfl) (by kernel_rfl) (fun _ _ _ h => h) (Or.inl ⟨by rfl, ?_⟩) hHeld ?_
  rotate_left
  · intro w hSw
    obtain ⟨k0, k1, k2⟩ := HF.out w hSw
    go_simp
    try with_reducible rfl
  try simp only [Act.put, List.setIfInBounds_toArray, List.set_cons_zero, List.set_cons_succ]
  refine wpAnyH_take (i := 8) (oi := ⟨some 21, _, _, _, _, _⟩) (v := ?_) rfl (by kernel_rfl) (by kernel_rfl) (by kernel_rfl) (fun _ _ _ h => h) (Or.inl ⟨by rfl, ?_⟩) hHeld ?_
  rotate_left
  · intro w hSw
    go_simp
    try with_reducible rfl
  try simp only [Act.put, List.setIfInBounds_toArray, List.set_cons_zero, List.set_cons_succ]
  refine wpAnyH_take (i := 9) (oi := ⟨some 22, _, _, _, _, _⟩) (v := ?_) rfl (by kernel_rfl) (by kernel_rfl) (by kernel_rfl) (fun _ _ _ h => h) (Or.inl ⟨by rfl, ?_⟩) hHeld ?_
  rotate_left
  · intro w hSw
    go_simp
    try with_reducible rfl
  try simp only [Act.put, List.setIfInBounds_toArray, List.set_cons_zero, List.set_cons_succ]
  refine wpAnyH_take (i := 11) (oi := ⟨some 24, _, _, _, _, _⟩) (v := ?_) rfl (by kernel_rfl) (by kernel_rfl) (by kernel_rfl) (fun _ _ _ h => h) (Or.inl ⟨by rfl, ?_⟩) hHeld ?_
  rotate_left
  · intro w hSw
    go_simp
    try with_reducible rfl
  try simp only [Act.put, List.setIfInBounds_toArray, List.set_cons_zero, List.set_cons_succ]
  refine wpAnyH_take (i := 12) (oi := ⟨some 25, _, _, _, _, _⟩) (v := ?_) rfl (by kernel_rfl) (by kernel_rfl) (by kernel_rfl) (fun _ _ _ h => h) (Or.inl ⟨by rfl, ?_⟩) hHeld ?_
  rotate_left
  · intro w hSw
    obtain ⟨k0, k1, k2⟩ := HF.out w hSw
    go_simp
    try with_reducible rfl
  try simp only [Act.put, List.setIfInBounds_toArray, List.set_cons_zero, List.set_cons_succ]
  refine wpAnyH_take (i := 13) (oi := ⟨some 26, _, _, _, _, _⟩) (v := ?_) rfl (by kernel_rfl) (by kernel_rfl) (by kernel_rfl) (fun _ _ _ h => h) (Or.inl ⟨by rfl, ?_⟩) hHeld ?_
  rotate_left
  · intro w hSw
    go_simp
    try with_reducible rfl
  try simp only [Act.put, List.setIfInBounds_toArray, List.set_cons_zero, List.set_cons_succ]
  refine wpAnyH_take (i := 14) (oi := ⟨some 27, _, _, _, _, _⟩) (v := ?_) rfl (by kernel_rfl) (by kernel_rfl) (by kernel_rfl) (fun _ _ _ h => h) (Or.inl ⟨by rfl, ?_⟩) hHeld ?_
  rotate_left
  · intro w hSw
    go_simp
    try with_reducible rfl
  try simp only [Act.put, List.setIfInBounds_toArray, List.set_cons_zero, List.set_cons_succ]
  refine wpAnyH_take (i := 15) (oi := ⟨some 28, _, _, _, _, _⟩) (v := ?_) rfl (by kernel_rfl) (by kernel_rfl) (by kernel_rfl) (fun _ _ _ h => h) (Or.inl ⟨by rfl, ?_⟩) hHeld ?_
  rotate_left
  · intro w hSw
    obtain ⟨k0, k1, k2⟩ := HF.out w hSw
    go_simp
    try with_reducible rfl
  try simp only [Act.put, List.setIfInBounds_toArray, List.set_cons_zero, List.set_cons_succ]
  refine wpAnyH_take (i := 16) (oi := ⟨some 29, _, _, _, _, _⟩) (v := ?_) rfl (by kernel_rfl) (by kernel_rfl) (by kernel_rfl) (fun _ _ _ h => h) (Or.inl ⟨by rfl, ?_⟩) hHeld ?_
  rotate_left
  · intro w hSw
    go_simp
    try with_reducible rfl
  try simp only [Act.put, List.setIfInBounds_toArray, List.set_cons_zero, List.set_cons_succ]
  refine wpAnyH_take (i := 17) (oi := ⟨some 30, _, _, _, _, _⟩) (v := ?_) rfl (by kernel_rfl) (by kernel_rfl) (by kernel_rfl) (fun _ _ _ h => h) (Or.inl ⟨by rfl, ?_⟩) hHeld ?_
  rotate_left
  · intro w hSw
    go_simp
    try with_reducible rfl
  try simp only [Act.put, List.setIfInBounds_toArray, List.set_cons_zero, List.set_cons_succ]
  refine wpAnyH_take (i := 18) (oi := ⟨some 31, _, _, _, _, _⟩) (v := ?_) rfl (by kernel_rfl) (by kernel_rfl) (by kernel_rfl) (fun _ _ _ h => h) (Or.inl ⟨by rfl, ?_⟩) hHeld ?_
  rotate_left
  · intro w hSw
    go_simp
    try with_reducible rfl
  try simp only [Act.put, List.setIfInBounds_toArray, List.set_cons_zero, List.set_cons_succ]
  refine wpAnyH_ready (rs := [2]) (by kernel_rfl) (by simp) ?_
  refine AllReadyH.cons rfl (fun K hK => ?_) AllReadyH.nil
  go_simp
  refine hK.out _ _ (hHeld.next ((Below.refl _ _).alloc (Nat.le_refl _) _)) (fun hHeld => ?_)
  clear hK K
  have hB : Below w1.heap.size w1 ((w1.alloc (.cells #[] 3)).drew) := ((Below.refl _ _).alloc (Nat.le_refl _) _).drew
  have hE : ((w1.alloc (.cells #[] 3)).drew).ownsRow base 3 1 (.slice (some ⟨w1.heap.size, 0, none⟩) 0 0) 0 [] := own_empty (Go.heap_alloc_new w1 _) hbs
  have HOR : Hid (∀ (w' : World), Below w1.heap.size w1 w' → ∀ (j : Nat) (u : Value), (natV q)[j]? = some u → w'.cell? ((⟨gg, 0, none⟩ : Addr).add j) = some u) := fun w' hB j u hu => (own_below HROW.out hB).cells (g := gg) rfl j u hu
  generalize (w1.alloc (.cells #[] 3)).drew = W1 at *
  refine wpAnyH_ready (rs := [10]) (by kernel_rfl) (by simp) ?_
  refine AllReadyH.cons (o := ⟨some 23, _, _, _, _, _⟩) rfl (fun K hK => ?_) AllReadyH.nil
  rw [if_pos (by rfl)]
  refine wp_append_own_at _ (.tmp 15) (.tmp 22) 35 rfl base 3 i0 (.int .i64 0) 1 8 Try.underlying35 Hi.out Hz0.out Hz1.out Hz2.out rfl (by omega) _ 0 [] (by rfl) hE ⟨gg, 0, none⟩ k c ((natV q).take k) (by rfl) ?hl ?hnews ?h1 ?h63 ?hbytes ?hbase ?next
  case hl => simp [natV]; have := HQL.out; omega
  case hnews =>
    intro j u hu
    rw [List.getElem?_take] at hu
    split at hu
    · exact HOR.out _ hB j u hu
    · cases hu
  case h1 => exact fun u hu => natV_one q u (List.mem_of_mem_take hu)
  case h63 => simp only [maxLen]; omega
  case hbytes => omega
  case hbase => exact Nat.le_trans hbs hB.size
  case next =>
    intro v6 W2 hE6 hg6 hat6
    have hB6 : Below w1.heap.size w1 W2 := hB.grown hg6 hB.size (fun q hq => by simp [Value.ownBlock] at hq; omega)
    have hge6 : ∀ q, v6.ownBlock = some q → w1.heap.size ≤ q := by
      intro q hq
      rcases hat6 with h | h
      · rw [h] at hq; simp [Value.ownBlock] at hq; omega
      · rw [h] at hq; simp at hq; have := hB.size; omega
    rw [Nat.zero_add, List.nil_append] at hE6
    clear hg6 hat6 hE
    refine hK.out _ _ (Two.ofBelow hB6) (fun hHeld => ?_)
    clear hK K
    try simp only [Act.put, List.setIfInBounds_toArray, List.set_cons_zero, List.set_cons_succ]
    refine wpAnyH_ready (rs := [19]) (by kernel_rfl) (by simp) ?_
    refine AllReadyH.cons (o := ⟨some 32, _, _, _, _, _⟩) rfl (fun K hK => ?_) AllReadyH.nil
    rw [if_pos (by rfl)]
    obtain ⟨A, hA, hA2⟩ : ∃ A : Addr, (if c = k + 1 then some (⟨gg, 0, none⟩ : Addr) else some ⟨gg, k + 1, none⟩) = some A ∧ (k + 1 < ql → A = ⟨gg, k + 1, none⟩) := by
      by_cases e : c = k + 1
      · exact ⟨_, by rw [if_pos e], fun h => by omega⟩
      · exact ⟨_, by rw [if_neg e], fun h => rfl⟩
    refine wp_append_own_at _ (.tmp 23) (.tmp 31) 35 rfl base 3 i0 (.int .i64 0) 1 8 Try.underlying35 Hi.out Hz0.out Hz1.out Hz2.out rfl (by omega) v6 k ((natV q).take k) (by rfl) hE6 A (ql - (k + 1)) (c - (k + 1)) ((natV q).drop (k + 1)) (by simp [Act.eval]; exact hA) ?hl ?hnews ?h1 ?h63 ?hbytes ?hbase ?next
    case hl => simp [natV]; have := HQL.out; omega
    case hnews =>
      intro j u hu
      rw [List.getElem?_drop] at hu
      have hj : k + 1 + j < ql := by
        have := (List.getElem?_eq_some_iff.1 hu).1
        rw [natV_length, HQL.out] at this
        exact this
      rw [hA2 (by omega)]
      have := HOR.out _ hB6 (k + 1 + j) u hu
      rw [show (⟨gg, k + 1, none⟩ : Addr).add j = (⟨gg, 0, none⟩ : Addr).add (k + 1 + j) by rw [addr_off, addr_off, Nat.zero_add]]
      exact this
    case h1 => exact fun u hu => natV_one q u (List.mem_of_mem_drop hu)
    case h63 => simp only [maxLen]; omega
    case hbytes => omega
    case hbase => exact Nat.le_trans hbs hB6.size
    case next =>
      intro v9 W3 hE9 hg9 hat9
      have hB : Below w1.heap.size w1 W3 := hB6.grown hg9 hB6.size hge6
      have el : (q.eraseIdx k).length = k + (ql - (k + 1)) := by rw [List.length_eraseIdx_of_lt (by have := HQL.out; omega), HQL.out]; omega
      have ex : (natV q).take k ++ (natV q).drop (k + 1) = natV (q.eraseIdx k) := by
        unfold natV
        rw [List.eraseIdx_eq_take_drop_succ, List.map_append, List.map_take, List.map_drop]
      rw [ex, ← el] at hE9
      clear el ex hA2 hE6 hge6 hg9 hat9 hB6
      refine hK.out _ _ (Two.ofBelow hB) (fun hHeld => ?_)
      clear hK K
      try simp only [Act.put, List.setIfInBounds_toArray, List.set_cons_zero, List.set_cons_succ]
      simp only [hA]
      clear hA
      refine wpAnyH_ready (rs := [20]) (by kernel_rfl) (by simp) ?_
      refine AllReadyH.cons rfl (fun K hK => ?_) AllReadyH.nil
      go_simp
      go_wp2_with (go_at_call 61; go_must (refine (CW.out _ _ (HK1.out.row.below hB) hE9).mono ?_; rintro e w12 ⟨g', cap', rfl, hC, hB12⟩))
      have hB13 := hB.trans (hB12.mono hB.size)
      refine hK.out _ _ (Two.ofBelow hB13) (fun hHeld => ?_)
      clear hK K
      have hb13 := keepB hB13 HB1.out
      obtain ⟨c0, c1, f0, f1⟩ := box_facts2 hb13
      have HC := Lib.hid hC
      have HB13 := Lib.hid hB13
      have Hb13 := Lib.hid hb13
      clear hC hB12 hB13 hb13 hB hE9
      refine wpAnyH_ready (rs := [21]) (by kernel_rfl) (by simp) ?_
      refine AllReadyH.cons rfl (fun K hK => ?_) AllReadyH.nil
      go_simp
      refine hK.out _ _ ((hHeld.setCell (.inl rfl) _).setCell (.inl rfl) _) (fun hHeld => ?_)
      clear hK K
      refine wpAnyH_done (by kernel_rfl) ?_ _
      go_wp2_with fail
      all_goals
        (try simp only [Exit.inBlock, Exit.then])
        refine bodyPost_ret (results_cell_row rfl _ _ _ _ _ _ _ rfl (box2 Hb13.out _ _) Try.underlying57 rfl rfl) rfl ?_
        exact ⟨g', cap', _, rfl, HC.out.result Hb13.out (HK1.out.below.trans (HB13.out.mono HK1.out.below.size)) (by omega) _ _⟩
theorem rc_cut (base g cap m : Nat) (l k : Int) (S : List Value) (Q : List (List Nat)) (w : World) (h : CR w base g cap S Q) (hQ : Q.length ≤ 129) (hk : k ≤ 4611686018427387904) (hq4 : ∀ q ∈ Q, q.length ≤ 4096) :
    Calls Try.prog 39 #[cv g cap Q.length m, .int .i64 l, .int .i64 k] w fun e w' => ∃ g' cap' S', e = .returned (cv g' cap' Q.length m) ∧ CR w' base g' cap' S' (cutQ Q l k) ∧ Below w.heap.size w w' := by
  unfold cutQ
  rcases atQ_cases Q l k with ⟨l, k, p, q, rfl, rfl, hq, hp, he⟩ | ⟨he, hn⟩
  · rw [if_pos (by omega)]
    have := rc_cut_yes base g cap m l k p S Q q w h hQ hq4 hq hp
    rw [Int.toNat_natCast, Int.toNat_natCast, List.getD_eq_getElem?_getD, hq]
    exact this
  · rw [if_neg (by omega)]
    exact rc_cut_no base g cap m l k S Q w h hQ hk hq4 (by omega)
end Go.Proofs.Ytgcfiiidhihkaaa.C
