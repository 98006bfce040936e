/- The walk of StorePlays. -/
import Derived.Test.YtgcfiiidhihkaaaActS
namespace Go.Proofs.Ytgcfiiidhihkaaa.C
open Go.RowKit Go.ChangeShapes Go.WideShapes
set_option linter.unusedVariables false
/-- Where StorePlays stands: the program's lists L, the reference's L'. -/
structure SC (w0 wb : World) (a : Adr) (L L' : List (List (Array Value))) (R g cap : Nat) (S : List Value) (n b9 : Nat) (w : World) : Prop where
  st : Sto w a L R
  rs : RS w wb.heap.size g cap S L'
  box : w.heap[b9]? = some (.cells #[.slice (some ⟨g, 0, none⟩) n cap, .int .i64 (R : Nat)] 89 (0, 0))
  amg : Amg a.bs wb w
  b0 : Below w0.heap.size w0 wb
  at0 : ∀ x ∈ a.bs, w0.heap.size ≤ x
  at1 : ∀ x ∈ a.sb :: a.pb :: a.bs, x < wb.heap.size
  at2 : wb.heap.size ≤ b9
/-- .. with the act in its box. -/
structure SD (w0 wb : World) (a : Adr) (L L' : List (List (Array Value))) (R g cap : Nat) (S : List Value) (n b9 b11 : Nat) (y : Array Value) (w : World) : Prop where
  sc : SC w0 wb a L L' R g cap S n b9 w
  bx : w.heap[b11]? = some (.cells y 93 (0, 0))
  ge : wb.heap.size ≤ b11
section
variable {w0 wb w w' : World} {a : Adr} {L L' L1 : List (List (Array Value))} {R g cap : Nat} {S : List Value} {n b9 b11 : Nat} {y : Array Value}
theorem SC.below (h : SC w0 wb a L L' R g cap S n b9 w) : Below w0.heap.size w0 w := h.b0.trans (h.amg.below h.b0.size h.at0)
theorem SC.next (h : SC w0 wb a L L' R g cap S n b9 w) (p : Below w.heap.size w w') : SC w0 wb a L L' R g cap S n b9 w' :=
  ⟨h.st.below p, h.rs.below p, keep_block p h.box, h.amg.trans (Amg.of_below p), h.b0, h.at0, h.at1, h.at2⟩
theorem SC.far (h : SC w0 wb a L L' R g cap S n b9 w) {k : Nat} (hk : wb.heap.size ≤ k) : k ∉ a.bs := fun hm => by
  have := h.at1 k (by simp [hm])
  omega
theorem SC.prog (h : SC w0 wb a L L' R g cap S n b9 w) (hs : Sto w' a L1 R) (p : Amg a.bs w w') : SC w0 wb a L1 L' R g cap S n b9 w' :=
  ⟨hs, h.rs.amg p (fun x hx => h.at1 x (by simp [hx])), p.keep h.box (h.far h.at2), h.amg.trans p, h.b0, h.at0, h.at1, h.at2⟩
theorem SC.facts (h : SC w0 wb a L L' R g cap S n b9 w) : w.cell? ⟨b9, 0, none⟩ = some (.slice (some ⟨g, 0, none⟩) n cap) ∧ w.cell? ⟨b9, 1, none⟩ = some (.int .i64 (R : Nat)) ∧ w.frozen? ⟨b9, 0, none⟩ = false ∧ w.frozen? ⟨b9, 1, none⟩ = false := ref_facts h.box
theorem SC.two (h : SC w0 wb a L L' R g cap S n b9 w) (v0 v1 : Value) : Two b9 b9 w ((w.setCell ⟨b9, 0, none⟩ v0).setCell ⟨b9, 1, none⟩ v1) := ((Two.refl b9 b9 w).setCell (.inl rfl) _).setCell (.inl rfl) _
theorem SC.store {g' cap' : Nat} {S' : List Value} (h : SC w0 wb a L L' R g cap S n b9 w) (hr : RS w wb.heap.size g' cap' S' L1) :
    SC w0 wb a L L1 R g' cap' S' n b9 ((w.setCell ⟨b9, 0, none⟩ (.slice (some ⟨g', 0, none⟩) n cap')).setCell ⟨b9, 1, none⟩ (.int .i64 (R : Nat))) := by
  obtain ⟨h1, h2⟩ := h.st.fresh h.amg h.at1 h.at2 (h.two (.slice (some ⟨g', 0, none⟩) n cap') (.int .i64 (R : Nat)))
  exact ⟨h1, (hr.result h.box h.below (Nat.le_trans h.b0.size h.at2) _ _).1, ref_box2 h.box _ _, h2, h.b0, h.at0, h.at1, h.at2⟩
theorem SC.keepPkt (h : SC w0 wb a L L' R g cap S n b9 w) {k : Nat} {x : Array Value} (hk : w.heap[k]? = some (.cells x 79 (0, 0))) (v0 v1 : Value) : ((w.setCell ⟨b9, 0, none⟩ v0).setCell ⟨b9, 1, none⟩ v1).heap[k]? = some (.cells x 79 (0, 0)) := by
  have hne := ne_ty hk h.box (by decide)
  exact ((h.two v0 v1).block k (Array.getElem?_eq_some_iff.1 hk).1 hne hne).trans hk
theorem SC.popped {wX w5 w6 w7 : World} {b : Nat} (h : SC w0 wb a L L' R g cap S n b9 wX) (hA : Below wX.heap.size wX w5) (hs : Sto w6 a L1 R) (hp : Amg a.bs w5 w6) (hb : wX.heap.size ≤ b) (ht : Two b b w6 w7) : SC w0 wb a L1 L' R g cap S n b9 w7 := by
  have hk : ∀ k, wb.heap.size ≤ k → k < wX.heap.size → w7.heap[k]? = wX.heap[k]? := fun k h1 h2 => by
    have s1 := hA.size
    have s2 := hp.size
    rw [ht.block k (by omega) (by omega) (by omega), hp.block k (by omega) (h.far h1), hA.block k h2]
  obtain ⟨h1, h2⟩ := hs.fresh ((h.amg.trans (Amg.of_below hA)).trans hp) h.at1 (Nat.le_trans h.amg.size hb) ht
  exact ⟨h1, h.rs.keep hk, (hk b9 h.at2 (Array.getElem?_eq_some_iff.1 h.box).1).trans h.box, h2, h.b0, h.at0, h.at1, h.at2⟩
theorem SC.len (h : SC w0 wb a L L R g cap S n b9 w) : total L ≤ R ∧ R ≤ 4096 ∧ L.length ≤ 129 ∧ ∀ l ∈ L, l.length ≤ 4096 := by
  obtain ⟨A, fl, Q, hS⟩ := h.st
  obtain ⟨l1, l2, l3⟩ := hS.len
  exact ⟨l3, l2, l1, fun l hl => by have := total_le L l hl; omega⟩
theorem SD.next (h : SD w0 wb a L L' R g cap S n b9 b11 y w) (p : Below w.heap.size w w') : SD w0 wb a L L' R g cap S n b9 b11 y w' := ⟨h.sc.next p, keep_block p h.bx, h.ge⟩
theorem SD.prog (h : SD w0 wb a L L' R g cap S n b9 b11 y w) (hs : Sto w' a L1 R) (p : Amg a.bs w w') : SD w0 wb a L1 L' R g cap S n b9 b11 y w' := ⟨h.sc.prog hs p, p.keep h.bx (h.sc.far h.ge), h.ge⟩
end
theorem fl_at {w : World} {base g cap : Nat} {S : List Value} {L : List (List (Array Value))} (h : RS w base g cap S L) (c k : Int) : Flat Try.prog 79 ((atS L c k).getD PZ) := by
  rcases atS_cases L c k with ⟨c, k, l, x, rfl, rfl, hl, hx, he⟩ | ⟨he, hn⟩
  · rw [he]
    exact (h.pf l (List.mem_of_getElem? hl) x (List.mem_of_getElem? hx)).flat
  · rw [he]
    exact pz_flat
theorem length_cutS (L : List (List (Array Value))) (c k : Int) : (cutS L c k).length = L.length := by
  unfold cutS
  split <;> simp
theorem length_pushS (L : List (List (Array Value))) (R : Nat) (c n : Int) (x : Array Value) : (pushS L R c n x).length = L.length := by
  unfold pushS
  split <;> simp
theorem arm_neq {ops : Array Oper} {rest : List Oper} {a : Act} {w : World} {Q : Exit → Act → World → Prop} {ty : TypeId} {pos : String} {after : Array Edge} (d s y : Nat) (xs : Array Value) (hf : Flat Try.prog 79 xs) (hx : a.tmps.getD s undef = .agg xs) (hy : a.tmps.getD y undef = .agg xs) (h : wpList Try.prog ops Q rest (a.put (some d) (.bool false)) w) :
    wpList Try.prog ops Q (⟨some d, .binOp .neq 79 (.tmp s) (.tmp y) 79, ty, pos, after, none⟩ :: rest) a w :=
  wpList_plain rfl fun _ hK => by
    unfold Oper.wp
    simp only [exec_neq_self hx hy hf]
    exact hK _ _ h
set_option maxRecDepth 100000 in
set_option maxHeartbeats 4000000 in
theorem splays_main (n R : Nat) (b : Option Addr) (len cap0 : Nat) (F : Nat → Array Value) (w : World) (h : len ≤ 80) (h1 : 1 ≤ n) (h2 : n ≤ 129) (h3 : 1 ≤ R) (h4 : R ≤ 4096) (hA : ActsS w b len F) :
    Calls Try.prog 13 #[.int .i64 (n : Nat), .int .i64 (R : Nat), .slice b len cap0] w fun e w' => e = .returned (.bool true) ∧ Below w.heap.size w w' := by
  have hgt : decide (80 < len) = false := by simp; omega
  have Ha := Lib.hid (st_awake w)
  have HA := Lib.hid hA
  clear hA
  go_enter Try.func13, Try.ntmps13
  go_wp2_with fail
  refine Ha.out.mono ?_
  rintro e w1 ⟨rfl, hB1⟩
  have C1 := Lib.hid (st_new n R w1 h1 h2 h3 h4)
  clear Ha
  go_wp2_with fail
  refine C1.out.mono ?_
  rintro e w2 ⟨a, rfl, hge, hS, hB2⟩
  have CR := Lib.hid (rs_new n R w2 w2.heap.size (Nat.le_refl _) h1 h2)
  have HB := Lib.hid (hB1.trans (hB2.mono hB1.size))
  have HGE := Lib.hid (fun x hx => Nat.le_trans hB1.size (hge x hx))
  have HS := Lib.hid hS
  clear C1 hS hB1 hB2 hge
  go_wp2_with fail
  refine CR.out.mono ?_
  rintro e w3 ⟨g, cap3, rfl, hR, hB3⟩
  have hP : SC w w2 a (List.replicate n []) (List.replicate n []) R g cap3 (List.replicate n (Value.slice none 0 0)) n w3.heap.size (w3.alloc (.cells #[.slice (some ⟨g, 0, none⟩) n cap3, .int .i64 (R : Nat)] 89)) := by
    have hb4 : Below w3.heap.size w3 (w3.alloc (.cells #[.slice (some ⟨g, 0, none⟩) n cap3, .int .i64 (R : Nat)] 89)) := (Below.refl _ _).alloc (Nat.le_refl _) _
    exact ⟨(HS.out.below hB3).below hb4, hR.below hb4, Go.heap_alloc_new _ _, (Amg.of_below hB3).trans (Amg.of_below hb4), HB.out, fun x hx => HGE.out x (by simp [hx]), HS.out.lt, hB3.size⟩
  have HP := Lib.hid hP
  clear hP HS hR hB3 HB CR HGE
  go_upto_region 7 with (fail)
  generalize w3.alloc (.cells #[.slice (some ⟨g, 0, none⟩) n cap3, .int .i64 (R : Nat)] 89) = w4 at *
  generalize w3.heap.size = b9 at *
  obtain ⟨mn, hmn⟩ : ∃ mn : Int, (if (12 : Int) < (n : Int) then (12 : Int) else (n : Int)) = mn := ⟨_, rfl⟩
  have hmn1 : 0 ≤ mn ∧ mn ≤ 12 := by split at hmn <;> omega
  have HMN := Lib.hid hmn
  have HMN1 := Lib.hid hmn1
  clear hmn hmn1
  go_wp2_with fail
  go_loopw [75] (fun c wr => ∃ (k : Nat) (L : List (List (Array Value))) (S : List Value) (g cap : Nat), k ≤ len ∧ c = .int .i64 k ∧ SC w w2 a L L R g cap S n b9 wr ∧ L.length = n) (fun c _ => len - (intOf c).toNat)
  case atStart => exact ⟨0, _, _, _, _, by omega, rfl, HP.out, by simp⟩
  case round =>
    obtain ⟨k, L, S, g, cap, hk, rfl, hP, hlN⟩ := hrel
    clear HP
    by_cases hlt : k < len
    · obtain ⟨x, kd, cl, nn, pl, rfl, hx, hy, hld⟩ := HA.out k hlt
      have hrl := laid_act (laid_keep hld hP.below hx) hy.size
      generalize F k = y at *
      have HY := Lib.hid hy
      have HP := Lib.hid hP
      have HL := Lib.hid hlN
      have hwc : IntKind.i64.wrap cl = cl := IntWalk.i64_in _ (by have := hy.r1; omega)
      have hwn : IntKind.i64.wrap nn = nn := IntWalk.i64_in _ (by have := hy.r2; omega)
      have hnb : nn ≤ 4611686018427387904 := by have := hy.r2; omega
      clear hy hP hlN hld
      go_upto_region 11 with (first
        | ((with_reducible refine arm_load 81 80 93 (.pointer (some (x.add (k * 49)))) (.agg y) hrl ?_ ?_); rfl)
        | ((with_reducible refine arm_alloc 11 93 AZ 49 az_zero ?_); intro w5 HB5 HX5 HS5; have hst := act_store HX5.out HY.out.size HY.out.one az_size)
        | ((with_reducible refine arm_store 11 81 93 (.pointer (some ⟨wr.heap.size, 0, none⟩)) (.agg y) _ hst ?_ ?_ ?_); rfl; rfl))
      have hbx := box_whole HX5.out (cs := y) (HY.out.size.trans az_size.symm)
      have hB6 := below_setCells (b := wr.heap.size) (Nat.le_refl _) y.toList 0 HB5.out
      have H2 : Hid (SD w w2 a L L R g cap S n b9 wr.heap.size y (w5.setCells wr.heap.size 0 y.toList)) := Lib.hid ⟨HP.out.next hB6, hbx, HP.out.amg.size⟩
      clear hst hbx hB6 HB5 HX5 HS5 HP hrl
      generalize w5.setCells wr.heap.size 0 y.toList = w6 at *
      generalize wr.heap.size = b11 at *
      obtain ⟨a0, a1, a2⟩ := act_cells H2.out.bx HY.out
      obtain ⟨q, hq, hq5⟩ : ∃ q : Nat, kd % 5 = q ∧ q < 5 := ⟨_, rfl, by omega⟩
      have e0 : (kd : Int) % 5 = (q : Int) := by omega
      clear hq
      by_cases hq3 : q < 3
      · have hqd : decide ((q : Int) < 3) = true := decide_eq_true (by omega)
        have hql : (q : Int) < 3 := by omega
        have CPU : Hid (Calls Try.prog 43 #[.pointer (some ⟨a.sb, 0, none⟩), .int .i64 cl, .agg (pktA y)] w6 fun e w' => e = .returned (.bool (okS L R cl pl)) ∧ SD w w2 a (pushS L R cl pl (pktA y)) L R g cap S n b9 b11 y w') := Lib.hid ((st_push cl pl (pktA y) H2.out.sc.st HY.out.pk).mono fun e w' ⟨e1, e2, e3⟩ => ⟨e1, H2.out.prog e2 e3⟩)
        have hlp := actp_load H2.out.bx HY.out
        have HLP : Hid (∀ w' : World, w'.heap[b11]? = some (.cells y 93 (0, 0)) → (Instr.loadAt 79 (.pointer (some ⟨b11, 3, none⟩))).run Try.prog w' = .ok (.agg (pktA y)) w') := Lib.hid fun w' h => actp_load h HY.out
        have RPU : Hid (∀ w', SD w w2 a (pushS L R cl pl (pktA y)) L R g cap S n b9 b11 y w' → Calls Try.prog 50 #[rv g cap n R, .int .i64 cl, .agg (pktA y)] w' fun e w'' => ∃ g' cap'' S', e = .returned (.tuple #[rv g' cap'' n R, .bool (okS L R cl pl)]) ∧ RS w'' w2.heap.size g' cap'' S' (pushS L R cl pl (pktA y)) ∧ SD w w2 a (pushS L R cl pl (pktA y)) L R g cap S n b9 b11 y w'') := Lib.hid fun w' hp => by
          obtain ⟨t1, t2, t3, t4⟩ := H2.out.sc.len
          have := rs_push (m := R) cl pl (pktA y) hp.sc.rs t3 t1 t2 HY.out.fl HY.out.pk
          rw [HL.out] at this
          exact this.mono fun e w'' ⟨g', c', S', e1, e2, e3⟩ => ⟨g', c', S', e1, e2, hp.next e3⟩
        have HL2 : Hid ((pushS L R cl pl (pktA y)).length = n) := Lib.hid ((length_pushS _ _ _ _ _).trans HL.out)
        clear H2 HL
        generalize okS L R cl pl = ok at *
        generalize pushS L R cl pl (pktA y) = L2 at *
        generalize pktA y = pk at *
        go_wp2_with ((with_reducible refine arm_load 92 91 79 (.pointer (some ⟨b11, 3, none⟩)) (.agg pk) hlp ?_ ?_); rfl)
        refine CPU.out.mono ?_
        rintro e w7 ⟨rfl, hW⟩
        obtain ⟨c0, c1, _, _⟩ := hW.sc.facts
        have hlp2 := HLP.out _ hW.bx
        have RP := Lib.hid (RPU.out _ hW)
        clear CPU RPU HLP hlp hW a0 a1 a2
        go_wp2_with ((with_reducible refine arm_load 98 97 79 (.pointer (some ⟨b11, 3, none⟩)) (.agg pk) hlp2 ?_ ?_); rfl)
        refine RP.out.mono ?_
        rintro e w8 ⟨g8, cap8, S8, rfl, hR, hW⟩
        clear RP hlp2 c0 c1
        obtain ⟨c0, c1, f0, f1⟩ := hW.sc.facts
        have H8 := Lib.hid (hW.sc.store hR)
        clear hW hR
        go_upto_region 29 with (fail)
        generalize (w8.setCell ⟨b9, 0, none⟩ (.slice (some ⟨g8, 0, none⟩) n cap8)).setCell ⟨b9, 1, none⟩ (.int .i64 (R : Nat)) = w9 at *
        clear c0 c1 f0 f1
        have CLS := Lib.hid (fun w' (hs : SC w w2 a L2 L2 R g8 cap8 S8 n b9 w') => hs.next (Below.refl _ _))
        have C45 : Hid (∀ w', SC w w2 a L2 L2 R g8 cap8 S8 n b9 w' → Calls Try.prog 45 #[.pointer (some ⟨a.sb, 0, none⟩)] w' fun e w'' => e = .returned (.int .i64 ((R - total L2 : Nat) : Int)) ∧ SC w w2 a L2 L2 R g8 cap8 S8 n b9 w'') := Lib.hid fun w' hs => (st_free hs.st).mono fun e w'' ⟨e1, e2⟩ => ⟨e1, e2 ▸ hs⟩
        have C54 : Hid (∀ w', SC w w2 a L2 L2 R g8 cap8 S8 n b9 w' → Calls Try.prog 54 #[rv g8 cap8 n R] w' fun e w'' => e = .returned (.int .i64 (total L2 : Nat)) ∧ SC w w2 a L2 L2 R g8 cap8 S8 n b9 w'') := Lib.hid fun w' hs => by
          obtain ⟨t1, t2, t3, t4⟩ := hs.len
          have := rs_waits (m := R) hs.rs t3 (by omega)
          rw [HL2.out] at this
          exact this.mono fun e w'' ⟨e1, e2⟩ => ⟨e1, hs.next e2⟩
        have C55 : Hid (∀ w', SC w w2 a L2 L2 R g8 cap8 S8 n b9 w' → Calls Try.prog 55 #[.pointer (some ⟨a.sb, 0, none⟩), rv g8 cap8 n R, .int .i64 (if (12 : Int) < (n : Int) then (12 : Int) else (n : Int))] w' fun e w'' => e = .returned (.bool true) ∧ SC w w2 a L2 L2 R g8 cap8 S8 n b9 w'') := Lib.hid fun w' hs => by
          have := st_same a L2 R w2.heap.size g8 cap8 R S8 mn w' hs.st hs.rs HMN1.out.1 HMN1.out.2
          rw [HL2.out] at this
          rw [HMN.out]
          exact this.mono fun e w'' ⟨e1, e2⟩ => ⟨e1, hs.next e2⟩
        have hTT := H8.out.len.1
        have hw9 : IntKind.i64.wrap ((R : Int) - ((total L2 : Nat) : Int)) = ((R - total L2 : Nat) : Int) := by rw [IntWalk.i64_in _ (by omega)]; omega
        have H9 := Lib.hid (H8.out.next (Below.refl _ _).drew)
        clear H8 hTT CLS
        generalize R - total L2 = fr at *
        generalize total L2 = tt at *
        refine wp_region_cls (SC w w2 a L2 L2 R g8 cap8 S8 n b9) (by kernel_rfl) (by kernel_rfl) H9.out ?_
        refine wq_step (fun K hK => ?_)
        rw [if_pos (by rfl)]
        refine ⟨?_, fun w hSw => ?_, hK _ ?_⟩
        rotate_left
        · clear hSw
          go_simp
          try with_reducible rfl
        clear hK K
        try simp only [Act.put, List.setIfInBounds_toArray, List.set_cons_zero, List.set_cons_succ]
        refine wq_step (fun K hK => ?_)
        rw [if_pos (by rfl)]
        refine ⟨?_, fun w hSw => ?_, hK _ ?_⟩
        rotate_left
        · go_simp
          go_at_call 45
          with_reducible exact C45.out w hSw
        clear hK K
        try simp only [Act.put, List.setIfInBounds_toArray, List.set_cons_zero, List.set_cons_succ]
        refine wq_step (fun K hK => ?_)
        rw [if_pos (by rfl)]
        refine ⟨?_, fun w hSw => ?_, hK _ ?_⟩
        rotate_left
        · clear hSw
          go_simp
          try with_reducible rfl
        clear hK K
        try simp only [Act.put, List.setIfInBounds_toArray, List.set_cons_zero, List.set_cons_succ]
        refine wq_step (fun K hK => ?_)
        rw [if_pos (by rfl)]
        refine ⟨?_, fun w hSw => ?_, hK _ ?_⟩
        rotate_left
        · obtain ⟨c0, c1, _, _⟩ := hSw.facts
          go_simp
          try with_reducible rfl
        clear hK K
        try simp only [Act.put, List.setIfInBounds_toArray, List.set_cons_zero, List.set_cons_succ]
        refine wq_step (fun K hK => ?_)
        rw [if_pos (by rfl)]
        refine ⟨?_, fun w hSw => ?_, hK _ ?_⟩
        rotate_left
        · go_simp
          go_at_call 54
          with_reducible exact C54.out w hSw
        clear hK K
        try simp only [Act.put, List.setIfInBounds_toArray, List.set_cons_zero, List.set_cons_succ]
        refine wq_step (fun K hK => ?_)
        rw [if_pos (by rfl)]
        refine ⟨?_, fun w hSw => ?_, hK _ ?_⟩
        rotate_left
        · clear hSw
          go_simp
          try with_reducible rfl
        clear hK K
        try simp only [Act.put, List.setIfInBounds_toArray, List.set_cons_zero, List.set_cons_succ]
        refine wq_step (fun K hK => ?_)
        rw [if_pos (by rfl)]
        refine ⟨?_, fun w hSw => ?_, hK _ ?_⟩
        rotate_left
        · clear hSw
          go_simp
          try with_reducible rfl
        clear hK K
        try simp only [Act.put, List.setIfInBounds_toArray, List.set_cons_zero, List.set_cons_succ]
        refine wq_step (fun K hK => ?_)
        rw [if_pos (by rfl)]
        refine ⟨?_, fun w hSw => ?_, hK _ ?_⟩
        rotate_left
        · clear hSw
          go_simp
          try with_reducible rfl
        clear hK K
        try simp only [Act.put, List.setIfInBounds_toArray, List.set_cons_zero, List.set_cons_succ]
        refine wq_step (fun K hK => ?_)
        rw [if_pos (by rfl)]
        refine ⟨?_, fun w hSw => ?_, hK _ ?_⟩
        rotate_left
        · clear hSw
          go_simp
          try with_reducible rfl
        clear hK K
        try simp only [Act.put, List.setIfInBounds_toArray, List.set_cons_zero, List.set_cons_succ]
        refine wq_step (fun K hK => ?_)
        rw [if_pos (by rfl)]
        refine ⟨?_, fun w hSw => ?_, hK _ ?_⟩
        rotate_left
        · obtain ⟨c0, c1, _, _⟩ := hSw.facts
          go_simp
          try with_reducible rfl
        clear hK K
        try simp only [Act.put, List.setIfInBounds_toArray, List.set_cons_zero, List.set_cons_succ]
        refine wq_step (fun K hK => ?_)
        rw [if_pos (by rfl)]
        refine ⟨?_, fun w hSw => ?_, hK _ ?_⟩
        rotate_left
        · clear hSw
          go_simp
          try with_reducible rfl
        clear hK K
        try simp only [Act.put, List.setIfInBounds_toArray, List.set_cons_zero, List.set_cons_succ]
        refine wq_step (fun K hK => ?_)
        rw [if_pos (by rfl)]
        refine ⟨?_, fun w hSw => ?_, hK _ ?_⟩
        rotate_left
        · clear hSw
          go_simp
          try with_reducible rfl
        clear hK K
        try simp only [Act.put, List.setIfInBounds_toArray, List.set_cons_zero, List.set_cons_succ]
        refine wq_step (fun K hK => ?_)
        rw [if_pos (by rfl)]
        refine ⟨?_, fun w hSw => ?_, hK _ ?_⟩
        rotate_left
        · go_simp
          go_at_call 55
          with_reducible exact C55.out w hSw
        clear hK K
        try simp only [Act.put, List.setIfInBounds_toArray, List.set_cons_zero, List.set_cons_succ]
        refine wq_step (fun K hK => ?_)
        rw [if_pos (by rfl)]
        refine ⟨?_, fun w hSw => ?_, hK _ ?_⟩
        rotate_left
        · clear hSw
          go_simp
          try with_reducible rfl
        clear hK K
        try simp only [Act.put, List.setIfInBounds_toArray, List.set_cons_zero, List.set_cons_succ]
        refine wq_step (fun K hK => ?_)
        rw [if_pos (by rfl)]
        refine ⟨?_, fun w hSw => ?_, hK _ ?_⟩
        rotate_left
        · clear hSw
          go_simp
          try with_reducible rfl
        clear hK K
        try simp only [Act.put, List.setIfInBounds_toArray, List.set_cons_zero, List.set_cons_succ]
        refine wq_nil ?_
        intro w9 hHeld
        have HH := Lib.hid hHeld
        clear hHeld C45 C54 C55 H9 hw9
        go_wp2_with fail
        go_roundw
        case rel => exact ⟨k + 1, _, _, _, _, by omega, by go_num, HH.out, HL2.out⟩
        case measure => simp [intOf]; omega
      · have hqd : decide ((q : Int) < 3) = false := decide_eq_false (by omega)
        rcases (show q = 3 ∨ q = 4 by omega) with rfl | rfl
        · have hqe : (kd : Int) % 5 = 3 := e0
          clear e0
          go_upto_region 20 with ((with_reducible refine arm_alloc 16 79 PZ 46 pz_zero ?_); intro w7 HB7 HX7 HS7)
          have hbx7 := keep_block HB7.out H2.out.bx
          clear a0 a1 a2
          obtain ⟨a0, a1, a2⟩ := act_cells hbx7 HY.out
          have CPO := Lib.hid (st_pop cl (H2.out.sc.st.below HB7.out))
          have HPX := Lib.hid (pf_at (c := cl) (k := 0) H2.out.sc.rs)
          have HFX := Lib.hid (fl_at H2.out.sc.rs cl 0)
          have RAT := Lib.hid (fun L1 w' (hp : SC w w2 a L1 L R g cap S n b9 w') => rs_at (m := R) cl 0 hp.rs H2.out.sc.len.2.2.1 (by omega) H2.out.sc.len.2.2.2)
          have RCU := Lib.hid (fun L1 w' (hp : SC w w2 a L1 L R g cap S n b9 w') => rs_cut (m := R) cl 0 hp.rs H2.out.sc.len.2.2.1 (by omega) H2.out.sc.len.2.2.2)
          rw [HL.out] at RAT RCU
          have HL2 : Hid ((cutS L cl 0).length = n) := Lib.hid ((length_cutS _ _ _).trans HL.out)
          have hfar := H2.out.sc.far (k := w6.heap.size) H2.out.sc.amg.size
          clear hbx7
          generalize (atS L cl 0).getD PZ = xx at *
          generalize (atS L cl 0).isSome = ob at *
          generalize cutS L cl 0 = L2 at *
          go_wp2_with fail
          refine CPO.out.mono ?_
          rintro e w8 ⟨rfl, hS8, hA8⟩
          have hX8 := hA8.keep HX7.out hfar
          have hst := pkt_store hX8 HPX.out
          go_upto_region 25 with ((with_reducible refine arm_store 16 116 79 (.pointer (some ⟨w6.heap.size, 0, none⟩)) (.agg xx) _ hst ?_ ?_ ?_); rfl; rfl)
          have hbx := box_whole hX8 (cs := xx) HPX.out.size
          have H9 := Lib.hid (H2.out.sc.popped HB7.out hS8 hA8 (Nat.le_refl _) (Two.setCells (b := w6.heap.size) (.inl rfl) xx.toList 0 (Two.refl w6.heap.size w6.heap.size w8)))
          have HX16 := Lib.hid hbx
          clear hst hbx hX8 hS8 hA8 HB7 HX7 HS7 H2 CPO hfar a0 a1 a2
          generalize w8.setCells w6.heap.size 0 xx.toList = w9 at *
          generalize w6.heap.size = b16 at *
          obtain ⟨c0, c1, _, _⟩ := H9.out.facts
          have RA := Lib.hid (RAT.out _ _ H9.out)
          clear RAT
          go_wp2_with fail
          refine RA.out.mono ?_
          rintro e w10 ⟨rfl, hB10⟩
          have H10 := Lib.hid (H9.out.next hB10)
          have HX16' := Lib.hid (keep_block hB10 HX16.out)
          clear hB10 HX16 H9 c0 c1 RA
          go_upto_region 26 with (first
            | ((with_reducible refine arm_alloc 18 79 PZ 46 pz_zero ?_); intro w11 HB11 HX11 HS11; have hst := pkt_store HX11.out HPX.out)
            | ((with_reducible refine arm_store 18 130 79 (.pointer (some ⟨w10.heap.size, 0, none⟩)) (.agg xx) _ hst ?_ ?_ ?_); rfl; rfl))
          have hbx := box_whole HX11.out (cs := xx) HPX.out.size
          have hB12 := below_setCells (b := w10.heap.size) (Nat.le_refl _) xx.toList 0 HB11.out
          have H12 := Lib.hid (H10.out.next hB12)
          have HX18 := Lib.hid hbx
          have HX16 := Lib.hid (keep_block hB12 HX16'.out)
          clear hst hbx hB12 HB11 HX11 HS11 H10 HX16'
          generalize w11.setCells w10.heap.size 0 xx.toList = w12 at *
          generalize w10.heap.size = b18 at *
          obtain ⟨c0, c1, _, _⟩ := H12.out.facts
          have RC := Lib.hid (RCU.out _ _ H12.out)
          clear RCU
          go_wp2_with fail
          refine RC.out.mono ?_
          rintro e w13 ⟨g8, cap8, S8, rfl, hR, hB13⟩
          have hsc := H12.out.next hB13
          have hx16 := hsc.keepPkt (keep_block hB13 HX16.out) (.slice (some ⟨g8, 0, none⟩) n cap8) (.int .i64 (R : Nat))
          have hx18 := hsc.keepPkt (keep_block hB13 HX18.out) (.slice (some ⟨g8, 0, none⟩) n cap8) (.int .i64 (R : Nat))
          have H8 := Lib.hid (hsc.store hR)
          have hl16 := pkt_load hx16 HPX.out
          have hl18 := pkt_load hx18 HPX.out
          clear RC c0 c1
          obtain ⟨c0, c1, f0, f1⟩ := hsc.facts
          clear hR hB13 HX16 HX18 hsc hx16 hx18 H12
          go_upto_region 27 with (fail)
          generalize (w13.setCell ⟨b9, 0, none⟩ (.slice (some ⟨g8, 0, none⟩) n cap8)).setCell ⟨b9, 1, none⟩ (.int .i64 (R : Nat)) = w14 at *
          clear c0 c1 f0 f1
          go_upto_region 29 with (first
            | ((with_reducible refine arm_load 136 16 79 (.pointer (some ⟨b16, 0, none⟩)) (.agg xx) hl16 ?_ ?_); rfl)
            | ((with_reducible refine arm_load 137 18 79 (.pointer (some ⟨b18, 0, none⟩)) (.agg xx) hl18 ?_ ?_); rfl)
            | ((with_reducible refine arm_neq 138 136 137 xx HFX.out ?_ ?_ ?_); rfl; rfl))
          clear hl16 hl18
          have CLS := Lib.hid (fun w' (hs : SC w w2 a L2 L2 R g8 cap8 S8 n b9 w') => hs.next (Below.refl _ _))
          have C45 : Hid (∀ w', SC w w2 a L2 L2 R g8 cap8 S8 n b9 w' → Calls Try.prog 45 #[.pointer (some ⟨a.sb, 0, none⟩)] w' fun e w'' => e = .returned (.int .i64 ((R - total L2 : Nat) : Int)) ∧ SC w w2 a L2 L2 R g8 cap8 S8 n b9 w'') := Lib.hid fun w' hs => (st_free hs.st).mono fun e w'' ⟨e1, e2⟩ => ⟨e1, e2 ▸ hs⟩
          have C54 : Hid (∀ w', SC w w2 a L2 L2 R g8 cap8 S8 n b9 w' → Calls Try.prog 54 #[rv g8 cap8 n R] w' fun e w'' => e = .returned (.int .i64 (total L2 : Nat)) ∧ SC w w2 a L2 L2 R g8 cap8 S8 n b9 w'') := Lib.hid fun w' hs => by
            obtain ⟨t1, t2, t3, t4⟩ := hs.len
            have := rs_waits (m := R) hs.rs t3 (by omega)
            rw [HL2.out] at this
            exact this.mono fun e w'' ⟨e1, e2⟩ => ⟨e1, hs.next e2⟩
          have C55 : Hid (∀ w', SC w w2 a L2 L2 R g8 cap8 S8 n b9 w' → Calls Try.prog 55 #[.pointer (some ⟨a.sb, 0, none⟩), rv g8 cap8 n R, .int .i64 (if (12 : Int) < (n : Int) then (12 : Int) else (n : Int))] w' fun e w'' => e = .returned (.bool true) ∧ SC w w2 a L2 L2 R g8 cap8 S8 n b9 w'') := Lib.hid fun w' hs => by
            have := st_same a L2 R w2.heap.size g8 cap8 R S8 mn w' hs.st hs.rs HMN1.out.1 HMN1.out.2
            rw [HL2.out] at this
            rw [HMN.out]
            exact this.mono fun e w'' ⟨e1, e2⟩ => ⟨e1, hs.next e2⟩
          have hTT := H8.out.len.1
          have hw9 : IntKind.i64.wrap ((R : Int) - ((total L2 : Nat) : Int)) = ((R - total L2 : Nat) : Int) := by rw [IntWalk.i64_in _ (by omega)]; omega
          have H9 := Lib.hid (H8.out.next (Below.refl _ _).drew)
          clear H8 hTT CLS
          generalize R - total L2 = fr at *
          generalize total L2 = tt at *
          refine wp_region_cls (SC w w2 a L2 L2 R g8 cap8 S8 n b9) (by kernel_rfl) (by kernel_rfl) H9.out ?_
          refine wq_step (fun K hK => ?_)
          rw [if_pos (by rfl)]
          refine ⟨?_, fun w hSw => ?_, hK _ ?_⟩
          rotate_left
          · clear hSw
            go_simp
            try with_reducible rfl
          clear hK K
          try simp only [Act.put, List.setIfInBounds_toArray, List.set_cons_zero, List.set_cons_succ]
          refine wq_step (fun K hK => ?_)
          rw [if_pos (by rfl)]
          refine ⟨?_, fun w hSw => ?_, hK _ ?_⟩
          rotate_left
          · go_simp
            go_at_call 45
            with_reducible exact C45.out w hSw
          clear hK K
          try simp only [Act.put, List.setIfInBounds_toArray, List.set_cons_zero, List.set_cons_succ]
          refine wq_step (fun K hK => ?_)
          rw [if_pos (by rfl)]
          refine ⟨?_, fun w hSw => ?_, hK _ ?_⟩
          rotate_left
          · clear hSw
            go_simp
            try with_reducible rfl
          clear hK K
          try simp only [Act.put, List.setIfInBounds_toArray, List.set_cons_zero, List.set_cons_succ]
          refine wq_step (fun K hK => ?_)
          rw [if_pos (by rfl)]
          refine ⟨?_, fun w hSw => ?_, hK _ ?_⟩
          rotate_left
          · obtain ⟨c0, c1, _, _⟩ := hSw.facts
            go_simp
            try with_reducible rfl
          clear hK K
          try simp only [Act.put, List.setIfInBounds_toArray, List.set_cons_zero, List.set_cons_succ]
          refine wq_step (fun K hK => ?_)
          rw [if_pos (by rfl)]
          refine ⟨?_, fun w hSw => ?_, hK _ ?_⟩
          rotate_left
          · go_simp
            go_at_call 54
            with_reducible exact C54.out w hSw
          clear hK K
          try simp only [Act.put, List.setIfInBounds_toArray, List.set_cons_zero, List.set_cons_succ]
          refine wq_step (fun K hK => ?_)
          rw [if_pos (by rfl)]
          refine ⟨?_, fun w hSw => ?_, hK _ ?_⟩
          rotate_left
          · clear hSw
            go_simp
            try with_reducible rfl
          clear hK K
          try simp only [Act.put, List.setIfInBounds_toArray, List.set_cons_zero, List.set_cons_succ]
          refine wq_step (fun K hK => ?_)
          rw [if_pos (by rfl)]
          refine ⟨?_, fun w hSw => ?_, hK _ ?_⟩
          rotate_left
          · clear hSw
            go_simp
            try with_reducible rfl
          clear hK K
          try simp only [Act.put, List.setIfInBounds_toArray, List.set_cons_zero, List.set_cons_succ]
          refine wq_step (fun K hK => ?_)
          rw [if_pos (by rfl)]
          refine ⟨?_, fun w hSw => ?_, hK _ ?_⟩
          rotate_left
          · clear hSw
            go_simp
            try with_reducible rfl
          clear hK K
          try simp only [Act.put, List.setIfInBounds_toArray, List.set_cons_zero, List.set_cons_succ]
          refine wq_step (fun K hK => ?_)
          rw [if_pos (by rfl)]
          refine ⟨?_, fun w hSw => ?_, hK _ ?_⟩
          rotate_left
          · clear hSw
            go_simp
            try with_reducible rfl
          clear hK K
          try simp only [Act.put, List.setIfInBounds_toArray, List.set_cons_zero, List.set_cons_succ]
          refine wq_step (fun K hK => ?_)
          rw [if_pos (by rfl)]
          refine ⟨?_, fun w hSw => ?_, hK _ ?_⟩
          rotate_left
          · obtain ⟨c0, c1, _, _⟩ := hSw.facts
            go_simp
            try with_reducible rfl
          clear hK K
          try simp only [Act.put, List.setIfInBounds_toArray, List.set_cons_zero, List.set_cons_succ]
          refine wq_step (fun K hK => ?_)
          rw [if_pos (by rfl)]
          refine ⟨?_, fun w hSw => ?_, hK _ ?_⟩
          rotate_left
          · clear hSw
            go_simp
            try with_reducible rfl
          clear hK K
          try simp only [Act.put, List.setIfInBounds_toArray, List.set_cons_zero, List.set_cons_succ]
          refine wq_step (fun K hK => ?_)
          rw [if_pos (by rfl)]
          refine ⟨?_, fun w hSw => ?_, hK _ ?_⟩
          rotate_left
          · clear hSw
            go_simp
            try with_reducible rfl
          clear hK K
          try simp only [Act.put, List.setIfInBounds_toArray, List.set_cons_zero, List.set_cons_succ]
          refine wq_step (fun K hK => ?_)
          rw [if_pos (by rfl)]
          refine ⟨?_, fun w hSw => ?_, hK _ ?_⟩
          rotate_left
          · go_simp
            go_at_call 55
            with_reducible exact C55.out w hSw
          clear hK K
          try simp only [Act.put, List.setIfInBounds_toArray, List.set_cons_zero, List.set_cons_succ]
          refine wq_step (fun K hK => ?_)
          rw [if_pos (by rfl)]
          refine ⟨?_, fun w hSw => ?_, hK _ ?_⟩
          rotate_left
          · clear hSw
            go_simp
            try with_reducible rfl
          clear hK K
          try simp only [Act.put, List.setIfInBounds_toArray, List.set_cons_zero, List.set_cons_succ]
          refine wq_step (fun K hK => ?_)
          rw [if_pos (by rfl)]
          refine ⟨?_, fun w hSw => ?_, hK _ ?_⟩
          rotate_left
          · clear hSw
            go_simp
            try with_reducible rfl
          clear hK K
          try simp only [Act.put, List.setIfInBounds_toArray, List.set_cons_zero, List.set_cons_succ]
          refine wq_nil ?_
          intro w9 hHeld
          have HH := Lib.hid hHeld
          clear hHeld C45 C54 C55 H9 hw9
          go_wp2_with fail
          go_roundw
          case rel => exact ⟨k + 1, _, _, _, _, by omega, by go_num, HH.out, HL2.out⟩
          case measure => simp [intOf]; omega
        · have hqe : (kd : Int) % 5 = 4 := e0
          clear e0
          go_upto_region 20 with ((with_reducible refine arm_alloc 16 79 PZ 46 pz_zero ?_); intro w7 HB7 HX7 HS7)
          have hbx7 := keep_block HB7.out H2.out.bx
          clear a0 a1 a2
          obtain ⟨a0, a1, a2⟩ := act_cells hbx7 HY.out
          have CPO := Lib.hid (st_cut cl nn (H2.out.sc.st.below HB7.out))
          have HPX := Lib.hid (pf_at (c := cl) (k := nn) H2.out.sc.rs)
          have HFX := Lib.hid (fl_at H2.out.sc.rs cl nn)
          have RAT := Lib.hid (fun L1 w' (hp : SC w w2 a L1 L R g cap S n b9 w') => rs_at (m := R) cl nn hp.rs H2.out.sc.len.2.2.1 (by omega) H2.out.sc.len.2.2.2)
          have RCU := Lib.hid (fun L1 w' (hp : SC w w2 a L1 L R g cap S n b9 w') => rs_cut (m := R) cl nn hp.rs H2.out.sc.len.2.2.1 (by omega) H2.out.sc.len.2.2.2)
          rw [HL.out] at RAT RCU
          have HL2 : Hid ((cutS L cl nn).length = n) := Lib.hid ((length_cutS _ _ _).trans HL.out)
          have hfar := H2.out.sc.far (k := w6.heap.size) H2.out.sc.amg.size
          clear hbx7
          generalize (atS L cl nn).getD PZ = xx at *
          generalize (atS L cl nn).isSome = ob at *
          generalize cutS L cl nn = L2 at *
          go_wp2_with fail
          refine CPO.out.mono ?_
          rintro e w8 ⟨rfl, hS8, hA8⟩
          have hX8 := hA8.keep HX7.out hfar
          have hst := pkt_store hX8 HPX.out
          go_upto_region 25 with ((with_reducible refine arm_store 16 123 79 (.pointer (some ⟨w6.heap.size, 0, none⟩)) (.agg xx) _ hst ?_ ?_ ?_); rfl; rfl)
          have hbx := box_whole hX8 (cs := xx) HPX.out.size
          have H9 := Lib.hid (H2.out.sc.popped HB7.out hS8 hA8 (Nat.le_refl _) (Two.setCells (b := w6.heap.size) (.inl rfl) xx.toList 0 (Two.refl w6.heap.size w6.heap.size w8)))
          have HX16 := Lib.hid hbx
          clear hst hbx hX8 hS8 hA8 HB7 HX7 HS7 H2 CPO hfar a0 a1 a2
          generalize w8.setCells w6.heap.size 0 xx.toList = w9 at *
          generalize w6.heap.size = b16 at *
          obtain ⟨c0, c1, _, _⟩ := H9.out.facts
          have RA := Lib.hid (RAT.out _ _ H9.out)
          clear RAT
          go_wp2_with fail
          refine RA.out.mono ?_
          rintro e w10 ⟨rfl, hB10⟩
          have H10 := Lib.hid (H9.out.next hB10)
          have HX16' := Lib.hid (keep_block hB10 HX16.out)
          clear hB10 HX16 H9 c0 c1 RA
          go_upto_region 26 with (first
            | ((with_reducible refine arm_alloc 18 79 PZ 46 pz_zero ?_); intro w11 HB11 HX11 HS11; have hst := pkt_store HX11.out HPX.out)
            | ((with_reducible refine arm_store 18 130 79 (.pointer (some ⟨w10.heap.size, 0, none⟩)) (.agg xx) _ hst ?_ ?_ ?_); rfl; rfl))
          have hbx := box_whole HX11.out (cs := xx) HPX.out.size
          have hB12 := below_setCells (b := w10.heap.size) (Nat.le_refl _) xx.toList 0 HB11.out
          have H12 := Lib.hid (H10.out.next hB12)
          have HX18 := Lib.hid hbx
          have HX16 := Lib.hid (keep_block hB12 HX16'.out)
          clear hst hbx hB12 HB11 HX11 HS11 H10 HX16'
          generalize w11.setCells w10.heap.size 0 xx.toList = w12 at *
          generalize w10.heap.size = b18 at *
          obtain ⟨c0, c1, _, _⟩ := H12.out.facts
          have RC := Lib.hid (RCU.out _ _ H12.out)
          clear RCU
          go_wp2_with fail
          refine RC.out.mono ?_
          rintro e w13 ⟨g8, cap8, S8, rfl, hR, hB13⟩
          have hsc := H12.out.next hB13
          have hx16 := hsc.keepPkt (keep_block hB13 HX16.out) (.slice (some ⟨g8, 0, none⟩) n cap8) (.int .i64 (R : Nat))
          have hx18 := hsc.keepPkt (keep_block hB13 HX18.out) (.slice (some ⟨g8, 0, none⟩) n cap8) (.int .i64 (R : Nat))
          have H8 := Lib.hid (hsc.store hR)
          have hl16 := pkt_load hx16 HPX.out
          have hl18 := pkt_load hx18 HPX.out
          clear RC c0 c1
          obtain ⟨c0, c1, f0, f1⟩ := hsc.facts
          clear hR hB13 HX16 HX18 hsc hx16 hx18 H12
          go_upto_region 27 with (fail)
          generalize (w13.setCell ⟨b9, 0, none⟩ (.slice (some ⟨g8, 0, none⟩) n cap8)).setCell ⟨b9, 1, none⟩ (.int .i64 (R : Nat)) = w14 at *
          clear c0 c1 f0 f1
          go_upto_region 29 with (first
            | ((with_reducible refine arm_load 136 16 79 (.pointer (some ⟨b16, 0, none⟩)) (.agg xx) hl16 ?_ ?_); rfl)
            | ((with_reducible refine arm_load 137 18 79 (.pointer (some ⟨b18, 0, none⟩)) (.agg xx) hl18 ?_ ?_); rfl)
            | ((with_reducible refine arm_neq 138 136 137 xx HFX.out ?_ ?_ ?_); rfl; rfl))
          clear hl16 hl18
          have CLS := Lib.hid (fun w' (hs : SC w w2 a L2 L2 R g8 cap8 S8 n b9 w') => hs.next (Below.refl _ _))
          have C45 : Hid (∀ w', SC w w2 a L2 L2 R g8 cap8 S8 n b9 w' → Calls Try.prog 45 #[.pointer (some ⟨a.sb, 0, none⟩)] w' fun e w'' => e = .returned (.int .i64 ((R - total L2 : Nat) : Int)) ∧ SC w w2 a L2 L2 R g8 cap8 S8 n b9 w'') := Lib.hid fun w' hs => (st_free hs.st).mono fun e w'' ⟨e1, e2⟩ => ⟨e1, e2 ▸ hs⟩
          have C54 : Hid (∀ w', SC w w2 a L2 L2 R g8 cap8 S8 n b9 w' → Calls Try.prog 54 #[rv g8 cap8 n R] w' fun e w'' => e = .returned (.int .i64 (total L2 : Nat)) ∧ SC w w2 a L2 L2 R g8 cap8 S8 n b9 w'') := Lib.hid fun w' hs => by
            obtain ⟨t1, t2, t3, t4⟩ := hs.len
            have := rs_waits (m := R) hs.rs t3 (by omega)
            rw [HL2.out] at this
            exact this.mono fun e w'' ⟨e1, e2⟩ => ⟨e1, hs.next e2⟩
          have C55 : Hid (∀ w', SC w w2 a L2 L2 R g8 cap8 S8 n b9 w' → Calls Try.prog 55 #[.pointer (some ⟨a.sb, 0, none⟩), rv g8 cap8 n R, .int .i64 (if (12 : Int) < (n : Int) then (12 : Int) else (n : Int))] w' fun e w'' => e = .returned (.bool true) ∧ SC w w2 a L2 L2 R g8 cap8 S8 n b9 w'') := Lib.hid fun w' hs => by
            have := st_same a L2 R w2.heap.size g8 cap8 R S8 mn w' hs.st hs.rs HMN1.out.1 HMN1.out.2
            rw [HL2.out] at this
            rw [HMN.out]
            exact this.mono fun e w'' ⟨e1, e2⟩ => ⟨e1, hs.next e2⟩
          have hTT := H8.out.len.1
          have hw9 : IntKind.i64.wrap ((R : Int) - ((total L2 : Nat) : Int)) = ((R - total L2 : Nat) : Int) := by rw [IntWalk.i64_in _ (by omega)]; omega
          have H9 := Lib.hid (H8.out.next (Below.refl _ _).drew)
          clear H8 hTT CLS
          generalize R - total L2 = fr at *
          generalize total L2 = tt at *
          refine wp_region_cls (SC w w2 a L2 L2 R g8 cap8 S8 n b9) (by kernel_rfl) (by kernel_rfl) H9.out ?_
          refine wq_step (fun K hK => ?_)
          rw [if_pos (by rfl)]
          refine ⟨?_, fun w hSw => ?_, hK _ ?_⟩
          rotate_left
          · clear hSw
            go_simp
            try with_reducible rfl
          clear hK K
          try simp only [Act.put, List.setIfInBounds_toArray, List.set_cons_zero, List.set_cons_succ]
          refine wq_step (fun K hK => ?_)
          rw [if_pos (by rfl)]
          refine ⟨?_, fun w hSw => ?_, hK _ ?_⟩
          rotate_left
          · go_simp
            go_at_call 45
            with_reducible exact C45.out w hSw
          clear hK K
          try simp only [Act.put, List.setIfInBounds_toArray, List.set_cons_zero, List.set_cons_succ]
          refine wq_step (fun K hK => ?_)
          rw [if_pos (by rfl)]
          refine ⟨?_, fun w hSw => ?_, hK _ ?_⟩
          rotate_left
          · clear hSw
            go_simp
            try with_reducible rfl
          clear hK K
          try simp only [Act.put, List.setIfInBounds_toArray, List.set_cons_zero, List.set_cons_succ]
          refine wq_step (fun K hK => ?_)
          rw [if_pos (by rfl)]
          refine ⟨?_, fun w hSw => ?_, hK _ ?_⟩
          rotate_left
          · obtain ⟨c0, c1, _, _⟩ := hSw.facts
            go_simp
            try with_reducible rfl
          clear hK K
          try simp only [Act.put, List.setIfInBounds_toArray, List.set_cons_zero, List.set_cons_succ]
          refine wq_step (fun K hK => ?_)
          rw [if_pos (by rfl)]
          refine ⟨?_, fun w hSw => ?_, hK _ ?_⟩
          rotate_left
          · go_simp
            go_at_call 54
            with_reducible exact C54.out w hSw
          clear hK K
          try simp only [Act.put, List.setIfInBounds_toArray, List.set_cons_zero, List.set_cons_succ]
          refine wq_step (fun K hK => ?_)
          rw [if_pos (by rfl)]
          refine ⟨?_, fun w hSw => ?_, hK _ ?_⟩
          rotate_left
          · clear hSw
            go_simp
            try with_reducible rfl
          clear hK K
          try simp only [Act.put, List.setIfInBounds_toArray, List.set_cons_zero, List.set_cons_succ]
          refine wq_step (fun K hK => ?_)
          rw [if_pos (by rfl)]
          refine ⟨?_, fun w hSw => ?_, hK _ ?_⟩
          rotate_left
          · clear hSw
            go_simp
            try with_reducible rfl
          clear hK K
          try simp only [Act.put, List.setIfInBounds_toArray, List.set_cons_zero, List.set_cons_succ]
          refine wq_step (fun K hK => ?_)
          rw [if_pos (by rfl)]
          refine ⟨?_, fun w hSw => ?_, hK _ ?_⟩
          rotate_left
          · clear hSw
            go_simp
            try with_reducible rfl
          clear hK K
          try simp only [Act.put, List.setIfInBounds_toArray, List.set_cons_zero, List.set_cons_succ]
          refine wq_step (fun K hK => ?_)
          rw [if_pos (by rfl)]
          refine ⟨?_, fun w hSw => ?_, hK _ ?_⟩
          rotate_left
          · clear hSw
            go_simp
            try with_reducible rfl
          clear hK K
          try simp only [Act.put, List.setIfInBounds_toArray, List.set_cons_zero, List.set_cons_succ]
          refine wq_step (fun K hK => ?_)
          rw [if_pos (by rfl)]
          refine ⟨?_, fun w hSw => ?_, hK _ ?_⟩
          rotate_left
          · obtain ⟨c0, c1, _, _⟩ := hSw.facts
            go_simp
            try with_reducible rfl
          clear hK K
          try simp only [Act.put, List.setIfInBounds_toArray, List.set_cons_zero, List.set_cons_succ]
          refine wq_step (fun K hK => ?_)
          rw [if_pos (by rfl)]
          refine ⟨?_, fun w hSw => ?_, hK _ ?_⟩
          rotate_left
          · clear hSw
            go_simp
            try with_reducible rfl
          clear hK K
          try simp only [Act.put, List.setIfInBounds_toArray, List.set_cons_zero, List.set_cons_succ]
          refine wq_step (fun K hK => ?_)
          rw [if_pos (by rfl)]
          refine ⟨?_, fun w hSw => ?_, hK _ ?_⟩
          rotate_left
          · clear hSw
            go_simp
            try with_reducible rfl
          clear hK K
          try simp only [Act.put, List.setIfInBounds_toArray, List.set_cons_zero, List.set_cons_succ]
          refine wq_step (fun K hK => ?_)
          rw [if_pos (by rfl)]
          refine ⟨?_, fun w hSw => ?_, hK _ ?_⟩
          rotate_left
          · go_simp
            go_at_call 55
            with_reducible exact C55.out w hSw
          clear hK K
          try simp only [Act.put, List.setIfInBounds_toArray, List.set_cons_zero, List.set_cons_succ]
          refine wq_step (fun K hK => ?_)
          rw [if_pos (by rfl)]
          refine ⟨?_, fun w hSw => ?_, hK _ ?_⟩
          rotate_left
          · clear hSw
            go_simp
            try with_reducible rfl
          clear hK K
          try simp only [Act.put, List.setIfInBounds_toArray, List.set_cons_zero, List.set_cons_succ]
          refine wq_step (fun K hK => ?_)
          rw [if_pos (by rfl)]
          refine ⟨?_, fun w hSw => ?_, hK _ ?_⟩
          rotate_left
          · clear hSw
            go_simp
            try with_reducible rfl
          clear hK K
          try simp only [Act.put, List.setIfInBounds_toArray, List.set_cons_zero, List.set_cons_succ]
          refine wq_nil ?_
          intro w9 hHeld
          have HH := Lib.hid hHeld
          clear hHeld C45 C54 C55 H9 hw9
          go_wp2_with fail
          go_roundw
          case rel => exact ⟨k + 1, _, _, _, _, by omega, by go_num, HH.out, HL2.out⟩
          case measure => simp [intOf]; omega
    · have HP9 := Lib.hid hP.below
      clear hP
      go_wp2
      go_ret
      exact ⟨rfl, HP9.out⟩
theorem walk_splays (n m : Int) (b : Option Addr) (len cap : Nat) (w : World) (hn : (Lit.int .i64 n).wf = true) (hm : (Lit.int .i64 m).wf = true) (hA : (∃ F, ActsS w b len F) ∧ len ≤ 9223372036854775807) :
    Calls Try.prog 13 #[.int .i64 n, .int .i64 m, .slice b len cap] w fun e w' => e = .returned (.bool true) ∧ Below w.heap.size w w' := by
  rcases Nat.lt_or_ge 80 len with h | h
  · exact splays_many n m b len cap w h hA.2
  · by_cases hc : 1 ≤ n ∧ n ≤ 129 ∧ 1 ≤ m ∧ m ≤ 4096
    · obtain ⟨n, rfl⟩ := Int.eq_ofNat_of_zero_le (show 0 ≤ n by omega)
      obtain ⟨m, rfl⟩ := Int.eq_ofNat_of_zero_le (show 0 ≤ m by omega)
      obtain ⟨F, hF⟩ := hA.1
      exact splays_main n m b len cap F w h (by omega) (by omega) (by omega) (by omega) hF
    · exact splays_bad n m b len cap w h (by omega)
end Go.Proofs.Ytgcfiiidhihkaaa.C
