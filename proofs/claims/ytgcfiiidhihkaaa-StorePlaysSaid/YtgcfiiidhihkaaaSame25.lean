/- The walk of same (stores): all classes are what the reference has. -/
import Derived.Test.YtgcfiiidhihkaaaRefV
namespace Go.Proofs.Ytgcfiiidhihkaaa.C
open Go.RowKit Go.WideMaps Go.Deep Go.ChangeShapes Go.WideShapes
set_option linter.unusedVariables false
/-- A field of a flat struct is flat. -/
theorem Flat.field {P : Program} {t : TypeId} {cs : Array Value} (h : Flat P t cs) {fs : Array Field} (hu : P.underlying t = some (.struct fs)) {f : Field} (hf : f ∈ fs.toList) (hc : (match P.underlying f.type with | some (.array _ _) | some (.struct _) => true | _ => false) = true) (hsz : f.offset + P.cellsOf f.type ≤ P.cellsOf t) :
    Flat P f.type (cs.extract f.offset (f.offset + P.cellsOf f.type)) := by
  obtain ⟨m, Ls, h1, h2, h3, h4, h5, h6⟩ := h
  cases m with
  | zero => simp [Program.keyTypeAt] at h1
  | succ m =>
    have hfm := Array.mem_toList_iff.1 hf
    unfold Program.keyTypeAt at h1
    unfold Program.tiled at h2
    unfold Program.keyLits at h6
    simp only [hu, Bool.and_eq_true] at h1 h2 h6
    have hk := Array.all_eq_true_iff_forall_mem.1 h1.1.1 f hfm
    simp only [Bool.and_eq_true] at hk
    have ht := Array.all_eq_true_iff_forall_mem.1 h2.2 f hfm
    split at h6
    · simp only [Option.map_eq_some_iff] at h6
      obtain ⟨ls, ha, _⟩ := h6
      obtain ⟨i, hi1, hi2⟩ := List.mem_iff_getElem.1 hf
      have hlen := mapM_some_length ha
      have h7 := mapM_some_get ha i f (by rw [List.getElem?_eq_getElem hi1, hi2])
      rw [List.getElem?_eq_getElem (by omega)] at h7
      obtain ⟨L', hL'⟩ : ∃ L', P.keyLits m f.type ((cs.toList.drop f.offset).take (P.cellsOf f.type)) = some L' := ⟨_, h7⟩
      refine ⟨m, L', hk.2, ht, by omega, by simp; omega, hc, ?_⟩
      have e : (cs.extract f.offset (f.offset + P.cellsOf f.type)).toList = (cs.toList.drop f.offset).take (P.cellsOf f.type) := by
        simp [List.extract_eq_take_drop]
      rw [e]
      exact hL'
    · cases h6
theorem flow_flat {x : Array Value} (h : Flat Try.prog 79 x) : Flat Try.prog 74 (flowA x) := by
  obtain ⟨fs, hu, f, hf, e1, e2, e3⟩ : ∃ fs, Try.prog.underlying 79 = some (.struct fs) ∧ ∃ f, f ∈ fs.toList ∧ f.type = 74 ∧ f.offset = 1 ∧ Try.prog.cellsOf f.type = 36 :=
    ⟨_, Try.underlying79, _, List.mem_cons_of_mem _ (List.mem_cons_self ..), by kernel_rfl, by kernel_rfl, by kernel_rfl⟩
  have := h.field hu hf (by rw [e1]; kernel_rfl) (by rw [e2, e3, pkt_cells]; omega)
  rw [e2, e3, e1] at this
  exact this
theorem pz_flat : Flat Try.prog 79 PZ := by
  obtain ⟨ls, h⟩ : ∃ ls, Try.prog.keyLits 4 79 PZ.toList = some ls := Option.isSome_iff_exists.1 (by kernel_rfl)
  exact ⟨4, ls, by kernel_rfl, by kernel_rfl, by omega, by kernel_rfl, by kernel_rfl, h⟩
theorem flow_guard : Try.prog.eqGuardType Try.prog.depth 74 = false := by kernel_rfl
theorem exec_neqf_self {a : Act} {w : World} {d : Option Nat} {g : Option (Nat × Bool)} {s y : Nat} {ty : TypeId} {pos : String} {after : Array Edge} {xs : Array Value} (hx : a.tmps.getD s undef = .agg xs) (hy : a.tmps.getD y undef = .agg xs) (hfx : Flat Try.prog 74 xs) :
    (execOp a.eval ⟨d, .binOp .neq 74 (.tmp s) (.tmp y) 74, ty, pos, after, g⟩).run Try.prog w = .ok (.value (.bool false)) w := by
  have hx' : a.eval (.tmp s) = .agg xs := hx
  have hy' : a.eval (.tmp y) = .agg xs := hy
  have h1 := hfx.equal hfx w
  rw [eqA_self] at h1
  unfold execOp
  simp [hx', hy', eqGuard, binOp, Sem.run_bind, h1]
/-- The k-th flow of a row. -/
theorem flow_row {w : World} {base n : Nat} {gg cp : Nat} {l : List (Array Value)} (h : w.ownsRow base 74 36 (.slice (some ⟨gg, 0, none⟩) n cp) n (flowsL l)) (hp : ∀ x ∈ l, Pk x) (hn : l.length = n) {k : Nat} {x : Array Value} (hx : l[k]? = some x) :
    (Instr.loadAt 74 (.pointer (some ⟨gg, k * 36, none⟩))).run Try.prog w = .ok (.agg (flowA x)) w := by
  obtain ⟨d, hd1, hd2⟩ := flow_desc
  have hk := lt_of_some hx
  have hpx := hp x (List.mem_of_getElem? hx)
  have := run_loadAt_mid (P := Try.prog) w gg (k * 36) 74 (flowA x).toList d (fun j v hv => by
    have hj := (List.getElem?_eq_some_iff.1 hv).1
    rw [Array.length_toList, flow_size hpx] at hj
    rw [Array.getElem?_toList] at hv
    rw [h.cellAt (k * 36 + j) (by have := Nat.mul_le_mul_right 36 (show k + 1 ≤ n by omega); omega), flowsL_at hp hx hj]
    exact hv) hd1 hd2 (by rw [flow_sz, Array.length_toList, flow_size hpx])
  simpa using this
/-- The class of worlds in which same compares. -/
structure SM (w0 : World) (a : Adr) (L : List (List (Array Value))) (R base g cap m : Nat) (S : List Value) (n b4 : Nat) (c : Int) (A : Option Addr) (cp bf : Nat) (fv : Value) (w : World) : Prop where
  st : Sto w a L R
  rs : RS w base g cap S L
  box : w.heap[b4]? = some (.cells #[.slice (some ⟨g, 0, none⟩) n cap, .int .i64 (m : Nat)] 89 (0, 0))
  row : w.ownsRow base 79 46 (.slice A (clsS L c).length cp) (clsS L c).length (cellsL (clsS L c))
  fl : w.ownsRow bf 74 36 fv (clsS L c).length (flowsL (clsS L c))
  below : Below w0.heap.size w0 w
/-- .. ahead of that. -/
structure SN (w0 : World) (a : Adr) (L : List (List (Array Value))) (R base g cap m : Nat) (S : List Value) (n b4 : Nat) (w : World) : Prop where
  st : Sto w a L R
  rs : RS w base g cap S L
  box : w.heap[b4]? = some (.cells #[.slice (some ⟨g, 0, none⟩) n cap, .int .i64 (m : Nat)] 89 (0, 0))
  below : Below w0.heap.size w0 w
section
variable {w0 w w' : World} {a : Adr} {L : List (List (Array Value))} {R base g cap m : Nat} {S : List Value} {n b4 : Nat} {c : Int} {A : Option Addr} {cp bf : Nat} {fv : Value}
theorem SN.next (h : SN w0 a L R base g cap m S n b4 w) (p : Below w.heap.size w w') : SN w0 a L R base g cap m S n b4 w' := ⟨h.st.below p, h.rs.below p, keep_block p h.box, h.below.trans (p.mono h.below.size)⟩
theorem SM.next (h : SM w0 a L R base g cap m S n b4 c A cp bf fv w) (p : Below w.heap.size w w') : SM w0 a L R base g cap m S n b4 c A cp bf fv w' := ⟨h.st.below p, h.rs.below p, keep_block p h.box, OW.below h.row p, OW.below h.fl p, h.below.trans (p.mono h.below.size)⟩
theorem SM.facts (h : SM w0 a L R base g cap m S n b4 c A cp bf fv w) : w.cell? ⟨b4, 0, none⟩ = some (.slice (some ⟨g, 0, none⟩) n cap) ∧ w.cell? ⟨b4, 1, none⟩ = some (.int .i64 (m : Nat)) := by
  obtain ⟨c0, c1, _, _⟩ := ref_facts h.box
  exact ⟨c0, c1⟩
theorem SM.fl' {Af : Option Addr} {ll cf : Nat} (h : SM w0 a L R base g cap m S n b4 c A cp bf (.slice Af ll cf) w) (hl : (clsS L c).length = ll) : w.ownsRow bf 74 36 (.slice Af ll cf) ll (flowsL (clsS L c)) := by
  have := h.fl
  rwa [hl] at this
theorem SM.sn (h : SM w0 a L R base g cap m S n b4 c A cp bf fv w) : SN w0 a L R base g cap m S n b4 w := ⟨h.st, h.rs, h.box, h.below⟩
end
/-- .. two packets. -/
structure SQ (w0 : World) (a : Adr) (L : List (List (Array Value))) (R base g cap m : Nat) (S : List Value) (n b4 : Nat) (c : Int) (A : Option Addr) (cp bf : Nat) (fv : Value) (b12 b14 : Nat) (x : Array Value) (w : World) : Prop where
  sm : SM w0 a L R base g cap m S n b4 c A cp bf fv w
  box12 : w.heap[b12]? = some (.cells x 79 (0, 0))
  box14 : w.heap[b14]? = some (.cells x 79 (0, 0))
set_option maxRecDepth 100000 in
set_option maxHeartbeats 4000000 in
theorem st_same (a : Adr) (L : List (List (Array Value))) (R base g cap m : Nat) (S : List Value) (most : Int) (w : World) (hS : Sto w a L R) (hR : RS w base g cap S L) (hm0 : 0 ≤ most) (hm1 : most ≤ 12) :
    Calls Try.prog 55 #[.pointer (some ⟨a.sb, 0, none⟩), rv g cap L.length m, .int .i64 most] w fun e w' => e = .returned (.bool true) ∧ Below w.heap.size w w' := by
  have hL : L.length ≤ 129 := by obtain ⟨A, fl, Q, h⟩ := hS; exact h.len.1
  have hq : ∀ l ∈ L, l.length ≤ 4096 := fun l hl => by
    obtain ⟨A, fl, Q, h⟩ := hS
    have h1 := h.len
    have h2 := total_le L l hl
    omega
  have hclsP : ∀ c, ∀ x ∈ clsS L c, PF x := by
    intro c x hx
    by_cases hc : 0 ≤ c ∧ c < L.length
    · obtain ⟨c, rfl⟩ := Int.eq_ofNat_of_zero_le hc.1
      obtain ⟨l, hl⟩ : ∃ l, L[c]? = some l := ⟨_, List.getElem?_eq_getElem (by omega)⟩
      rw [clsS_some hl] at hx
      exact hR.pf l (List.mem_of_getElem? hl) x hx
    · rw [clsS_out hc] at hx
      cases hx
  have HCP := Lib.hid hclsP
  have C69 := Lib.hid (fun c w' (hr : RS w' base g cap S L) => rs_class (m := m) c hr hL)
  have C71 := Lib.hid (fun c w' (hr : RS w' base g cap S L) => rs_bytes (m := m) c hr hL hq)
  have C52 := Lib.hid (fun c k w' (hr : RS w' base g cap S L) (hk : k ≤ 4611686018427387904) => rs_at (m := m) c k hr hL hk hq)
  have HL4 := Lib.hid (fun c => (cls_len c hS).1)
  have HS := Lib.hid hS
  have HR := Lib.hid hR
  clear hS hR hq hclsP
  generalize hn : L.length = n at *
  have HN := Lib.hid hn
  clear hn
  go_enter Try.func55, Try.ntmps55
  go_upto_region 1 with ((with_reducible refine arm_box 4 1 89 #[.slice (some ⟨g, 0, none⟩) n cap, .int .i64 (m : Nat)] ?_ ?_); rfl; intro w1 HB HX HSZ)
  have HSN : Hid (SN w a L R base g cap m S n w.heap.size w1) := Lib.hid ⟨HS.out.below HB.out, HR.out.below HB.out, HX.out, HB.out⟩
  clear HB HX HSZ HS HR
  go_wp2_with fail
  go_loopw [7] (fun t wr => ∃ c : Int, -1 ≤ c ∧ c ≤ 13 ∧ t = .int .i64 c ∧ SN w a L R base g cap m S n w.heap.size wr) (fun t _ => (14 - intOf t).toNat)
  case atStart => exact ⟨-1, by omega, by omega, rfl, HSN.out⟩
  case round =>
    obtain ⟨c, hc0, hc1, rfl, hSN⟩ := hrel
    have H1 := Lib.hid hSN
    clear hSN HSN
    by_cases hcm : c ≤ most
    · have dc : decide (c ≤ most) = true := decide_eq_true hcm
      have hwc : IntKind.i64.wrap (c + 1) = c + 1 := IntWalk.i64_in _ (by omega)
      obtain ⟨c0, c1, _, _⟩ := ref_facts H1.out.box
      go_wp2_with fail
      refine (C69.out c _ H1.out.rs).mono ?_
      rintro e w2 ⟨A, cp, rfl, hrow, hB2⟩
      have HROW := Lib.hid hrow
      have H2 := Lib.hid (H1.out.next hB2)
      clear hrow hB2 H1 c0 c1
      go_wp2_with fail
      refine (st_flows c H2.out.st).mono ?_
      rintro e w3 ⟨fv, rfl, hfl, hB3⟩
      have HM3 : Hid (SM w a L R base g cap m S n w.heap.size c A cp w2.heap.size fv w3) := by
        have h3 := H2.out.next hB3
        exact Lib.hid ⟨h3.st, h3.rs, h3.box, OW.below HROW.out hB3, hfl, h3.below⟩
      clear HROW H2 hfl hB3
      generalize w2.heap.size = bf at *
      obtain ⟨Af, cf, rfl⟩ := OW.slice HM3.out.fl
      have hl4 := HL4.out c
      have HHD : Hid (headS L c = match (clsS L c)[0]? with | some x => lenP x | none => 0) := by
        have := clsS_at (L := L) c 0
        unfold headS
        rw [← this]
        exact Lib.hid rfl
      have C47 := Lib.hid (fun w' (hs : SM w a L R base g cap m S n w.heap.size c A cp bf (.slice Af (clsS L c).length cf) w') => (st_len_any c hs.st).mono fun e w'' h2 => (show e = _ ∧ SM w a L R base g cap m S n w.heap.size c A cp bf (.slice Af (clsS L c).length cf) w'' from ⟨h2.1, h2.2 ▸ hs⟩))
      have C46 := Lib.hid (fun w' (hs : SM w a L R base g cap m S n w.heap.size c A cp bf (.slice Af (clsS L c).length cf) w') => (st_bytes_any c hs.st).mono fun e w'' h2 => (show e = _ ∧ SM w a L R base g cap m S n w.heap.size c A cp bf (.slice Af (clsS L c).length cf) w'' from ⟨h2.1, h2.2 ▸ hs⟩))
      have C48 := Lib.hid (fun w' (hs : SM w a L R base g cap m S n w.heap.size c A cp bf (.slice Af (clsS L c).length cf) w') => (st_head c hs.st).mono fun e w'' h2 => (show e = _ ∧ SM w a L R base g cap m S n w.heap.size c A cp bf (.slice Af (clsS L c).length cf) w'' from ⟨h2.1, hs.next h2.2⟩))
      have CB := Lib.hid (fun w' (hs : SM w a L R base g cap m S n w.heap.size c A cp bf (.slice Af (clsS L c).length cf) w') => (C71.out c w' hs.rs).mono fun e w'' h2 => (show e = _ ∧ SM w a L R base g cap m S n w.heap.size c A cp bf (.slice Af (clsS L c).length cf) w'' from ⟨h2.1, hs.next h2.2⟩))
      generalize hll : (clsS L c).length = ll at *
      have HLL := Lib.hid hll
      clear hll
      go_upto_if 29 with (fail)
      go_cut [9] from 29 to 33 (fun s wc => s = .int .i64 (headS L c) ∧ w3 = wc)
      case first =>
        cases hx : (clsS L c)[0]? with
        | none =>
          have h0 : ll = 0 := by rw [← HLL.out]; have := List.getElem?_eq_none_iff.1 hx; omega
          have HE : Hid (headS L c = 0) := by rw [HHD.out, hx]; exact Lib.hid rfl
          subst h0
          clear hx
          go_wp2_with fail
          go_meet
          case rel => exact ⟨by rw [HE.out], rfl⟩
        | some x =>
          have h0 : 0 < ll := by rw [← HLL.out]; exact lt_of_some hx
          have HE : Hid (headS L c = lenP x) := by rw [HHD.out, hx]; exact Lib.hid rfl
          have hpx := HCP.out c x (List.mem_of_getElem? hx)
          have hrow := HM3.out.row
          obtain ⟨gg, rfl, hld⟩ := row_pkt hrow (HCP.out c) hx
          have hcl := laid_len hld hpx.len
          rw [Nat.zero_mul] at hcl
          have h0I : (0 : Int) < (ll : Int) := by omega
          generalize lenP x = nx at *
          clear hx hpx hrow hld
          go_wp2_with fail
          go_meet
          case rel => exact ⟨by rw [HE.out], rfl⟩
      case rest =>
        obtain ⟨rfl, rfl⟩ := hcut
        clear HHD
        generalize headS L c = hd at *
        go_wp2_with fail
        refine wp_region_cls (SM w a L R base g cap m S n w.heap.size c A cp bf (.slice Af ll cf)) (by kernel_rfl) (by kernel_rfl) (HM3.out.next (Below.refl _ _).drew) ?_
        refine wq_step (fun K hK => ?_)
        rw [if_pos (by rfl)]
        refine ⟨?_, fun w hSw => ?_, hK _ ?_⟩
        rotate_left
        · clear hSw
          go_simp
          try with_reducible rfl
        clear hK K
        try simp only [Act.put, List.setIfInBounds_toArray, List.set_cons_zero, List.set_cons_succ]
        refine wq_step (fun K hK => ?_)
        rw [if_pos (by rfl)]
        refine ⟨?_, fun w hSw => ?_, hK _ ?_⟩
        rotate_left
        · clear hSw
          go_simp
          try with_reducible rfl
        clear hK K
        try simp only [Act.put, List.setIfInBounds_toArray, List.set_cons_zero, List.set_cons_succ]
        refine wq_step (fun K hK => ?_)
        rw [if_pos (by rfl)]
        refine ⟨?_, fun w hSw => ?_, hK _ ?_⟩
        rotate_left
        · go_simp
          go_at_call 47
          with_reducible exact C47.out w hSw
        clear hK K
        try simp only [Act.put, List.setIfInBounds_toArray, List.set_cons_zero, List.set_cons_succ]
        refine wq_step (fun K hK => ?_)
        rw [if_pos (by rfl)]
        refine ⟨?_, fun w hSw => ?_, hK _ ?_⟩
        rotate_left
        · clear hSw
          go_simp
          try with_reducible rfl
        clear hK K
        try simp only [Act.put, List.setIfInBounds_toArray, List.set_cons_zero, List.set_cons_succ]
        refine wq_step (fun K hK => ?_)
        rw [if_pos (by rfl)]
        refine ⟨?_, fun w hSw => ?_, hK _ ?_⟩
        rotate_left
        · clear hSw
          go_simp
          try with_reducible rfl
        clear hK K
        try simp only [Act.put, List.setIfInBounds_toArray, List.set_cons_zero, List.set_cons_succ]
        refine wq_step (fun K hK => ?_)
        rw [if_pos (by rfl)]
        refine ⟨?_, fun w hSw => ?_, hK _ ?_⟩
        rotate_left
        · clear hSw
          go_simp
          try with_reducible rfl
        clear hK K
        try simp only [Act.put, List.setIfInBounds_toArray, List.set_cons_zero, List.set_cons_succ]
        refine wq_step (fun K hK => ?_)
        rw [if_pos (by rfl)]
        refine ⟨?_, fun w hSw => ?_, hK _ ?_⟩
        rotate_left
        · clear hSw
          go_simp
          try with_reducible rfl
        clear hK K
        try simp only [Act.put, List.setIfInBounds_toArray, List.set_cons_zero, List.set_cons_succ]
        refine wq_step (fun K hK => ?_)
        rw [if_pos (by rfl)]
        refine ⟨?_, fun w hSw => ?_, hK _ ?_⟩
        rotate_left
        · clear hSw
          go_simp
          try with_reducible rfl
        clear hK K
        try simp only [Act.put, List.setIfInBounds_toArray, List.set_cons_zero, List.set_cons_succ]
        refine wq_step (fun K hK => ?_)
        rw [if_pos (by rfl)]
        refine ⟨?_, fun w hSw => ?_, hK _ ?_⟩
        rotate_left
        · clear hSw
          go_simp
          try with_reducible rfl
        clear hK K
        try simp only [Act.put, List.setIfInBounds_toArray, List.set_cons_zero, List.set_cons_succ]
        refine wq_step (fun K hK => ?_)
        rw [if_pos (by rfl)]
        refine ⟨?_, fun w hSw => ?_, hK _ ?_⟩
        rotate_left
        · go_simp
          go_at_call 46
          with_reducible exact C46.out w hSw
        clear hK K
        try simp only [Act.put, List.setIfInBounds_toArray, List.set_cons_zero, List.set_cons_succ]
        refine wq_step (fun K hK => ?_)
        rw [if_pos (by rfl)]
        refine ⟨?_, fun w hSw => ?_, hK _ ?_⟩
        rotate_left
        · obtain ⟨c0, c1⟩ := hSw.facts
          go_simp
          try with_reducible rfl
        clear hK K
        try simp only [Act.put, List.setIfInBounds_toArray, List.set_cons_zero, List.set_cons_succ]
        refine wq_step (fun K hK => ?_)
        rw [if_pos (by rfl)]
        refine ⟨?_, fun w hSw => ?_, hK _ ?_⟩
        rotate_left
        · clear hSw
          go_simp
          try with_reducible rfl
        clear hK K
        try simp only [Act.put, List.setIfInBounds_toArray, List.set_cons_zero, List.set_cons_succ]
        refine wq_step (fun K hK => ?_)
        rw [if_pos (by rfl)]
        refine ⟨?_, fun w hSw => ?_, hK _ ?_⟩
        rotate_left
        · go_simp
          go_at_call 71
          with_reducible exact CB.out w hSw
        clear hK K
        try simp only [Act.put, List.setIfInBounds_toArray, List.set_cons_zero, List.set_cons_succ]
        refine wq_step (fun K hK => ?_)
        rw [if_pos (by rfl)]
        refine ⟨?_, fun w hSw => ?_, hK _ ?_⟩
        rotate_left
        · clear hSw
          go_simp
          try with_reducible rfl
        clear hK K
        try simp only [Act.put, List.setIfInBounds_toArray, List.set_cons_zero, List.set_cons_succ]
        refine wq_step (fun K hK => ?_)
        rw [if_pos (by rfl)]
        refine ⟨?_, fun w hSw => ?_, hK _ ?_⟩
        rotate_left
        · clear hSw
          go_simp
          try with_reducible rfl
        clear hK K
        try simp only [Act.put, List.setIfInBounds_toArray, List.set_cons_zero, List.set_cons_succ]
        refine wq_step (fun K hK => ?_)
        rw [if_pos (by rfl)]
        refine ⟨?_, fun w hSw => ?_, hK _ ?_⟩
        rotate_left
        · clear hSw
          go_simp
          try with_reducible rfl
        clear hK K
        try simp only [Act.put, List.setIfInBounds_toArray, List.set_cons_zero, List.set_cons_succ]
        refine wq_step (fun K hK => ?_)
        rw [if_pos (by rfl)]
        refine ⟨?_, fun w hSw => ?_, hK _ ?_⟩
        rotate_left
        · clear hSw
          go_simp
          try with_reducible rfl
        clear hK K
        try simp only [Act.put, List.setIfInBounds_toArray, List.set_cons_zero, List.set_cons_succ]
        refine wq_step (fun K hK => ?_)
        rw [if_pos (by rfl)]
        refine ⟨?_, fun w hSw => ?_, hK _ ?_⟩
        rotate_left
        · clear hSw
          go_simp
          try with_reducible rfl
        clear hK K
        try simp only [Act.put, List.setIfInBounds_toArray, List.set_cons_zero, List.set_cons_succ]
        refine wq_step (fun K hK => ?_)
        rw [if_pos (by rfl)]
        refine ⟨?_, fun w hSw => ?_, hK _ ?_⟩
        rotate_left
        · go_simp
          go_at_call 48
          with_reducible exact C48.out w hSw
        clear hK K
        try simp only [Act.put, List.setIfInBounds_toArray, List.set_cons_zero, List.set_cons_succ]
        refine wq_step (fun K hK => ?_)
        rw [if_pos (by rfl)]
        refine ⟨?_, fun w hSw => ?_, hK _ ?_⟩
        rotate_left
        · clear hSw
          go_simp
          try with_reducible rfl
        clear hK K
        try simp only [Act.put, List.setIfInBounds_toArray, List.set_cons_zero, List.set_cons_succ]
        refine wq_step (fun K hK => ?_)
        rw [if_pos (by rfl)]
        refine ⟨?_, fun w hSw => ?_, hK _ ?_⟩
        rotate_left
        · clear hSw
          go_simp
          try with_reducible rfl
        clear hK K
        try simp only [Act.put, List.setIfInBounds_toArray, List.set_cons_zero, List.set_cons_succ]
        refine wq_step (fun K hK => ?_)
        rw [if_pos (by rfl)]
        refine ⟨?_, fun w hSw => ?_, hK _ ?_⟩
        rotate_left
        · clear hSw
          go_simp
          try with_reducible rfl
        clear hK K
        try simp only [Act.put, List.setIfInBounds_toArray, List.set_cons_zero, List.set_cons_succ]
        refine wq_step (fun K hK => ?_)
        rw [if_pos (by rfl)]
        refine ⟨?_, fun w hSw => ?_, hK _ ?_⟩
        rotate_left
        · clear hSw
          go_simp
          try with_reducible rfl
        clear hK K
        try simp only [Act.put, List.setIfInBounds_toArray, List.set_cons_zero, List.set_cons_succ]
        refine wq_step (fun K hK => ?_)
        rw [if_pos (by rfl)]
        refine ⟨?_, fun w hSw => ?_, hK _ ?_⟩
        rotate_left
        · clear hSw
          go_simp
          try with_reducible rfl
        clear hK K
        try simp only [Act.put, List.setIfInBounds_toArray, List.set_cons_zero, List.set_cons_succ]
        refine wq_step (fun K hK => ?_)
        rw [if_pos (by rfl)]
        refine ⟨?_, fun w hSw => ?_, hK _ ?_⟩
        rotate_left
        · clear hSw
          go_simp
          try with_reducible rfl
        clear hK K
        try simp only [Act.put, List.setIfInBounds_toArray, List.set_cons_zero, List.set_cons_succ]
        refine wq_step (fun K hK => ?_)
        rw [if_pos (by rfl)]
        refine ⟨?_, fun w hSw => ?_, hK _ ?_⟩
        rotate_left
        · clear hSw
          go_simp
          try with_reducible rfl
        clear hK K
        try simp only [Act.put, List.setIfInBounds_toArray, List.set_cons_zero, List.set_cons_succ]
        refine wq_step (fun K hK => ?_)
        rw [if_pos (by rfl)]
        refine ⟨?_, fun w hSw => ?_, hK _ ?_⟩
        rotate_left
        · clear hSw
          go_simp
          try with_reducible rfl
        clear hK K
        try simp only [Act.put, List.setIfInBounds_toArray, List.set_cons_zero, List.set_cons_succ]
        refine wq_step (fun K hK => ?_)
        rw [if_pos (by rfl)]
        refine ⟨?_, fun w hSw => ?_, hK _ ?_⟩
        rotate_left
        · clear hSw
          go_simp
          try with_reducible rfl
        clear hK K
        try simp only [Act.put, List.setIfInBounds_toArray, List.set_cons_zero, List.set_cons_succ]
        refine wq_step (fun K hK => ?_)
        rw [if_pos (by rfl)]
        refine ⟨?_, fun w hSw => ?_, hK _ ?_⟩
        rotate_left
        · clear hSw
          go_simp
          try with_reducible rfl
        clear hK K
        try simp only [Act.put, List.setIfInBounds_toArray, List.set_cons_zero, List.set_cons_succ]
        refine wq_nil ?_
        intro w9 hHeld
        have H9 := Lib.hid hHeld
        clear hHeld C46 C47 C48 CB HM3
        go_wp2_with fail
        go_loopw [11] (fun t wq => ∃ k : Int, -1 ≤ k ∧ k ≤ (ll : Int) + 1 ∧ t = .int .i64 k ∧ SM w a L R base g cap m S n w.heap.size c A cp bf (.slice Af ll cf) wq) (fun t _ => ((ll : Int) + 1 - intOf t).toNat)
        case atStart => exact ⟨-1, by omega, by omega, rfl, H9.out⟩
        case round =>
          obtain ⟨k, hk0, hk1, rfl, hSM⟩ := hrel
          have H10 := Lib.hid hSM
          clear hSM H9
          by_cases hkl : k ≤ (ll : Int)
          · have dk : decide (k ≤ (ll : Int)) = true := decide_eq_true hkl
            have hwk : IntKind.i64.wrap (k + 1) = k + 1 := IntWalk.i64_in _ (by omega)
            have CA := Lib.hid (st_at c k H10.out.st)
            have CR := Lib.hid (fun w' (hs : SM w a L R base g cap m S n w.heap.size c A cp bf (.slice Af ll cf) w') => C52.out c k w' hs.rs (by omega))
            have hcase : (atS L c k = none) ∨ (∃ (k' : Nat) (x : Array Value), k = k' ∧ (clsS L c)[k']? = some x ∧ atS L c k = some x ∧ PF x) := by
              rcases atS_cases L c k with ⟨c', k', l, x, rfl, rfl, hl, hx, he⟩ | ⟨he, _⟩
              · have := clsS_at (L := L) c' k'
                rw [he] at this
                exact .inr ⟨k', x, rfl, this.symm, he, HCP.out _ x (List.mem_of_getElem? this.symm)⟩
              · exact .inl he
            rcases hcase with he | ⟨k, x, rfl, hx, he, hpx⟩
            · rw [he] at CA CR
              simp only [Option.getD_none, Option.isSome_none] at CA CR
              obtain ⟨pz, hpz1, hpz2, hpz3⟩ : ∃ pz : Array Value, Pk pz ∧ Flat Try.prog 79 pz ∧ PZ = pz := ⟨PZ, pk_zero, pz_flat, rfl⟩
              rw [hpz3] at CA CR
              have HPK := Lib.hid hpz1
              have HFL := Lib.hid hpz2
              clear hpz1 hpz2 hpz3
              go_wp2_with fail
              refine CA.out.mono ?_
              rintro e w4 ⟨rfl, hB4⟩
              have H11 := Lib.hid (H10.out.next hB4)
              clear hB4 H10 CA
              go_upto_region 14 with (first
                | ((with_reducible refine arm_alloc 12 79 PZ 46 pz_zero ?_); intro w5 HB5 HX5 HS5; have hst := pkt_store HX5.out HPK.out)
                | ((with_reducible refine arm_store 12 74 79 (.pointer (some ⟨w4.heap.size, 0, none⟩)) (.agg pz) _ hst ?_ ?_ ?_); rfl; rfl))
              have hbx := box_whole HX5.out (cs := pz) HPK.out.size
              have hB6 := below_setCells (b := w4.heap.size) (Nat.le_refl _) pz.toList 0 HB5.out
              have H12 := Lib.hid (H11.out.next hB6)
              have HX12 := Lib.hid hbx
              obtain ⟨c0, c1⟩ := H12.out.facts
              clear hst hbx hB6 HB5 HX5 HS5 H11
              generalize w5.setCells w4.heap.size 0 pz.toList = w6 at *
              generalize w4.heap.size = b12 at *
              go_wp2_with fail
              refine (CR.out _ H12.out).mono ?_
              rintro e w7 ⟨rfl, hB7⟩
              have H13 := Lib.hid (H12.out.next hB7)
              have HX13 := Lib.hid (keep_block hB7 HX12.out)
              clear c0 c1 hB7 H12 HX12 CR
              go_upto_region 15 with (first
                | ((with_reducible refine arm_alloc 14 79 PZ 46 pz_zero ?_); intro w8 HB8 HX8 HS8; have hst := pkt_store HX8.out HPK.out)
                | ((with_reducible refine arm_store 14 81 79 (.pointer (some ⟨w7.heap.size, 0, none⟩)) (.agg pz) _ hst ?_ ?_ ?_); rfl; rfl))
              have hbx := box_whole HX8.out (cs := pz) HPK.out.size
              have hB9 := below_setCells (b := w7.heap.size) (Nat.le_refl _) pz.toList 0 HB8.out
              have hsm := H13.out.next hB9
              have h12 := keep_block hB9 HX13.out
              clear hst hB9 HB8 HX8 HS8 H13 HX13
              generalize w8.setCells w7.heap.size 0 pz.toList = w9 at *
              generalize w7.heap.size = b14 at *
              have hSQ : SQ w a L R base g cap m S n w.heap.size c A cp bf (.slice Af ll cf) b12 b14 pz w9.drew := ⟨hsm.next (Below.refl _ _).drew, h12, hbx⟩
              clear hsm h12 hbx
              refine wp_region_cls (SQ w a L R base g cap m S n w.heap.size c A cp bf (.slice Af ll cf) b12 b14 pz) (by kernel_rfl) (by kernel_rfl) hSQ ?_
              refine wq_step (fun K hK => ?_)
              rw [if_pos (by rfl)]
              refine ⟨(.agg pz), fun w hSw => quietAt_by (exec_load rfl (pkt_load hSw.box12 HPK.out)), hK _ ?_⟩
              clear hK K
              try simp only [Act.put, List.setIfInBounds_toArray, List.set_cons_zero, List.set_cons_succ]
              refine wq_step (fun K hK => ?_)
              rw [if_pos (by rfl)]
              refine ⟨(.agg pz), fun w hSw => quietAt_by (exec_load rfl (pkt_load hSw.box14 HPK.out)), hK _ ?_⟩
              clear hK K
              try simp only [Act.put, List.setIfInBounds_toArray, List.set_cons_zero, List.set_cons_succ]
              refine wq_step (fun K hK => ?_)
              rw [if_pos (by rfl)]
              refine ⟨(.bool false), fun w hSw => quietAt_by (exec_neq_self rfl rfl HFL.out), hK _ ?_⟩
              clear hK K
              try simp only [Act.put, List.setIfInBounds_toArray, List.set_cons_zero, List.set_cons_succ]
              refine wq_step (fun K hK => ?_)
              rw [if_pos (by rfl)]
              refine ⟨?_, fun w hSw => ?_, hK _ ?_⟩
              rotate_left
              · clear hSw
                go_simp
                try with_reducible rfl
              clear hK K
              try simp only [Act.put, List.setIfInBounds_toArray, List.set_cons_zero, List.set_cons_succ]
              refine wq_step (fun K hK => ?_)
              rw [if_pos (by rfl)]
              refine ⟨?_, fun w hSw => ?_, hK _ ?_⟩
              rotate_left
              · clear hSw
                go_simp
                try with_reducible rfl
              clear hK K
              try simp only [Act.put, List.setIfInBounds_toArray, List.set_cons_zero, List.set_cons_succ]
              refine wq_step (fun K hK => ?_)
              rw [if_pos (by rfl)]
              refine ⟨?_, fun w hSw => ?_, hK _ ?_⟩
              rotate_left
              · clear hSw
                go_simp
                try with_reducible rfl
              clear hK K
              try simp only [Act.put, List.setIfInBounds_toArray, List.set_cons_zero, List.set_cons_succ]
              refine wq_step (fun K hK => ?_)
              rw [if_pos (by rfl)]
              refine ⟨?_, fun w hSw => ?_, hK _ ?_⟩
              rotate_left
              · clear hSw
                go_simp
                try with_reducible rfl
              clear hK K
              try simp only [Act.put, List.setIfInBounds_toArray, List.set_cons_zero, List.set_cons_succ]
              refine wq_step (fun K hK => ?_)
              rw [if_pos (by rfl)]
              refine ⟨?_, fun w hSw => ?_, hK _ ?_⟩
              rotate_left
              · clear hSw
                go_simp
                try with_reducible rfl
              clear hK K
              try simp only [Act.put, List.setIfInBounds_toArray, List.set_cons_zero, List.set_cons_succ]
              refine wq_step (fun K hK => ?_)
              rw [if_pos (by rfl)]
              refine ⟨?_, fun w hSw => ?_, hK _ ?_⟩
              rotate_left
              · clear hSw
                go_simp
                try with_reducible rfl
              clear hK K
              try simp only [Act.put, List.setIfInBounds_toArray, List.set_cons_zero, List.set_cons_succ]
              refine wq_step (fun K hK => ?_)
              rw [if_pos (by rfl)]
              refine ⟨?_, fun w hSw => ?_, hK _ ?_⟩
              rotate_left
              · clear hSw
                go_simp
                try with_reducible rfl
              clear hK K
              try simp only [Act.put, List.setIfInBounds_toArray, List.set_cons_zero, List.set_cons_succ]
              refine wq_step (fun K hK => ?_)
              rw [if_pos (by rfl)]
              refine ⟨?_, fun w hSw => ?_, hK _ ?_⟩
              rotate_left
              · clear hSw
                go_simp
                try with_reducible rfl
              clear hK K
              try simp only [Act.put, List.setIfInBounds_toArray, List.set_cons_zero, List.set_cons_succ]
              refine wq_step (fun K hK => ?_)
              rw [if_neg (Bool.eq_false_iff.1 (by rfl))]
              refine hK _ ?_
              clear hK K
              try simp only [Act.put, List.setIfInBounds_toArray, List.set_cons_zero, List.set_cons_succ]
              refine wq_step (fun K hK => ?_)
              rw [if_neg (Bool.eq_false_iff.1 (by rfl))]
              refine hK _ ?_
              clear hK K
              try simp only [Act.put, List.setIfInBounds_toArray, List.set_cons_zero, List.set_cons_succ]
              refine wq_step (fun K hK => ?_)
              rw [if_neg (Bool.eq_false_iff.1 (by rfl))]
              refine hK _ ?_
              clear hK K
              try simp only [Act.put, List.setIfInBounds_toArray, List.set_cons_zero, List.set_cons_succ]
              refine wq_step (fun K hK => ?_)
              rw [if_neg (Bool.eq_false_iff.1 (by rfl))]
              refine hK _ ?_
              clear hK K
              try simp only [Act.put, List.setIfInBounds_toArray, List.set_cons_zero, List.set_cons_succ]
              refine wq_step (fun K hK => ?_)
              rw [if_neg (Bool.eq_false_iff.1 (by rfl))]
              refine hK _ ?_
              clear hK K
              try simp only [Act.put, List.setIfInBounds_toArray, List.set_cons_zero, List.set_cons_succ]
              refine wq_step (fun K hK => ?_)
              rw [if_neg (Bool.eq_false_iff.1 (by rfl))]
              refine hK _ ?_
              clear hK K
              try simp only [Act.put, List.setIfInBounds_toArray, List.set_cons_zero, List.set_cons_succ]
              refine wq_step (fun K hK => ?_)
              rw [if_neg (Bool.eq_false_iff.1 (by rfl))]
              refine hK _ ?_
              clear hK K
              try simp only [Act.put, List.setIfInBounds_toArray, List.set_cons_zero, List.set_cons_succ]
              refine wq_step (fun K hK => ?_)
              rw [if_pos (by rfl)]
              refine ⟨?_, fun w hSw => ?_, hK _ ?_⟩
              rotate_left
              · clear hSw
                go_simp
                try with_reducible rfl
              clear hK K
              try simp only [Act.put, List.setIfInBounds_toArray, List.set_cons_zero, List.set_cons_succ]
              refine wq_step (fun K hK => ?_)
              rw [if_pos (by rfl)]
              refine ⟨?_, fun w hSw => ?_, hK _ ?_⟩
              rotate_left
              · clear hSw
                go_simp
                try with_reducible rfl
              clear hK K
              try simp only [Act.put, List.setIfInBounds_toArray, List.set_cons_zero, List.set_cons_succ]
              refine wq_nil ?_
              intro w9 hHeld
              have H20 := Lib.hid hHeld.sm
              clear hHeld hSQ
              go_wp2_with fail
              go_roundw
              case rel => exact ⟨k + 1, by omega, by omega, by go_num, H20.out⟩
              case measure => simp [intOf]; omega
            · rw [he] at CA CR
              have HPX := Lib.hid hpx
              have HXX := Lib.hid hx
              have hkl2 : k < ll := by rw [← HLL.out]; exact lt_of_some hx
              obtain ⟨gf, cpf, hvf, _, _⟩ := H10.out.fl.form (by have := HLL.out; omega)
              injection hvf with hvf1 hvf2 hvf3
              subst hvf1
              have hkI : (k : Int) < (ll : Int) := by omega
              clear hpx hx hvf2 hvf3
              simp only [Option.getD_some, Option.isSome_some] at CA CR
              go_wp2_with fail
              refine CA.out.mono ?_
              rintro e w4 ⟨rfl, hB4⟩
              have H11 := Lib.hid (H10.out.next hB4)
              clear hB4 H10 CA
              go_upto_region 14 with (first
                | ((with_reducible refine arm_alloc 12 79 PZ 46 pz_zero ?_); intro w5 HB5 HX5 HS5; have hst := pkt_store HX5.out HPX.out.pk)
                | ((with_reducible refine arm_store 12 74 79 (.pointer (some ⟨w4.heap.size, 0, none⟩)) (.agg x) _ hst ?_ ?_ ?_); rfl; rfl))
              have hbx := box_whole HX5.out (cs := x) HPX.out.pk.size
              have hB6 := below_setCells (b := w4.heap.size) (Nat.le_refl _) x.toList 0 HB5.out
              have H12 := Lib.hid (H11.out.next hB6)
              have HX12 := Lib.hid hbx
              obtain ⟨c0, c1⟩ := H12.out.facts
              clear hst hbx hB6 HB5 HX5 HS5 H11
              generalize w5.setCells w4.heap.size 0 x.toList = w6 at *
              generalize w4.heap.size = b12 at *
              go_wp2_with fail
              refine (CR.out _ H12.out).mono ?_
              rintro e w7 ⟨rfl, hB7⟩
              have H13 := Lib.hid (H12.out.next hB7)
              have HX13 := Lib.hid (keep_block hB7 HX12.out)
              clear c0 c1 hB7 H12 HX12 CR
              go_upto_region 15 with (first
                | ((with_reducible refine arm_alloc 14 79 PZ 46 pz_zero ?_); intro w8 HB8 HX8 HS8; have hst := pkt_store HX8.out HPX.out.pk)
                | ((with_reducible refine arm_store 14 81 79 (.pointer (some ⟨w7.heap.size, 0, none⟩)) (.agg x) _ hst ?_ ?_ ?_); rfl; rfl))
              have hbx := box_whole HX8.out (cs := x) HPX.out.pk.size
              have hB9 := below_setCells (b := w7.heap.size) (Nat.le_refl _) x.toList 0 HB8.out
              have hsm := H13.out.next hB9
              have h12 := keep_block hB9 HX13.out
              clear hst hB9 HB8 HX8 HS8 H13 HX13
              generalize w8.setCells w7.heap.size 0 x.toList = w9 at *
              generalize w7.heap.size = b14 at *
              have hSQ : SQ w a L R base g cap m S n w.heap.size c A cp bf (.slice (some ⟨gf, 0, none⟩) ll cf) b12 b14 x w9.drew := ⟨hsm.next (Below.refl _ _).drew, h12, hbx⟩
              clear hsm h12 hbx
              refine wp_region_cls (SQ w a L R base g cap m S n w.heap.size c A cp bf (.slice (some ⟨gf, 0, none⟩) ll cf) b12 b14 x) (by kernel_rfl) (by kernel_rfl) hSQ ?_
              refine wq_step (fun K hK => ?_)
              rw [if_pos (by rfl)]
              refine ⟨(.agg x), fun w hSw => quietAt_by (exec_load rfl (pkt_load hSw.box12 HPX.out.pk)), hK _ ?_⟩
              clear hK K
              try simp only [Act.put, List.setIfInBounds_toArray, List.set_cons_zero, List.set_cons_succ]
              refine wq_step (fun K hK => ?_)
              rw [if_pos (by rfl)]
              refine ⟨(.agg x), fun w hSw => quietAt_by (exec_load rfl (pkt_load hSw.box14 HPX.out.pk)), hK _ ?_⟩
              clear hK K
              try simp only [Act.put, List.setIfInBounds_toArray, List.set_cons_zero, List.set_cons_succ]
              refine wq_step (fun K hK => ?_)
              rw [if_pos (by rfl)]
              refine ⟨(.bool false), fun w hSw => quietAt_by (exec_neq_self rfl rfl HPX.out.flat), hK _ ?_⟩
              clear hK K
              try simp only [Act.put, List.setIfInBounds_toArray, List.set_cons_zero, List.set_cons_succ]
              refine wq_step (fun K hK => ?_)
              rw [if_pos (by rfl)]
              refine ⟨?_, fun w hSw => ?_, hK _ ?_⟩
              rotate_left
              · clear hSw
                go_simp
                try with_reducible rfl
              clear hK K
              try simp only [Act.put, List.setIfInBounds_toArray, List.set_cons_zero, List.set_cons_succ]
              refine wq_step (fun K hK => ?_)
              rw [if_pos (by rfl)]
              refine ⟨?_, fun w hSw => ?_, hK _ ?_⟩
              rotate_left
              · clear hSw
                go_simp
                try with_reducible rfl
              clear hK K
              try simp only [Act.put, List.setIfInBounds_toArray, List.set_cons_zero, List.set_cons_succ]
              refine wq_step (fun K hK => ?_)
              rw [if_pos (by rfl)]
              refine ⟨?_, fun w hSw => ?_, hK _ ?_⟩
              rotate_left
              · clear hSw
                go_simp
                try with_reducible rfl
              clear hK K
              try simp only [Act.put, List.setIfInBounds_toArray, List.set_cons_zero, List.set_cons_succ]
              refine wq_step (fun K hK => ?_)
              rw [if_pos (by rfl)]
              refine ⟨?_, fun w hSw => ?_, hK _ ?_⟩
              rotate_left
              · clear hSw
                go_simp
                try with_reducible rfl
              clear hK K
              try simp only [Act.put, List.setIfInBounds_toArray, List.set_cons_zero, List.set_cons_succ]
              refine wq_step (fun K hK => ?_)
              rw [if_pos (by rfl)]
              refine ⟨?_, fun w hSw => ?_, hK _ ?_⟩
              rotate_left
              · clear hSw
                go_simp
                try with_reducible rfl
              clear hK K
              try simp only [Act.put, List.setIfInBounds_toArray, List.set_cons_zero, List.set_cons_succ]
              refine wq_step (fun K hK => ?_)
              rw [if_pos (by rfl)]
              refine ⟨?_, fun w hSw => ?_, hK _ ?_⟩
              rotate_left
              · clear hSw
                go_simp
                try with_reducible rfl
              clear hK K
              try simp only [Act.put, List.setIfInBounds_toArray, List.set_cons_zero, List.set_cons_succ]
              refine wq_step (fun K hK => ?_)
              rw [if_pos (by rfl)]
              refine ⟨?_, fun w hSw => ?_, hK _ ?_⟩
              rotate_left
              · clear hSw
                go_simp
                try with_reducible rfl
              clear hK K
              try simp only [Act.put, List.setIfInBounds_toArray, List.set_cons_zero, List.set_cons_succ]
              refine wq_step (fun K hK => ?_)
              rw [if_pos (by rfl)]
              refine ⟨?_, fun w hSw => ?_, hK _ ?_⟩
              rotate_left
              · clear hSw
                go_simp
                try with_reducible rfl
              clear hK K
              try simp only [Act.put, List.setIfInBounds_toArray, List.set_cons_zero, List.set_cons_succ]
              refine wq_step (fun K hK => ?_)
              rw [if_pos (by rfl)]
              refine ⟨?_, fun w hSw => ?_, hK _ ?_⟩
              rotate_left
              · clear hSw
                go_simp
                try with_reducible rfl
              clear hK K
              try simp only [Act.put, List.setIfInBounds_toArray, List.set_cons_zero, List.set_cons_succ]
              refine wq_step (fun K hK => ?_)
              rw [if_pos (by rfl)]
              refine ⟨?_, fun w hSw => ?_, hK _ ?_⟩
              rotate_left
              · clear hSw
                go_simp
                try with_reducible rfl
              clear hK K
              try simp only [Act.put, List.setIfInBounds_toArray, List.set_cons_zero, List.set_cons_succ]
              refine wq_step (fun K hK => ?_)
              rw [if_pos (by rfl)]
              refine ⟨?_, fun w hSw => ?_, hK _ ?_⟩
              rotate_left
              · clear hSw
                go_simp
                try with_reducible rfl
              clear hK K
              try simp only [Act.put, List.setIfInBounds_toArray, List.set_cons_zero, List.set_cons_succ]
              refine wq_step (fun K hK => ?_)
              rw [if_pos (by rfl)]
              refine ⟨(.agg (flowA x)), fun w hSw => quietAt_by (exec_load rfl (flow_row (hSw.sm.fl' HLL.out) (fun y hy => (HCP.out c y hy).pk) HLL.out HXX.out)), hK _ ?_⟩
              clear hK K
              try simp only [Act.put, List.setIfInBounds_toArray, List.set_cons_zero, List.set_cons_succ]
              refine wq_step (fun K hK => ?_)
              rw [if_pos (by rfl)]
              refine ⟨?_, fun w hSw => ?_, hK _ ?_⟩
              rotate_left
              · clear hSw
                go_simp
                try with_reducible rfl
              clear hK K
              try simp only [Act.put, List.setIfInBounds_toArray, List.set_cons_zero, List.set_cons_succ]
              refine wq_step (fun K hK => ?_)
              rw [if_pos (by rfl)]
              refine ⟨(.agg (flowA x)), fun w hSw => quietAt_by (exec_load rfl (flow_load hSw.box14 HPX.out.pk)), hK _ ?_⟩
              clear hK K
              try simp only [Act.put, List.setIfInBounds_toArray, List.set_cons_zero, List.set_cons_succ]
              refine wq_step (fun K hK => ?_)
              rw [if_pos (by rfl)]
              refine ⟨(.bool false), fun w hSw => quietAt_by (exec_neqf_self rfl rfl (flow_flat HPX.out.flat)), hK _ ?_⟩
              clear hK K
              try simp only [Act.put, List.setIfInBounds_toArray, List.set_cons_zero, List.set_cons_succ]
              refine wq_step (fun K hK => ?_)
              rw [if_pos (by rfl)]
              refine ⟨?_, fun w hSw => ?_, hK _ ?_⟩
              rotate_left
              · clear hSw
                go_simp
                try with_reducible rfl
              clear hK K
              try simp only [Act.put, List.setIfInBounds_toArray, List.set_cons_zero, List.set_cons_succ]
              refine wq_step (fun K hK => ?_)
              rw [if_pos (by rfl)]
              refine ⟨?_, fun w hSw => ?_, hK _ ?_⟩
              rotate_left
              · clear hSw
                go_simp
                try with_reducible rfl
              clear hK K
              try simp only [Act.put, List.setIfInBounds_toArray, List.set_cons_zero, List.set_cons_succ]
              refine wq_nil ?_
              intro w9 hHeld
              have H20 := Lib.hid hHeld.sm
              clear hHeld hSQ
              go_wp2_with fail
              go_roundw
              case rel => exact ⟨k + 1, by omega, by omega, by go_num, H20.out⟩
              case measure => simp [intOf]; omega
          · have dk : decide (k ≤ (ll : Int)) = false := decide_eq_false hkl
            go_wp2_with fail
            go_roundw
            case rel => exact ⟨c + 1, by omega, by omega, by go_num, H10.out.sn⟩
            case measure => simp [intOf]; omega
    · have dc : decide (c ≤ most) = false := decide_eq_false hcm
      go_wp2_with fail
      go_ret
      exact ⟨rfl, H1.out.below⟩
end Go.Proofs.Ytgcfiiidhihkaaa.C
