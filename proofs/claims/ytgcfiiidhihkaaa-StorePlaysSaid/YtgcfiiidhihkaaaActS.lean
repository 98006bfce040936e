/- StorePlays: the acts that came in; where the law stands; the ways ahead of its loop. -/
import Derived.Test.YtgcfiiidhihkaaaSame25
import Derived.Test.YtgcfiiidhihkaaaPkA
import Derived.Test.YtgcfiiidhihkaaaStoA
namespace Go.Proofs.Ytgcfiiidhihkaaa.C
open Go.RowKit Go.ChangeShapes Go.WideShapes
set_option linter.unusedVariables false
theorem acts_type : FlatType Try.prog 5 93 = true := by kernel_rfl
theorem acts_cells : Try.prog.cellsOf 93 = 49 := by kernel_rfl
theorem acts_size : (Try.prog.info? 93).map (·.size) = some 49 := by kernel_rfl
theorem acts_shape0 : (shapeOf Try.prog 5 93)[0]? = some (.int .u8 0) := by kernel_rfl
theorem acts_shape1 : (shapeOf Try.prog 5 93)[1]? = some (.int .i8 0) := by kernel_rfl
theorem acts_shape2 : (shapeOf Try.prog 5 93)[2]? = some (.int .i16 0) := by kernel_rfl
theorem acts_shape48 : (shapeOf Try.prog 5 93)[48]? = some (.int .i64 0) := by kernel_rfl
theorem acts_desc : ∃ d, Try.prog.underlying 93 = some d ∧ d.isRow = true := ⟨_, Try.underlying93, rfl⟩
/-- The act of noughts. -/
def AZ : Array Value := #[.int .u8 0, .int .i8 0, .int .i16 0] ++ PZ
theorem az_zero : (Try.prog.info? 93).map (fun i => (i.zero, i.size)) = some (some (.agg AZ), 49) := by kernel_rfl
theorem az_size : AZ.size = 49 := by kernel_rfl
/-- An act: its cells, its packet. -/
def pktA (y : Array Value) : Array Value := y.extract 3 49
structure AkS (y : Array Value) (kd : Nat) (cl nn pl : Int) : Prop where
  size : y.size = 49
  one : y.all (·.oneCell') = true
  c0 : y[0]? = some (.int .u8 (kd : Nat))
  c1 : y[1]? = some (.int .i8 cl)
  c2 : y[2]? = some (.int .i16 nn)
  pk : PkL (pktA y) pl
  fl : Flat Try.prog 79 (pktA y)
  r0 : kd ≤ 255
  r1 : -128 ≤ cl ∧ cl ≤ 127
  r2 : -32768 ≤ nn ∧ nn ≤ 32767
set_option maxRecDepth 100000 in
theorem aks_of {y : Array Value} (hf : Flat Try.prog 93 y) (hs : Fits (shapeOf Try.prog 5 93) y.toList) : ∃ (kd : Nat) (cl nn pl : Int), AkS y kd cl nn pl := by
  have h1 := hf.size
  rw [acts_cells] at h1
  obtain ⟨v0, hv0, hf0⟩ := Fits.get 0 hs acts_shape0
  obtain ⟨v1, hv1, hf1⟩ := Fits.get 1 hs acts_shape1
  obtain ⟨v2, hv2, hf2⟩ := Fits.get 2 hs acts_shape2
  obtain ⟨v3, hv3, hf3⟩ := Fits.get 48 hs acts_shape48
  have hone : y.all (·.oneCell') = true := Array.all_eq_true_iff_forall_mem.2 fun v hv => fits_one hs v (by simpa using hv)
  have hpf : Flat Try.prog 79 (pktA y) := by
    obtain ⟨fs, hu, f, hm, e1, e2, e3⟩ : ∃ fs, Try.prog.underlying 93 = some (.struct fs) ∧ ∃ f, f ∈ fs.toList ∧ f.type = 79 ∧ f.offset = 3 ∧ Try.prog.cellsOf f.type = 46 :=
      ⟨_, Try.underlying93, _, List.mem_cons_of_mem _ (List.mem_cons_of_mem _ (List.mem_cons_of_mem _ (List.mem_cons_self ..))), by kernel_rfl, by kernel_rfl, by kernel_rfl⟩
    have := hf.field hu hm (by rw [e1]; kernel_rfl) (by rw [e2, e3, acts_cells]; omega)
    rw [e2, e3, e1] at this
    exact this
  match v0, hf0, v1, hf1, v2, hf2, v3, hf3 with
  | .int k0 n0, ⟨e0, w0⟩, .int k1 n1, ⟨e1, w1⟩, .int k2 n2, ⟨e2, w2⟩, .int k3 n3, ⟨e3, w3⟩ =>
    subst e0 e1 e2 e3
    have b0 := bounds_u8 w0
    obtain ⟨n0, rfl⟩ := Int.eq_ofNat_of_zero_le b0.1
    refine ⟨n0, n1, n2, n3, h1, hone, by simpa using hv0, by simpa using hv1, by simpa using hv2, ⟨⟨?_, ?_⟩, ?_⟩, hpf, by omega, bounds_i8 w1, bounds_i16 w2⟩
    · simp [pktA, h1]
    · refine Array.all_eq_true_iff_forall_mem.2 fun v hv => Array.all_eq_true_iff_forall_mem.1 hone v ?_
      obtain ⟨j, hj⟩ := Array.getElem?_of_mem hv
      unfold pktA at hj
      rw [Array.getElem?_extract] at hj
      split at hj
      · exact Array.mem_of_getElem? hj
      · cases hj
    · unfold pktA
      rw [Array.getElem?_extract, if_pos (by rw [h1]; decide)]
      simpa using hv3
/-- The acts that came in. -/
def ActsS (w : World) (a : Option Addr) (len : Nat) (F : Nat → Array Value) : Prop :=
  ∀ i, i < len → ∃ (x : Addr) (kd : Nat) (cl nn pl : Int), a = some x ∧ x.block < w.heap.size ∧ AkS (F i) kd cl nn pl ∧ Laid w (x.add (i * 49)) (F i)
set_option maxRecDepth 100000 in
theorem actsS_of {w : World} {a : Option Addr} {len cap : Nat} {F : Nat → Array Value} (h : FRow Try.prog 5 93 w a len cap F) : ActsS w a len F := by
  intro i hi
  obtain ⟨_, _, h0⟩ := h
  obtain ⟨x, hx, hb, hF⟩ := h0 (by omega)
  obtain ⟨hf, hs, hl⟩ := hF i hi
  rw [acts_cells] at hl
  obtain ⟨kd, cl, nn, pl, h1⟩ := aks_of hf hs
  exact ⟨x, kd, cl, nn, pl, hx, hb, h1, hl⟩
theorem laid_act {w : World} {p : Addr} {cs : Array Value} (h : Laid w p cs) (hs : cs.size = 49) : (Instr.loadAt 93 (.pointer (some p))).run Try.prog w = .ok (.agg cs) w := by
  have := run_load_laid (P := Try.prog) (t := 93) (by kernel_rfl) (by rw [acts_size, hs]) h
  simp only [Instr.loadAt, Instr.sureAddr, Sem.run_bind, Sem.run_pure, Result.andThen_ok, this]
theorem act_store {w : World} {b : Nat} {C y : Array Value} {t : TypeId} (h : w.heap[b]? = some (.cells C t (0, 0))) (hs : y.size = 49) (ho : y.all (·.oneCell') = true) (hC : C.size = 49) : (Instr.storeAt 93 (.pointer (some ⟨b, 0, none⟩)) (.agg y)).run Try.prog w = .ok () (w.setCells b 0 y.toList) :=
  run_storeAt_mid (P := Try.prog) w b 0 93 y (there_of_block h (by rw [hs, hC]; omega)) (by rw [acts_size, hs]) ho
theorem actp_load {w : World} {b : Nat} {y : Array Value} {t : TypeId} (h : w.heap[b]? = some (.cells y t (0, 0))) {kd : Nat} {cl nn pl : Int} (hy : AkS y kd cl nn pl) : (Instr.loadAt 79 (.pointer (some ⟨b, 3, none⟩))).run Try.prog w = .ok (.agg (pktA y)) w := by
  obtain ⟨d, hd1, hd2⟩ := pkt_desc
  have := run_loadAt_mid (P := Try.prog) w b 3 79 (pktA y).toList d (range_of_block h fun j v hv => by
    have hj := (List.getElem?_eq_some_iff.1 hv).1
    rw [Array.length_toList, hy.pk.pk.size] at hj
    rw [Array.getElem?_toList] at hv
    unfold pktA at hv
    rw [Array.getElem?_extract, if_pos (by rw [hy.size]; omega)] at hv
    exact hv) hd1 hd2 (by rw [pkt_size, Array.length_toList, hy.pk.pk.size])
  simpa using this
theorem act_cells {w : World} {b : Nat} {y : Array Value} {t : TypeId} (h : w.heap[b]? = some (.cells y t (0, 0))) {kd : Nat} {cl nn pl : Int} (hy : AkS y kd cl nn pl) : w.cell? ⟨b, 0, none⟩ = some (.int .u8 (kd : Nat)) ∧ w.cell? ⟨b, 1, none⟩ = some (.int .i8 cl) ∧ w.cell? ⟨b, 2, none⟩ = some (.int .i16 nn) := by
  rw [cell_of_row _ _ _ _ _ _ h, cell_of_row _ _ _ _ _ _ h, cell_of_row _ _ _ _ _ _ h]
  exact ⟨hy.c0, hy.c1, hy.c2⟩
section
variable {H : Type} {enc : TypeId × Value → H} {w : World} {base : Nat} {held : Bool}
theorem open_actsS {a : Option Addr} {len cap : Nat} {d : DataW H} {p : List MemPlace} (h : DataW.Trod enc Try.prog w base (fun _ => true) held 86 (.slice a len cap) d p) : (∃ F, ActsS w a len F) ∧ len ≤ 9223372036854775807 := by
  obtain ⟨F, hF⟩ := open_frow Try.underlying86 acts_type h (by rw [acts_cells]; decide)
  exact ⟨⟨F, actsS_of hF⟩, by obtain ⟨h1, h2, _⟩ := hF; simp only [maxLen] at h2; omega⟩
end
/-- Push at whatever numbers. -/
theorem st_push {w : World} {a : Adr} {L : List (List (Array Value))} {R : Nat} (c n : Int) (x : Array Value) (h : Sto w a L R) (hx : PkL x n) :
    Calls Try.prog 43 #[.pointer (some ⟨a.sb, 0, none⟩), .int .i64 c, .agg x] w fun e w' => e = .returned (.bool (okS L R c n)) ∧ Sto w' a (pushS L R c n x) R ∧ Amg a.bs w w' := by
  have hT : total L ≤ R := by obtain ⟨A, fl, Q, hS⟩ := h; exact hS.len.2.2
  by_cases ho : okS L R c n = true
  · unfold pushS
    rw [ho, if_pos rfl]
    unfold okS at ho
    rw [decide_eq_true_eq] at ho
    obtain ⟨h1, h2, h3, h4, h5⟩ := ho
    obtain ⟨c, rfl⟩ := Int.eq_ofNat_of_zero_le h1
    obtain ⟨l, hl⟩ : ∃ l, L[c]? = some l := ⟨_, List.getElem?_eq_getElem (by omega)⟩
    rw [Int.toNat_natCast, List.getD_eq_getElem?_getD, hl]
    exact push_yes c n x l h hx hl ⟨h4, h5⟩ h3
  · have ho' : okS L R c n = false := by simpa using ho
    unfold pushS
    rw [ho', if_neg (by simp)]
    unfold okS at ho'
    rw [decide_eq_false_iff_not] at ho'
    have hb : Calls Try.prog 43 #[.pointer (some ⟨a.sb, 0, none⟩), .int .i64 c, .agg x] w fun e w' => e = .returned (.bool false) ∧ Below w.heap.size w w' := by
      by_cases hc : 0 ≤ c ∧ c < L.length
      · by_cases hn : 1 ≤ n ∧ n ≤ 9216
        · exact push_full c n x h hx hc hn (by omega)
        · exact push_no c n x h hx (.inr ⟨hc, by omega⟩)
      · exact push_no c n x h hx (.inl hc)
    exact hb.mono fun e w' ⟨h1, h2⟩ => ⟨h1, h.below h2, Amg.of_below h2⟩
theorem chain_new_no (n m : Int) (w : World) (h : n < 1 ∨ (1 ≤ n ∧ 129 < n) ∨ (1 ≤ n ∧ n ≤ 129 ∧ 1 ≤ m ∧ 4096 < m)) :
    Calls Try.prog 27 #[.int .i64 n, .int .i64 m] w fun e w' => e = .returned (.tuple #[.pointer none, .int .i64 1]) ∧ w' = w := by
  rcases h with h | ⟨h0, h⟩ | ⟨h0, h1, h2, h⟩
  all_goals
    go_enter Try.func27, Try.ntmps27
    go_wp2
    go_ret2
    exact ⟨rfl, rfl⟩
theorem st_new_bad (n m : Int) (w : World) (h : n < 1 ∨ (1 ≤ n ∧ 129 < n) ∨ (1 ≤ n ∧ n ≤ 129 ∧ m < 1) ∨ (1 ≤ n ∧ n ≤ 129 ∧ 1 ≤ m ∧ 4096 < m)) :
    Calls Try.prog 42 #[.int .i64 n, .int .i64 m] w fun e w' => e = .returned (.tuple #[.pointer none, .int .i64 1]) ∧ Below w.heap.size w w' := by
  obtain ⟨mx, hmx⟩ : ∃ mx, (if m < 1 then (1 : Int) else m) = mx := ⟨_, rfl⟩
  by_cases hb : 1 ≤ n ∧ n ≤ 129 ∧ m < 1
  · obtain ⟨h0, h1, h2⟩ := hb
    rw [if_pos h2] at hmx
    subst hmx
    obtain ⟨n, rfl⟩ := Int.eq_ofNat_of_zero_le (show 0 ≤ n by omega)
    have C1 : Hid (Calls Try.prog 27 #[.int .i64 (n : Nat), .int .i64 1] w _) := CH.c_new n 1 w (by omega) (by omega) (by omega) (by omega)
    have C2 := Lib.hid (fun w' => PS.new_bad m w' (.inl h2))
    have hmx : (if m < 1 then (1 : Int) else m) = 1 := if_pos h2
    clear h h0 h1 h2
    go_enter Try.func42, Try.ntmps42
    go_wp2_with fail
    refine C1.out.mono ?_
    rintro e w1 ⟨pb, b1, b2, rfl, g1, g2, g3, hC, hB⟩
    have HB := Lib.hid hB
    clear C1 hC hB g1 g2 g3
    go_wp2_with fail
    refine (C2.out _).mono ?_
    rintro e w2 ⟨rfl, rfl⟩
    go_wp2
    go_ret2
    exact ⟨rfl, HB.out⟩
  · have C1 := Lib.hid (chain_new_no n mx w (by
      rcases h with h | h | h | h
      · exact .inl h
      · exact .inr (.inl h)
      · exact absurd h hb
      · rw [if_neg (by omega)] at hmx
        subst hmx
        exact .inr (.inr h)))
    clear h hb
    go_enter Try.func42, Try.ntmps42
    go_wp2_with fail
    refine C1.out.mono ?_
    rintro e w1 ⟨rfl, rfl⟩
    go_wp2
    go_ret2
    exact ⟨rfl, Below.refl _ _⟩
set_option maxRecDepth 100000 in
theorem at_nil (c k : Int) (w : World) : Calls Try.prog 66 #[.pointer none, .int .i64 c, .int .i64 k] w fun e w' => e = .returned (.tuple #[.agg PZ, .bool false]) ∧ Below w.heap.size w w' := by
  have C := Lib.hid (has_st_nil c)
  go_enter Try.func66, Try.ntmps66
  go_upto_region 1 with ((with_reducible refine arm_alloc 6 79 PZ 46 pz_zero ?_); intro w1 HB HX HS)
  have hst := pkt_store HX.out pk_zero
  go_wp2_with fail
  refine (C.out _).mono ?_
  rintro e w2 ⟨rfl, rfl⟩
  have hbl := build_zero w2
  go_wp2_with (first
    | ((with_reducible refine arm_build 14 79 #[] #[] (.agg PZ) hbl ?_ ?_); rfl)
    | ((with_reducible refine arm_store 6 14 79 (.pointer (some ⟨w.heap.size, 0, none⟩)) (.agg PZ) _ hst ?_ ?_ ?_); rfl; rfl))
  have hbx := box_whole HX.out (cs := PZ) rfl
  refine bodyPost_ret (res_row_tmp rfl _ _ _ _ _ _ _ rfl hbx Try.underlying79 rfl pkt_size) rfl ?_
  exact ⟨rfl, below_setCells (Nat.le_refl _) _ _ HB.out⟩
set_option maxRecDepth 100000 in
theorem head_nil (c : Int) (w : World) : Calls Try.prog 48 #[.pointer none, .int .i64 c] w fun e w' => e = .returned (.int .i64 0) ∧ Below w.heap.size w w' := by
  have CA := Lib.hid (at_nil c 0 w)
  obtain ⟨x, hpx, hnx, hpz⟩ : ∃ x : Array Value, Pk x ∧ x[45]? = some (.int .i64 0) ∧ PZ = x := ⟨PZ, pk_zero, by rfl, rfl⟩
  rw [hpz] at CA
  have HPK := Lib.hid hpx
  have HN := Lib.hid hnx
  clear hpx hnx hpz
  go_enter Try.func48, Try.ntmps48
  go_wp2_with fail
  refine CA.out.mono ?_
  rintro e w1 ⟨rfl, hB1⟩
  have HB1 := Lib.hid hB1
  clear hB1
  go_upto_region 2 with (first
    | ((with_reducible refine arm_alloc 5 79 PZ 46 pz_zero ?_); intro w2 HB HX HS; have hst := pkt_store HX.out HPK.out)
    | ((with_reducible refine arm_store 5 11 79 (.pointer (some ⟨w1.heap.size, 0, none⟩)) (.agg x) _ hst ?_ ?_ ?_); rfl; rfl))
  have hbx := box_whole HX.out (cs := x) HPK.out.size
  have hcell : (w2.setCells w1.heap.size 0 x.toList).cell? ⟨w1.heap.size, 45, none⟩ = some (.int .i64 0) := by rw [cell_of_row _ _ _ _ _ _ hbx]; exact HN.out
  have HB3 := Lib.hid (HB1.out.trans ((below_setCells (b := w1.heap.size) (Nat.le_refl _) x.toList 0 HB.out).mono HB1.out.size))
  clear hst hbx
  generalize w2.setCells w1.heap.size 0 x.toList = w3 at *
  go_wp2
  go_ret
  exact ⟨rfl, HB3.out⟩
theorem splays_many (n m : Int) (b : Option Addr) (len cap : Nat) (w : World) (h : 80 < len) (hm : len ≤ 9223372036854775807) :
    Calls Try.prog 13 #[.int .i64 n, .int .i64 m, .slice b len cap] w fun e w' => e = .returned (.bool true) ∧ Below w.heap.size w w' := by
  have Ha := Lib.hid st_awake
  go_enter Try.func13, Try.ntmps13
  go_wp2_with fail
  refine (Ha.out _).mono ?_
  rintro e w1 ⟨rfl, hB1⟩
  go_wp2_with fail
  refine (Ha.out _).mono ?_
  rintro e w2 ⟨rfl, hB2⟩
  go_wp2
  go_ret
  exact ⟨rfl, hB1.trans (hB2.mono hB1.size)⟩
set_option maxRecDepth 100000 in
set_option maxHeartbeats 1000000 in
theorem splays_bad (n m : Int) (b : Option Addr) (len cap : Nat) (w : World) (hl : len ≤ 80) (h : n < 1 ∨ (1 ≤ n ∧ 129 < n) ∨ (1 ≤ n ∧ n ≤ 129 ∧ m < 1) ∨ (1 ≤ n ∧ n ≤ 129 ∧ 1 ≤ m ∧ 4096 < m)) :
    Calls Try.prog 13 #[.int .i64 n, .int .i64 m, .slice b len cap] w fun e w' => e = .returned (.bool true) ∧ Below w.heap.size w w' := by
  have Ha := Lib.hid st_awake
  have hgt : decide (80 < len) = false := by simp; omega
  have CN := Lib.hid (fun w' => st_new_bad n m w' h)
  have CH := Lib.hid (head_nil 0)
  have CF := Lib.hid st_free_nil
  rcases h with h | ⟨h0, h⟩ | ⟨h0, h1, h⟩ | ⟨h0, h1, h2, h⟩
  all_goals
    go_enter Try.func13, Try.ntmps13
    go_wp2_with fail
    refine (Ha.out _).mono ?_
    rintro e w1 ⟨rfl, hB1⟩
    go_wp2_with fail
    refine (CN.out _).mono ?_
    rintro e w2 ⟨rfl, hB2⟩
    have hbl := build_len 1 w2
    have CP := Lib.hid (push_nil 0 (pkOf 0 1) w2)
    have HB2 := Lib.hid (hB1.trans (hB2.mono hB1.size))
    clear hB1 hB2
    go_wp2_with ((with_reducible refine arm_buildg 56 79 #[(3, .const (.int .i64 1))] #[(3, .int .i64 1)] (.agg (pkOf 0 1)) hbl ?_ ?_ ?_); rfl; rfl)
    refine CP.out.mono ?_
    rintro e w3 ⟨rfl, hB3⟩
    have HB3 := Lib.hid (HB2.out.trans (hB3.mono HB2.out.size))
    clear hB3 hbl CP HB2
    go_wp2_with fail
    refine (CF.out _).mono ?_
    rintro e w4 ⟨rfl, rfl⟩
    go_wp2_with fail
    refine (CH.out _).mono ?_
    rintro e w5 ⟨rfl, hB5⟩
    have HB5 := Lib.hid (HB3.out.trans (hB5.mono HB3.out.size))
    clear hB5 HB3
    go_wp2
    go_ret
    exact ⟨rfl, HB5.out⟩
end Go.Proofs.Ytgcfiiidhihkaaa.C
