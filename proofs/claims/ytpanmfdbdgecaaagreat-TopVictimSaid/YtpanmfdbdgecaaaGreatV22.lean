/- The law TopVictim: its inputs, its engine, its frames. · The law TopVictim, walked. · The law TopVictim: for whatever input. -/
import Derived.Test.YtpanmfdbdgecaaaGreatV21
namespace Go.Proofs.YtpanmfdbdgecaaaGreat.C
open Go.RowKit
set_option linter.unusedVariables false
theorem blockAdd (a : Addr) (n : Nat) : (a.add n).block = a.block := by unfold Addr.add; split <;> rfl
/-- Numbers that came in, told by their list. -/
def Nums (k : IntKind) (w : World) (a : Option Addr) (L : List Int) : Prop := ∀ (i : Nat) (v : Int), L[i]? = some v → ∃ x, a = some x ∧ x.block < w.heap.size ∧ w.cell? (x.add i) = some (.int k v) ∧ (Lit.int k v).wf = true
theorem nums_of {k : IntKind} {w : World} {a : Option Addr} {len cap : Nat} {zs : List Int} (h : IsRow k w a len cap zs) : ∃ L : List Int, L.length = len ∧ Nums k w a L ∧ len ≤ 9223372036854775807 := by
  rcases h with ⟨rfl, rfl, rfl, rfl⟩ | ⟨x, rfl, hl, hc, hz, hcell, hwf⟩
  · exact ⟨[], rfl, fun i v h => by simp at h, by omega⟩
  · refine ⟨zs.take len, by simp; omega, fun i v hv => ?_, by simp only [maxLen] at hc; omega⟩
    have hi : i < len := by
      rcases Nat.lt_or_ge i len with h | h
      · exact h
      · rw [List.getElem?_eq_none (by simp; omega)] at hv; cases hv
    rw [List.getElem?_take_of_lt hi] at hv
    have hz0 : i < zs.length := by omega
    have hc0 := hcell i hz0
    have hb := World.block_lt_of_cell? w _ hc0
    rw [List.getD_eq_getElem?_getD, hv] at hc0
    exact ⟨x, rfl, by rw [← blockAdd]; exact hb, hc0, hwf v (List.mem_of_getElem? hv)⟩
theorem Nums.kept {k : IntKind} {w w' : World} {a : Option Addr} {L : List Int} (h : Nums k w a L) (hb : ∀ b, b < w.heap.size → w'.heap[b]? = w.heap[b]?) {i : Nat} {v : Int} (hv : L[i]? = some v) : ∃ x, a = some x ∧ w'.cell? (x.add i) = some (.int k v) ∧ (Lit.int k v).wf = true := by
  obtain ⟨x, hx, hlt, hc, hw⟩ := h i v hv
  exact ⟨x, hx, by rw [World.cell?_of_block (hb _ (by rw [blockAdd]; exact hlt))]; exact hc, hw⟩
set_option maxRecDepth 100000 in
theorem key_types : Tryz.prog.cellTypes Tryz.prog.depth 22 = some (List.replicate 16 5) := by kernel_rfl
section
open Go.ChangeShapes Go.WideShapes
variable {H : Type} {enc : TypeId × Value → H} {w : World} {base : Nat} {held : Bool}
theorem cell_u8 {P : Program} {r : Reach} {b : Nat} {t : TypeId} {v : Value} (hu : P.underlying t = some (.int .u8)) (h : Cell.okWide P w r b t v) : ∃ n : Nat, n < 256 ∧ v = .int .u8 (n : Nat) := by
  cases v <;> simp [Cell.okWide, Cell.ok, hu] at h
  rename_i k n
  obtain ⟨rfl, h2⟩ := h
  have h3 : 0 ≤ n := h2.1
  have h4 : n ≤ 255 := h2.2
  exact ⟨n.toNat, by omega, by rw [Int.toNat_of_nonneg h3]⟩
set_option maxRecDepth 100000 in
theorem open_key {spare : Nat → Bool} {r : Reach} {b0 : Nat} {v : Value} {d : DataW H} {p : List MemPlace} (hv : Value.okWide Tryz.prog w r b0 22 v) (h : DataW.Trod enc Tryz.prog w base spare held 22 v d p) :
    ∃ cs : Array Value, v = .agg cs ∧ ∃ K, Key16 cs K ∧ ∀ j, K j < 256 := by
  have hu := Tryz.underlying22
  simp only [Value.okWide, hu] at hv
  obtain ⟨cs, rfl, hs, ts, ht, _, hc⟩ := hv
  rw [key_types] at ht
  injection ht with ht
  subst ht
  have hs16 : cs.size = 16 := hs.trans (by kernel_rfl)
  have hex : ∀ j, ∃ n : Nat, n < 256 ∧ (j < 16 → cs[j]? = some (.int .u8 (n : Nat))) := fun j => by
    by_cases hj : j < 16
    · obtain ⟨u, h1, h2⟩ := hc j cs[j] (Array.getElem?_eq_getElem (by omega))
      have hu2 := (List.mem_replicate.1 (List.mem_of_getElem? h1)).2
      subst hu2
      obtain ⟨n, hn0, hn⟩ := cell_u8 Tryz.underlying5 h2
      exact ⟨n, hn0, fun _ => by rw [Array.getElem?_eq_getElem (by omega), hn]⟩
    · exact ⟨0, by decide, fun h => absurd h hj⟩
  exact ⟨cs, rfl, fun j => (hex j).choose, ⟨hs16, fun j hj => (hex j).choose_spec.2 hj⟩, fun j => (hex j).choose_spec.1⟩
noncomputable def zero_key : Value := .agg KEZ
end
/-- The config of TopVictim. -/
def vicC (n m : Nat) : Nat → Int := fun i => [(n : Int), 200, 1, (m : Int), 65536, 0, 64, 64, 9216, 5000, 0, 2, 5000, 5000, 0, 1099511627776, 1099511627776, 1, 0, 1].getD i 0
theorem vic_build (n m : Nat) (w : World) : (Instr.build 26 #[(0, .int .i64 (n : Nat)), (1, .int .i64 200), (2, .int .i64 1), (3, .int .i64 (m : Nat)), (4, .int .i64 65536), (6, .int .i64 64), (7, .int .i64 64), (8, .int .i64 9216), (9, .int .i64 5000), (11, .int .i64 2), (12, .int .i64 5000), (13, .int .i64 5000), (15, .int .i64 1099511627776), (16, .int .i64 1099511627776), (17, .int .i64 1), (19, .int .i64 1)]).run Tryz.prog w = .ok (.agg (cfgV (vicC n m))) w := run_build w 26 _ _ (by kernel_rfl)
theorem vicC_right {n m : Nat} (hn : 1 ≤ n ∧ n ≤ 64) (hm : 1 ≤ m ∧ m ≤ 64) : RightC (vicC n m) := by
  refine ⟨?_, by simp [vicC], by simp [vicC], ?_, by simp [vicC], by simp [vicC], by simp [vicC], by simp [vicC], by simp [vicC], by simp [vicC], by simp [vicC], by simp [vicC], by simp [vicC], by simp [vicC], by simp [vicC], by simp [vicC], by simp [vicC], by simp [vicC], by simp [vicC], by simp [vicC]⟩
  · have e : vicC n m 0 = (n : Int) := rfl
    rw [e]
    omega
  · have e : vicC n m 3 = (m : Int) := rfl
    rw [e]
    omega
theorem vicF {cv kv G : Array Value} {n m : Nat} {K : Nat → Nat} (hn : 1 ≤ n ∧ n ≤ 64) (hm : 1 ≤ m ∧ m ≤ 64) (hv : Cfg cv (vicC n m)) (hk : Key16 kv K) : VicF ⟨cv, vicC n m, kv, G⟩ n m K :=
  ⟨⟨hv, vicC_right hn hm⟩, rfl, rfl, rfl, rfl, rfl, rfl, rfl, rfl, rfl, rfl, rfl, rfl, rfl, rfl, rfl, hn, hm, hk⟩
/-- An engine at 0 that has seen so many, of which the victim's have so many bytes; none of its blocks is one of mine. -/
def EngV (Z : Nat → Prop) (eb : Nat) (F : PCf) (n m : Nat) (K : Nat → Nat) (c0 k0 t : Nat) (sent : Int) (w : World) : Prop := ∃ a S N nx, a.eb = eb ∧ (∀ j, Z j → j < w.heap.size ∧ a.A.tg j = 0) ∧ Eng w a F S 0 N nx ∧ VA n m K c0 k0 t sent S
section
variable {Z Y : Nat → Prop} {w w' : World} {eb n m c0 k0 t : Nat} {F : PCf} {K : Nat → Nat} {sent : Int}
theorem EngV.below (h : EngV Z eb F n m K c0 k0 t sent w) (p : Below w.heap.size w w') : EngV Z eb F n m K c0 k0 t sent w' := by
  obtain ⟨a, S, N, nx, e1, e2, e3, e4⟩ := h
  exact ⟨a, S, N, nx, e1, fun k hk => ⟨Nat.lt_of_lt_of_le (e2 k hk).1 p.size, (e2 k hk).2⟩, e3.below p, e4⟩
theorem EngV.mine (h : EngV Z eb F n m K c0 k0 t sent w) (p : Below w.heap.size w w') {x : Nat} (h1 : w.heap.size ≤ x) (h2 : x < w'.heap.size) : EngV (fun k => Z k ∨ k = x) eb F n m K c0 k0 t sent w' := by
  obtain ⟨a, S, N, nx, e1, e2, e3, e4⟩ := h
  refine ⟨a, S, N, nx, e1, fun k hk => ?_, e3.below p, e4⟩
  rcases hk with hk | rfl
  · exact ⟨Nat.lt_of_lt_of_le (e2 k hk).1 p.size, (e2 k hk).2⟩
  · exact ⟨h2, e3.pol.ok.hi _ (Nat.le_trans e3.pol.lim h1)⟩
theorem EngV.sub (h : EngV Y eb F n m K c0 k0 t sent w) (hs : ∀ k, Z k → Y k) : EngV Z eb F n m K c0 k0 t sent w := by
  obtain ⟨a, S, N, nx, e1, e2, e3, e4⟩ := h
  exact ⟨a, S, N, nx, e1, fun k hk => e2 k (hs k hk), e3, e4⟩
theorem pkt_nn (nn len : Nat) (hn : nn < 256) (h0 : 42 ≤ len) (h1 : len ≤ 9216) : UdpB (pbB nn (len - 14)) len ∧ PkP (pktB (pbB nn (len - 14)) len) (len : Nat) (pfx 10 1 nn) ∧ PkF (pktB (pbB nn (len - 14)) len) (flowX 10 1 nn 7 9 0 0 0 1000 53) := by
  have h := pb_udp (nn := nn) (all := len - 14) hn (by omega) (by omega)
  have g := pb_pkt nn (len - 14)
  rw [show len - 14 + 14 = len by omega] at h g
  refine ⟨h, by rw [g]; exact pktX_pre 10 1 nn 7 9 0 0 0 1000 53 len, ?_⟩
  rw [g]
  unfold PkF
  kernel_rfl
theorem packet_nn (nn len : Nat) (w : World) (hn : nn < 256) (h0 : 42 ≤ len) (h1 : len ≤ 9216) : Calls Tryz.prog 12 #[.int .u8 (nn : Nat), .int .i64 (len : Nat)] w fun e w' => ∃ g c, e = .returned (.slice (some ⟨g, 0, none⟩) len c) ∧ FrAt w' g 0 len c (pbB nn (len - 14)) ∧ Below w.heap.size w w' ∧ w.heap.size ≤ g := by
  have := packet_made nn (len - 14) w hn (by omega) (by omega)
  rw [show len - 14 + 14 = len by omega] at this
  exact this
theorem vic_frame (h : EngV Z eb F n m K c0 k0 t sent w) (hF : VicF F n m K) (hc0 : vcl K n 0 = c0) (hk0 : vbn K m 0 = k0) (ht : t < 60) (g c nn len d0 : Nat) (hnn : nn < 256) (hcc : vcl K n nn ≠ c0) (hkk : vbn K m nn ≠ k0) (h0 : 42 ≤ len) (h1 : len ≤ 9216) (hf : FrAt w g 0 len c (pbB nn (len - 14))) (hg : Z g) :
    Calls Tryz.prog 11 #[.pointer (some ⟨eb, 0, none⟩), .slice (some ⟨g, 0, none⟩) len c, .agg #[.int .u64 (d0 : Nat), .int .u64 0]] w fun e w' => (∃ v, e = .returned v) ∧ EngV Z eb F n m K c0 k0 (t + 1) sent w' ∧ Kp Z w w' := by
  obtain ⟨a, S, N, nx, rfl, e2, e3, e4⟩ := h
  obtain ⟨hu, hx, hxf⟩ := pkt_nn nn len hnn h0 h1
  refine (frame_any g 0 len c (pbB nn (len - 14)) #[.int .u64 (d0 : Nat), .int .u64 0] rfl e3 hf (e2 g hg).2 hu S.arr (fun _ _ _ _ S2 => VA n m K c0 k0 (t + 1) sent S2) (fun w' p => ?_)).mono ?_
  · refine (vic_other e4 hF hc0 hk0 ht hnn hcc hkk ⟨by omega, by omega⟩ hx hxf d0 a.A w' p).mono ?_
    rintro e w1 ⟨r, cl, vic, S5, rfl, hr, hV, hP, hT⟩
    obtain ⟨q, rfl⟩ := Int.eq_ofNat_of_zero_le hr.1
    exact ⟨a.A, S5, q, _, vic, rfl, by omega, hP, hV, hT, rfl, fun _ _ => rfl⟩
  · rintro e w1 ⟨A2, S2, r, cl, vic, N', rfl, h1, h2, h3, h4, h5⟩
    exact ⟨⟨_, rfl⟩, ⟨{ a with A := A2 }, S2, _, nx, rfl, fun j hj => ⟨Nat.lt_of_lt_of_le (e2 j hj).1 h3.size, (h5 j (e2 j hj).1).trans (e2 j hj).2⟩, h1, h2⟩, Kp.of_tur h3 (fun j hj => (e2 j hj).2) (by decide)⟩
theorem vic_frame0 (h : EngV Z eb F n m K c0 k0 t sent w) (hF : VicF F n m K) (hc0 : vcl K n 0 = c0) (hk0 : vbn K m 0 = k0) (ht : t < 60) (g c len d0 : Nat) (h0 : 42 ≤ len) (h1 : len ≤ 9216) (hs : sent + (len : Int) ≤ 5000) (hf : FrAt w g 0 len c (pbB 0 (len - 14))) (hg : Z g) :
    Calls Tryz.prog 11 #[.pointer (some ⟨eb, 0, none⟩), .slice (some ⟨g, 0, none⟩) len c, .agg #[.int .u64 (d0 : Nat), .int .u64 0]] w fun e w' => e = .returned (.agg #[.int .i64 (t : Nat), .int .i64 0, .int .i64 (c0 : Nat), .int .i64 (-1), .bool false, .bool false]) ∧ EngV Z eb F n m K c0 k0 (t + 1) (sent + (len : Int)) w' ∧ Kp Z w w' := by
  obtain ⟨a, S, N, nx, rfl, e2, e3, e4⟩ := h
  obtain ⟨hu, hx, hxf⟩ := pkt_nn 0 len (by decide) h0 h1
  refine (frame_arr g 0 len c (pbB 0 (len - 14)) #[.int .u64 (d0 : Nat), .int .u64 0] rfl e3 hf (e2 g hg).2 hu (t : Nat) (c0 : Nat) 0 (by decide) false false (fun _ S2 => VA n m K c0 k0 (t + 1) (sent + (len : Int)) S2) (fun w' p => ?_)).mono ?_
  · refine (vic_mine e4 hF hc0 hk0 ht ⟨by omega, by omega⟩ hs hx hxf d0 a.A w' p).mono ?_
    rintro e w1 ⟨S5, rfl, hV, hP, hT⟩
    exact ⟨a.A, S5, by rw [e4.arr]; rfl, hP, hV, hT, rfl, fun _ _ => rfl⟩
  · rintro e w1 ⟨A2, S2, rfl, h1, h2, h3, h4, h5⟩
    exact ⟨rfl, ⟨{ a with A := A2 }, S2, _, nx, rfl, fun j hj => ⟨Nat.lt_of_lt_of_le (e2 j hj).1 h3.size, (h5 j (e2 j hj).1).trans (e2 j hj).2⟩, h1, h2⟩, Kp.of_tur h3 (fun j hj => (e2 j hj).2) (by decide)⟩
end
theorem vic_begin (cv kv : Array Value) (n m : Nat) (K : Nat → Nat) (w : World) (hv : Cfg cv (vicC n m)) (hn : 1 ≤ n ∧ n ≤ 64) (hm : 1 ≤ m ∧ m ≤ 64) (hk : kv.size = 16) :
    Calls Tryz.prog 9 #[.agg cv, .agg kv] w fun e w' => ∃ eb G, e = .returned (.tuple #[.pointer (some ⟨eb, 0, none⟩), .int .i64 0]) ∧ EngV (fun j => j < w.heap.size) eb ⟨cv, vicC n m, kv, G⟩ n m K (vcl K n 0) (vbn K m 0) 0 0 w' ∧ Below w.heap.size w w' := by
  refine (engine_new cv (vicC n m) kv w hv (vicC_right hn hm) hk).mono ?_
  rintro e w' ⟨a, G, rfl, h1, h2, h3, h4⟩
  refine ⟨a.eb, G, rfl, ⟨a, _, _, 0, rfl, fun j hj => ⟨Nat.lt_of_lt_of_le hj h4.size, h3 j hj⟩, h2, ?_⟩, h4⟩
  have e0 : (vicC n m 0).toNat = n := rfl
  have e2 : (vicC n m 2).toNat = 1 := rfl
  have e3 : (vicC n m 3).toNat = m := rfl
  have e7 : (vicC n m 7).toNat = 64 := rfl
  rw [e0, e2, e3, e7]
  have hc := vcl_lt (K := K) hn.1 0
  have hb := vbn_lt (K := K) hm.1 0
  generalize hc0 : vcl K n 0 = c0 at *
  generalize hk0 : vbn K m 0 = k0 at *
  refine ⟨⟨List.length_replicate, List.length_replicate, fun c l hl x hx => ?_, ?_, fun c l hl hne => ?_, ⟨List.nodup_nil, fun c hc => by simp [pst0] at hc, fun c y hy ha => ?_, ?_⟩, ⟨by show -(((2 * 0 : Nat) : Int) * 9216) ≤ 0; omega, Int.le_refl _, ?_, fun x hx => ?_⟩, ?_, ?_, fun k b hk => ?_, ⟨⟨0, 0, 0⟩, ?_, rfl, rfl⟩, ⟨[], ?_, rfl⟩, ⟨by decide, by decide⟩⟩, ⟨Nat.le_refl _, by simp [pst0]⟩, rfl, rfl, rfl, rfl⟩
  · have hl : (List.replicate (2 * n + 1) ([] : List (Array Value)))[c]? = some l := hl
    have := (List.mem_replicate.1 (List.mem_of_getElem? hl)).2
    rw [this] at hx
    cases hx
  · show total (List.replicate (2 * n + 1) ([] : List (Array Value))) ≤ 0
    unfold total
    rw [List.map_replicate]
    simp
  · have hl : (List.replicate (2 * n + 1) ([] : List (Array Value)))[c]? = some l := hl
    exact absurd (List.mem_replicate.1 (List.mem_of_getElem? hl)).2 hne
  · have hy : (List.replicate (2 * n + 1) (⟨false, false, 0⟩ : Tcl))[c]? = some y := hy
    rw [(List.mem_replicate.1 (List.mem_of_getElem? hy)).2] at ha
    cases ha
  · show 0 = List.countP (·.awake) (List.replicate (2 * n + 1) (⟨false, false, 0⟩ : Tcl))
    rw [List.countP_replicate]
    simp
  · show (List.replicate (2 * n + 1) (0 : Int)).length ≤ 129
    rw [List.length_replicate]
    omega
  · have : x = 0 := (List.mem_replicate.1 (show x ∈ List.replicate (2 * n + 1) (0 : Int) from hx)).2
    omega
  · show (List.replicate (2 * n + 1) (0 : Int))[c0]? = some 0
    rw [List.getElem?_replicate, if_pos (by omega)]
  · show (List.replicate (1 * m) (⟨0, 0, 0⟩ : Bin)).length = m
    rw [List.length_replicate, Nat.one_mul]
  · have hk : (List.replicate (1 * m) (⟨0, 0, 0⟩ : Bin))[k]? = some b := hk
    rw [(List.mem_replicate.1 (List.mem_of_getElem? hk)).2]
    unfold BinOk
    decide
  · show (List.replicate (1 * m) (⟨0, 0, 0⟩ : Bin))[k0]? = _
    rw [List.getElem?_replicate, if_pos (by omega)]
  · show (List.replicate (2 * n + 1) ([] : List (Array Value)))[c0]? = some []
    rw [List.getElem?_replicate, if_pos (by omega)]
end Go.Proofs.YtpanmfdbdgecaaaGreat.C

namespace Go.Proofs.YtpanmfdbdgecaaaGreat.C
open Go.RowKit
set_option linter.unusedVariables false
def VZ0 : Array Value := #[.int .i64 0, .int .i64 0, .int .i64 0, .int .i64 0, .bool false, .bool false]
theorem vz0_zero : (Tryz.prog.info? 35).map (fun i => (i.zero, i.size)) = some (some (.agg VZ0), 6) := by kernel_rfl
theorem dr_build (k : Nat) (w : World) : (Instr.build 41 #[(0, .int .u64 (k : Nat)), (1, .int .u64 0)]).run Tryz.prog w = .ok (.agg #[.int .u64 (k : Nat), .int .u64 0]) w := run_build w 41 _ _ (by kernel_rfl)
theorem apart_yes {K : Nat → Nat} {f n m : Nat} (h : apartB K f n m = true) : vcl K n f ≠ vcl K n 0 ∧ vbn K m f ≠ vbn K m 0 := by
  unfold apartB at h
  have := of_decide_eq_true h
  exact ⟨fun e => this.1 e.symm, fun e => this.2 e.symm⟩
set_option maxRecDepth 100000 in
set_option maxHeartbeats 8000000 in
theorem victim_main (kv : Array Value) (K : Nat → Nat) (bk bs : Int) (a3 : Option Addr) (L3 : List Int) (c3 : Nat) (a4 : Option Addr) (L4 : List Int) (c4 : Nat) (w : World) (hk : Key16 kv K) (hKb : ∀ j, K j < 256) (hbk : (Lit.int .u8 bk).wf = true) (hbs : (Lit.int .u8 bs).wf = true) (hn3 : L3.length ≤ 30) (hn4 : L4.length ≤ L3.length) (hN3 : Nums .u16 w a3 L3) (hN4 : Nums .u16 w a4 L4) :
    Calls Tryz.prog 3 #[.agg kv, .int .u8 bk, .int .u8 bs, .slice a3 L3.length c3, .slice a4 L4.length c4] w fun e w' => e = .returned (.bool true) ∧ Below w.heap.size w w' := by
  obtain ⟨r0, r1⟩ := bounds_u8 hbk
  obtain ⟨q0, q1⟩ := bounds_u8 hbs
  clear hbk hbs
  have CA := Lib.hid awake_is
  have HN3 := Lib.hid hN3
  have HN4 := Lib.hid hN4
  have HKY := Lib.hid hk
  have HKB := Lib.hid hKb
  obtain ⟨n3, hl3⟩ : ∃ n, L3.length = n := ⟨_, rfl⟩
  obtain ⟨n4, hl4⟩ : ∃ n, L4.length = n := ⟨_, rfl⟩
  have HL3 := Lib.hid hl3
  have HL4 := Lib.hid hl4
  rw [hl3] at hn3 hn4 ⊢
  rw [hl4] at hn4 ⊢
  have d0 : decide (30 < n3) = false := decide_eq_false (by omega)
  have d1 : decide (n3 < n4) = false := decide_eq_false (by omega)
  have e0 : (n3 : Int) ≤ 30 := by omega
  have e1 : (n4 : Int) ≤ (n3 : Int) := by omega
  have HNN := Lib.hid (And.intro hn3 hn4)
  have hst := cz_zero
  have hczs : CZ.size = 20 := (cfgV_ok _).size
  generalize CZ = Z at *
  have HST := Lib.hid hst
  have HCZ := Lib.hid hczs
  obtain ⟨VZ1, hVZ⟩ : ∃ z, VZ0 = z := ⟨_, rfl⟩
  have hvz := vz0_zero
  have hvzs : VZ1.size = 6 := by rw [← hVZ]; rfl
  rw [hVZ] at hvz
  have HVZ := Lib.hid hvz
  have HVZS := Lib.hid hvzs
  clear hst hczs hVZ hvz hvzs hN3 hN4 hl3 hl4 hn3 hn4
  obtain ⟨tn, htn⟩ : ∃ t, bk.tmod 60 = t := ⟨_, rfl⟩
  obtain ⟨tm, htm⟩ : ∃ t, bs.tmod 60 = t := ⟨_, rfl⟩
  have htn0 : 0 ≤ tn ∧ tn < 60 := by rw [Int.tmod_eq_emod_of_nonneg r0] at htn; omega
  have htm0 : 0 ≤ tm ∧ tm < 60 := by rw [Int.tmod_eq_emod_of_nonneg q0] at htm; omega
  have hw0 : IntKind.i64.wrap bk = bk := IntWalk.i64_in _ (by omega)
  have hw0' : IntKind.i64.wrap bs = bs := IntWalk.i64_in _ (by omega)
  have hw1 : IntKind.i64.wrap tn = tn := IntWalk.i64_in _ (by omega)
  have hw1' : IntKind.i64.wrap tm = tm := IntWalk.i64_in _ (by omega)
  obtain ⟨n, hn⟩ : ∃ n : Nat, 2 + tn = (n : Int) := ⟨(2 + tn).toNat, by omega⟩
  obtain ⟨m, hm⟩ : ∃ m : Nat, 2 + tm = (m : Int) := ⟨(2 + tm).toNat, by omega⟩
  have hnr : 1 ≤ n ∧ n ≤ 64 := by omega
  have hmr : 1 ≤ m ∧ m ≤ 64 := by omega
  have hw2 : IntKind.i64.wrap (n : Int) = (n : Int) := IntWalk.i64_in _ (by omega)
  have hw2' : IntKind.i64.wrap (m : Int) = (m : Int) := IntWalk.i64_in _ (by omega)
  have hw3 : IntKind.i64.wrap (2 * (n : Int)) = 2 * (n : Int) := IntWalk.i64_in _ (by omega)
  have HNR := Lib.hid hnr
  have HMR := Lib.hid hmr
  have HKS := Lib.hid hk.size
  have hcb := vic_build n m
  have HV := Lib.hid (cfgV_ok (vicC n m))
  have hcfa := cfg_all (vicC n m)
  have hcs : (Tryz.prog.info? 26).map (·.size) = some (cfgV (vicC n m)).size := by rw [(cfgV_ok _).size]; exact cfg_size
  generalize cfgV (vicC n m) = cv at *
  have HCB := Lib.hid hcb
  have HCA := Lib.hid hcfa
  have HCS := Lib.hid hcs
  clear hcb hcfa hcs hnr hmr htn0 htm0 r0 r1 q0 q1 hk hKb
  go_enter Tryz.func3, Tryz.ntmps3
  go_upto_region 1 with ((with_reducible refine arm_box 5 0 22 kv rfl ?_); intro w1 HB1 HX1 HS1)
  obtain ⟨kb, hkb⟩ : ∃ k, k = w.heap.size := ⟨_, rfl⟩
  rw [← hkb] at HX1 ⊢
  have HKB0 := Lib.hid hkb
  clear hkb
  go_wp2_with fail
  refine (CA.out _).mono ?_
  rintro e w2 ⟨rfl, hB2⟩
  have HX2 := Lib.hid (show w2.heap[kb]? = some (.cells kv 22 (0, 0)) from (hB2.block kb (by have := HKB0.out; have := HS1.out; omega)).trans HX1.out)
  have HB2 := Lib.hid (HB1.out.trans (hB2.mono HB1.out.size))
  clear hB2 HX1 CA HB1 HS1
  have hbq := HCB.out w2
  go_upto_region 5 with (first
    | ((with_reducible refine arm_build 46 26 _ #[(0, .int .i64 (n : Nat)), (1, .int .i64 200), (2, .int .i64 1), (3, .int .i64 (m : Nat)), (4, .int .i64 65536), (6, .int .i64 64), (7, .int .i64 64), (8, .int .i64 9216), (9, .int .i64 5000), (11, .int .i64 2), (12, .int .i64 5000), (13, .int .i64 5000), (15, .int .i64 1099511627776), (16, .int .i64 1099511627776), (17, .int .i64 1), (19, .int .i64 1)] _ hbq ?_ ?_); (first | rfl | simp [Act.eval]))
    | ((with_reducible refine arm_alloc 13 26 Z 20 HST.out ?_); intro w4 HB4 HX4 HS4; have hst := box_store (t := 26) (x := cv) HX4.out HCS.out HCA.out (HCZ.out.trans HV.out.size.symm))
    | ((with_reducible refine arm_store 13 46 26 _ _ _ hst ?_ ?_ ?_); rfl; rfl))
  clear hst hbq
  have hX5 := box_whole HX4.out (cs := cv) (HV.out.size.trans HCZ.out.symm)
  have hB5 := below_setCells (b := w2.heap.size) (Nat.le_refl _) cv.toList 0 HB4.out
  have hkl : kb < w2.heap.size := (Array.getElem?_eq_some_iff.1 HX2.out).1
  have HX5 := Lib.hid hX5
  have HK5 := Lib.hid (keep_block hB5 HX2.out)
  have HB5 := Lib.hid (HB2.out.trans (hB5.mono HB2.out.size))
  clear hX5 hB5 HX4 HB4 HS4 HB2 HX2
  generalize w4.setCells w2.heap.size 0 cv.toList = w5 at *
  generalize w2.heap.size = cb at *
  have hl1 := box_load (t := 26) HX5.out _ Tryz.underlying26 rfl HCS.out
  have hl2 := keys_load HKS.out HK5.out
  have HLT := Lib.hid (show kb < w5.heap.size from (Array.getElem?_eq_some_iff.1 HK5.out).1)
  have CN := Lib.hid (vic_begin cv kv n m K w5 HV.out HNR.out HMR.out HKS.out)
  go_wp2_with (first | ((with_reducible refine arm_load 48 13 26 _ _ hl1 ?_ ?_); rfl) | ((with_reducible refine arm_load 49 5 22 _ _ hl2 ?_ ?_); rfl))
  refine CN.out.mono ?_
  rintro e w7 ⟨eb, G, rfl, hE, hB7⟩
  obtain ⟨H, hH⟩ : ∃ H, H = w5.heap.size := ⟨_, rfl⟩
  rw [← hH] at hE
  have HX7 := Lib.hid (keep_block hB7 HK5.out)
  have HB7 := Lib.hid (HB5.out.trans (hB7.mono HB5.out.size))
  have HLO := Lib.hid (show w.heap.size ≤ H from hH ▸ HB5.out.size)
  have HHI := Lib.hid (show H ≤ w7.heap.size from hH ▸ hB7.size)
  have HCH := Lib.hid (show kb < H from hH ▸ HLT.out)
  have HFF := Lib.hid (vicF (G := G) HNR.out HMR.out HV.out HKY.out)
  have HC0 := Lib.hid (vcl_lt (K := K) HNR.out.1 0)
  generalize hc0 : vcl K n 0 = c0 at *
  generalize hk0 : vbn K m 0 = k0 at *
  have HC00 := Lib.hid (And.intro hc0 hk0)
  have HE := Lib.hid hE
  have C7 : Hid (∀ w' : World, Kp (fun j => j < H) w7 w' → (Instr.loadAt 22 (.pointer (some ⟨kb, 0, none⟩))).run Tryz.prog w' = .ok (.agg kv) w' ∧ ∀ b, b < w.heap.size → w'.heap[b]? = w.heap[b]?) := Lib.hid fun w' q => ⟨keys_load HKS.out (q.keep HX7.out HCH.out), fun b hb => (q.block b (by have := HLO.out; have := HHI.out; omega) (by have := HLO.out; omega)).trans (HB7.out.block b hb)⟩
  have TKP : Hid (∀ w1 : World, Kp (fun j => j < H) w7 w1 → Below w.heap.size w w1) := Lib.hid fun w1 q => HB7.out.trans (q.to_below (fun k hk => Nat.lt_of_lt_of_le hk HLO.out) HB7.out.size)
  clear hE hB7 hl1 hl2 HX5 HK5 hH HLT htn htm hn hm hw0 hw0' hw1 hw1' CN HX7 HB5 HKB0 HB7 hkl hc0 hk0
  generalize hF : (⟨cv, vicC n m, kv, G⟩ : PCf) = F at *
  clear hF
  go_wp2_with fail
  go_loopw [16, 57] (fun s t wr => ∃ (k tt : Nat) (sent : Int), k ≤ n3 ∧ tt ≤ 2 * k ∧ t = .int .i64 (k : Nat) ∧ s = .int .i64 sent ∧ (0 ≤ sent ∧ sent ≤ 5000) ∧ EngV (fun j => j < H) eb F n m K c0 k0 tt sent wr ∧ Kp (fun j => j < H) w7 wr) (fun _ t _ => (n3 - intOf t).toNat)
  case atStart => exact ⟨0, 0, 0, by omega, by omega, rfl, rfl, ⟨by omega, by omega⟩, HE.out, Kp.refl _ _⟩
  case round =>
    obtain ⟨k, tt, sent, hk, htt, rfl, rfl, hsr, hEr, hKr⟩ := hrel
    have HER := Lib.hid hEr
    have HKR := Lib.hid hKr
    clear hEr hKr HE
    by_cases hkn : k = n3
    · subst hkn
      go_wp2
      go_ret
      exact ⟨rfl, TKP.out _ HKR.out⟩
    · have hlt : (k : Int) < (n3 : Int) := by omega
      have hnn := HNN.out
      have hkw : IntKind.i64.wrap ((k : Int) + 1) = ((k + 1 : Nat) : Int) := by rw [IntWalk.i64_in _ (by omega)]; omega
      have hku : IntKind.u64.wrap (k : Int) = (k : Int) := IntWalk.u64_in _ (by omega)
      have HKK := Lib.hid (show k < 30 ∧ k < n3 ∧ tt ≤ 2 * k from ⟨by omega, by omega, htt⟩)
      have HSR := Lib.hid hsr
      obtain ⟨ok, hok⟩ : ∃ v, L3[k]? = some v := ⟨_, List.getElem?_eq_getElem (by have := HL3.out; omega)⟩
      obtain ⟨x3, ha3, hc3, hf3⟩ := HN3.out.kept (C7.out _ HKR.out).2 hok
      obtain ⟨o0, o1⟩ := bounds_u16 hf3
      obtain ⟨f, hf⟩ : ∃ f : Nat, IntKind.u8.wrap ok = (f : Int) := ⟨(IntKind.u8.wrap ok).toNat, by rw [IntKind.wrap_u8]; omega⟩
      have HF256 := Lib.hid (show f < 256 by rw [IntKind.wrap_u8] at hf; omega)
      obtain ⟨oh, hoh⟩ : ∃ o : Nat, ok / 256 = (o : Int) := ⟨(ok / 256).toNat, by omega⟩
      have hoh5 : oh ≤ 255 := by omega
      have hw5 : IntKind.i64.wrap (oh : Int) = (oh : Int) := IntWalk.i64_in _ (by omega)
      have hw6 : IntKind.i64.wrap ((oh : Int) * 30) = (oh : Int) * 30 := IntWalk.i64_in _ (by omega)
      obtain ⟨len, hlen⟩ : ∃ l : Nat, 42 + (oh : Int) * 30 = (l : Int) := ⟨42 + oh * 30, by omega⟩
      have HLEN := Lib.hid (show 42 ≤ len ∧ len ≤ 9216 by omega)
      have hw7 : IntKind.i64.wrap (len : Int) = (len : Int) := IntWalk.i64_in _ (by omega)
      have HC3 : Hid (∀ w', Kp (fun j => j < H) w7 w' → w'.cell? (x3.add k) = some (.int .u16 ok)) := Lib.hid fun w' q => by
        obtain ⟨x, hx, hc, _⟩ := HN3.out.kept (C7.out _ q).2 hok
        rw [ha3] at hx
        injection hx with hx
        rw [hx]
        exact hc
      subst ha3
      clear hf3 hok o0 o1 hnn hkn hsr htt hk hoh5
      have hkI : (k : Int) < (n3 : Int) := hlt
      by_cases hf0 : f = 0
      case' pos =>
        have hfd : decide ((f : Int) = 0) = true := decide_eq_true (by omega)
        have hfb : ((f : Int) == 0) = true := by rw [hf0]; rfl
        have hfn : ((f : Int) != 0) = false := by rw [hf0]; rfl
        subst hf0
        go_upto_region 15 with (fail)
        have HE8 := HER
        have HK8 := HKR
        obtain ⟨t8, ht8⟩ : ∃ t8, t8 = tt := ⟨_, rfl⟩
        have HT8 := Lib.hid (show t8 ≤ 2 * k + 1 by have := HKK.out; omega)
        rw [← ht8] at HE8
        clear ht8 HER HKR hc3 hfd hfb hfn
        generalize wr = w8 at *
      case' neg =>
        have hfd : decide ((f : Int) = 0) = false := decide_eq_false (by omega)
        have hfI : ¬ ((f : Int) = 0) := by omega
        have hfb : ((f : Int) == 0) = false := by simpa using hfI
        have hfn : ((f : Int) != 0) = true := by simpa using hfI
        have hlk := (C7.out _ HKR.out).1
        have CAP := Lib.hid (apart_is kv K f n m wr HKY.out HKB.out HF256.out HNR.out HMR.out)
        go_wp2_with ((with_reducible refine arm_loadg 68 5 22 _ _ hlk ?_ ?_ ?_); rfl; rfl)
        refine CAP.out.mono ?_
        rintro e w6 ⟨rfl, hB6⟩
        have HE6 := Lib.hid (HER.out.below hB6)
        have HK6 := Lib.hid (HKR.out.trans (Kp.of_below hB6))
        clear HER HKR hB6 hlk hc3
        cases hap : apartB K f n m
        case' false =>
          go_upto_region 15 with (fail)
          have HE8 := HE6
          have HK8 := HK6
          obtain ⟨t8, ht8⟩ : ∃ t8, t8 = tt := ⟨_, rfl⟩
          have HT8 := Lib.hid (show t8 ≤ 2 * k + 1 by have := HKK.out; omega)
          rw [← ht8] at HE8
          clear ht8 HE6 HK6 hap hfd hfI hfb hfn
          generalize w6 = w8 at *
        case' true =>
          have hap2 := apart_yes hap
          rw [HC00.out.1, HC00.out.2] at hap2
          have HAP := Lib.hid hap2
          have hc3 := HC3.out _ HK6.out
          clear hap2
          go_wp2_with fail
          refine (packet_nn f len _ HF256.out HLEN.out.1 HLEN.out.2).mono ?_
          rintro e w9 ⟨g, cc, rfl, hfr, hBp, hge⟩
          have hE9 := HE6.out.mine hBp hge hfr.blk
          have HK9 := Lib.hid (HK6.out.trans (Kp.of_below hBp))
          have CF := Lib.hid (vic_frame hE9 HFF.out HC00.out.1 HC00.out.2 (by have := HKK.out; omega) g cc f len k HF256.out HAP.out.1 HAP.out.2 HLEN.out.1 HLEN.out.2 hfr (.inr rfl))
          have hdb := dr_build k w9
          clear hfr hBp hge hE9 HE6 HK6 hc3
          go_wp2_with ((with_reducible refine arm_build 87 41 _ #[(0, .int .u64 (k : Nat)), (1, .int .u64 0)] _ hdb ?_ ?_); (first | rfl | simp [Act.eval]))
          refine CF.out.mono ?_
          rintro e w10 ⟨⟨v, rfl⟩, hE10, hK10⟩
          have HE8 := Lib.hid (hE10.sub (Z := fun j => j < H) (fun j hj => .inl hj))
          have HK8 := Lib.hid (HK9.out.trans (hK10.sub (fun j hj => .inl hj)))
          obtain ⟨t8, ht8⟩ : ∃ t8, t8 = tt + 1 := ⟨_, rfl⟩
          have HT8 := Lib.hid (show t8 ≤ 2 * k + 1 by have := HKK.out; omega)
          rw [← ht8] at HE8
          clear ht8 hE10 hK10 CF hdb HK9 HAP hap hfd hfI hfb hfn
          go_upto_region 15 with (fail)
          generalize w10 = w8 at *
      all_goals
        clear HC3 HLEN HF256
        by_cases hk4 : k < n4
        case' neg =>
          have hk4I : ¬ ((k : Int) < (n4 : Int)) := by omega
          have HRL := Lib.hid (show k + 1 ≤ n3 ∧ t8 ≤ 2 * (k + 1) from ⟨by have := HKK.out; omega, by have := HT8.out; omega⟩)
          clear hk4
          go_wp2
          go_roundw
          case rel => exact ⟨k + 1, t8, sent, HRL.out.1, HRL.out.2, by go_num, rfl, HSR.out, HE8.out, HK8.out⟩
          case measure => have := HRL.out; simp [intOf]; omega
        case' pos =>
          have hk4I : (k : Int) < (n4 : Int) := by omega
          obtain ⟨lk, hlk⟩ : ∃ v, L4[k]? = some v := ⟨_, List.getElem?_eq_getElem (by have := HL4.out; omega)⟩
          obtain ⟨x4, ha4, hc4, hf4⟩ := HN4.out.kept (C7.out _ HK8.out).2 hlk
          obtain ⟨l0, l1⟩ := bounds_u16 hf4
          obtain ⟨r9, hr9⟩ : ∃ r, lk.tmod 100 = r := ⟨_, rfl⟩
          have hr90 : 0 ≤ r9 ∧ r9 < 100 := by rw [Int.tmod_eq_emod_of_nonneg l0] at hr9; omega
          have hv1 : IntKind.i64.wrap lk = lk := IntWalk.i64_in _ (by omega)
          have hv2 : IntKind.i64.wrap r9 = r9 := IntWalk.i64_in _ (by omega)
          obtain ⟨ln, hln⟩ : ∃ l : Nat, 42 + r9 = (l : Int) := ⟨(42 + r9).toNat, by omega⟩
          have hv3 : IntKind.i64.wrap (ln : Int) = (ln : Int) := IntWalk.i64_in _ (by omega)
          have HLN := Lib.hid (show 42 ≤ ln ∧ ln ≤ 9216 by omega)
          obtain ⟨sm, hsm⟩ : ∃ z, sent + (ln : Int) = z := ⟨_, rfl⟩
          have hsr := HSR.out
          have hv4 : IntKind.i64.wrap sm = sm := IntWalk.i64_in _ (by omega)
          have HSM := Lib.hid (show 0 ≤ sm by omega)
          subst ha4
          clear hlk hf4 l0 l1 hr90 hsr hk4
          by_cases hs : sm ≤ 5000
          case' neg =>
            have hsI : (5000 : Int) < sm := by omega
            have HRL := Lib.hid (show k + 1 ≤ n3 ∧ t8 ≤ 2 * (k + 1) from ⟨by have := HKK.out; omega, by have := HT8.out; omega⟩)
            clear hs
            go_wp2
            go_roundw
            case rel => exact ⟨k + 1, t8, sent, HRL.out.1, HRL.out.2, by go_num, rfl, HSR.out, HE8.out, HK8.out⟩
            case measure => have := HRL.out; simp [intOf]; omega
          case' pos =>
            have hsI : ¬ ((5000 : Int) < sm) := by omega
            have CP0 : Hid (∀ w', Calls Tryz.prog 12 #[.int .u8 0, .int .i64 (ln : Nat)] w' fun e w'' => ∃ g c, e = .returned (.slice (some ⟨g, 0, none⟩) ln c) ∧ FrAt w'' g 0 ln c (pbB 0 (ln - 14)) ∧ Below w'.heap.size w' w'' ∧ w'.heap.size ≤ g) := Lib.hid fun w' => packet_nn 0 ln w' (by decide) HLN.out.1 HLN.out.2
            go_wp2_with fail
            refine (CP0.out _).mono ?_
            rintro e w9 ⟨g, cc, rfl, hfr, hBp, hge⟩
            have hE9 := HE8.out.mine hBp hge hfr.blk
            have HK9 := Lib.hid (HK8.out.trans (Kp.of_below hBp))
            have hcf := vic_frame0 hE9 HFF.out HC00.out.1 HC00.out.2 (by have := HKK.out; have := HT8.out; omega) g cc ln k HLN.out.1 HLN.out.2 (by rw [hsm]; exact hs) hfr (.inr rfl)
            rw [hsm] at hcf
            have CF := Lib.hid hcf
            have hdb := dr_build k w9
            have HS5 := Lib.hid hs
            clear hfr hBp hge hE9 HE8 HK8 hc4 hcf hs CP0
            go_wp2_with ((with_reducible refine arm_build 112 41 _ #[(0, .int .u64 (k : Nat)), (1, .int .u64 0)] _ hdb ?_ ?_); (first | rfl | simp [Act.eval]))
            refine CF.out.mono ?_
            rintro e w10 ⟨rfl, hE10, hK10⟩
            have HE10 := Lib.hid (hE10.sub (Z := fun j => j < H) (fun j hj => .inl hj))
            have HK10 := Lib.hid (HK9.out.trans (hK10.sub (fun j hj => .inl hj)))
            have hvt : (Tryz.prog.info? 35).map (·.size) = some 6 := by kernel_rfl
            have HVT := Lib.hid hvt
            clear hE10 hK10 CF hdb HK9 hvt
            go_upto_region 20 with (first | ((with_reducible refine arm_alloc 20 35 VZ1 6 HVZ.out ?_); intro w11 HB11 HX11 HS11; have hst := box_store (t := 35) (x := #[.int .i64 (t8 : Nat), .int .i64 0, .int .i64 (c0 : Nat), .int .i64 (-1), .bool false, .bool false]) HX11.out HVT.out (by kernel_rfl) HVZS.out) | ((with_reducible refine arm_store 20 113 35 _ _ _ hst ?_ ?_ ?_); rfl; rfl))
            have hX12 := box_whole HX11.out (cs := #[.int .i64 (t8 : Nat), .int .i64 0, .int .i64 (c0 : Nat), .int .i64 (-1), .bool false, .bool false]) HVZS.out.symm
            have hB12 := below_setCells (b := w10.heap.size) (Nat.le_refl _) (#[.int .i64 (t8 : Nat), .int .i64 0, .int .i64 (c0 : Nat), .int .i64 (-1), .bool false, .bool false] : Array Value).toList 0 HB11.out
            have HE12 := Lib.hid (HE10.out.below hB12)
            have HK12 := Lib.hid (HK10.out.trans (Kp.of_below hB12))
            clear hB12 hst HB11 HX11 HS11 HE10 HK10
            generalize w11.setCells w10.heap.size 0 _ = w12 at *
            generalize w10.heap.size = vb at *
            have v1 := cells_of_row hX12 1 _ rfl
            have v2 := cells_of_row hX12 2 _ rfl
            have hcI : ¬ (2 * (n : Int) ≤ (c0 : Int)) := by have := HC0.out; omega
            have hcD : decide (2 * (n : Int) ≤ (c0 : Int)) = false := decide_eq_false hcI
            have HRL := Lib.hid (show k + 1 ≤ n3 ∧ t8 + 1 ≤ 2 * (k + 1) from ⟨by have := HKK.out; omega, by have := HT8.out; omega⟩)
            clear hX12
            go_wp2
            go_roundw
            case rel => exact ⟨k + 1, t8 + 1, sm, HRL.out.1, HRL.out.2, by go_num, rfl, ⟨HSM.out, HS5.out⟩, HE12.out, HK12.out⟩
            case measure => have := HRL.out; simp [intOf]; omega
end Go.Proofs.YtpanmfdbdgecaaaGreat.C

namespace Go.Proofs.YtpanmfdbdgecaaaGreat.C
open Go.RowKit
set_option linter.unusedVariables false
set_option maxRecDepth 100000 in
/-- Not for these numbers: the program is awake. -/
theorem victim_skip (kv : Array Value) (bk bs : Int) (a3 : Option Addr) (n3 c3 : Nat) (a4 : Option Addr) (n4 c4 : Nat) (w : World) (hm3 : n3 ≤ 9223372036854775807) (hm4 : n4 ≤ 9223372036854775807) (hno : 30 < n3 ∨ (n3 ≤ 30 ∧ n3 < n4)) :
    Calls Tryz.prog 3 #[.agg kv, .int .u8 bk, .int .u8 bs, .slice a3 n3 c3, .slice a4 n4 c4] w fun e w' => e = .returned (.bool true) ∧ Below w.heap.size w w' := by
  have CA := Lib.hid awake_is
  rcases hno with h0 | ⟨h0, h1⟩
  · have d0 : decide (30 < n3) = true := decide_eq_true h0
    have e0 : (30 : Int) < (n3 : Int) := by omega
    refine calls_hide fun Q HQ => ?_
    go_enter Tryz.func3, Tryz.ntmps3
    go_upto_region 1 with ((with_reducible refine arm_box 5 0 22 kv rfl ?_); intro w1 HB1 HX1 HS1)
    have B2 := Lib.hid HB1.out
    clear HB1 HX1 HS1
    go_wp2_with fail
    refine (CA.out _).mono ?_
    rintro e w3 ⟨rfl, hB3⟩
    have B3 := Lib.hid (B2.out.trans (hB3.mono B2.out.size))
    clear hB3 B2
    go_wp2_with fail
    refine (CA.out _).mono ?_
    rintro e w4 ⟨rfl, hB4⟩
    have B4 := Lib.hid (B3.out.trans (hB4.mono B3.out.size))
    clear hB4 B3
    go_wp2
    exact HQ.out _ _ ⟨rfl, B4.out⟩
  · have d0 : decide (30 < n3) = false := decide_eq_false (by omega)
    have d1 : decide (n3 < n4) = true := decide_eq_true h1
    have e0 : (n3 : Int) ≤ 30 := by omega
    have e1 : (n3 : Int) < (n4 : Int) := by omega
    refine calls_hide fun Q HQ => ?_
    go_enter Tryz.func3, Tryz.ntmps3
    go_upto_region 1 with ((with_reducible refine arm_box 5 0 22 kv rfl ?_); intro w1 HB1 HX1 HS1)
    have B2 := Lib.hid HB1.out
    clear HB1 HX1 HS1
    go_wp2_with fail
    refine (CA.out _).mono ?_
    rintro e w3 ⟨rfl, hB3⟩
    have B3 := Lib.hid (B2.out.trans (hB3.mono B2.out.size))
    clear hB3 B2
    go_wp2_with fail
    refine (CA.out _).mono ?_
    rintro e w4 ⟨rfl, hB4⟩
    have B4 := Lib.hid (B3.out.trans (hB4.mono B3.out.size))
    clear hB4 B3
    go_wp2
    exact HQ.out _ _ ⟨rfl, B4.out⟩
theorem walk_victim (kv : Array Value) (bk bs : Int) (a3 : Option Addr) (l3 c3 : Nat) (z3 : List Int) (a4 : Option Addr) (l4 c4 : Nat) (z4 : List Int) (w : World) (h0 : ∃ K, Key16 kv K ∧ ∀ j, K j < 256) (h1 : (Lit.int .u8 bk).wf = true) (h2 : (Lit.int .u8 bs).wf = true) (h3 : IsRow .u16 w a3 l3 c3 z3) (h4 : IsRow .u16 w a4 l4 c4 z4) :
    Calls Tryz.prog 3 #[.agg kv, .int .u8 bk, .int .u8 bs, .slice a3 l3 c3, .slice a4 l4 c4] w fun e w' => e = .returned (.bool true) ∧ Below w.heap.size w w' := by
  obtain ⟨K, hk, hkb⟩ := h0
  obtain ⟨K3, rfl, hN3, hm3⟩ := nums_of h3
  obtain ⟨K4, rfl, hN4, hm4⟩ := nums_of h4
  rcases Nat.lt_or_ge 30 K3.length with q1 | q1
  · exact victim_skip kv bk bs a3 _ c3 a4 _ c4 w hm3 hm4 (.inl q1)
  rcases Nat.lt_or_ge K3.length K4.length with q2 | q2
  · exact victim_skip kv bk bs a3 _ c3 a4 _ c4 w hm3 hm4 (.inr ⟨q1, q2⟩)
  exact victim_main kv K bk bs a3 K3 c3 a4 K4 c4 w hk hkb h1 h2 q1 q2 hN3 hN4
end Go.Proofs.YtpanmfdbdgecaaaGreat.C
