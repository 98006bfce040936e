/- Structs and arrays of plain cells that are read: an argument's reading gives its cells as literals; == of two such values is one Bool. No conditions. -/
import Derived.Test.YtgcfiiidhihkaaaBase
import Derived.DeepKeys4
import Derived.Deep.Slices
import Derived.ChangeSame
import Derived.Deep.QuietTactic
import Derived.BigQuiet
import Derived.Maps.RangeWalk
namespace Go.Proofs.Ytgcfiiidhihkaaa.C
open Go.RowKit Go.WideMaps Go.Deep Go.ChangeShapes Go.WideShapes

theorem mapM_ex {α β : Type} {f : α → Option β} : ∀ (l : List α), (∀ x ∈ l, ∃ y, f x = some y) → ∃ r, l.mapM f = some r
  | [], _ => ⟨[], by simp⟩
  | x :: l, h => by
    obtain ⟨y, hy⟩ := h x (by simp)
    obtain ⟨r, hr⟩ := mapM_ex l fun z hz => h z (by simp [hz])
    exact ⟨y :: r, by simp [hy, hr]⟩

section
variable {H : Type} {enc : TypeId × Value → H} {P : Program} {w : World} {base : Nat} {spare : Nat → Bool} {held : Bool}

/-- What is read of a flat type is literals. -/
theorem lits_of_trod : ∀ (m : Nat) (t : TypeId) (fuel : Nat) (cs : List Value) (x : DataW H × List MemPlace), P.keyTypeAt m t = true → DataW.trod enc P w base spare held fuel t cs = some x → ∃ L, P.keyLits m t cs = some L
  | 0, _, _, _, _, h, _ => by simp [Program.keyTypeAt] at h
  | m + 1, t, fuel, cs, x, hk, h => by
    unfold Program.keyTypeAt at hk
    unfold Program.keyLits
    cases hu : P.underlying t with
    | none => simp [hu] at hk
    | some kd =>
      cases kd
      case bool =>
        obtain ⟨b, rfl, _⟩ := DataW.trod_bool hu h
        exact ⟨_, rfl⟩
      case int q =>
        obtain ⟨n, rfl, _, hw⟩ := DataW.trod_int hu h
        simp [hw]
      case string =>
        obtain ⟨s, rfl, _, hw⟩ := DataW.trod_string hu h
        simp [hw]
      case array n e =>
        simp only [hu] at hk
        obtain ⟨xs, m', _, _, hl, hxl, hi⟩ := DataW.trod_array hu h
        obtain ⟨r, hr⟩ := mapM_ex (f := fun i => P.keyLits m e ((cs.drop (i * P.cellsOf e)).take (P.cellsOf e))) (List.range n) fun i hin => by
          have hin' : i < n := List.mem_range.1 hin
          have h1 := hi i hin'
          rw [List.getElem?_eq_getElem (by omega)] at h1
          exact lits_of_trod m e m' _ _ hk h1
        exact ⟨r.flatten, by simp [hl, hr]⟩
      case struct fs =>
        simp only [hu, Bool.and_eq_true, Bool.not_eq_true'] at hk
        obtain ⟨xs, m', _, _, hl, hxl, hi⟩ := DataW.trod_struct hu h
        have hall := Array.all_eq_true_iff_forall_mem.1 hk.1.1
        obtain ⟨r, hr⟩ := mapM_ex (f := fun f => P.keyLits m f.type ((cs.drop f.offset).take (P.cellsOf f.type))) fs.toList fun f hf => by
          obtain ⟨i, hi1, hi2⟩ := List.mem_iff_getElem.1 hf
          have hi3 : fs[i]? = some f := by rw [← hi2]; simp
          have h1 := hi i f hi3
          rw [List.getElem?_eq_getElem (by simp at hi1; omega)] at h1
          have h2 := hall f (Array.mem_toList_iff.1 hf)
          simp only [Bool.and_eq_true] at h2
          exact lits_of_trod m f.type m' _ _ h2.2 h1
        have hn : fs.all (·.name != "_") = true := by
          rw [Array.all_eq_true_iff_forall_mem]
          intro f hf
          have h2 := hall f hf
          simp only [Bool.and_eq_true] at h2
          exact h2.1
        have hcond : (cs.length = P.cellsOf t ∧ fs.all (·.name != "_") = true) := ⟨hl, hn⟩
        exact ⟨r.flatten, by simp only []; rw [if_pos hcond, hr]; rfl⟩
      all_goals (simp [hu] at hk; done)

/-- A value of a flat composite type, as cells. -/
def Flat (P : Program) (t : TypeId) (cs : Array Value) : Prop := ∃ m L, P.keyTypeAt m t = true ∧ P.tiled m t = true ∧ m ≤ 10000 ∧ cs.size = P.cellsOf t ∧ (match P.underlying t with | some (.array _ _) | some (.struct _) => true | _ => false) = true ∧ P.keyLits m t cs.toList = some L
/-- Are two values one? -/
noncomputable def eqA (xs ys : Array Value) : Bool := @decide (xs = ys) (Classical.propDecidable _)
theorem eqA_iff (xs ys : Array Value) : eqA xs ys = true ↔ xs = ys := by unfold eqA; simp
theorem eqA_self (xs : Array Value) : eqA xs xs = true := (eqA_iff _ _).2 rfl

theorem Flat.equal {t : TypeId} {xs ys : Array Value} (hx : Flat P t xs) (hy : Flat P t ys) (w : World) : (Op.equal t (.agg xs) (.agg ys)).run P w = .ok (eqA xs ys) w := by
  obtain ⟨m, L, hk, ht, hm, hs, hwide, hL⟩ := hx
  obtain ⟨m', L', hk', ht', hm', hs', _, hL'⟩ := hy
  have hf : ∀ zs : Array Value, zs.size = P.cellsOf t → (Value.agg zs).formed P t = true := by
    intro zs hz
    unfold Value.formed
    split at hwide <;> rename_i hu <;> simp_all
  obtain ⟨r, hr, hiff⟩ := run_equalIn_deep (P := P) (10000 - m) m t hk w m m' (.agg xs) (.agg ys) L L' (hf xs hs) (hf ys hs') hL hL'
  have hd : 10000 - m + m = 10000 := by omega
  rw [hd] at hr
  unfold Op.equal Op.maxDepth
  rw [hr]
  congr 1
  have hxs := cells_of_lits m t ht m _ _ hL
  have hys := cells_of_lits m' t ht' m' _ _ hL'
  rw [Bool.eq_iff_iff, hiff, eqA_iff]
  constructor
  · rintro rfl
    exact Array.toList_inj.1 (hxs.trans hys.symm)
  · rintro rfl
    have : L.map Lit.toCell = L'.map Lit.toCell := hxs.symm.trans hys
    -- the same cells: the same literals
    have hcell : ∀ (a b : Nat) (l l' : List Lit), P.keyLits a t xs.toList = some l → P.keyLits b t xs.toList = some l' → l = l' := by
      intro a b l l' ha hb
      obtain ⟨r', hr', hiff'⟩ := run_equalIn_deep (P := P) (10000 - m) m t hk w a b (.agg xs) (.agg xs) l l' (hf xs hs) (hf xs hs) ha hb
      obtain ⟨r'', hr'', hiff''⟩ := run_equalIn_deep (P := P) (10000 - m) m t hk w a a (.agg xs) (.agg xs) l l (hf xs hs) (hf xs hs) ha ha
      rw [hr'] at hr''
      have : r' = r'' := by injection hr''
      subst this
      exact hiff'.1 (hiff''.2 rfl)
    exact hcell m m' L L' hL hL'

/-- Cells laid one behind the other from an address on. -/
def Laid (w : World) (a : Addr) (cs : Array Value) : Prop := ∀ j v, cs[j]? = some v → w.cell? (a.add j) = some v
theorem Laid.load {a : Addr} {cs : Array Value} (h : Laid w a cs) : (loadCells a cs.size).run P w = .ok cs w := by
  have := run_loadCells_list (P := P) w a cs.toList (fun j v hv => h j v (by simpa using hv))
  simpa using this
theorem Laid.below {B : Nat} {w' : World} {a : Addr} {cs : Array Value} (h : Laid w a cs) (hb : Below B w w') (ha : a.block < B) : Laid w' a cs := fun j v hv => by
  rw [hb.cell]
  · exact h j v hv
  · have : (a.add j).block = a.block := by unfold Addr.add; split <;> rfl
    omega

/-- The cells of a flat type, as zeros. -/
def shapeOf (P : Program) : Nat → TypeId → List Value
  | 0, _ => []
  | m + 1, t =>
    match P.underlying t with
    | some .bool => [.bool false]
    | some (.int k) => [.int k 0]
    | some .string => [.string ByteArray.empty]
    | some (.array n e) => ((List.range n).map fun _ => shapeOf P m e).flatten
    | some (.struct fs) => (fs.toList.map fun f => shapeOf P m f.type).flatten
    | _ => []
def fits1 : Value → Value → Prop
  | .bool _, .bool _ => True
  | .int k _, .int k' n => k = k' ∧ (Lit.int k n).wf = true
  | .string _, .string s => s.size ≤ maxLen
  | _, _ => False
def Fits : List Value → List Value → Prop
  | [], [] => True
  | s :: ss, c :: cs => fits1 s c ∧ Fits ss cs
  | _, _ => False
theorem Fits.append : ∀ {s s' c c' : List Value}, Fits s c → Fits s' c' → Fits (s ++ s') (c ++ c')
  | [], _, [], _, _, h => h
  | _ :: _, _, _ :: _, _, h, h' => ⟨h.1, Fits.append h.2 h'⟩
theorem Fits.flatten {α : Type} {f g : α → List Value} : ∀ (l : List α), (∀ x ∈ l, Fits (f x) (g x)) → Fits (l.map f).flatten (l.map g).flatten
  | [], _ => trivial
  | x :: l, h => by
    simp only [List.map_cons, List.flatten_cons]
    exact Fits.append (h x (by simp)) (Fits.flatten l fun y hy => h y (by simp [hy]))
theorem Fits.length : ∀ {s c : List Value}, Fits s c → s.length = c.length
  | [], [], _ => rfl
  | _ :: _, _ :: _, h => by simp [Fits.length h.2]
theorem Fits.get : ∀ {s c : List Value} (j : Nat) {u : Value}, Fits s c → s[j]? = some u → ∃ v, c[j]? = some v ∧ fits1 u v
  | _ :: _, c :: _, 0, _, h, hu => by
    simp at hu
    subst hu
    exact ⟨c, rfl, h.1⟩
  | _ :: _, _ :: _, j + 1, _, h, hu => by
    simp at hu
    obtain ⟨v, hv, hf⟩ := Fits.get j h.2 hu
    exact ⟨v, by simpa using hv, hf⟩

theorem fits_of_lits : ∀ (m : Nat) (t : TypeId), P.tiled m t = true → ∀ (D : Nat) (cs : List Value) (l : List Lit), P.keyLits D t cs = some l → Fits (shapeOf P m t) cs
  | 0, _, h => by simp [Program.tiled] at h
  | m + 1, t, ht => by
    intro D cs l h
    cases D with
    | zero => simp [Program.keyLits] at h
    | succ D =>
      unfold Program.tiled at ht
      unfold Program.keyLits at h
      unfold shapeOf
      cases hu : P.underlying t with
      | none => simp [hu] at ht
      | some kd =>
        cases kd
        case bool =>
          simp only [hu] at h ⊢
          split at h <;> simp_all
          exact ⟨trivial, trivial⟩
        case int q =>
          simp only [hu] at h ⊢
          split at h <;> simp_all
          exact ⟨⟨rfl, h.1.2⟩, trivial⟩
        case string =>
          simp only [hu] at h ⊢
          split at h <;> simp_all
          exact ⟨h.1, trivial⟩
        case array n e =>
          simp only [hu, Bool.and_eq_true, beq_iff_eq] at h ht ⊢
          split at h
          · rename_i hl
            simp only [Option.map_eq_some_iff] at h
            obtain ⟨as, ha, rfl⟩ := h
            rw [← chunks_flatten (P.cellsOf e) n cs (by rw [hl, ht.1])]
            refine Fits.flatten _ fun i hi => ?_
            obtain ⟨k, hk1, hk2⟩ := List.mem_iff_getElem.1 hi
            have h1 := mapM_some_get ha k i (by rw [List.getElem?_eq_getElem hk1, hk2])
            have hlen := mapM_some_length ha
            rw [List.getElem?_eq_getElem (by omega)] at h1
            exact fits_of_lits m e ht.2 _ _ _ h1
          · cases h
        case struct fs =>
          simp only [hu, Bool.and_eq_true, beq_iff_eq] at h ht ⊢
          split at h
          · rename_i hl
            simp only [Option.map_eq_some_iff] at h
            obtain ⟨as, ha, rfl⟩ := h
            have hc := fields_flatten (P := P) cs fs.toList 0 _ ht.1 hl.1
            rw [List.drop_zero] at hc
            rw [← hc]
            refine Fits.flatten _ fun f hf => ?_
            obtain ⟨k, hk1, hk2⟩ := List.mem_iff_getElem.1 hf
            have h1 := mapM_some_get ha k f (by rw [List.getElem?_eq_getElem hk1, hk2])
            have hlen := mapM_some_length ha
            rw [List.getElem?_eq_getElem (by omega)] at h1
            exact fits_of_lits m f.type (Array.all_eq_true_iff_forall_mem.1 ht.2 f (Array.mem_toList_iff.1 hf)) _ _ _ h1
          · cases h
        all_goals (simp [hu] at ht; done)

/-- What the opening of a flat type's value wants of the type: closed facts. -/
def FlatType (P : Program) (m : Nat) (t : TypeId) : Bool := P.keyTypeAt m t && P.tiled m t && decide (m ≤ 10000) && (match P.underlying t with | some (.array _ _) | some (.struct _) => true | _ => false)
theorem flat_of_trod {m : Nat} {t : TypeId} (ht : FlatType P m t = true) {fuel : Nat} {cs : List Value} {x : DataW H × List MemPlace} (h : DataW.trod enc P w base spare held fuel t cs = some x) : Flat P t cs.toArray ∧ Fits (shapeOf P m t) cs := by
  simp only [FlatType, Bool.and_eq_true, decide_eq_true_eq] at ht
  obtain ⟨⟨⟨h1, h2⟩, h3⟩, h4⟩ := ht
  obtain ⟨L, hL⟩ := lits_of_trod m t fuel cs x h1 h
  refine ⟨⟨m, L, h1, h2, h3, ?_, h4, hL⟩, fits_of_lits m t h2 m cs L hL⟩
  split at h4 <;> rename_i hu
  · obtain ⟨_, _, _, _, hl, _⟩ := DataW.trod_array hu h
    simpa using hl
  · obtain ⟨_, _, _, _, hl, _⟩ := DataW.trod_struct hu h
    simpa using hl
  · cases h4

/-- A struct by value. -/
theorem open_flat {m : Nat} {t : TypeId} (ht : FlatType P m t = true) {r : Reach} {b0 : Nat} {v : Value} {d : DataW H} {p : List MemPlace} (hv : Value.okWide P w r b0 t v) (h : DataW.Trod enc P w base spare held t v d p) :
    ∃ cs : Array Value, v = .agg cs ∧ Flat P t cs ∧ Fits (shapeOf P m t) cs.toList := by
  have h4 : (match P.underlying t with | some (.array _ _) | some (.struct _) => true | _ => false) = true := by
    simp only [FlatType, Bool.and_eq_true] at ht
    exact ht.2
  have : ∃ cs : Array Value, v = .agg cs := by
    split at h4 <;> rename_i hu
    · simp only [Value.okWide, hu] at hv
      obtain ⟨cs, h1, _⟩ := hv
      exact ⟨cs, h1⟩
    · obtain ⟨cs, rfl, _⟩ := okWide_struct hu hv
      exact ⟨cs, rfl⟩
    · cases h4
  obtain ⟨cs, rfl⟩ := this
  obtain ⟨fuel, hf⟩ := h
  obtain ⟨h1, h2⟩ := flat_of_trod ht hf
  exact ⟨cs, rfl, by simpa [Value.cells] using h1, by simpa [Value.cells] using h2⟩

/-- A slice of flat structs that came in: element i is F i. -/
def FRow (P : Program) (m : Nat) (e : TypeId) (w : World) (a : Option Addr) (len cap : Nat) (F : Nat → Array Value) : Prop :=
  len ≤ cap ∧ cap ≤ maxLen ∧ (0 < len → ∃ x, a = some x ∧ x.block < w.heap.size ∧ ∀ i, i < len → Flat P e (F i) ∧ Fits (shapeOf P m e) (F i).toList ∧ Laid w (x.add (i * P.cellsOf e)) (F i))
theorem open_frow {m : Nat} {t e : TypeId} (ht : P.underlying t = some (.slice e)) (he : FlatType P m e = true) {a : Option Addr} {len cap : Nat} {d : DataW H} {p : List MemPlace}
    (h : DataW.Trod enc P w base (fun _ => true) held t (.slice a len cap) d p) (hC : 0 < P.cellsOf e) : ∃ F, FRow P m e w a len cap F := by
  obtain ⟨fuel, hf⟩ := h
  rcases open_slice ht hf with ⟨hcs, _⟩ | ⟨a', len', cap', m', n, D, Pl, hcs, hb, hl, hm, hmm, hx, hi⟩
  · simp [Value.cells] at hcs
    obtain ⟨rfl, rfl, rfl⟩ := hcs
    exact ⟨fun _ => #[], Nat.le_refl _, by simp, fun h => absurd h (by omega)⟩
  · simp [Value.cells] at hcs
    obtain ⟨rfl, rfl, rfl⟩ := hcs
    have key : ∀ i, i < len → ∃ cs : Array Value, Flat P e cs ∧ Fits (shapeOf P m e) cs.toList ∧ Laid w (a'.add (i * P.cellsOf e)) cs := by
      intro i hil
      obtain ⟨cs', hc, htr⟩ := hi i (by rw [hmm]; simp; omega)
      obtain ⟨h1, h2⟩ := flat_of_trod he htr
      refine ⟨cs'.toArray, h1, by simpa using h2, fun j v hv => ?_⟩
      obtain ⟨_, hcl, hat⟩ := World.cells?_some hc
      have hj : j < cs'.length := by
        rcases Nat.lt_or_ge j cs'.length with hlt | hge
        · exact hlt
        · simp [List.getElem?_eq_none hge] at hv
      have := hat j (by omega)
      rw [this]
      simpa using hv
    refine ⟨fun i => if h : i < len then Classical.choose (key i h) else #[], hl, hm, fun h0 => ⟨a', rfl, ?_, fun i hil => ?_⟩⟩
    · obtain ⟨cs, ⟨_, _, _, _, _, hs, _⟩, _, hL⟩ := key 0 h0
      have := hL 0 (cs[0]'(by omega)) (Array.getElem?_eq_getElem (by omega))
      have := World.block_lt_of_cell? w _ this
      simpa [Addr.add] using this
    · simp only [hil, dif_pos]
      exact Classical.choose_spec (key i hil)
end
theorem Flat.size {P : Program} {t : TypeId} {cs : Array Value} (h : Flat P t cs) : cs.size = P.cellsOf t := by
  obtain ⟨_, _, _, _, _, h, _⟩ := h
  exact h
theorem laid_new (w : World) (cs : Array Value) (t : TypeId) : Laid (w.alloc (.cells cs t)) ⟨w.heap.size, 0, none⟩ cs := fun j v hv => by
  have : (⟨w.heap.size, 0, none⟩ : Addr).add j = ⟨w.heap.size, j, none⟩ := by unfold Addr.add; split <;> simp_all
  rw [this, World.cell?_alloc_new]
  exact hv
theorem Laid.drewN {w : World} {a : Addr} {cs : Array Value} (h : Laid w a cs) (n : Nat) : Laid (w.drewN n) a cs := h


section
variable {P : Program}
/-- A whole struct or array is read. -/
theorem run_load_laid {t : TypeId} {p : Addr} {cs : Array Value} (hagg : (match P.underlying t with | some (.array _ _) | some (.struct _) => true | _ => false) = true)
    (hi : (P.info? t).map (·.size) = some cs.size) {w : World} (hl : Laid w p cs) : (loadVar t p).run P w = .ok (.agg cs) w := by
  have h1 := hl.load (P := P)
  have hia : (isAgg t).run P w = .ok true w := by
    unfold isAgg
    split at hagg <;> rename_i hu
    · simp [Sem.run_bind, run_underlying hu]
    · simp [Sem.run_bind, run_underlying hu]
    · cases hagg
  cases hq : P.info? t with
  | none => simp [hq] at hi
  | some i =>
    have hs : i.size = cs.size := by simpa [hq] using hi
    simp only [Sem.run_bind, Sem.run_pure, Result.andThen_ok, loadVar, hia, if_true, sizeOf, typeInfo, hq, hs, run_program, h1]
/-- One arm of the walk: 'load' of type t from slot s into slot d. -/
theorem wpList_load_laid {ops : Array Oper} {rest : List Oper} {a : Act} {w : World} {Q : Exit → Act → World → Prop} (d s : Nat) (t : TypeId) {ty : TypeId} {pos : String} {after : Array Edge} (p : Addr) (cs : Array Value)
    (hx : a.tmps.getD s undef = .pointer (some p)) (hagg : (match P.underlying t with | some (.array _ _) | some (.struct _) => true | _ => false) = true) (hi : (P.info? t).map (·.size) = some cs.size) (hl : Laid w p cs)
    (h : wpList P ops Q rest (a.put (some d) (.agg cs)) w) : wpList P ops Q (⟨some d, .load t (.tmp s), ty, pos, after, none⟩ :: rest) a w :=
  wpList_plain rfl fun _ hK => by
    have hx' : a.eval (.tmp s) = .pointer (some p) := hx
    unfold Oper.wp execOp
    simp only [hx', Instr.loadAt, Instr.sureAddr, Sem.run_bind, Sem.run_pure, Result.andThen_ok, run_load_laid hagg hi hl]
    exact hK _ _ h
end
section
variable {P : Program} {C : World → Prop} {a : Act} {o : Oper} {K : Act → Prop}
/-- A whole struct or array is read in a region that only reads. -/
theorem quiet_load {t : TypeId} {x : Operand} (ho : o.op = .load t x) (p : Addr) (hx : a.eval x = .pointer (some p)) (cs : Array Value) (hagg : (match P.underlying t with | some (.array _ _) | some (.struct _) => true | _ => false) = true)
    (hi : (P.info? t).map (·.size) = some cs.size) (hl : ∀ w, C w → Laid w p cs) (hk : K (a.put o.dst (.agg cs))) : o.quiet P a C K := by
  refine ⟨.agg cs, fun w hw => ?_, hk⟩
  unfold Oper.quietAt execOp
  simp only [ho, hx, Instr.loadAt, Instr.sureAddr, Sem.run_bind, Sem.run_pure, Result.andThen_ok, run_load_laid hagg hi (hl w hw)]
  exact ⟨rfl, rfl⟩
/-- != of two flat values. -/
theorem quiet_neq {t ty : TypeId} {x y : Operand} (ho : o.op = .binOp .neq t x y ty) (xs ys : Array Value) (hx : a.eval x = .agg xs) (hy : a.eval y = .agg ys) (hfx : Flat P t xs) (hfy : Flat P t ys)
    (hg : P.eqGuardType P.depth t = false) (hk : K (a.put o.dst (.bool (!eqA xs ys)))) : o.quiet P a C K := by
  refine ⟨_, fun w hw => ?_, hk⟩
  unfold Oper.quietAt execOp
  have h1 := hfx.equal hfy w
  simp [ho, hx, hy, eqGuard, binOp, Sem.run_bind, hg, h1, Oper.quietUpon]
theorem quiet_eql {t ty : TypeId} {x y : Operand} (ho : o.op = .binOp .eql t x y ty) (xs ys : Array Value) (hx : a.eval x = .agg xs) (hy : a.eval y = .agg ys) (hfx : Flat P t xs) (hfy : Flat P t ys)
    (hg : P.eqGuardType P.depth t = false) (hk : K (a.put o.dst (.bool (eqA xs ys)))) : o.quiet P a C K := by
  refine ⟨_, fun w hw => ?_, hk⟩
  unfold Oper.quietAt execOp
  have h1 := hfx.equal hfy w
  simp [ho, hx, hy, eqGuard, binOp, Sem.run_bind, hg, h1, Oper.quietUpon]
end
theorem fold_set (l : List Value) : ∀ (k : Nat) (A : Array Value) (i : Nat), k + l.length ≤ A.size →
    ((l.zipIdx k).foldl (fun (cs : Array Value) (x : Value × Nat) => cs.setIfInBounds x.2 x.1) A)[i]? = if k ≤ i ∧ i < k + l.length then l[i - k]? else A[i]? := by
  induction l with
  | nil => intro k A i _; simp; intro h1 h2; omega
  | cons x l ih =>
    intro k A i h
    simp only [List.zipIdx_cons, List.foldl_cons, List.length_cons] at h ⊢
    rw [ih (k + 1) _ i (by simp; omega)]
    by_cases h1 : k + 1 ≤ i ∧ i < k + 1 + l.length
    · rw [if_pos h1, if_pos (by omega)]
      rw [show i - k = (i - (k + 1)) + 1 by omega, List.getElem?_cons_succ]
    · rw [if_neg h1]
      by_cases h2 : i = k
      · subst h2
        rw [if_pos (by omega)]
        rw [Array.getElem?_setIfInBounds_self_of_lt (by omega), Nat.sub_self]; rfl
      · rw [if_neg (by omega), Array.getElem?_setIfInBounds_ne (by omega)]

theorem run_buildSlice_one {P : Program} (t e : TypeId) (cs : Array Value) (n : Nat) (ht : P.underlying t = some (.slice e)) (hi : (P.info? e).map (·.size) = some n) (hz : ∃ z, (P.info? e).map (·.zero) = some (some z)) (h0 : 0 < n) (h1 : n ≤ 65536) (hn : cs.size = n) (w : World) :
    (Instr.buildSlice t 1 #[(0, .agg cs)]).run P w = .ok (.slice (some ⟨w.heap.size, 0, none⟩) 1 1) (w.alloc (.cells cs e)) := by
  subst hn
  obtain ⟨z, hz⟩ := hz
  cases hq : P.info? e with
  | none => simp [hq] at hi
  | some i =>
    have hs : i.size = cs.size := by simpa [hq] using hi
    have hz' : i.zero = some z := by simpa [hq] using hz
    unfold Instr.buildSlice
    simp only [Sem.run_bind, run_underlying ht, Result.andThen_ok, sizeOf, typeInfo, hq, hs, Sem.run_pure, run_program, zeroValue, Nat.one_mul]
    rw [if_neg (by omega), if_neg (by omega)]
    simp only [Sem.run_bind, Sem.run_pure, Result.andThen_ok, run_program, hq, hz', Instr.fill, Value.cells]
    generalize hZ : (Array.map _ (Array.range cs.size)) = Z
    have hZs : Z.size = cs.size := by rw [← hZ]; simp
    simp only [ne_eq, not_true_eq_false, decide_false, Bool.false_or, gt_iff_lt, Nat.zero_mul, Nat.zero_add, hZs, Nat.lt_irrefl, Bool.false_eq_true, if_false]
    have hf : (cs.zipIdx.foldl (fun (c : Array Value) (x : Value × Nat) => c.setIfInBounds x.2 x.1) Z) = cs := by
      apply Array.ext_getElem?
      intro j
      have := fold_set cs.toList 0 Z j (by simp [hZs])
      rw [← Array.foldl_toList, Array.toList_zipIdx]
      rw [this]
      by_cases hj : j < cs.size
      · rw [if_pos (by simp; exact hj)]; simp
      · rw [if_neg (by simp; omega), Array.getElem?_eq_none (by omega), Array.getElem?_eq_none (by omega)]
    simp only [hf]
    rfl

/-- One arm of the walk: a slice of one struct is built. -/
theorem wpList_buildSlice_one {P : Program} {ops : Array Oper} {rest : List Oper} {a : Act} {w : World} {Q : Exit → Act → World → Prop} (d s : Nat) (t e : TypeId) (cs : Array Value) (n : Nat) {ty : TypeId} {pos : String} {after : Array Edge}
    (hx : a.tmps.getD s undef = .agg cs) (ht : P.underlying t = some (.slice e)) (hi : (P.info? e).map (·.size) = some n) (hz : ∃ z, (P.info? e).map (·.zero) = some (some z)) (h0 : 0 < n) (h1 : n ≤ 65536) (hn : cs.size = n)
    (h : wpList P ops Q rest (a.put (some d) (.slice (some ⟨w.heap.size, 0, none⟩) 1 1)) (w.alloc (.cells cs e))) : wpList P ops Q (⟨some d, .buildSlice t 1 #[(0, .tmp s)], ty, pos, after, none⟩ :: rest) a w :=
  wpList_plain rfl fun _ hK => by
    have hx' : a.eval (.tmp s) = .agg cs := hx
    unfold Oper.wp execOp
    simp only [List.map_toArray, List.map_cons, List.map_nil, hx', Sem.run_bind, run_buildSlice_one t e cs n ht hi hz h0 h1 hn, Result.andThen_ok, Sem.run_pure]
    exact hK _ _ h

/-- What a row of e's wants of the type's table. -/
def InfoOk (P : Program) (e : TypeId) (size bytes : Nat) : Bool :=
  match P.info? e with
  | some i => (match i.zero with | some z => z.cells.size == size && i.size == size && i.bytes == bytes | none => false)
  | none => false
theorem info_ok {P : Program} {e : TypeId} {size bytes : Nat} (h : InfoOk P e size bytes = true) : ∃ i z, P.info? e = some i ∧ i.zero = some z ∧ i.size = size ∧ i.bytes = bytes ∧ z.cells.size = size := by
  unfold InfoOk at h
  split at h
  · split at h
    · simp only [Bool.and_eq_true, beq_iff_eq] at h
      exact ⟨_, _, by assumption, by assumption, h.1.2, h.2, h.1.1⟩
    · cases h
  · cases h
end Go.Proofs.Ytgcfiiidhihkaaa.C
