/- The walks of package mail over a box that lies in memory. -/
import Derived.Test.YtpeedbnboghafaaBase
import Derived.Test.YtpeedbnboghafaaProg
import Derived.Test.YtpeedbnboghafaaChecked
import Derived.Conc.LoneCalls
import Derived.KernelRfl
namespace Go.Proofs.Ytpeedbnboghafaa.C
open Go.Conc Go.RowKit
set_option linter.unusedVariables false

section
variable {P : Program} {fr : Frame} {cs : List Frame} {w w₁ : World} {es : Array Event} {c cap s r : Nat} {buf : Array Value} {z z' v : Value} {tm closed : Bool}
/-- A select of one send, with a default; there is room. -/
theorem step_select_send (h : stepG P true (G fr cs) w = .comm (G fr cs) #[scase c v z'] false .select w₁ es) (hc : w₁.heap[c]? = some (.chan cap buf false s r tm)) (hroom : buf.size < cap) :
    step P (solo (G fr cs) w) = .next (solo (G (fr.finish (.tuple #[goInt 0, .bool false])) cs) (w₁.setChan c cap (buf.push v) false (s + 1) r tm)) := by
  have hp := partners_alone (c := c) false
  rw [step, stepT_solo rfl]
  simp [runT, solo, G, Array.swapAt!, Array.swapAt, h, GStep.es, communicate, ways, scase, hc, hp, hroom, choose, Sem.run, Question.forced, bind, Sem.bind, pure, Goroutine.finishComm, commResult, World.setChan] at h ⊢
/-- .. there is none. -/
theorem step_select_full (h : stepG P true (G fr cs) w = .comm (G fr cs) #[scase c v z'] false .select w₁ es) (hc : w₁.heap[c]? = some (.chan cap buf false s r tm)) (hroom : ¬ buf.size < cap) :
    step P (solo (G fr cs) w) = .next (solo (G (fr.finish (.tuple #[goInt (-1), .bool false])) cs) w₁) := by
  have hp := partners_alone (c := c) false
  rw [step, stepT_solo rfl]
  simp [runT, solo, G, Array.swapAt!, Array.swapAt, h, GStep.es, communicate, ways, scase, hc, hp, hroom, Goroutine.finishComm, commResult] at h ⊢
/-- A select of one receive, with a default; something is there. -/
theorem step_select_recv (h : stepG P true (G fr cs) w = .comm (G fr cs) #[rcase c z] false .select w₁ es) (hc : w₁.heap[c]? = some (.chan cap buf closed s r tm)) (hsome : 0 < buf.size) :
    step P (solo (G fr cs) w) = .next (solo (G (fr.finish (.tuple #[goInt 0, .bool true, buf.getD 0 undef])) cs) (w₁.setChan c cap (buf.extract 1 buf.size) closed s (r + 1) tm)) := by
  have hp := partners_alone (c := c) true
  rw [step, stepT_solo rfl]
  simp [runT, solo, G, Array.swapAt!, Array.swapAt, h, GStep.es, communicate, ways, rcase, hc, hp, hsome, choose, Sem.run, Question.forced, bind, Sem.bind, pure, Goroutine.finishComm, commResult, World.setChan] at h ⊢
end
set_option maxRecDepth 100000 in
theorem put_room (pb c cap s r : Nat) (x : Int) (buf : Array Value) (w : World) (hp : w.cell? ⟨pb, 0, none⟩ = some (.chan (some c))) (hc : w.heap[c]? = some (.chan cap buf false s r false)) (hroom : buf.size < cap) :
    Calls Try.prog 23 #[.pointer (some ⟨pb, 0, none⟩), .int .i64 x] w fun e w' => e = .returned (.bool true) ∧ w' = w.setChan c cap (buf.push (.int .i64 x)) false (s + 1) r false := by
  refine calls_of_loneTo fun cs => ?_
  have e : Frame.enter Try.prog 23 #[.pointer (some ⟨pb, 0, none⟩), .int .i64 x] .normal = (base 23).at ⟨#[.pointer (some ⟨pb, 0, none⟩), .int .i64 x, undef, undef, undef, undef, undef, undef, undef, undef, undef, undef, undef, undef, undef], []⟩ [.code (Try.f23.body.getD .skip)] := by
    simp [Frame.enter, Frame.at, Try.func23, base, Try.f23]
  rw [e]
  refine LoneTo.goes (n := 60) ?_
  simp only [Try.f23, Option.getD_some]
  s_c stepG_seq
  s_reg
  s_op
  s_c stepG_region_end
  s_c stepG_seq
  s_c stepG_seq
  s_reg
  s_op
  s_op
  s_c stepG_region_end
  s_cond false
  s_c stepG_skip
  s_c stepG_seq
  s_c stepG_seq
  s_reg
  s_op
  s_op
  s_op
  s_op
  s_c stepG_region_end
  s_reg
  s_op
  s_c stepG_region_end
  s_c stepG_seq
  s_reg
  s_stop
  refine LoneTo.step (step_select_send (c := c) (v := .int .i64 x) (z' := .int .i64 0) (cap := cap) (s := s) (r := r) (tm := false) (stepG_comm (cases := #[scase c (.int .i64 x) (.int .i64 0)]) (blocking := false) (shape := .select) (w' := w) rfl rfl (by decide) (by simp [go_sem, execOp, scase, Act.eval])) hc hroom) ?_
  rw [Frame.finish_at]
  walk_nrm
  refine LoneTo.goes (n := 40) ?_
  s_op
  s_op
  s_c stepG_region_end
  s_c stepG_block
  s_cond true
  s_c stepG_seq
  s_reg
  s_op
  s_c stepG_region_end
  s_c stepG_ret'
  s_stop
  exact LoneTo.done ⟨.returned (.bool true), _, rfl, ⟨rfl, rfl⟩, rfl, rfl, rfl, rfl, _, Try.func23, by simp [results, Try.f23, Frame.at]⟩
set_option maxRecDepth 100000 in
theorem put_full (pb c cap s r : Nat) (x : Int) (buf : Array Value) (w : World) (hp : w.cell? ⟨pb, 0, none⟩ = some (.chan (some c))) (hc : w.heap[c]? = some (.chan cap buf false s r false)) (hroom : ¬ buf.size < cap) :
    Calls Try.prog 23 #[.pointer (some ⟨pb, 0, none⟩), .int .i64 x] w fun e w' => e = .returned (.bool false) ∧ w' = w := by
  refine calls_of_loneTo fun cs => ?_
  have e : Frame.enter Try.prog 23 #[.pointer (some ⟨pb, 0, none⟩), .int .i64 x] .normal = (base 23).at ⟨#[.pointer (some ⟨pb, 0, none⟩), .int .i64 x, undef, undef, undef, undef, undef, undef, undef, undef, undef, undef, undef, undef, undef], []⟩ [.code (Try.f23.body.getD .skip)] := by
    simp [Frame.enter, Frame.at, Try.func23, base, Try.f23]
  rw [e]
  refine LoneTo.goes (n := 60) ?_
  simp only [Try.f23, Option.getD_some]
  s_c stepG_seq
  s_reg
  s_op
  s_c stepG_region_end
  s_c stepG_seq
  s_c stepG_seq
  s_reg
  s_op
  s_op
  s_c stepG_region_end
  s_cond false
  s_c stepG_skip
  s_c stepG_seq
  s_c stepG_seq
  s_reg
  s_op
  s_op
  s_op
  s_op
  s_c stepG_region_end
  s_reg
  s_op
  s_c stepG_region_end
  s_c stepG_seq
  s_reg
  s_stop
  refine LoneTo.step (step_select_full (c := c) (v := .int .i64 x) (z' := .int .i64 0) (cap := cap) (s := s) (r := r) (tm := false) (stepG_comm (cases := #[scase c (.int .i64 x) (.int .i64 0)]) (blocking := false) (shape := .select) (w' := w) rfl rfl (by decide) (by simp [go_sem, execOp, scase, Act.eval])) hc hroom) ?_
  rw [Frame.finish_at]
  walk_nrm
  refine LoneTo.goes (n := 40) ?_
  s_op
  s_op
  s_c stepG_region_end
  s_c stepG_block
  s_cond false
  s_c stepG_seq
  s_reg
  s_op
  s_c stepG_region_end
  s_c stepG_ret'
  s_stop
  exact LoneTo.done ⟨.returned (.bool false), _, rfl, ⟨rfl, rfl⟩, rfl, rfl, rfl, rfl, _, Try.func23, by simp [results, Try.f23, Frame.at]⟩
set_option maxRecDepth 100000 in
theorem take_some (pb c cap s r : Nat) (x : Value) (buf : Array Value) (w : World) (hp : w.cell? ⟨pb, 0, none⟩ = some (.chan (some c))) (hc : w.heap[c]? = some (.chan cap buf false s r false)) (hsome : 0 < buf.size) (hx : buf.getD 0 undef = x) :
    Calls Try.prog 26 #[.pointer (some ⟨pb, 0, none⟩)] w fun e w' => e = .returned (.tuple #[x, .bool true]) ∧ w' = w.setChan c cap (buf.extract 1 buf.size) false s (r + 1) false := by
  refine calls_of_loneTo fun cs => ?_
  have e : Frame.enter Try.prog 26 #[.pointer (some ⟨pb, 0, none⟩)] .normal = (base 26).at ⟨#[.pointer (some ⟨pb, 0, none⟩), undef, undef, undef, undef, undef, undef, undef, undef, undef, undef, undef, undef, undef, undef, undef, undef, undef, undef], []⟩ [.code (Try.f26.body.getD .skip)] := by
    simp [Frame.enter, Frame.at, Try.func26, base, Try.f26]
  rw [e]
  refine LoneTo.goes (n := 80) ?_
  simp only [Try.f26, Option.getD_some]
  s_c stepG_seq
  s_reg
  s_op
  s_op
  s_c stepG_region_end
  s_c stepG_seq
  s_reg
  s_op
  s_c stepG_region_end
  s_c stepG_seq
  s_c stepG_seq
  s_reg
  s_op
  s_op
  s_c stepG_region_end
  s_cond false
  s_c stepG_skip
  s_c stepG_seq
  s_reg
  s_op
  s_op
  s_op
  s_op
  s_c stepG_region_end
  s_c stepG_seq
  s_reg
  s_stop
  refine LoneTo.step (step_select_recv (c := c) (z := .int .i64 0) (cap := cap) (s := s) (r := r) (tm := false) (stepG_comm (cases := #[rcase c (.int .i64 0)]) (blocking := false) (shape := .select) (w' := w) rfl rfl (by decide) (by simp [go_sem, execOp, rcase, Act.eval])) hc hsome) ?_
  rw [Frame.finish_at]
  rw [hx]
  walk_nrm
  refine LoneTo.goes (n := 60) ?_
  s_op
  s_op
  s_c stepG_region_end
  s_c stepG_block
  s_cond true
  s_c stepG_seq
  s_reg
  s_op
  s_op
  s_c stepG_region_end
  s_c stepG_seq
  s_reg
  s_op
  s_op
  s_op
  s_c stepG_region_end
  s_c stepG_ret'
  s_stop
  exact LoneTo.done ⟨.returned (.tuple #[x, .bool true]), _, rfl, ⟨rfl, rfl⟩, rfl, rfl, rfl, rfl, _, Try.func26, by simp [results, Try.f26, Frame.at]⟩
set_option maxRecDepth 100000 in
theorem take_none (pb c cap s r : Nat) (w : World) (hp : w.cell? ⟨pb, 0, none⟩ = some (.chan (some c))) (hc : w.heap[c]? = some (.chan cap #[] false s r false)) :
    Calls Try.prog 26 #[.pointer (some ⟨pb, 0, none⟩)] w fun e w' => e = .returned (.tuple #[.int .i64 0, .bool false]) ∧ w' = w := by
  refine calls_of_loneTo fun cs => ?_
  have e : Frame.enter Try.prog 26 #[.pointer (some ⟨pb, 0, none⟩)] .normal = (base 26).at ⟨#[.pointer (some ⟨pb, 0, none⟩), undef, undef, undef, undef, undef, undef, undef, undef, undef, undef, undef, undef, undef, undef, undef, undef, undef, undef], []⟩ [.code (Try.f26.body.getD .skip)] := by
    simp [Frame.enter, Frame.at, Try.func26, base, Try.f26]
  rw [e]
  refine LoneTo.goes (n := 80) ?_
  simp only [Try.f26, Option.getD_some]
  s_c stepG_seq
  s_reg
  s_op
  s_op
  s_c stepG_region_end
  s_c stepG_seq
  s_reg
  s_op
  s_c stepG_region_end
  s_c stepG_seq
  s_c stepG_seq
  s_reg
  s_op
  s_op
  s_c stepG_region_end
  s_cond false
  s_c stepG_skip
  s_c stepG_seq
  s_reg
  s_op
  s_op
  s_op
  s_op
  s_c stepG_region_end
  s_c stepG_seq
  s_reg
  s_stop
  refine LoneTo.step (step_lone_select_default (c := c) (z := .int .i64 0) (cap := cap) (s := s) (r := r) (tm := false) (stepG_comm (cases := #[rcase c (.int .i64 0)]) (blocking := false) (shape := .select) (w' := w) rfl rfl (by decide) (by simp [go_sem, execOp, rcase, Act.eval])) hc) ?_
  rw [Frame.finish_at]
  walk_nrm
  refine LoneTo.goes (n := 60) ?_
  s_op
  s_op
  s_c stepG_region_end
  s_c stepG_block
  s_cond false
  s_c stepG_seq
  s_reg
  s_op
  s_op
  s_op
  s_c stepG_region_end
  s_c stepG_ret'
  s_stop
  exact LoneTo.done ⟨.returned (.tuple #[.int .i64 0, .bool false]), _, rfl, ⟨rfl, rfl⟩, rfl, rfl, rfl, rfl, _, Try.func26, by simp [results, Try.f26, Frame.at]⟩
theorem put_nil (x : Int) (w : World) : Calls Try.prog 23 #[.pointer none, .int .i64 x] w fun e w' => e = .returned (.bool false) ∧ w' = w := by
  go_enter Try.func23, Try.ntmps23
  go_wp2
  go_ret
  exact ⟨rfl, rfl⟩
theorem take_nil (w : World) : Calls Try.prog 26 #[.pointer none] w fun e w' => e = .returned (.tuple #[.int .i64 0, .bool false]) ∧ w' = w := by
  go_enter Try.func26, Try.ntmps26
  go_wp2
  go_ret2
  exact ⟨rfl, rfl⟩
theorem len_nil (w : World) : Calls Try.prog 25 #[.pointer none] w fun e w' => e = .returned (.int .i64 0) ∧ w' = w := by
  go_enter Try.func25, Try.ntmps25
  go_wp2
  go_ret
  exact ⟨rfl, rfl⟩
end Go.Proofs.Ytpeedbnboghafaa.C
