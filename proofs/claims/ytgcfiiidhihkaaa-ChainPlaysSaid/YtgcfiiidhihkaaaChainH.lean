/- The walk of the reference's Cut (chains): refused. -/
import Derived.Test.YtgcfiiidhihkaaaChainG
namespace Go.Proofs.Ytgcfiiidhihkaaa.C
open Go.RowKit
set_option linter.unusedVariables false
set_option maxRecDepth 100000 in
set_option maxHeartbeats 1000000 in
theorem rc_cut_no (base g cap m : Nat) (l k : Int) (S : List Value) (Q : List (List Nat)) (w : World) (h : CR w base g cap S Q) (hQ : Q.length ≤ 129) (hk : k ≤ 4611686018427387904) (hq4 : ∀ q ∈ Q, q.length ≤ 4096) (hc : atQ Q l k < 0) :
    Calls Try.prog 39 #[cv g cap Q.length m, .int .i64 l, .int .i64 k] w fun e w' => ∃ g' cap' S', e = .returned (cv g' cap' Q.length m) ∧ CR w' base g' cap' S' Q ∧ Below w.heap.size w w' := by
  have CL := Lib.hid (fun w' hR => rc_at base g cap m l k S Q w' hR hQ hk hq4)
  obtain ⟨hK, hb2⟩ := two_boxes (m := m) h
  clear h hq4
  have HK := Lib.hid hK
  have HB2 := Lib.hid hb2
  generalize atQ Q l k = at_ at *
  generalize hn : Q.length = n at *
  have HN := Lib.hid hn
  clear hn hK hb2
  go_enter Try.func39, Try.ntmps39
  go_upto_region 1 with (fail)
  generalize (w.alloc (.cells #[.slice (some ⟨g, 0, none⟩) n cap, .int .i64 (m : Nat)] 57)).alloc (.cells #[.slice none 0 0, .int .i64 0] 57) = wA at *
  have k0 := HK.out.c0
  rw [HN.out] at k0
  have k1 := HK.out.c1
  go_wp2_with fail
  refine (CL.out _ HK.out.row).mono ?_
  rintro e w1 ⟨rfl, hB⟩
  have hK1 := HK.out.next hB
  have hb1 := keepB hB HB2.out
  clear k0 k1 HK HB2 CL hB
  have k0 := hK1.c0
  rw [HN.out] at k0
  have k1 := hK1.c1
  obtain ⟨c0, c1, f0, f1⟩ := box_facts2 hb1
  have HK1 := Lib.hid hK1
  have HB1 := Lib.hid hb1
  clear hK1 hb1
  go_wp2_with fail
  (try simp only [Exit.inBlock, Exit.then])
  refine bodyPost_ret (results_cell_row rfl _ _ _ _ _ _ _ rfl (box2 HB1.out _ _) Try.underlying57 rfl rfl) rfl ?_
  exact ⟨g, cap, S, rfl, HK1.out.row.result HB1.out HK1.out.below (by omega) _ _⟩
end Go.Proofs.Ytgcfiiidhihkaaa.C
