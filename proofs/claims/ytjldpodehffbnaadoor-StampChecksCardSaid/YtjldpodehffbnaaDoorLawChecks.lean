/- The law StampChecks returns true: the walk. -/
import Derived.Test.YtjldpodehffbnaaDoorKnown
namespace Go.Proofs.YtjldpodehffbnaaDoor
set_option linter.unusedVariables false
open Go.RowKit

set_option maxRecDepth 20000 in set_option maxHeartbeats 400000 in
theorem stampChecks_any (e : Int) (A : Option Addr) (n c : Nat) (xs : List Int) (w : World) (hx : Sl w A n (i64s xs)) (hnc : n ≤ c) (hcm : c ≤ maxLen) (ht : Pow10 w) :
    Calls Tryd.prog 3 #[.agg #[.int .i64 e, .slice A n c]] w fun e' w' => e' = .returned (.bool true) ∧ Below w.heap.size w w' := by
  have htt := Lib.hid ht
  have hmin : min n 600 ≤ maxLen := by unfold maxLen; omega
  have hxt : Sl w A (min n 600) (i64s (xs.take (min n 600))) := by rw [← i64s_take]; exact hx.take (Nat.min_le_left _ _)
  clear ht
  go_enter Tryd.func3, Tryd.ntmps3
  go_wp2_with fail
  refine (short_any e A n c _ hnc hcm).mono ?_
  rintro e' w1 ⟨rfl, hb⟩
  have k0 := G.cell (a := ⟨w.heap.size, 0, none⟩) (v := .int .i64 e) (by go_simp) hb
  have k1 := G.cell (a := ⟨w.heap.size, 1, none⟩) (v := .slice A n c) (by go_simp) hb
  obtain ⟨hc, hf⟩ := G.old hb
  go_wp2
  have hb0 : Below w.heap.size w w1 := by repeat (first | assumption | with_reducible exact G.refl _ | with_reducible refine G.drew ?_ | with_reducible refine G.drewN ?_ _ | with_reducible refine G.alloc ?_ _ | with_reducible refine Below.setCell ?_ (by simp; done) _ | with_reducible refine G.trans ?_ hb5 | with_reducible refine G.trans ?_ hb4 | with_reducible refine G.trans ?_ hb3 | with_reducible refine G.trans ?_ hb2 | with_reducible refine G.trans ?_ hb1 | with_reducible refine G.trans ?_ hb)
  generalize min n 600 = m at *
  generalize xs.take m = ys at *
  obtain ⟨w2, hw2⟩ : ∃ w2, (w1.setCell ⟨w.heap.size, 0, none⟩ (Value.int .i64 e)).setCell ⟨w.heap.size, 1, none⟩ (Value.slice A m c) = w2 := ⟨_, rfl⟩
  have hb2 : Below w.heap.size w w2 := by subst hw2; repeat (first | assumption | with_reducible exact G.refl _ | with_reducible refine G.drew ?_ | with_reducible refine G.drewN ?_ _ | with_reducible refine G.alloc ?_ _ | with_reducible refine Below.setCell ?_ (by simp; done) _ | with_reducible refine G.trans ?_ hb5 | with_reducible refine G.trans ?_ hb4 | with_reducible refine G.trans ?_ hb3 | with_reducible refine G.trans ?_ hb2 | with_reducible refine G.trans ?_ hb1 | with_reducible refine G.trans ?_ hb)
  have j0 : w2.cell? ⟨w.heap.size, 0, none⟩ = some (.int .i64 e) := by subst hw2; go_simp
  have j1 : w2.cell? ⟨w.heap.size, 1, none⟩ = some (.slice A m c) := by subst hw2; go_simp
  have hlt : w.heap.size < w2.heap.size := cell_lt j0
  rw [hw2]
  clear hw2 hb hc hf k0 k1 hb0
  have hx2 := hxt.grow hb2
  have ht2 := Lib.hid (htt.out.grow hb2)
  (refine wp_region_grow (by kernel_rfl) (by kernel_rfl) ?_)
  (repeat ((with_reducible refine wpQuiet_step ?_); intro K hK; first | ((with_reducible refine q_skip ?_ ?_); (focus (go_simp; done)); go_simp; (with_reducible refine hK _ ?_); clear hK K) | ((with_reducible refine q_any ?_ ?_); (focus (go_simp; done)); apply Exists.intro; refine And.intro ?_ ?_; (focus (intro wq hq; obtain ⟨hcq, hfq⟩ := G.old hq; go_simp; (first | done | (go_at_call 15; refine (known_any _ (ht2.out.grow hq.b)).mono (fun e w' h => ⟨h.1, Grew.trans hq h.2⟩)) | (go_at_call 16; refine (check_any e A m c ys _ (hx2.grow hq.b) hmin).mono (fun e w' h => ⟨h.1, Grew.trans hq h.2⟩)) | (go_at_call 17; refine (lcheck_any e A m c ys _ (hx2.grow hq.b) hmin).mono (fun e w' h => ⟨h.1, Grew.trans hq h.2⟩)) | exact rfl); done)); go_simp; (with_reducible refine hK _ ?_); clear hK K) | fail))
  ((with_reducible refine wpQuiet_nil ?_); intro w3 hb3)
  have hb3 := hb3.b
  go_wp2
  go_ret
  exact ⟨rfl, by repeat (first | assumption | with_reducible exact G.refl _ | with_reducible refine G.drew ?_ | with_reducible refine G.drewN ?_ _ | with_reducible refine G.alloc ?_ _ | with_reducible refine Below.setCell ?_ (by simp; done) _ | with_reducible refine G.trans ?_ hb5 | with_reducible refine G.trans ?_ hb4 | with_reducible refine G.trans ?_ hb3 | with_reducible refine G.trans ?_ hb2 | with_reducible refine G.trans ?_ hb1 | with_reducible refine G.trans ?_ hb)⟩
end Go.Proofs.YtjldpodehffbnaaDoor
