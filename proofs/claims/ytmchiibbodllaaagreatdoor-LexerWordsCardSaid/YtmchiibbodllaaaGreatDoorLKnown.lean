/- lexer's laws: known. -/
import Derived.Test.YtmchiibbodllaaaGreatDoorScL
namespace Go.Proofs.YtmchiibbodllaaaGreatDoor
set_option linter.unusedVariables false
set_option linter.unnecessarySimpa false
set_option linter.unusedSimpArgs false
open Go.RowKit

def knL : List UInt8 := [97, 46, 98, 91, 50, 93, 32, 62, 61, 32, 49, 46, 53, 48, 32, 47, 47, 32, 108, 105, 109, 105, 116]
def knT : List Pl := match scanL knL with
  | .ok ts => ts
  | .bad _ _ => []
set_option maxRecDepth 100000 in
theorem kn_scan : scanL knL = .ok knT := by kernel_rfl
set_option maxRecDepth 100000 in
theorem kn_len : knT.length = 8 := by kernel_rfl
set_option maxRecDepth 100000 in
theorem kn_cells : (rowC knL knT ++ endC knL)[3]? = some (.string ⟨#[97]⟩) ∧ (rowC knL knT ++ endC knL)[7]? = some (.bool false) ∧ (rowC knL knT ++ endC knL)[15]? = some (.bool true) ∧ (rowC knL knT ++ endC knL)[37]? = some (.int .i64 2) ∧ (rowC knL knT ++ endC knL)[38]? = some (.int .i64 0) ∧
    (rowC knL knT ++ endC knL)[51]? = some (.string ⟨#[62, 61]⟩) ∧ (rowC knL knT ++ endC knL)[55]? = some (.bool false) ∧ (rowC knL knT ++ endC knL)[61]? = some (.int .i64 150) ∧ (rowC knL knT ++ endC knL)[62]? = some (.int .i64 2) ∧ (rowC knL knT ++ endC knL)[64]? = some (.int .i64 0) := by
  refine ⟨?_, ?_, ?_, ?_, ?_, ?_, ?_, ?_, ?_, ?_⟩ <;> kernel_rfl
theorem scan_any {w : World} (hE : Env w) (s : ByteArray) : Calls Tryz.prog 12 #[.string s] w (RetScan w s.data.toList (scanA s.data.toList)) := by
  by_cases h : 65536 < s.size
  · exact scan_long s h
  · have : scanA s.data.toList = scanL s.data.toList := if_neg h
    rw [this]
    exact scan_short hE s (by omega)
set_option maxRecDepth 20000 in set_option maxHeartbeats 4000000 in
theorem known_any {w : World} (hE : Env w) : Calls Tryz.prog 14 #[] w fun e w' => e = .returned (.bool true) ∧ Below w.heap.size w w' := by
  have SC := Lib.hid (scan_short hE ⟨#[97, 46, 98, 91, 50, 93, 32, 62, 61, 32, 49, 46, 53, 48, 32, 47, 47, 32, 108, 105, 109, 105, 116]⟩ (by decide))
  rw [show (⟨#[97, 46, 98, 91, 50, 93, 32, 62, 61, 32, 49, 46, 53, 48, 32, 47, 47, 32, 108, 105, 109, 105, 116]⟩ : ByteArray).data.toList = knL from rfl, kn_scan] at SC
  clear hE
  go_enter Tryz.func14, Tryz.ntmps14
  go_wp2_with fail
  go_at_call 12
  (with_reducible refine SC.out.mono ?_)
  rintro e1 w1 ⟨hb1, A, c, rfl, hown⟩
  have hS := Sl.of_own hown
  obtain ⟨_, hc⟩ := hS
  rw [kn_len] at hc ⊢
  obtain ⟨g, off, rfl, hg, hcell⟩ := hc (by decide)
  obtain ⟨k0, k1, k2, k3, k4, k5, k6, k7, k8, k9⟩ := kn_cells
  have q0 := hcell 3 _ k0
  have q1 := hcell 7 _ k1
  have q2 := hcell 15 _ k2
  have q3 := hcell 37 _ k3
  have q4 := hcell 38 _ k4
  have q5 := hcell 51 _ k5
  have q6 := hcell 55 _ k6
  have q7 := hcell 61 _ k7
  have q8 := hcell 62 _ k8
  have q9 := hcell 64 _ k9
  clear hcell k0 k1 k2 k3 k4 k5 k6 k7 k8 k9 hown
  go_wp2_with fail
  go_ret
  exact ⟨rfl, hb1⟩
end Go.Proofs.YtmchiibbodllaaaGreatDoor
