/- device laws: nameOf. -/
import Derived.Test.YtphjgembpcikdaaVNam
namespace Go.Proofs.Ytphjgembpcikdaa
set_option linter.unusedVariables false
set_option linter.unnecessarySimpa false
set_option linter.unusedSimpArgs false
open Go.RowKit

def nameB (n : Nat) : ByteArray := match n % 8 with
  | 0 => ⟨#[97]⟩
  | 1 => ⟨#[98]⟩
  | 2 => ⟨#[99]⟩
  | 3 => ⟨#[97, 46, 49]⟩
  | 4 => ⟨#[126]⟩
  | 5 => ⟨#[]⟩
  | 6 => ⟨#[98, 97, 100, 32, 110, 97, 109, 101]⟩
  | _ => ⟨#[98, 33]⟩
set_option maxRecDepth 20000 in set_option maxHeartbeats 1000000 in
theorem nameOf_any (n : Nat) (hn : n ≤ 255) (w : World) : Calls Try.prog 46 #[.int .u8 n] w fun e w' => e = .returned (.string (nameB n)) ∧ Below w.heap.size w w' := by
  obtain ⟨k, hk⟩ : ∃ k, n % 8 = k := ⟨_, rfl⟩
  have hk8 : k < 8 := by omega
  have hnm : nameB n = nameB k := by unfold nameB; rw [hk, Nat.mod_eq_of_lt hk8]
  rw [hnm]
  have hm : (n : Int) % 8 = (k : Int) := by omega
  have hwn : IntKind.i64.wrap (n : Int) = (n : Int) := by rw [IntWalk.i64_in _ (by omega)]
  clear hnm hk
  go_enter Try.func46, Try.ntmps46
  have hkk : k = 0 ∨ k = 1 ∨ k = 2 ∨ k = 3 ∨ k = 4 ∨ k = 5 ∨ k = 6 ∨ k = 7 := by omega
  clear hk8
  rcases hkk with rfl | rfl | rfl | rfl | rfl | rfl | rfl | rfl
  all_goals
    simp only [Int.ofNat_zero, Int.natCast_one, Int.cast_ofNat_Int] at hm
    go_wp2_with fail
  all_goals
    go_ret
    exact ⟨rfl, by repeat (first | with_reducible assumption | with_reducible exact G.refl _ | with_reducible refine G.drew ?_ | with_reducible refine G.drewN ?_ _ | with_reducible refine G.alloc ?_ _ | with_reducible refine Below.setCell ?_ (by first | (simp; done) | (simp; omega)) _ | with_reducible refine G.trans ?_ hb12 | with_reducible refine G.trans ?_ hb11 | with_reducible refine G.trans ?_ hb10 | with_reducible refine G.trans ?_ hb9 | with_reducible refine G.trans ?_ hb8 | with_reducible refine G.trans ?_ hb7 | with_reducible refine G.trans ?_ hb6 | with_reducible refine G.trans ?_ hb5 | with_reducible refine G.trans ?_ hb4 | with_reducible refine G.trans ?_ hb3 | with_reducible refine G.trans ?_ hb2 | with_reducible refine G.trans ?_ hb1 | with_reducible refine G.trans ?_ hb | assumption)⟩
end Go.Proofs.Ytphjgembpcikdaa
