/- device: perform. -/
import Derived.Test.YtphjgembpcikdaaData
import Derived.Test.YtphjgembpcikdaaTree
import Derived.Test.YtphjgembpcikdaaFs
import Derived.Test.YtphjgembpcikdaaProg
namespace Go.Proofs.Ytphjgembpcikdaa
set_option linter.unusedVariables false
set_option linter.unnecessarySimpa false
set_option linter.unusedSimpArgs false
open Go.RowKit

set_option maxRecDepth 20000 in set_option maxHeartbeats 400000 in
theorem nothing_any (w : World) : Calls Try.prog 39 #[] w fun e w' => e = .returned (.tuple #[]) ∧ w' = w := by
  go_enter Try.func39, Try.ntmps39
  go_wp2_with fail
  go_end0
  exact ⟨rfl, rfl⟩
/-- A function with a body is entered. -/
def Ent (n : Nat) (c : Array Value) : Prop := ∀ w, (callFunc n c).run Try.prog w = .ok (.enter n c) w
theorem ent_nothing (c : Array Value) : Ent 39 c := fun w => Try.call39 c w
set_option maxRecDepth 20000 in set_option maxHeartbeats 1000000 in
/-- The power holds. -/
theorem perform_go {w : World} {d : Nat} {n1 n2 : Nat} {c1 c2 : Array Value} {D1 D2 : World → Prop} {room left : Int} {m : Value} {dn lim : Bool} (e1 : Ent n1 c1) (e2 : Ent n2 c2)
    (h1 : Calls Try.prog n1 c1 w fun e w' => e = .returned (.tuple #[]) ∧ Bx w' d [.int .i64 room, m, .bool dn, .bool lim, .int .i64 left] ∧ D1 w')
    (hl : lim = false ∨ 0 < left)
    (h2 : ∀ w0, D1 w0 → Calls Try.prog n2 c2 (w0.setCell ⟨d, 4, none⟩ (.int .i64 (IntKind.i64.wrap (left - 1)))) fun e w' => e = .returned (.tuple #[]) ∧ D2 w') :
    Calls Try.prog 38 #[.pointer (some ⟨d, 0, none⟩), .func (.func n1) #[] c1, .func (.func n2) #[] c2] w fun e w' => e = .returned (.int .i64 0) ∧ D2 w' := by
  go_enter Try.func38, Try.ntmps38
  have E1 := e1 w
  go_wp2_with fail
  refine h1.mono ?_
  rintro e w1 ⟨rfl, x1, hd1⟩
  have k0 := (x1.2 3 _ rfl).1
  have k1 := (x1.2 4 _ rfl).1
  have f1 := (x1.2 4 _ rfl).2
  have ltx := x1.lt
  obtain ⟨L, hL⟩ : ∃ L, IntKind.i64.wrap (left - 1) = L := ⟨_, rfl⟩
  rw [hL] at h2
  have E2 := e2 (w1.setCell ⟨d, 4, none⟩ (.int .i64 L))
  have H2 := Lib.hid (h2 w1 hd1)
  clear h2 h1 E1 hd1 x1
  rcases hl with rfl | hl
  · go_wp2_with fail
    refine H2.out.mono ?_
    rintro e w2 ⟨rfl, hd2⟩
    go_wp2_with fail
    go_ret
    exact ⟨rfl, hd2⟩
  · have hl' : ¬ left ≤ 0 := by omega
    rcases lim with _ | _
    all_goals (
      go_wp2_with fail
      refine H2.out.mono ?_
      rintro e w2 ⟨rfl, hd2⟩
      go_wp2_with fail
      go_ret
      exact ⟨rfl, hd2⟩)
set_option maxRecDepth 20000 in set_option maxHeartbeats 1000000 in
/-- The power fails. -/
theorem perform_fail {w : World} {d : Nat} {n1 : Nat} {c1 : Array Value} {g : Value} {D1 : World → Prop} {room left : Int} {m : Value} {dn : Bool} (e1 : Ent n1 c1)
    (h1 : Calls Try.prog n1 c1 w fun e w' => e = .returned (.tuple #[]) ∧ Bx w' d [.int .i64 room, m, .bool dn, .bool true, .int .i64 left] ∧ D1 w')
    (hl : left ≤ 0) :
    Calls Try.prog 38 #[.pointer (some ⟨d, 0, none⟩), .func (.func n1) #[] c1, g] w fun e w' => e = .returned (.int .i64 31) ∧ ∃ w0, D1 w0 ∧ w' = w0.setCell ⟨d, 2, none⟩ (.bool true) := by
  go_enter Try.func38, Try.ntmps38
  have E1 := e1 w
  go_wp2_with fail
  refine h1.mono ?_
  rintro e w1 ⟨rfl, x1, hd1⟩
  have k0 := (x1.2 3 _ rfl).1
  have k1 := (x1.2 4 _ rfl).1
  have k2 := (x1.2 2 _ rfl).1
  have f1 := (x1.2 2 _ rfl).2
  have ltx := x1.lt
  clear h1 E1 x1
  go_wp2_with fail
  go_ret
  exact ⟨rfl, w1, hd1, rfl⟩
end Go.Proofs.Ytphjgembpcikdaa
