/- A path in memory. (In the seat of the cards; elsewhere XItem1 says it.) -/
import Derived.Test.YtjldpodehffbnaaDoorData
namespace Go.Proofs.YtjldpodehffbnaaDoor
set_option linter.unusedVariables false
set_option linter.unnecessarySimpa false
set_option linter.unusedSimpArgs false
open Go.RowKit

def PathIs (ok : Nat → Prop) (w : World) (A : Option Addr) (n c : Nat) (p : List Int) : Prop := Rw ok w 1 A n c (i64s p) ∧ n * 8 ≤ 140737488355328
theorem PathIs.sl {ok : Nat → Prop} {w : World} {A : Option Addr} {n c : Nat} {p : List Int} (h : PathIs ok w A n c p) : Sl w A n (i64s p) := by
  have := h.1.2.2.1
  rwa [Nat.mul_one] at this
theorem PathIs.len {ok : Nat → Prop} {w : World} {A : Option Addr} {n c : Nat} {p : List Int} (h : PathIs ok w A n c p) : p.length = n := h.sl.len
theorem PathIs.cap {ok : Nat → Prop} {w : World} {A : Option Addr} {n c : Nat} {p : List Int} (h : PathIs ok w A n c p) : n ≤ c ∧ c ≤ maxLen := ⟨h.1.1, h.1.2.1⟩
theorem PathIs.max {ok : Nat → Prop} {w : World} {A : Option Addr} {n c : Nat} {p : List Int} (h : PathIs ok w A n c p) : n ≤ maxLen := Nat.le_trans h.1.1 h.1.2.1
theorem PathIs.keep {ok : Nat → Prop} {w w' : World} {A : Option Addr} {n c : Nat} {p : List Int} (h : PathIs ok w A n c p) (hk : Keeps ok w w') : PathIs ok w' A n c p := ⟨h.1.keep hk, h.2⟩
theorem PathIs.grow {ok : Nat → Prop} {w w' : World} {A : Option Addr} {n c : Nat} {p : List Int} (h : PathIs ok w A n c p) (hb : Below w.heap.size w w') : PathIs ok w' A n c p := ⟨h.1.grow hb, h.2⟩
theorem PathIs.mono {ok ok' : Nat → Prop} {w : World} {A : Option Addr} {n c : Nat} {p : List Int} (h : PathIs ok w A n c p) (hk : ∀ b, b < w.heap.size → ok b → ok' b) : PathIs ok' w A n c p := ⟨h.1.mono (by decide) hk, h.2⟩
theorem PathIs.nil (ok : Nat → Prop) (w : World) : PathIs ok w none 0 0 [] := ⟨Rw.nil _ _ _, by decide⟩
end Go.Proofs.YtjldpodehffbnaaDoor
