/- strconv.Itoa and the table that it reads. -/
import Derived.Test.YtmchiibbodllaaaGreatDoorBase
import Derived.Test.YtmchiibbodllaaaGreatDoorShelf
import Derived.WalkSmall
import Derived.Lib.AppendIntMem
namespace Go.Proofs.YtmchiibbodllaaaGreatDoor
set_option linter.unusedVariables false
set_option linter.unnecessarySimpa false
set_option linter.unusedSimpArgs false
open Go.RowKit

def itoaB (n : Int) : ByteArray := ⟨(Lib.itoa n).toArray⟩
/-- The table of powers of ten, that strconv.Itoa reads. -/
abbrev Pow10 (w : World) : Prop := Lib.TabIs Tryz.prog w "internal/strconv.uint64pow10" .u64 Lib.pow10Tab
theorem gPow : Tryz.prog.globalNamed "internal/strconv.uint64pow10" = some 4 := by kernel_rfl
theorem Pow10.lt {w : World} (h : Pow10 w) : 4 < w.heap.size := by
  unfold Pow10 Lib.TabIs World.var? at h
  rw [gPow] at h
  simp only [Option.bind_some] at h
  rcases Nat.lt_or_ge 4 w.heap.size with h' | h'
  · exact h'
  · rw [Array.getElem?_eq_none h'] at h; cases h
theorem Pow10.grow {w w' : World} (h : Pow10 w) (hb : Below w.heap.size w w') : Pow10 w' := var?_below hb gPow h.lt h
theorem itoa_any (n : Int) (w : World) (h0 : -9223372036854775808 ≤ n) (h1 : n ≤ 9223372036854775807) (ht : Pow10 w) :
    Calls Tryz.prog 138 #[.int .i64 n] w fun e w' => e = .returned (.string (itoaB n)) ∧ Below w.heap.size w w' :=
  (Tryz.strconv_Itoa n h0 h1 w ht).mono fun e w' h => ⟨h.1, by obtain ⟨k, os, rfl⟩ := h.2; exact Lib.below_grow _ _ (Nat.le_refl _) _ _⟩
theorem dd_len : ∀ (k u : Nat), u < 10 ^ (k + 1) → (Lib.decDigits u).length ≤ k + 1
  | 0, u, h => by rw [Lib.decDigits]; simp at h; simp [h]
  | k + 1, u, h => by
    rw [Lib.decDigits]
    split
    · simp
    · have := dd_len k (u / 10) (by rw [Nat.pow_succ] at h; omega)
      simp; omega
theorem dec5 : Lib.itoa 5 = [53] := by unfold Lib.itoa; rw [if_neg (by omega), Lib.decDigits, dif_pos (by decide)]; rfl
theorem itoaB5 : itoaB 5 = ⟨#[53]⟩ := by unfold itoaB; rw [dec5]
theorem repeat_any (s : ByteArray) (c : Nat) (w : World) (hc : c ≤ 9223372036854775807) (hlen : s.size * c ≤ 140737488355328) :
    Calls Tryz.prog 140 #[.string s, .int .i64 c] w fun e w' => e = .returned (.string ⟨(Lib.repeatL s.data.toList c).toArray⟩) ∧ Below w.heap.size w w' := Tryz.strings_Repeat s c w hc hlen
end Go.Proofs.YtmchiibbodllaaaGreatDoor
