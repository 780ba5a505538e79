/- The package variables that the scanner reads, and what keeps them. -/
import Derived.Test.YtmchiibbodllaaaGreatDoorLexV
import Derived.Test.YtmchiibbodllaaaGreatDoorLTx4
namespace Go.Proofs.YtmchiibbodllaaaGreatDoor
set_option linter.unusedVariables false
set_option linter.unnecessarySimpa false
set_option linter.unusedSimpArgs false
open Go.RowKit

def GBl : List Nat := [3, 5, 6, 4, 1, 2, 0]
/-- The block of a variable that the scanner reads. -/
def GB (x : Nat) : Prop := x ∈ GBl
def pairsB : List ByteArray := [⟨#[45, 62]⟩, ⟨#[33, 61]⟩, ⟨#[60, 61]⟩, ⟨#[62, 61]⟩, ⟨#[46, 46]⟩]
def Env (w : World) : Prop :=
  LibVars w ∧ Pow10 w ∧ Lib.Utf8Tabs 1 2 w ∧ ∀ k t, pairsB[k]? = some t → w.cell? ⟨0, k, none⟩ = some (.string t)
theorem Env.lt {w : World} (h : Env w) {x : Nat} (hx : GB x) : x < w.heap.size := by
  obtain ⟨⟨m, e1, e2, h0, h1, _, h2, _⟩, hp, ht, hq⟩ := h
  unfold GB GBl at hx
  simp only [List.mem_cons, List.not_mem_nil, or_false] at hx
  rcases hx with rfl | rfl | rfl | rfl | rfl | rfl | rfl
  · exact cell_lt h0
  · exact cell_lt h1
  · exact cell_lt h2
  · exact hp.lt
  · exact cell_lt (ht.1 0 (by decide))
  · exact cell_lt (ht.2 0 (by decide)).1
  · exact cell_lt (hq 0 _ rfl)
theorem Env.keep {w w' : World} (h : Env w) (k : Keeps GB w w') : Env w' := by
  have hlt := fun x (hx : GB x) => h.lt hx
  obtain ⟨⟨m, e1, e2, h0, h1, g1, h2, g2⟩, hp, ht, hq⟩ := h
  have g : ∀ {a : Addr} {v : Value}, w.cell? a = some v → GB a.block → w'.cell? a = some v := fun hc ha => k.cell hc ha
  refine ⟨⟨m, e1, e2, g h0 (by simp [GB, GBl]), g h1 (by simp [GB, GBl]), g1, g h2 (by simp [GB, GBl]), g2⟩, ?_, ⟨fun c hc => g (ht.1 c hc) (by simp [GB, GBl]), fun i hi => ⟨g (ht.2 i hi).1 (by simp [GB, GBl]), g (ht.2 i hi).2 (by simp [GB, GBl])⟩⟩, fun i t hi => g (hq i t hi) (by simp [GB, GBl])⟩
  unfold Pow10 Lib.TabIs World.var? at hp ⊢
  rw [gPow] at hp ⊢
  simp only [Option.bind_some] at hp ⊢
  rw [k.2 _ (by simp [GB, GBl]) (hlt _ (by simp [GB, GBl]))]
  exact hp
theorem Env.grow {w w' : World} (h : Env w) (hb : Below w.heap.size w w') : Env w' := h.keep (Keeps.of_below hb)
theorem Env.chg {w w' : World} {b r : Nat} (h : Env w) (hc : Chg b r w w') (hb : ¬ GB b) (hr : ¬ GB r) : Env w' := h.keep (hc.keeps hb hr)
theorem Env.not {w : World} (h : Env w) {b : Nat} (hb : w.heap.size ≤ b) : ¬ GB b := fun k => by have := h.lt k; omega
theorem Env.vars {w : World} (h : Env w) : LibVars w := h.1
theorem Env.pow {w : World} (h : Env w) : Pow10 w := h.2.1
theorem Env.tabs {w : World} (h : Env w) : Lib.Utf8Tabs 1 2 w := h.2.2.1
end Go.Proofs.YtmchiibbodllaaaGreatDoor
