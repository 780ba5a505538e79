/- Strings as lists of bytes, strconv.Atoi. -/
import Derived.Test.YtbafnlccpbonmaaGreatDoorGMj
import Derived.Test.YtbafnlccpbonmaaGreatDoorData
import Derived.Test.YtbafnlccpbonmaaGreatDoorShelf4
import Derived.Lib.SmallJoins
import Derived.Lib.IndexBytes
namespace Go.Proofs.YtbafnlccpbonmaaGreatDoor
set_option linter.unusedVariables false
set_option linter.unnecessarySimpa false
set_option linter.unusedSimpArgs false
open Go.RowKit

def B (l : List UInt8) : ByteArray := ⟨l.toArray⟩
theorem B_list (l : List UInt8) : (B l).data.toList = l := rfl
theorem B_size (l : List UInt8) : (B l).size = l.length := by unfold B ByteArray.size; simp
theorem B_of {b : ByteArray} {l : List UInt8} (h : b.data.toList = l) : b = B l := by
  unfold B
  rw [← h]
theorem B_app (l m : List UInt8) : B l ++ B m = B (l ++ m) := B_of (by rw [Joins.data_append]; rfl)
theorem B_drop (l : List UInt8) (a : Nat) : (B l).extract a (B l).size = B (l.drop a) := B_of (by rw [Lib.extract_to_end]; rfl)
theorem B_take (l : List UInt8) (a : Nat) : (B l).extract 0 a = B (l.take a) := B_of (by
  unfold B
  simp [ByteArray.data_extract])
theorem wf_of {n : Int} (h : -9223372036854775808 ≤ n) (h' : n ≤ 9223372036854775807) : (Lit.int .i64 n).wf = true := WalkArith.wf_i64 (by omega)
/-- The library's variables that are read: bytealg.MaxLen, strconv.ErrSyntax, strconv.ErrRange. -/
def LibVars (w : World) : Prop := ∃ (m : Int) (e1 e2 : Value), w.cell? ⟨0, 0, none⟩ = some (.int .i64 m) ∧ w.cell? ⟨1, 0, none⟩ = some e1 ∧ (e1 = .nilIface ∨ ∃ t p, e1 = .iface t p) ∧ w.cell? ⟨2, 0, none⟩ = some e2 ∧ (e2 = .nilIface ∨ ∃ t p, e2 = .iface t p)
theorem LibVars.grow {w w' : World} (h : LibVars w) (hb : Below w.heap.size w w') : LibVars w' := by
  obtain ⟨m, e1, e2, h0, h1, g1, h2, g2⟩ := h
  exact ⟨m, e1, e2, G.cell h0 hb, G.cell h1 hb, g1, G.cell h2 hb, g2⟩
theorem atoi_bd {l : List UInt8} {v : Int} (h : Lib.atoiAll l = .ok v) : -9223372036854775808 ≤ v ∧ v ≤ 9223372036854775807 := by
  unfold Lib.atoiAll at h
  split at h
  · cases h
  · simp only at h
    split at h
    · cases h
    · cases h
    · rename_i u _
      split at h
      · cases h
      · split at h
        · cases h
        · rename_i h1 h2
          injection h with h
          subst h
          split <;> rename_i h3
          · have : ¬ 9223372036854775808 < u := fun x => h2 ⟨h3, x⟩
            omega
          · have : ¬ 9223372036854775808 ≤ u := fun x => h1 ⟨h3, x⟩
            omega
/-- strconv.Atoi: the number and nil, or an error. -/
theorem atoi_any (s : ByteArray) (w : World) (hs : s.size ≤ 100000) (hv : LibVars w) :
    Calls Tryz.prog 56 #[.string s] w fun e w' => ∃ v er, e = .returned (.tuple #[.int .i64 v, er]) ∧ (Lit.int .i64 v).wf = true ∧ ((er = .nilIface ∧ Lib.atoiAll s.data.toList = .ok v) ∨ ((∃ t p, er = .iface t p) ∧ ∀ v', Lib.atoiAll s.data.toList ≠ .ok v')) ∧ Below w.heap.size w w' := by
  obtain ⟨m, e1, e2, h0, h1, g1, h2, g2⟩ := hv
  rcases h : Lib.atoiAll s.data.toList with v | _ | _
  · have hb := atoi_bd h
    refine (Tryz.strconv_Atoi_ok s (by omega) v h w).mono fun e w' hh => ⟨v, .nilIface, hh.1, wf_of (by omega) (by omega), .inl ⟨rfl, rfl⟩, ?_⟩
    rcases hh.2 with rfl | ⟨t, rfl⟩
    · exact G.refl _
    · exact Joins.below_bytesWorld _ _ _ _ (Nat.le_refl _)
  · refine (Tryz.strconv_Atoi_syntax s (by omega) h e1 w h1 g1).mono fun e w' hh => ?_
    obtain ⟨N, he, _, _, hb⟩ := hh
    exact ⟨0, _, he, by decide, .inr ⟨⟨_, _, rfl⟩, fun v' hv' => by cases hv'⟩, hb⟩
  · refine (Tryz.strconv_Atoi_range s (by omega) h e2 w h2 g2).mono fun e w' hh => ?_
    obtain ⟨N, he, _, _, hb⟩ := hh
    refine ⟨_, _, he, ?_, .inr ⟨⟨_, _, rfl⟩, fun v' hv' => by cases hv'⟩, hb⟩
    unfold Lib.atoiSat
    split <;> decide
end Go.Proofs.YtbafnlccpbonmaaGreatDoor
