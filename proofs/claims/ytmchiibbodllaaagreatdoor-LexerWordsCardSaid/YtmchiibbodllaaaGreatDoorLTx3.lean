/- strings.Cut, strconv.Atoi, and what the two ways of parsing come to. -/
import Derived.Test.YtmchiibbodllaaaGreatDoorLTx1
namespace Go.Proofs.YtmchiibbodllaaaGreatDoor
set_option linter.unusedVariables false
set_option linter.unnecessarySimpa false
set_option linter.unusedSimpArgs false
open Go.RowKit

/-- The library's variables that are read: bytealg.MaxLen, strconv.ErrSyntax, strconv.ErrRange. -/
def LibVars (w : World) : Prop := ∃ (m : Int) (e1 e2 : Value), w.cell? ⟨3, 0, none⟩ = some (.int .i64 m) ∧ w.cell? ⟨5, 0, none⟩ = some e1 ∧ (e1 = .nilIface ∨ ∃ t p, e1 = .iface t p) ∧ w.cell? ⟨6, 0, none⟩ = some e2 ∧ (e2 = .nilIface ∨ ∃ t p, e2 = .iface t p)
theorem LibVars.grow {w w' : World} (h : LibVars w) (hb : Below w.heap.size w w') : LibVars w' := by
  obtain ⟨m, e1, e2, h0, h1, g1, h2, g2⟩ := h
  exact ⟨m, e1, e2, G.cell h0 hb, G.cell h1 hb, g1, G.cell h2 hb, g2⟩
theorem cut_any (s sep : ByteArray) (w : World) (hs : s.size < 4294967281) (hv : LibVars w) :
    Calls Tryz.prog 104 #[.string s, .string sep] w fun e w' => e = .returned (.tuple #[.string (B (Lib.cut s.data.toList sep.data.toList).1), .string (B (Lib.cut s.data.toList sep.data.toList).2.1), .bool (Lib.cut s.data.toList sep.data.toList).2.2]) ∧ Below w.heap.size w w' := by
  obtain ⟨m, e1, e2, h0, _⟩ := hv
  exact (Tryz.strings_Cut s sep m w hs h0).mono fun e w' h => ⟨h.1, by obtain ⟨k, rfl⟩ := h.2; exact G.drewN (G.refl w) k⟩
theorem atoi_bd {l : List UInt8} {v : Int} (h : Lib.atoiAll l = .ok v) : -9223372036854775808 ≤ v ∧ v ≤ 9223372036854775807 := by
  unfold Lib.atoiAll at h
  split at h
  · cases h
  · simp only at h
    split at h
    · cases h
    · cases h
    · rename_i u _
      split at h
      · cases h
      · split at h
        · cases h
        · rename_i h1 h2
          injection h with h
          subst h
          split <;> rename_i h3
          · have : ¬ 9223372036854775808 < u := fun x => h2 ⟨h3, x⟩
            omega
          · have : ¬ 9223372036854775808 ≤ u := fun x => h1 ⟨h3, x⟩
            omega
/-- strconv.Atoi: the number and nil, or an error. -/
theorem atoi_any (s : ByteArray) (w : World) (hs : s.size ≤ 100000) (hv : LibVars w) :
    Calls Tryz.prog 105 #[.string s] w fun e w' => ∃ v er, e = .returned (.tuple #[.int .i64 v, er]) ∧ (Lit.int .i64 v).wf = true ∧ ((er = .nilIface ∧ Lib.atoiAll s.data.toList = .ok v) ∨ ((∃ t p, er = .iface t p) ∧ ∀ v', Lib.atoiAll s.data.toList ≠ .ok v')) ∧ Below w.heap.size w w' := by
  obtain ⟨m, e1, e2, h0, h1, g1, h2, g2⟩ := hv
  rcases h : Lib.atoiAll s.data.toList with v | _ | _
  · have hb := atoi_bd h
    refine (Tryz.strconv_Atoi_ok s (by omega) v h w).mono fun e w' hh => ⟨v, .nilIface, hh.1, wf_of (by omega) (by omega), .inl ⟨rfl, rfl⟩, ?_⟩
    rcases hh.2 with rfl | ⟨t, rfl⟩
    · exact G.refl _
    · exact Joins.below_bytesWorld _ _ _ _ (Nat.le_refl _)
  · refine (Tryz.strconv_Atoi_syntax s (by omega) h e1 w h1 g1).mono fun e w' hh => ?_
    obtain ⟨N, he, _, _, hb⟩ := hh
    exact ⟨0, _, he, by decide, .inr ⟨⟨_, _, rfl⟩, fun v' hv' => by cases hv'⟩, hb⟩
  · refine (Tryz.strconv_Atoi_range s (by omega) h e2 w h2 g2).mono fun e w' hh => ?_
    obtain ⟨N, he, _, _, hb⟩ := hh
    refine ⟨_, _, he, ?_, .inr ⟨⟨_, _, rfl⟩, fun v' hv' => by cases hv'⟩, hb⟩
    unfold Lib.atoiSat
    split <;> decide
/-- What Parse gives. -/
def parseN (t : List UInt8) : Int × Int × Int :=
  if t = [] then (0, 0, 4) else if 17 < t.length then (0, 0, 5) else if okN (rd t).1 (rd t).2 = true ∧ txt (rd t).1 (rd t).2.toNat = t then ((rd t).1, (rd t).2, 0) else (0, 0, 13)
theorem parseN_acc {t : List UInt8} {v : Int} {s : Nat} (h0 : t ≠ []) (h17 : t.length ≤ 17) (hok : okN v s = true) (ht : txt v s = t) : parseN t = (v, (s : Int), 0) := by
  have hr : rd t = (v, (s : Int)) := by rw [← ht]; exact rd_txt v s
  unfold parseN
  rw [if_neg h0, if_neg (by omega), hr]
  simp only [Int.toNat_natCast]
  rw [if_pos ⟨hok, ht⟩]
/-- decimal.Parse's tests fail: the text is none of a number. -/
theorem parseN_rej {t : List UInt8} (h0 : t ≠ []) (h17 : t.length ≤ 17) (h : ∀ v : Int, Lib.atoiAll ((Lib.cut t [46]).1 ++ (Lib.cut t [46]).2.1) = .ok v → okN v ((Lib.cut t [46]).2.1.length : Int) = true → txt v (Lib.cut t [46]).2.1.length = t → (Lib.cut t [46]).2.2 = true ∧ (Lib.cut t [46]).2.1 = []) : parseN t = (0, 0, 13) := by
  unfold parseN
  rw [if_neg h0, if_neg (by omega)]
  refine if_neg fun hc => ?_
  obtain ⟨hok, htx⟩ := hc
  obtain ⟨s, hs, hs12, hn0, hn1⟩ := okN_nat hok
  rw [hs] at hok htx
  rw [Int.toNat_natCast] at htx
  generalize (rd t).1 = n at *
  obtain ⟨c1, c2, c3⟩ := cut_txt n s
  have ha := txt_atoi n s (by omega)
  rw [htx] at c1 c2 c3 ha
  have := h n ha (by rw [c2]; exact hok) (by rw [c2]; exact htx)
  have h3 := c3 this.1
  rw [this.2] at c2
  simp at c2
  omega
end Go.Proofs.YtmchiibbodllaaaGreatDoor
