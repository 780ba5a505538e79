/- stamp.number; strings.Cut and strconv.Atoi. -/
import Derived.Test.YtjldpodehffbnaaDoorSTextM
import Derived.Test.YtjldpodehffbnaaDoorShelf2
import Derived.Lib.SmallJoins
namespace Go.Proofs.YtjldpodehffbnaaDoor
set_option linter.unusedVariables false
set_option linter.unnecessarySimpa false
set_option linter.unusedSimpArgs false
open Go.RowKit

def B (l : List UInt8) : ByteArray := ⟨l.toArray⟩
theorem B_list (l : List UInt8) : (B l).data.toList = l := by simp [B]
theorem B_of (b : ByteArray) : B b.data.toList = b := by simp [B]
theorem B_size (l : List UInt8) : (B l).size = l.length := by simp [B, ByteArray.size]
/-- The library's variables that are read: bytealg.MaxLen, strconv.ErrSyntax, strconv.ErrRange, the table of powers of ten. -/
structure LibVars (w : World) : Prop where
  mx : ∃ m, w.cell? ⟨0, 0, none⟩ = some (.int .i64 m)
  e1 : ∃ e, w.cell? ⟨2, 0, none⟩ = some e ∧ (e = .nilIface ∨ ∃ t p, e = .iface t p)
  e2 : ∃ e, w.cell? ⟨3, 0, none⟩ = some e ∧ (e = .nilIface ∨ ∃ t p, e = .iface t p)
  pw : Pow10 w
theorem LibVars.grow {w w' : World} (h : LibVars w) (hb : Below w.heap.size w w') : LibVars w' := by
  obtain ⟨⟨m, h0⟩, ⟨e1, h1, g1⟩, ⟨e2, h2, g2⟩, hp⟩ := h
  exact ⟨⟨m, G.cell h0 hb⟩, ⟨e1, G.cell h1 hb, g1⟩, ⟨e2, G.cell h2 hb, g2⟩, hp.grow hb⟩
theorem cut_any (s sep : ByteArray) (w : World) (hs : s.size < 4294967281) (hv : LibVars w) :
    Calls Tryd.prog 49 #[.string s, .string sep] w fun e w' => e = .returned (.tuple #[.string (B (Lib.cut s.data.toList sep.data.toList).1), .string (B (Lib.cut s.data.toList sep.data.toList).2.1), .bool (Lib.cut s.data.toList sep.data.toList).2.2]) ∧ Below w.heap.size w w' := by
  obtain ⟨m, h0⟩ := hv.mx
  exact (Tryd.strings_Cut s sep m w hs h0).mono fun e w' h => ⟨h.1, by obtain ⟨k, rfl⟩ := h.2; exact G.drewN (G.refl w) k⟩
theorem atoi_bd {l : List UInt8} {v : Int} (h : Lib.atoiAll l = .ok v) : -9223372036854775808 ≤ v ∧ v ≤ 9223372036854775807 := by
  unfold Lib.atoiAll at h
  split at h
  · cases h
  · simp only at h
    split at h
    · cases h
    · cases h
    · rename_i u _
      split at h
      · cases h
      · split at h
        · cases h
        · rename_i h1 h2
          injection h with h
          subst h
          split <;> rename_i h3
          · have : ¬ 9223372036854775808 < u := fun x => h2 ⟨h3, x⟩
            omega
          · have : ¬ 9223372036854775808 ≤ u := fun x => h1 ⟨h3, x⟩
            omega
/-- strconv.Atoi: the number and nil, or an error. -/
theorem atoi_any (s : ByteArray) (w : World) (hs : s.size ≤ 100000) (hv : LibVars w) :
    Calls Tryd.prog 61 #[.string s] w fun e w' => ∃ v er, e = .returned (.tuple #[.int .i64 v, er]) ∧ (-9223372036854775808 ≤ v ∧ v ≤ 9223372036854775807) ∧ ((er = .nilIface ∧ Lib.atoiAll s.data.toList = .ok v) ∨ ((∃ t p, er = .iface t p) ∧ ∀ v', Lib.atoiAll s.data.toList ≠ .ok v')) ∧ Below w.heap.size w w' := by
  obtain ⟨_, ⟨e1, h1, g1⟩, ⟨e2, h2, g2⟩, _⟩ := hv
  rcases h : Lib.atoiAll s.data.toList with v | _ | _
  · have hb := atoi_bd h
    refine (Tryd.strconv_Atoi_ok s (by omega) v h w).mono fun e w' hh => ⟨v, .nilIface, hh.1, hb, .inl ⟨rfl, rfl⟩, ?_⟩
    rcases hh.2 with rfl | ⟨t, rfl⟩
    · exact G.refl _
    · exact Joins.below_bytesWorld _ _ _ _ (Nat.le_refl _)
  · refine (Tryd.strconv_Atoi_syntax s (by omega) h e1 w h1 g1).mono fun e w' hh => ?_
    obtain ⟨N, he, _, _, hb⟩ := hh
    exact ⟨0, _, he, by omega, .inr ⟨⟨_, _, rfl⟩, fun v' hv' => by cases hv'⟩, hb⟩
  · refine (Tryd.strconv_Atoi_range s (by omega) h e2 w h2 g2).mono fun e w' hh => ?_
    obtain ⟨N, he, _, _, hb⟩ := hh
    refine ⟨_, _, he, ?_, .inr ⟨⟨_, _, rfl⟩, fun v' hv' => by cases hv'⟩, hb⟩
    unfold Lib.atoiSat
    split <;> omega
/-- number's answer. -/
def RetNum (s : List UInt8) (w : World) (e : Ending) (w' : World) : Prop :=
  (∃ v, num s = some v ∧ -9223372036854775808 ≤ v ∧ v ≤ 9223372036854775807 ∧ e = .returned (.tuple #[.int .i64 v, .bool true]) ∧ Below w.heap.size w w') ∨ (∃ v, num s = none ∧ e = .returned (.tuple #[.int .i64 v, .bool false]) ∧ Below w.heap.size w w')
theorem num_eq {s : List UInt8} {v : Int} (h : Lib.atoiAll s = .ok v) : num s = if s.length ≤ 7 ∧ Lib.itoa v = s then some v else none := by
  unfold num
  rw [h]
theorem num_err {s : List UInt8} (h : ∀ v, Lib.atoiAll s ≠ .ok v) : num s = none := by
  unfold num
  split
  · rename_i v hv; exact absurd hv (h v)
  · rfl
set_option maxRecDepth 20000 in set_option maxHeartbeats 1000000 in
theorem number_any (s : ByteArray) (w : World) (hs : s.size ≤ 100000) (hv : LibVars w) : Calls Tryd.prog 50 #[.string s] w (RetNum s.data.toList w) := by
  have hv' := Lib.hid hv
  clear hv
  go_enter Tryd.func50, Tryd.ntmps50
  go_wp2_with fail
  refine (atoi_any s _ hs hv'.out).mono ?_
  rintro e' w1 ⟨v, er, rfl, hvb, hor, hb1⟩
  have hp := Lib.hid (hv'.out.grow hb1).pw
  rcases hor with ⟨rfl, ha⟩ | ⟨⟨t, p, rfl⟩, ha⟩
  · have hn := num_eq ha
    by_cases h7 : s.size ≤ 7
    · have h7' : (s.size : Int) ≤ 7 := by omega
      by_cases hi : Lib.itoa v = s.data.toList
      · have hn1 : num s.data.toList = some v := by rw [hn, if_pos ⟨(show s.data.toList.length ≤ 7 by rw [Array.length_toList]; exact h7), hi⟩]
        have hl : ((itoaB v).toList == s.toList) = true := by rw [ByteArray.toList_eq, ByteArray.toList_eq]; simp [itoaB, hi]
        replace hn1 := Lib.hid hn1
        clear hn hi
        go_wp2_with fail
        refine (itoa_any v _ hvb.1 hvb.2 hp.out).mono ?_
        rintro e' w2 ⟨rfl, hb2⟩
        go_wp2_with fail
        go_ret2
        exact .inl ⟨v, hn1.out, hvb.1, hvb.2, rfl, G.trans hb1 hb2⟩
      · have hn1 : num s.data.toList = none := by rw [hn, if_neg fun h => hi h.2]
        have hl : ((itoaB v).toList == s.toList) = false := by rw [ByteArray.toList_eq, ByteArray.toList_eq]; simp [itoaB, hi]
        replace hn1 := Lib.hid hn1
        clear hn hi
        go_wp2_with fail
        refine (itoa_any v _ hvb.1 hvb.2 hp.out).mono ?_
        rintro e' w2 ⟨rfl, hb2⟩
        go_wp2_with fail
        go_ret2
        exact .inr ⟨v, hn1.out, rfl, G.trans hb1 hb2⟩
    · have h7' : ¬ (s.size : Int) ≤ 7 := by omega
      have hn1 : num s.data.toList = none := by rw [hn, if_neg fun h => h7 (show s.data.size ≤ 7 by rw [← Array.length_toList]; exact h.1)]
      replace hn1 := Lib.hid hn1
      clear hn
      go_wp2_with fail
      go_ret2
      exact .inr ⟨v, hn1.out, rfl, hb1⟩
  · have hn1 := Lib.hid (num_err ha)
    clear ha
    go_wp2_with fail
    go_ret2
    exact .inr ⟨v, hn1.out, rfl, hb1⟩
end Go.Proofs.YtjldpodehffbnaaDoor
