/- What decimal.Parse computes. -/
import Derived.Test.YtmchiibbodllaaaGreatDoorLTx3
namespace Go.Proofs.YtmchiibbodllaaaGreatDoor
set_option linter.unusedVariables false
set_option linter.unnecessarySimpa false
set_option linter.unusedSimpArgs false
open Go.RowKit

theorem B_toList (l : List UInt8) : (B l).toList = l := ByteArray.toList_eq (B l)
theorem ne_empty {t : List UInt8} (h : t ≠ []) : t.isEmpty = false := by cases t; exact absurd rfl h; rfl
set_option maxRecDepth 20000 in set_option maxHeartbeats 400000 in
theorem parse_short (w : World) : Calls Tryz.prog 79 #[.string (B [])] w (RetF (parseN []) w) := by
  rw [show parseN [] = (0, 0, 4) from rfl, show B [] = ⟨#[]⟩ from rfl]
  go_enter Tryz.func79, Tryz.ntmps79
  go_wp2_with fail
  exact bodyPost_ret (v := .tuple #[.agg #[.int .i64 0, .int .i64 0], .int .i64 4]) (by simp only [results, Tryz.results79]; go_simp) rfl ⟨rfl, by repeat (first | with_reducible assumption | with_reducible exact G.refl _ | with_reducible refine G.drew ?_ | with_reducible refine G.drewN ?_ _ | with_reducible refine G.alloc ?_ _ | with_reducible refine Below.setCell ?_ (by first | (simp; done) | (simp; omega)) _ | with_reducible refine G.trans ?_ hb12 | with_reducible refine G.trans ?_ hb11 | with_reducible refine G.trans ?_ hb10 | with_reducible refine G.trans ?_ hb9 | with_reducible refine G.trans ?_ hb8 | with_reducible refine G.trans ?_ hb7 | with_reducible refine G.trans ?_ hb6 | with_reducible refine G.trans ?_ hb5 | with_reducible refine G.trans ?_ hb4 | with_reducible refine G.trans ?_ hb3 | with_reducible refine G.trans ?_ hb2 | with_reducible refine G.trans ?_ hb1 | with_reducible refine G.trans ?_ hb | assumption)⟩
set_option maxRecDepth 20000 in set_option maxHeartbeats 400000 in
theorem parse_long (t : List UInt8) (w : World) (h17 : 17 < t.length) (hmax : t.length ≤ 100000) : Calls Tryz.prog 79 #[.string (B t)] w (RetF (parseN t) w) := by
  have hne : t ≠ [] := fun h => by rw [h] at h17; simp at h17
  have hr : Hid (parseN t = (0, 0, 5)) := by unfold Hid parseN; rw [if_neg hne, if_pos h17]
  have hsz : (B t).size = t.length := B_size t
  have hb : (B t).toList.isEmpty = false := by rw [B_toList]; exact ne_empty hne
  obtain ⟨L, hL⟩ : ∃ L, t.length = L := ⟨_, rfl⟩
  rw [hL] at hsz h17 hmax
  generalize B t = b at *
  clear hne
  go_enter Tryz.func79, Tryz.ntmps79
  go_wp2_with fail
  exact bodyPost_ret (v := .tuple #[.agg #[.int .i64 0, .int .i64 0], .int .i64 5]) (by simp only [results, Tryz.results79]; go_simp) rfl ⟨by rw [hr.out], by repeat (first | with_reducible assumption | with_reducible exact G.refl _ | with_reducible refine G.drew ?_ | with_reducible refine G.drewN ?_ _ | with_reducible refine G.alloc ?_ _ | with_reducible refine Below.setCell ?_ (by first | (simp; done) | (simp; omega)) _ | with_reducible refine G.trans ?_ hb12 | with_reducible refine G.trans ?_ hb11 | with_reducible refine G.trans ?_ hb10 | with_reducible refine G.trans ?_ hb9 | with_reducible refine G.trans ?_ hb8 | with_reducible refine G.trans ?_ hb7 | with_reducible refine G.trans ?_ hb6 | with_reducible refine G.trans ?_ hb5 | with_reducible refine G.trans ?_ hb4 | with_reducible refine G.trans ?_ hb3 | with_reducible refine G.trans ?_ hb2 | with_reducible refine G.trans ?_ hb1 | with_reducible refine G.trans ?_ hb | assumption)⟩
set_option maxRecDepth 20000 in set_option maxHeartbeats 1000000 in
theorem parse_mid (t : List UInt8) (w : World) (hne : t ≠ []) (h17 : t.length ≤ 17) (hv : LibVars w) (ht : Pow10 w) : Calls Tryz.prog 79 #[.string (B t)] w (RetF (parseN t) w) := by
  have hsz : (B t).size = t.length := B_size t
  have hb : (B t).toList = t := B_toList t
  have hbe : t.isEmpty = false := ne_empty hne
  have CU := fun w hv => cut_any (B t) ⟨#[46]⟩ w (by rw [B_size]; omega) hv
  rw [B_list, show (ByteArray.mk #[46]).data.toList = [46] from rfl] at CU
  have hacc := fun (v : Int) (s : Nat) hok htx => parseN_acc (t := t) (v := v) (s := s) hne h17 hok htx
  have hrej := parseN_rej hne h17
  have hcl : (Lib.cut t [46]).1.length ≤ 17 ∧ (Lib.cut t [46]).2.1.length ≤ 17 := by
    unfold Lib.cut
    split
    · simp only [List.length_take, List.length_drop]; omega
    · simp; exact h17
  generalize Lib.cut t [46] = cc at *
  obtain ⟨c1, c2, c3⟩ := cc
  simp only at CU hrej hcl
  have hsum : B c1 ++ B c2 = B (c1 ++ c2) := B_app c1 c2
  have AT := fun w hv => atoi_any (B (c1 ++ c2)) w (by rw [B_size, List.length_append]; omega) hv
  rw [B_list] at AT
  have s1 := fun (wx : World) => run_string_add_sum (P := Tryz.prog) wx (B c1) (B c2) (by rw [B_size, B_size]; omega)
  rw [hsum] at s1
  have hsz2 : (B c2).size = c2.length := B_size c2
  have hb2 : (B c2).toList = c2 := B_toList c2
  have TX := Lib.hid (fun v w hw ht => text_any v (c2.length : Int) w hw ht)
  have hvv := Lib.hid hv
  have htt := Lib.hid ht
  have htxs : ∀ v : Int, okN v (c2.length : Int) = true → txS v (c2.length : Int) = B (txt v c2.length) := fun v h => by unfold txS; rw [if_pos h, Int.toNat_natCast]
  obtain ⟨S, hS⟩ : ∃ S, c2.length = S := ⟨_, rfl⟩
  rw [hS] at hsz2 hrej TX htxs hcl
  obtain ⟨L, hL⟩ : ∃ L, t.length = L := ⟨_, rfl⟩
  rw [hL] at hsz h17
  replace CU := Lib.hid CU
  replace AT := Lib.hid AT
  replace hacc := Lib.hid hacc
  replace hrej := Lib.hid hrej
  replace htxs := Lib.hid htxs
  obtain ⟨hcl1, hcl2⟩ := hcl
  replace hL := Lib.hid hL
  replace hS := Lib.hid hS
  clear hsum hne hv ht
  go_enter Tryz.func79, Tryz.ntmps79
  go_wp2_with fail
  refine (CU.out _ (hvv.out.grow (by repeat (first | with_reducible assumption | with_reducible exact G.refl _ | with_reducible refine G.drew ?_ | with_reducible refine G.drewN ?_ _ | with_reducible refine G.alloc ?_ _ | with_reducible refine Below.setCell ?_ (by first | (simp; done) | (simp; omega)) _ | with_reducible refine G.trans ?_ hb12 | with_reducible refine G.trans ?_ hb11 | with_reducible refine G.trans ?_ hb10 | with_reducible refine G.trans ?_ hb9 | with_reducible refine G.trans ?_ hb8 | with_reducible refine G.trans ?_ hb7 | with_reducible refine G.trans ?_ hb6 | with_reducible refine G.trans ?_ hb5 | with_reducible refine G.trans ?_ hb4 | with_reducible refine G.trans ?_ hb3 | with_reducible refine G.trans ?_ hb2 | with_reducible refine G.trans ?_ hb1 | with_reducible refine G.trans ?_ hb | assumption)))).mono ?_
  rintro e w1 ⟨rfl, hb1⟩
  
  replace k0 := G.cell (a := ⟨w.heap.size, 0, none⟩) (v := .int .i64 0) (by go_simp) hb1
  replace k1 := G.cell (a := ⟨w.heap.size, 1, none⟩) (v := .int .i64 0) (by go_simp) hb1
  replace lt0 := cell_lt k0
  replace lt1 := cell_lt k1
  obtain ⟨hc, hf⟩ := G.old hb1
  have z0 : w1.frozen? ⟨w.heap.size, 0, none⟩ = false := (hf _ _ (by simp)).trans (by go_simp)
  have z1 : w1.frozen? ⟨w.heap.size, 1, none⟩ = false := (hf _ _ (by simp)).trans (by go_simp)
  have hbr : Box2 w1 w.heap.size (.int .i64 0) (.int .i64 0) := ⟨k0, k1, z0, z1⟩
  have hbw : Below w.heap.size w w1 := by repeat (first | with_reducible assumption | with_reducible exact G.refl _ | with_reducible refine G.drew ?_ | with_reducible refine G.drewN ?_ _ | with_reducible refine G.alloc ?_ _ | with_reducible refine Below.setCell ?_ (by first | (simp; done) | (simp; omega)) _ | with_reducible refine G.trans ?_ hb12 | with_reducible refine G.trans ?_ hb11 | with_reducible refine G.trans ?_ hb10 | with_reducible refine G.trans ?_ hb9 | with_reducible refine G.trans ?_ hb8 | with_reducible refine G.trans ?_ hb7 | with_reducible refine G.trans ?_ hb6 | with_reducible refine G.trans ?_ hb5 | with_reducible refine G.trans ?_ hb4 | with_reducible refine G.trans ?_ hb3 | with_reducible refine G.trans ?_ hb2 | with_reducible refine G.trans ?_ hb1 | with_reducible refine G.trans ?_ hb | assumption)
  clear hc hf hb1 z0 z1 k0 k1 lt0 lt1
  go_wp2_with fail
  refine (AT.out _ (hvv.out.grow hbw)).mono ?_
  rintro e w2 ⟨v, er, rfl, hwv, her, hb2⟩
  replace hbr := hbr.grow hb2
  replace hbw := G.trans hbw hb2
  clear hb2
  go_wp2_with fail
  refine (TX.out v _ hwv (htt.out.grow (by repeat (first | with_reducible assumption | with_reducible exact G.refl _ | with_reducible refine G.drew ?_ | with_reducible refine G.drewN ?_ _ | with_reducible refine G.alloc ?_ _ | with_reducible refine Below.setCell ?_ (by first | (simp; done) | (simp; omega)) _ | with_reducible refine G.trans ?_ hb12 | with_reducible refine G.trans ?_ hb11 | with_reducible refine G.trans ?_ hb10 | with_reducible refine G.trans ?_ hb9 | with_reducible refine G.trans ?_ hb8 | with_reducible refine G.trans ?_ hb7 | with_reducible refine G.trans ?_ hb6 | with_reducible refine G.trans ?_ hb5 | with_reducible refine G.trans ?_ hb4 | with_reducible refine G.trans ?_ hb3 | with_reducible refine G.trans ?_ hb2 | with_reducible refine G.trans ?_ hb1 | with_reducible refine G.trans ?_ hb | assumption)))).mono ?_
  rintro e w3 ⟨rfl, hb3⟩
  
  replace k0 := G.cell (a := ⟨w2.heap.size, 0, none⟩) (v := .int .i64 v) (by go_simp) hb3
  replace k1 := G.cell (a := ⟨w2.heap.size, 1, none⟩) (v := .int .i64 S) (by go_simp) hb3
  replace lt0 := cell_lt k0
  replace lt1 := cell_lt k1
  replace hbr := (hbr.alloc _).grow hb3
  replace hbw : Below w.heap.size w w3 := G.trans (hbw.alloc hbw.size _) hb3
  obtain ⟨r0, r1, r2, r3⟩ := id hbr
  have ltr := hbr.lt
  clear hb3
  have hbx := hbw
  by_cases hall : er = .nilIface ∧ okN v (S : Int) = true ∧ txt v S = t ∧ ¬ (c3 = true ∧ c2 = [])
  · obtain ⟨he, hok, htx, hpt⟩ := hall
    have hr : Hid (parseN t = (v, (S : Int), 0)) := hacc.out v S hok htx
    have hX : (txS v (S : Int)).toList = t := by rw [htxs.out v hok, htx, hb]
    have hE : errN v (S : Int) = 0 := errN_ok hok
    subst he
    have hcase : c3 = false ∨ (c3 = true ∧ c2.isEmpty = false) := by
      cases c3
      · exact .inl rfl
      · exact .inr ⟨rfl, ne_empty fun h => hpt ⟨rfl, h⟩⟩
    clear hpt htx hok her
    rcases hcase with rfl | ⟨rfl, hce⟩
    · go_wp2_with fail
      exact bodyPost_ret (v := .tuple #[.agg #[.int .i64 v, .int .i64 S], .int .i64 0]) (by simp only [results, Tryz.results79]; go_simp) rfl ⟨by rw [hr.out], (hbw.setCell (by simp) _).setCell (by simp) _⟩
    · go_wp2_with fail
      exact bodyPost_ret (v := .tuple #[.agg #[.int .i64 v, .int .i64 S], .int .i64 0]) (by simp only [results, Tryz.results79]; go_simp) rfl ⟨by rw [hr.out], (hbw.setCell (by simp) _).setCell (by simp) _⟩
  · have hr : Hid (parseN t = (0, 0, 13)) := by
      refine hrej.out fun v' h1 h2 h3 => ?_
      rcases her with ⟨he, h4⟩ | ⟨_, h4⟩
      · rw [h4] at h1
        injection h1 with h1
        subst h1
        refine Classical.byContradiction fun h5 => hall ⟨he, h2, h3, h5⟩
      · exact absurd h1 (h4 v')
    have hcase : (∃ tp p, er = .iface tp p) ∨ (er = .nilIface ∧ okN v (S : Int) ≠ true) ∨ (er = .nilIface ∧ okN v (S : Int) = true ∧ txt v S ≠ t) ∨ (er = .nilIface ∧ okN v (S : Int) = true ∧ txt v S = t ∧ c3 = true ∧ c2 = []) := by
      rcases her with ⟨he, _⟩ | ⟨he, _⟩
      · by_cases h1 : okN v (S : Int) = true
        · by_cases h2 : txt v S = t
          · by_cases h3 : c3 = true ∧ c2 = []
            · exact .inr (.inr (.inr ⟨he, h1, h2, h3⟩))
            · exact absurd ⟨he, h1, h2, h3⟩ hall
          · exact .inr (.inr (.inl ⟨he, h1, h2⟩))
        · exact .inr (.inl ⟨he, h1⟩)
      · exact .inl he
    clear hall her
    rcases hcase with ⟨tp, p, rfl⟩ | ⟨rfl, h1⟩ | ⟨rfl, h1, h2⟩ | ⟨rfl, h1, h2, rfl, rfl⟩
    · go_wp2_with fail
      exact bodyPost_ret (v := .tuple #[.agg #[.int .i64 0, .int .i64 0], .int .i64 13]) (by simp only [results, Tryz.results79]; go_simp) rfl ⟨by rw [hr.out], (hbw.setCell (by simp) _).setCell (by simp) _⟩
    · have hE : errN v (S : Int) = 2 := errN_bad h1
      clear h1
      go_wp2_with fail
      exact bodyPost_ret (v := .tuple #[.agg #[.int .i64 0, .int .i64 0], .int .i64 13]) (by simp only [results, Tryz.results79]; go_simp) rfl ⟨by rw [hr.out], (hbw.setCell (by simp) _).setCell (by simp) _⟩
    · have hE : errN v (S : Int) = 0 := errN_ok h1
      obtain ⟨X, hX⟩ : ∃ X, (txS v (S : Int)).toList = X := ⟨_, rfl⟩
      have hXt : ¬ X = t := by rw [← hX, htxs.out v h1, B_toList]; exact h2
      have hXb : (X == t) = false := by simp [hXt]
      have hXc : (X != t) = true := by simp [hXt]
      clear h1 h2
      go_wp2_with fail
      exact bodyPost_ret (v := .tuple #[.agg #[.int .i64 0, .int .i64 0], .int .i64 13]) (by simp only [results, Tryz.results79]; go_simp) rfl ⟨by rw [hr.out], (hbw.setCell (by simp) _).setCell (by simp) _⟩
    · have hE : errN v (S : Int) = 0 := errN_ok h1
      have hX : (txS v (S : Int)).toList = t := by rw [htxs.out v h1, h2, hb]
      clear h1 h2
      go_wp2_with fail
      exact bodyPost_ret (v := .tuple #[.agg #[.int .i64 0, .int .i64 0], .int .i64 13]) (by simp only [results, Tryz.results79]; go_simp) rfl ⟨by rw [hr.out], (hbw.setCell (by simp) _).setCell (by simp) _⟩
theorem parse_any (t : List UInt8) (w : World) (hmax : t.length ≤ 100000) (hv : LibVars w) (ht : Pow10 w) : Calls Tryz.prog 79 #[.string (B t)] w (RetF (parseN t) w) := by
  by_cases h0 : t = []
  · subst h0
    exact parse_short w
  · by_cases h17 : 17 < t.length
    · exact parse_long t w h17 hmax
    · exact parse_mid t w h0 (by omega) hv ht
end Go.Proofs.YtmchiibbodllaaaGreatDoor
