/- What decimal.Sum computes. -/
import Derived.Test.YtoipapcbngknfaaDoorSumM
import Derived.Test.YtoipapcbngknfaaDoorRef2
namespace Go.Proofs.YtoipapcbngknfaaDoor
set_option linter.unusedVariables false
set_option linter.unnecessarySimpa false
set_option linter.unusedSimpArgs false
open Go.RowKit

theorem sumN_long {L : List (Int × Int)} (h : 256 < L.length) : sumN L = (0, 0, 9) := if_pos h
theorem sumN_bad {L : List (Int × Int)} (h : L.length ≤ 256) (he : errL L ≠ 0) : sumN L = (0, 0, 2) := by unfold sumN; rw [if_neg (by omega), if_neg he]
theorem sumN_ok {L : List (Int × Int)} (h : L.length ≤ 256) (he : errL L = 0) : sumN L = fitN (sumAt L (maxS L).toNat) (maxS L) := by unfold sumN; rw [if_neg (by omega), if_pos he]
theorem errL_two {L : List (Int × Int)} (h : errL L ≠ 0) : errL L = 2 := by unfold errL at *; split at h; exact absurd rfl h; rename_i h'; rw [if_neg h']
set_option maxRecDepth 20000 in set_option maxHeartbeats 400000 in
theorem sum_bad (A : Option Addr) (n c : Nat) (L : List (Int × Int)) (w : World) (hx : NumsAt w A n L) (hn : n ≤ 1000) (hw : ∀ p ∈ L, (Lit.int .i64 p.1).wf = true) (hbad : 256 < n ∨ errL L ≠ 0) :
    Calls Tryd.prog 29 #[.slice A n c] w (RetF (sumN L) w) := by
  by_cases hbig : 256 < n
  · have hr : Hid (sumN L = (0, 0, 9)) := sumN_long (by rw [hx.2]; exact hbig)
    clear hbad hx hw
    go_enter Tryd.func29, Tryd.ntmps29
    go_wp2_with fail
    exact bodyPost_ret (v := .tuple #[.agg #[.int .i64 0, .int .i64 0], .int .i64 9]) (by simp only [results, Tryd.results29]; go_simp) rfl ⟨by rw [hr.out], by repeat (first | with_reducible assumption | with_reducible exact G.refl _ | with_reducible refine G.drew ?_ | with_reducible refine G.drewN ?_ _ | with_reducible refine G.alloc ?_ _ | with_reducible refine Below.setCell ?_ (by first | (simp; done) | (simp; omega)) _ | with_reducible refine G.trans ?_ hb12 | with_reducible refine G.trans ?_ hb11 | with_reducible refine G.trans ?_ hb10 | with_reducible refine G.trans ?_ hb9 | with_reducible refine G.trans ?_ hb8 | with_reducible refine G.trans ?_ hb7 | with_reducible refine G.trans ?_ hb6 | with_reducible refine G.trans ?_ hb5 | with_reducible refine G.trans ?_ hb4 | with_reducible refine G.trans ?_ hb3 | with_reducible refine G.trans ?_ hb2 | with_reducible refine G.trans ?_ hb1 | with_reducible refine G.trans ?_ hb | assumption)⟩
  · have he : errL L ≠ 0 := by rcases hbad with h | h; exact absurd h hbig; exact h
    have hr : Hid (sumN L = (0, 0, 2)) := sumN_bad (by rw [hx.2]; omega) he
    have C := fun w h => checkL_any A n c L w h (by unfold maxLen; omega) hw
    rw [errL_two he] at C
    replace C := Lib.hid C
    clear hbad he hw
    go_enter Tryd.func29, Tryd.ntmps29
    go_wp2_with fail
    refine (C.out _ (hx.grow (by repeat (first | with_reducible assumption | with_reducible exact G.refl _ | with_reducible refine G.drew ?_ | with_reducible refine G.drewN ?_ _ | with_reducible refine G.alloc ?_ _ | with_reducible refine Below.setCell ?_ (by first | (simp; done) | (simp; omega)) _ | with_reducible refine G.trans ?_ hb12 | with_reducible refine G.trans ?_ hb11 | with_reducible refine G.trans ?_ hb10 | with_reducible refine G.trans ?_ hb9 | with_reducible refine G.trans ?_ hb8 | with_reducible refine G.trans ?_ hb7 | with_reducible refine G.trans ?_ hb6 | with_reducible refine G.trans ?_ hb5 | with_reducible refine G.trans ?_ hb4 | with_reducible refine G.trans ?_ hb3 | with_reducible refine G.trans ?_ hb2 | with_reducible refine G.trans ?_ hb1 | with_reducible refine G.trans ?_ hb | assumption)))).mono ?_
    rintro e w1 ⟨rfl, hb⟩
    
    replace k0 := G.cell (a := ⟨w.heap.size, 0, none⟩) (v := .int .i64 0) (by go_simp) hb
    replace k1 := G.cell (a := ⟨w.heap.size, 1, none⟩) (v := .int .i64 0) (by go_simp) hb
    replace lt0 := cell_lt k0
    replace lt1 := cell_lt k1
    obtain ⟨hc, hf⟩ := G.old hb
    have z0 : w1.frozen? ⟨w.heap.size, 0, none⟩ = false := (hf _ _ (by simp)).trans (by go_simp)
    have z1 : w1.frozen? ⟨w.heap.size, 1, none⟩ = false := (hf _ _ (by simp)).trans (by go_simp)
    go_wp2_with fail
    exact bodyPost_ret (v := .tuple #[.agg #[.int .i64 0, .int .i64 0], .int .i64 2]) (by simp only [results, Tryd.results29]; go_simp) rfl ⟨by rw [hr.out], by repeat (first | with_reducible assumption | with_reducible exact G.refl _ | with_reducible refine G.drew ?_ | with_reducible refine G.drewN ?_ _ | with_reducible refine G.alloc ?_ _ | with_reducible refine Below.setCell ?_ (by first | (simp; done) | (simp; omega)) _ | with_reducible refine G.trans ?_ hb12 | with_reducible refine G.trans ?_ hb11 | with_reducible refine G.trans ?_ hb10 | with_reducible refine G.trans ?_ hb9 | with_reducible refine G.trans ?_ hb8 | with_reducible refine G.trans ?_ hb7 | with_reducible refine G.trans ?_ hb6 | with_reducible refine G.trans ?_ hb5 | with_reducible refine G.trans ?_ hb4 | with_reducible refine G.trans ?_ hb3 | with_reducible refine G.trans ?_ hb2 | with_reducible refine G.trans ?_ hb1 | with_reducible refine G.trans ?_ hb | assumption)⟩
set_option maxRecDepth 20000 in set_option maxHeartbeats 1000000 in
theorem sum_ok (A : Option Addr) (n c : Nat) (L : List (Int × Int)) (w : World) (hx : NumsAt w A n L) (hn : n ≤ 256) (hw : ∀ p ∈ L, (Lit.int .i64 p.1).wf = true) (he : errL L = 0) :
    Calls Tryd.prog 29 #[.slice A n c] w (RetF (sumN L) w) := by
  have hl := Lib.hid hx.2
  have hok := errL_zero he
  have hm0 := maxS_nonneg L
  have hm1 := maxS_bd hok
  have hr : Hid (sumN L = fitN (sumAt L (maxS L).toNat) (maxS L)) := sumN_ok (by rw [hx.2]; omega) he
  have C := fun w h => checkL_any A n c L w h (by unfold maxLen; omega) hw
  rw [he] at C
  have T := fun w h => total_any A n c L (maxS L).toNat w h hn (by omega) (fun p hp => ⟨hok p hp, by have := maxS_le hp; have := okN_iff.1 (hok p hp); omega⟩)
  rw [show (((maxS L).toNat : Nat) : Int) = maxS L by omega, ← hr.out] at T
  replace C := Lib.hid C
  replace T := Lib.hid T
  have hbd : Hid (∀ k, 0 ≤ maxS (L.take k) ∧ maxS (L.take k) ≤ 12) := fun k => ⟨maxS_nonneg _, maxS_bd fun p hp => hok p (List.mem_of_mem_take hp)⟩
  have hokH := Lib.hid hok
  generalize sumN L = p at *
  clear hr he hw hok hm0 hm1
  go_enter Tryd.func29, Tryd.ntmps29
  go_wp2_with fail
  refine (C.out _ (hx.grow (by repeat (first | with_reducible assumption | with_reducible exact G.refl _ | with_reducible refine G.drew ?_ | with_reducible refine G.drewN ?_ _ | with_reducible refine G.alloc ?_ _ | with_reducible refine Below.setCell ?_ (by first | (simp; done) | (simp; omega)) _ | with_reducible refine G.trans ?_ hb12 | with_reducible refine G.trans ?_ hb11 | with_reducible refine G.trans ?_ hb10 | with_reducible refine G.trans ?_ hb9 | with_reducible refine G.trans ?_ hb8 | with_reducible refine G.trans ?_ hb7 | with_reducible refine G.trans ?_ hb6 | with_reducible refine G.trans ?_ hb5 | with_reducible refine G.trans ?_ hb4 | with_reducible refine G.trans ?_ hb3 | with_reducible refine G.trans ?_ hb2 | with_reducible refine G.trans ?_ hb1 | with_reducible refine G.trans ?_ hb | assumption)))).mono ?_
  rintro e w1 ⟨rfl, hb⟩
  
  replace k0 := G.cell (a := ⟨w.heap.size, 0, none⟩) (v := .int .i64 0) (by go_simp) hb
  replace k1 := G.cell (a := ⟨w.heap.size, 1, none⟩) (v := .int .i64 0) (by go_simp) hb
  replace lt0 := cell_lt k0
  replace lt1 := cell_lt k1
  obtain ⟨hc, hf⟩ := G.old hb
  have z0 : w1.frozen? ⟨w.heap.size, 0, none⟩ = false := (hf _ _ (by simp)).trans (by go_simp)
  have z1 : w1.frozen? ⟨w.heap.size, 1, none⟩ = false := (hf _ _ (by simp)).trans (by go_simp)
  have hbr : Box2 w1 w.heap.size (.int .i64 0) (.int .i64 0) := ⟨k0, k1, z0, z1⟩
  have hbw : Below w.heap.size w w1 := by repeat (first | with_reducible assumption | with_reducible exact G.refl _ | with_reducible refine G.drew ?_ | with_reducible refine G.drewN ?_ _ | with_reducible refine G.alloc ?_ _ | with_reducible refine Below.setCell ?_ (by first | (simp; done) | (simp; omega)) _ | with_reducible refine G.trans ?_ hb12 | with_reducible refine G.trans ?_ hb11 | with_reducible refine G.trans ?_ hb10 | with_reducible refine G.trans ?_ hb9 | with_reducible refine G.trans ?_ hb8 | with_reducible refine G.trans ?_ hb7 | with_reducible refine G.trans ?_ hb6 | with_reducible refine G.trans ?_ hb5 | with_reducible refine G.trans ?_ hb4 | with_reducible refine G.trans ?_ hb3 | with_reducible refine G.trans ?_ hb2 | with_reducible refine G.trans ?_ hb1 | with_reducible refine G.trans ?_ hb | assumption)
  have hx1 := hx.grow hbw
  clear hc hf hb z0 z1 k0 k1 lt0 lt1 hx
  go_wp2_with fail
  go_loopw [5, 20] (fun sv iv wr => ∃ k : Nat, k ≤ n ∧ iv = .int .i64 k ∧ sv = .int .i64 (maxS (L.take k)) ∧ Below w1.heap.size w1 wr) (fun _ iv _ => n - (intOf iv).toNat)
  case atStart => exact ⟨0, Nat.zero_le _, rfl, rfl, G.refl _⟩
  case round =>
    obtain ⟨k, hk, rfl, rfl, hbq⟩ := hrel
    by_cases hlt : k < n
    · obtain ⟨b, off, x, s, rfl, hbx, hxk, hc1, hc2⟩ := (hx1.grow hbq).at_ hlt
      have hst : Hid (maxS (L.take (k + 1)) = max (maxS (L.take k)) s) := maxS_step hxk
      obtain ⟨m, hm⟩ : ∃ m, maxS (L.take k) = m := ⟨_, rfl⟩
      rw [hm] at hst
      clear hxk
      have hmb := hbd.out k
      rw [hm] at hmb
      rw [hm]
      clear hm
      by_cases hsm : s ≤ m
      · go_wp2_with fail
        go_roundw
        case rel => exact ⟨k + 1, by omega, by go_num, by rw [hst.out, Int.max_eq_left hsm], by repeat (first | with_reducible assumption | with_reducible exact G.refl _ | with_reducible refine G.drew ?_ | with_reducible refine G.drewN ?_ _ | with_reducible refine G.alloc ?_ _ | with_reducible refine Below.setCell ?_ (by first | (simp; done) | (simp; omega)) _ | with_reducible refine G.trans ?_ hb12 | with_reducible refine G.trans ?_ hb11 | with_reducible refine G.trans ?_ hb10 | with_reducible refine G.trans ?_ hb9 | with_reducible refine G.trans ?_ hb8 | with_reducible refine G.trans ?_ hb7 | with_reducible refine G.trans ?_ hb6 | with_reducible refine G.trans ?_ hb5 | with_reducible refine G.trans ?_ hb4 | with_reducible refine G.trans ?_ hb3 | with_reducible refine G.trans ?_ hb2 | with_reducible refine G.trans ?_ hb1 | with_reducible refine G.trans ?_ hb | assumption)⟩
        case measure => first | (simp [intOf]; done) | (simp [intOf]; omega)
      · go_wp2_with fail
        go_roundw
        case rel => exact ⟨k + 1, by omega, by go_num, by rw [hst.out, Int.max_eq_right (by omega)], by repeat (first | with_reducible assumption | with_reducible exact G.refl _ | with_reducible refine G.drew ?_ | with_reducible refine G.drewN ?_ _ | with_reducible refine G.alloc ?_ _ | with_reducible refine Below.setCell ?_ (by first | (simp; done) | (simp; omega)) _ | with_reducible refine G.trans ?_ hb12 | with_reducible refine G.trans ?_ hb11 | with_reducible refine G.trans ?_ hb10 | with_reducible refine G.trans ?_ hb9 | with_reducible refine G.trans ?_ hb8 | with_reducible refine G.trans ?_ hb7 | with_reducible refine G.trans ?_ hb6 | with_reducible refine G.trans ?_ hb5 | with_reducible refine G.trans ?_ hb4 | with_reducible refine G.trans ?_ hb3 | with_reducible refine G.trans ?_ hb2 | with_reducible refine G.trans ?_ hb1 | with_reducible refine G.trans ?_ hb | assumption)⟩
        case measure => first | (simp [intOf]; done) | (simp [intOf]; omega)
    · have hkn : k = n := by omega
      subst hkn
      have hbr2 := hbr.grow hbq
      have hxq := hx1.grow hbq
      have htk : L.take k = L := List.take_of_length_le (by have := hl.out; omega)
      rw [htk]
      clear htk
      go_wp2_with fail
      refine (T.out _ hxq).mono ?_
      rintro e w3 ⟨rfl, hb3⟩
      replace hbr2 := hbr2.grow hb3
      obtain ⟨r0, r1, r2, r3⟩ := id hbr2
      have ltr := hbr2.lt
      have hB := G.trans hbw (G.trans hbq hb3)
      go_wp2_with fail
      exact bodyPost_ret (v := .tuple #[.agg #[.int .i64 p.1, .int .i64 p.2.1], .int .i64 p.2.2]) (by simp only [results, Tryd.results29]; go_simp) rfl ⟨rfl, (hB.setCell (by simp) _).setCell (by simp) _⟩
theorem dsum_any (A : Option Addr) (n c : Nat) (L : List (Int × Int)) (w : World) (hx : NumsAt w A n L) (hn : n ≤ 1000) (hw : ∀ p ∈ L, (Lit.int .i64 p.1).wf = true) :
    Calls Tryd.prog 29 #[.slice A n c] w (RetF (sumN L) w) := by
  by_cases h : 256 < n
  · exact sum_bad A n c L w hx hn hw (.inl h)
  · by_cases he : errL L = 0
    · exact sum_ok A n c L w hx (by omega) hw he
    · exact sum_bad A n c L w hx hn hw (.inr he)
end Go.Proofs.YtoipapcbngknfaaDoor
