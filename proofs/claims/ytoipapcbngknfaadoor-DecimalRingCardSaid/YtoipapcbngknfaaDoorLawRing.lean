/- The law DecimalRing returns true: the walk. -/
import Derived.Test.YtoipapcbngknfaaDoorDec7
import Derived.Test.YtoipapcbngknfaaDoorRef7
import Derived.Test.YtoipapcbngknfaaDoorDCmp
import Derived.Test.YtoipapcbngknfaaDoorLawAdds
import Derived.Test.YtoipapcbngknfaaDoorDKnown
namespace Go.Proofs.YtoipapcbngknfaaDoor
set_option linter.unusedVariables false
set_option linter.unnecessarySimpa false
set_option linter.unusedSimpArgs false
open Go.RowKit

theorem addN_comm (n s m t : Int) : addN m t n s = addN n s m t := by
  unfold addN
  rw [show max t.toNat s.toNat = max s.toNat t.toNat by omega]
  by_cases h : okN n s = true ∧ okN m t = true
  · rw [if_pos h, if_pos ⟨h.2, h.1⟩, Int.add_comm]
  · rw [if_neg h, if_neg (fun x => h ⟨x.2, x.1⟩)]
theorem mulN_comm (n s m t : Int) : mulN m t n s = mulN n s m t := by
  unfold mulN
  rw [Int.mul_comm m n, Int.add_comm t s]
  by_cases h : okN n s = true ∧ okN m t = true
  · rw [if_pos h, if_pos ⟨h.2, h.1⟩]
  · rw [if_neg h, if_neg (fun x => h ⟨x.2, x.1⟩)]
/-- A result with its error: valid, or zero. -/
def Fine (p : Int × Int × Int) : Prop := (p.2.2 = 0 ∧ okN p.1 p.2.1 = true) ∨ (p.2.2 = 14 ∧ p.1 = 0 ∧ p.2.1 = 0) ∨ (p.2.2 = 2 ∧ p.1 = 0 ∧ p.2.1 = 0)
theorem fitN_fine {n s : Int} (h0 : 0 ≤ s) (h1 : s ≤ 12) : Fine (fitN n s) ∧ ((fitN n s).2.2 = 0 → fitN n s = (n, s, 0)) ∧ (fitN n s).2.2 ≠ 2 := by
  unfold fitN
  by_cases h : -999999999999999 ≤ n ∧ n ≤ 999999999999999
  · rw [if_pos h]
    exact ⟨.inl ⟨rfl, okN_iff.2 ⟨h.1, h.2, h0, h1⟩⟩, fun _ => rfl, by simp⟩
  · rw [if_neg h]
    exact ⟨.inr (.inl ⟨rfl, rfl, rfl⟩), fun h => by simp at h, by simp⟩
theorem Fine.wf {p : Int × Int × Int} (h : Fine p) : (Lit.int .i64 p.1).wf = true := by
  rcases h with ⟨_, h⟩ | ⟨_, h, _⟩ | ⟨_, h, _⟩
  · exact wf_ok h
  · rw [h]; decide
  · rw [h]; decide
theorem addN_fine (n s m t : Int) : Fine (addN n s m t) ∧ ((addN n s m t).2.2 = 0 → okN n s = true ∧ okN m t = true ∧ valN (addN n s m t).1 (addN n s m t).2.1 = valN n s + valN m t) ∧ (okN n s = true → okN m t = true → (addN n s m t).2.2 ≠ 2) := by
  by_cases h : okN n s = true ∧ okN m t = true
  · have e : addN n s m t = fitN (n * p10 (max s.toNat t.toNat - s.toNat) + m * p10 (max s.toNat t.toNat - t.toNat)) ((max s.toNat t.toNat : Nat) : Int) := if_pos h
    obtain ⟨j, rfl, hj, _⟩ := okN_nat h.1
    obtain ⟨i, rfl, hi, _⟩ := okN_nat h.2
    simp only [Int.toNat_natCast] at e
    have hsc : max j i ≤ 12 := by omega
    have hjs : j ≤ max j i := by omega
    have his : i ≤ max j i := by omega
    rw [e]
    generalize max j i = sc at *
    have hv : (n * p10 (sc - j) + m * p10 (sc - i)) * p10 (12 - sc) = valN n j + valN m i := by
      rw [val_scale hjs hsc, val_scale his hsc, Int.add_mul]
    generalize n * p10 (sc - j) + m * p10 (sc - i) = S at *
    obtain ⟨f1, f2, f3⟩ := fitN_fine (n := S) (s := (sc : Int)) (by omega) (by omega)
    refine ⟨f1, fun h0 => ⟨h.1, h.2, ?_⟩, fun _ _ => f3⟩
    rw [f2 h0]
    show valN S (sc : Int) = _
    rw [← hv]
    unfold valN
    rw [Int.toNat_natCast]
  · have e : addN n s m t = (0, 0, 2) := if_neg h
    rw [e]
    exact ⟨.inr (.inr ⟨rfl, rfl, rfl⟩), fun h => by simp at h, fun h1 h2 => absurd ⟨h1, h2⟩ h⟩
theorem mulN_fine (n s m t : Int) : Fine (mulN n s m t) ∧ ((mulN n s m t).2.2 = 0 → okN n s = true ∧ okN m t = true ∧ valN (mulN n s m t).1 (mulN n s m t).2.1 * 1000000000000 = valN n s * valN m t) := by
  by_cases h : okN n s = true ∧ okN m t = true
  · have e : mulN n s m t = if s + t ≤ 12 then fitN (n * m) (s + t) else (0, 0, 14) := if_pos h
    have h1 := okN_iff.1 h.1
    have h2 := okN_iff.1 h.2
    by_cases h12 : s + t ≤ 12
    · rw [e, if_pos h12]
      obtain ⟨f1, f2, _⟩ := fitN_fine (n := n * m) (s := s + t) (by omega) h12
      refine ⟨f1, fun h0 => ⟨h.1, h.2, ?_⟩⟩
      rw [f2 h0]
      show valN (n * m) (s + t) * _ = _
      unfold valN
      have hp : p10 (12 - (s + t).toNat) * 1000000000000 = p10 (12 - s.toNat) * p10 (12 - t.toNat) := by
        rw [show (1000000000000 : Int) = p10 12 by decide, ← p10_add, ← p10_add]
        congr 1
        omega
      rw [Int.mul_assoc, hp]
      rw [Int.mul_assoc, Int.mul_assoc]
      congr 1
      rw [← Int.mul_assoc, ← Int.mul_assoc, Int.mul_comm m]
    · rw [e, if_neg h12]
      exact ⟨.inr (.inl ⟨rfl, rfl, rfl⟩), fun h => by simp at h⟩
  · have e : mulN n s m t = (0, 0, 2) := if_neg h
    rw [e]
    exact ⟨.inr (.inr ⟨rfl, rfl, rfl⟩), fun h => by simp at h⟩
theorem cmp_zero {n s m t : Int} (h1 : okN n s = true) (h2 : okN m t = true) (h : valN n s = valN m t) : cmpN n s m t = (0, 0) := by
  have : cmpN n s m t = (cmpI (valN n s) (valN m t), 0) := if_pos ⟨h1, h2⟩
  rw [this, cmpI_zero.2 h]
theorem valN_neg (m t : Int) : valN (-m) t = -valN m t := by unfold valN; rw [Int.neg_mul]
/-- Sub undoes Add. -/
theorem sub_undoes {n s m t : Int} (h : (addN n s m t).2.2 = 0) :
    Fine (subN (addN n s m t).1 (addN n s m t).2.1 m t) ∧ ((subN (addN n s m t).1 (addN n s m t).2.1 m t).2.2 = 14 ∨ ((subN (addN n s m t).1 (addN n s m t).2.1 m t).2.2 = 0 ∧ cmpN (subN (addN n s m t).1 (addN n s m t).2.1 m t).1 (subN (addN n s m t).1 (addN n s m t).2.1 m t).2.1 n s = (0, 0))) := by
  obtain ⟨f1, f2, _⟩ := addN_fine n s m t
  obtain ⟨o1, o2, hv⟩ := f2 h
  have o3 : okN (addN n s m t).1 (addN n s m t).2.1 = true := by
    rcases f1 with ⟨_, h'⟩ | ⟨h', _⟩ | ⟨h', _⟩
    · exact h'
    · omega
    · omega
  rw [sub_as o2]
  generalize (addN n s m t).1 = x at *
  generalize (addN n s m t).2.1 = y at *
  have hm := okN_iff.1 o2
  have o4 : okN (-m) t = true := okN_iff.2 ⟨by omega, by omega, by omega, by omega⟩
  obtain ⟨g1, g2, g3⟩ := addN_fine x y (-m) t
  refine ⟨g1, ?_⟩
  rcases g1 with ⟨h0, h'⟩ | ⟨h', _⟩ | ⟨h', _⟩
  · refine .inr ⟨h0, cmp_zero h' o1 ?_⟩
    rw [(g2 h0).2.2, valN_neg, hv]
    omega
  · exact .inl h'
  · exact absurd h' (g3 o3 o4)
/-- Products are distributive over sums. -/
theorem distributes {n s m t l u : Int} (he : (addN n s m t).2.2 = 0) (hg : (mulN n s l u).2.2 = 0) (hk : (mulN m t l u).2.2 = 0) (hl : (mulN (addN n s m t).1 (addN n s m t).2.1 l u).2.2 = 0)
    (hm : (addN (mulN n s l u).1 (mulN n s l u).2.1 (mulN m t l u).1 (mulN m t l u).2.1).2.2 = 0) :
    cmpN (mulN (addN n s m t).1 (addN n s m t).2.1 l u).1 (mulN (addN n s m t).1 (addN n s m t).2.1 l u).2.1 (addN (mulN n s l u).1 (mulN n s l u).2.1 (mulN m t l u).1 (mulN m t l u).2.1).1 (addN (mulN n s l u).1 (mulN n s l u).2.1 (mulN m t l u).1 (mulN m t l u).2.1).2.1 = (0, 0) := by
  have a1 := ((addN_fine n s m t).2.1 he).2.2
  have a2 := ((mulN_fine n s l u).2 hg).2.2
  have a3 := ((mulN_fine m t l u).2 hk).2.2
  obtain ⟨b1, b2⟩ := mulN_fine (addN n s m t).1 (addN n s m t).2.1 l u
  obtain ⟨c1, c2, _⟩ := addN_fine (mulN n s l u).1 (mulN n s l u).2.1 (mulN m t l u).1 (mulN m t l u).2.1
  have a4 := (b2 hl).2.2
  have a5 := (c2 hm).2.2
  refine cmp_zero ?_ ?_ ?_
  · rcases b1 with ⟨_, h⟩ | ⟨h, _⟩ | ⟨h, _⟩
    · exact h
    · omega
    · omega
  · rcases c1 with ⟨_, h⟩ | ⟨h, _⟩ | ⟨h, _⟩
    · exact h
    · omega
    · omega
  · rw [a1, Int.add_mul] at a4
    rw [a5]
    omega
theorem fine_cases {p : Int × Int × Int} (h : Fine p) : p.2.2 = 0 ∨ p.2.2 = 14 ∨ p.2.2 = 2 := by
  rcases h with ⟨h, _⟩ | ⟨h, _⟩ | ⟨h, _⟩
  · exact .inl h
  · exact .inr (.inl h)
  · exact .inr (.inr h)
set_option maxRecDepth 20000 in set_option maxHeartbeats 4000000 in
theorem decimalRing_any (n s m t l u : Int) (w : World) (h1 : (Lit.int .i64 n).wf = true) (h2 : (Lit.int .i64 m).wf = true) (h3 : (Lit.int .i64 l).wf = true) (ht : Pow10 w) :
    Calls Tryd.prog 11 #[.agg #[.int .i64 n, .int .i64 s], .agg #[.int .i64 m, .int .i64 t], .agg #[.int .i64 l, .int .i64 u]] w fun e' w' => e' = .returned (.bool true) ∧ Below w.heap.size w w' := by
  have htt := Lib.hid ht
  obtain ⟨fa, fa2, _⟩ := addN_fine n s m t
  obtain ⟨fm, _⟩ := mulN_fine n s l u
  obtain ⟨fr, _⟩ := mulN_fine m t l u
  have A1 := fun w => add_any n s m t w h1 h2
  have A2 := fun w => add_any m t n s w h2 h1
  have M1 := fun w => mul_any n s l u w h1 h3
  have M2 := fun w => mul_any l u n s w h3 h1
  have M3 := fun w => mul_any m t l u w h2 h3
  have M4 := fun w => mul_any (addN n s m t).1 (addN n s m t).2.1 l u w fa.wf h3
  have A5 := fun w => add_any (mulN n s l u).1 (mulN n s l u).2.1 (mulN m t l u).1 (mulN m t l u).2.1 w fm.wf fr.wf
  have S1 := fun w => sub_any (addN n s m t).1 (addN n s m t).2.1 m t w fa.wf h2
  obtain ⟨fs, _⟩ := mulN_fine (addN n s m t).1 (addN n s m t).2.1 l u
  obtain ⟨ft, _⟩ := addN_fine (mulN n s l u).1 (mulN n s l u).2.1 (mulN m t l u).1 (mulN m t l u).2.1
  have C2 := fun w => compare_any (mulN (addN n s m t).1 (addN n s m t).2.1 l u).1 (mulN (addN n s m t).1 (addN n s m t).2.1 l u).2.1 (addN (mulN n s l u).1 (mulN n s l u).2.1 (mulN m t l u).1 (mulN m t l u).2.1).1 (addN (mulN n s l u).1 (mulN n s l u).2.1 (mulN m t l u).1 (mulN m t l u).2.1).2.1 w fs.wf ft.wf
  have hd := @distributes n s m t l u
  have hsub : (addN n s m t).2.2 = 0 → (∀ w, Calls Tryd.prog 36 #[.agg #[.int .i64 (subN (addN n s m t).1 (addN n s m t).2.1 m t).1, .int .i64 (subN (addN n s m t).1 (addN n s m t).2.1 m t).2.1], .agg #[.int .i64 n, .int .i64 s]] w fun e w' => e = .returned (.tuple #[.int .i64 (cmpN (subN (addN n s m t).1 (addN n s m t).2.1 m t).1 (subN (addN n s m t).1 (addN n s m t).2.1 m t).2.1 n s).1, .int .i64 (cmpN (subN (addN n s m t).1 (addN n s m t).2.1 m t).1 (subN (addN n s m t).1 (addN n s m t).2.1 m t).2.1 n s).2]) ∧ Below w.heap.size w w') ∧ ((subN (addN n s m t).1 (addN n s m t).2.1 m t).2.2 = 14 ∨ ((subN (addN n s m t).1 (addN n s m t).2.1 m t).2.2 = 0 ∧ (cmpN (subN (addN n s m t).1 (addN n s m t).2.1 m t).1 (subN (addN n s m t).1 (addN n s m t).2.1 m t).2.1 n s) = (0, 0))) := by
    intro h
    obtain ⟨g1, g2⟩ := sub_undoes h
    exact ⟨fun w => compare_any _ _ _ _ w g1.wf h1, g2⟩
  have ea := fine_cases fa
  have em := fine_cases fm
  have er := fine_cases fr
  have es := fine_cases fs
  have et := fine_cases ft
  rw [addN_comm] at A2
  rw [mulN_comm] at M2
  clear fa fa2 fm fr fs ft
  unfold RetF RetN at A1 A2 M1 M2 M3 M4 A5 S1
  generalize cmpN (mulN (addN n s m t).1 (addN n s m t).2.1 l u).1 (mulN (addN n s m t).1 (addN n s m t).2.1 l u).2.1 (addN (mulN n s l u).1 (mulN n s l u).2.1 (mulN m t l u).1 (mulN m t l u).2.1).1 (addN (mulN n s l u).1 (mulN n s l u).2.1 (mulN m t l u).1 (mulN m t l u).2.1).2.1 = c2 at *
  generalize cmpN (subN (addN n s m t).1 (addN n s m t).2.1 m t).1 (subN (addN n s m t).1 (addN n s m t).2.1 m t).2.1 n s = c1 at *
  generalize subN (addN n s m t).1 (addN n s m t).2.1 m t = vd at *
  generalize mulN (addN n s m t).1 (addN n s m t).2.1 l u = vs at *
  generalize addN (mulN n s l u).1 (mulN n s l u).2.1 (mulN m t l u).1 (mulN m t l u).2.1 = vt at *
  generalize addN n s m t = va at *
  generalize mulN n s l u = vp at *
  generalize mulN m t l u = vr at *
  obtain ⟨c21, c22⟩ := c2
  obtain ⟨c11, c12⟩ := c1
  obtain ⟨vd1, vd2, vd3⟩ := vd
  obtain ⟨vs1, vs2, vs3⟩ := vs
  obtain ⟨vt1, vt2, vt3⟩ := vt
  obtain ⟨va1, va2, va3⟩ := va
  obtain ⟨vp1, vp2, vp3⟩ := vp
  obtain ⟨vr1, vr2, vr3⟩ := vr
  simp only at A1 A2 M1 M2 M3 M4 A5 S1 C2 hd hsub ea em er es et
  replace A1 := Lib.hid A1
  replace A2 := Lib.hid A2
  replace A5 := Lib.hid A5
  replace M1 := Lib.hid M1
  replace M2 := Lib.hid M2
  replace M3 := Lib.hid M3
  replace M4 := Lib.hid M4
  replace S1 := Lib.hid S1
  replace C2 := Lib.hid C2
  have HD := Lib.hid hd
  have HS := Lib.hid hsub
  have EA := Lib.hid ea
  have EM := Lib.hid em
  have ER := Lib.hid er
  have ES := Lib.hid es
  have ET := Lib.hid et
  have q1 : (va1 != va1) = false := by simp
  have q2 : (va2 != va2) = false := by simp
  have q3 : (vp1 != vp1) = false := by simp
  have q4 : (vp2 != vp2) = false := by simp
  clear h1 h2 h3 ht hd hsub ea em er es et
  go_enter Tryd.func11, Tryd.ntmps11
  go_wp2_with fail
  refine (known_any _ (htt.out.grow (by repeat (first | with_reducible assumption | with_reducible exact G.refl _ | with_reducible refine G.drew ?_ | with_reducible refine G.drewN ?_ _ | with_reducible refine G.alloc ?_ _ | with_reducible refine Below.setCell ?_ (by first | (simp; done) | (simp; omega)) _ | with_reducible refine G.trans ?_ hb12 | with_reducible refine G.trans ?_ hb11 | with_reducible refine G.trans ?_ hb10 | with_reducible refine G.trans ?_ hb9 | with_reducible refine G.trans ?_ hb8 | with_reducible refine G.trans ?_ hb7 | with_reducible refine G.trans ?_ hb6 | with_reducible refine G.trans ?_ hb5 | with_reducible refine G.trans ?_ hb4 | with_reducible refine G.trans ?_ hb3 | with_reducible refine G.trans ?_ hb2 | with_reducible refine G.trans ?_ hb1 | with_reducible refine G.trans ?_ hb | assumption)))).mono ?_
  rintro e' w1 ⟨rfl, hb1⟩
  
  replace k0 := G.cell (a := ⟨w.heap.size, 0, none⟩) (v := .int .i64 n) (by go_simp) hb1
  replace k1 := G.cell (a := ⟨w.heap.size, 1, none⟩) (v := .int .i64 s) (by go_simp) hb1
  replace k2 := G.cell (a := ⟨w.heap.size + 1, 0, none⟩) (v := .int .i64 m) (by go_simp) hb1
  replace k3 := G.cell (a := ⟨w.heap.size + 1, 1, none⟩) (v := .int .i64 t) (by go_simp) hb1
  replace k4 := G.cell (a := ⟨w.heap.size + 1 + 1, 0, none⟩) (v := .int .i64 l) (by go_simp) hb1
  replace k5 := G.cell (a := ⟨w.heap.size + 1 + 1, 1, none⟩) (v := .int .i64 u) (by go_simp) hb1
  replace lt0 := cell_lt k0
  replace lt1 := cell_lt k1
  replace lt2 := cell_lt k2
  replace lt3 := cell_lt k3
  replace lt4 := cell_lt k4
  replace lt5 := cell_lt k5
  have hbw : Below w.heap.size w w1 := by repeat (first | with_reducible assumption | with_reducible exact G.refl _ | with_reducible refine G.drew ?_ | with_reducible refine G.drewN ?_ _ | with_reducible refine G.alloc ?_ _ | with_reducible refine Below.setCell ?_ (by first | (simp; done) | (simp; omega)) _ | with_reducible refine G.trans ?_ hb12 | with_reducible refine G.trans ?_ hb11 | with_reducible refine G.trans ?_ hb10 | with_reducible refine G.trans ?_ hb9 | with_reducible refine G.trans ?_ hb8 | with_reducible refine G.trans ?_ hb7 | with_reducible refine G.trans ?_ hb6 | with_reducible refine G.trans ?_ hb5 | with_reducible refine G.trans ?_ hb4 | with_reducible refine G.trans ?_ hb3 | with_reducible refine G.trans ?_ hb2 | with_reducible refine G.trans ?_ hb1 | with_reducible refine G.trans ?_ hb | assumption)
  clear hb1
  go_wp2_with fail
  refine (A1.out _).mono ?_
  rintro e' w2 ⟨rfl, hb2⟩
  replace k0 := G.cell (a := ⟨w.heap.size, 0, none⟩) (v := .int .i64 n) (by go_simp) hb2
  replace k1 := G.cell (a := ⟨w.heap.size, 1, none⟩) (v := .int .i64 s) (by go_simp) hb2
  replace k2 := G.cell (a := ⟨w.heap.size + 1, 0, none⟩) (v := .int .i64 m) (by go_simp) hb2
  replace k3 := G.cell (a := ⟨w.heap.size + 1, 1, none⟩) (v := .int .i64 t) (by go_simp) hb2
  replace k4 := G.cell (a := ⟨w.heap.size + 1 + 1, 0, none⟩) (v := .int .i64 l) (by go_simp) hb2
  replace k5 := G.cell (a := ⟨w.heap.size + 1 + 1, 1, none⟩) (v := .int .i64 u) (by go_simp) hb2
  replace lt0 := cell_lt k0
  replace lt1 := cell_lt k1
  replace lt2 := cell_lt k2
  replace lt3 := cell_lt k3
  replace lt4 := cell_lt k4
  replace lt5 := cell_lt k5
  replace hbw := G.trans hbw hb2
  clear hb2
  go_wp2_with fail
  refine (A2.out _).mono ?_
  rintro e' w3 ⟨rfl, hb3⟩
  
  replace k0 := G.cell (a := ⟨w.heap.size, 0, none⟩) (v := .int .i64 n) (by go_simp) hb3
  replace k1 := G.cell (a := ⟨w.heap.size, 1, none⟩) (v := .int .i64 s) (by go_simp) hb3
  replace k2 := G.cell (a := ⟨w.heap.size + 1, 0, none⟩) (v := .int .i64 m) (by go_simp) hb3
  replace k3 := G.cell (a := ⟨w.heap.size + 1, 1, none⟩) (v := .int .i64 t) (by go_simp) hb3
  replace k4 := G.cell (a := ⟨w.heap.size + 1 + 1, 0, none⟩) (v := .int .i64 l) (by go_simp) hb3
  replace k5 := G.cell (a := ⟨w.heap.size + 1 + 1, 1, none⟩) (v := .int .i64 u) (by go_simp) hb3
  replace k6 := G.cell (a := ⟨w2.heap.size, 0, none⟩) (v := .int .i64 va1) (by go_simp) hb3
  replace k7 := G.cell (a := ⟨w2.heap.size, 1, none⟩) (v := .int .i64 va2) (by go_simp) hb3
  replace lt0 := cell_lt k0
  replace lt1 := cell_lt k1
  replace lt2 := cell_lt k2
  replace lt3 := cell_lt k3
  replace lt4 := cell_lt k4
  replace lt5 := cell_lt k5
  replace lt6 := cell_lt k6
  replace lt7 := cell_lt k7
  replace hbw : Below w.heap.size w w3 := by repeat (first | with_reducible assumption | with_reducible exact G.refl _ | with_reducible refine G.drew ?_ | with_reducible refine G.drewN ?_ _ | with_reducible refine G.alloc ?_ _ | with_reducible refine Below.setCell ?_ (by first | (simp; done) | (simp; omega)) _ | with_reducible refine G.trans ?_ hb12 | with_reducible refine G.trans ?_ hb11 | with_reducible refine G.trans ?_ hb10 | with_reducible refine G.trans ?_ hb9 | with_reducible refine G.trans ?_ hb8 | with_reducible refine G.trans ?_ hb7 | with_reducible refine G.trans ?_ hb6 | with_reducible refine G.trans ?_ hb5 | with_reducible refine G.trans ?_ hb4 | with_reducible refine G.trans ?_ hb3 | with_reducible refine G.trans ?_ hb2 | with_reducible refine G.trans ?_ hb1 | with_reducible refine G.trans ?_ hb | assumption)
  clear hb3
  go_wp2_with fail
  refine (M1.out _).mono ?_
  rintro e' w4 ⟨rfl, hb4⟩
  
  replace k0 := G.cell (a := ⟨w.heap.size, 0, none⟩) (v := .int .i64 n) (by go_simp) hb4
  replace k1 := G.cell (a := ⟨w.heap.size, 1, none⟩) (v := .int .i64 s) (by go_simp) hb4
  replace k2 := G.cell (a := ⟨w.heap.size + 1, 0, none⟩) (v := .int .i64 m) (by go_simp) hb4
  replace k3 := G.cell (a := ⟨w.heap.size + 1, 1, none⟩) (v := .int .i64 t) (by go_simp) hb4
  replace k4 := G.cell (a := ⟨w.heap.size + 1 + 1, 0, none⟩) (v := .int .i64 l) (by go_simp) hb4
  replace k5 := G.cell (a := ⟨w.heap.size + 1 + 1, 1, none⟩) (v := .int .i64 u) (by go_simp) hb4
  replace k6 := G.cell (a := ⟨w2.heap.size, 0, none⟩) (v := .int .i64 va1) (by go_simp) hb4
  replace k7 := G.cell (a := ⟨w2.heap.size, 1, none⟩) (v := .int .i64 va2) (by go_simp) hb4
  replace k8 := G.cell (a := ⟨w3.heap.size, 0, none⟩) (v := .int .i64 va1) (by go_simp) hb4
  replace k9 := G.cell (a := ⟨w3.heap.size, 1, none⟩) (v := .int .i64 va2) (by go_simp) hb4
  replace lt0 := cell_lt k0
  replace lt1 := cell_lt k1
  replace lt2 := cell_lt k2
  replace lt3 := cell_lt k3
  replace lt4 := cell_lt k4
  replace lt5 := cell_lt k5
  replace lt6 := cell_lt k6
  replace lt7 := cell_lt k7
  replace lt8 := cell_lt k8
  replace lt9 := cell_lt k9
  replace hbw : Below w.heap.size w w4 := by repeat (first | with_reducible assumption | with_reducible exact G.refl _ | with_reducible refine G.drew ?_ | with_reducible refine G.drewN ?_ _ | with_reducible refine G.alloc ?_ _ | with_reducible refine Below.setCell ?_ (by first | (simp; done) | (simp; omega)) _ | with_reducible refine G.trans ?_ hb12 | with_reducible refine G.trans ?_ hb11 | with_reducible refine G.trans ?_ hb10 | with_reducible refine G.trans ?_ hb9 | with_reducible refine G.trans ?_ hb8 | with_reducible refine G.trans ?_ hb7 | with_reducible refine G.trans ?_ hb6 | with_reducible refine G.trans ?_ hb5 | with_reducible refine G.trans ?_ hb4 | with_reducible refine G.trans ?_ hb3 | with_reducible refine G.trans ?_ hb2 | with_reducible refine G.trans ?_ hb1 | with_reducible refine G.trans ?_ hb | assumption)
  clear hb4
  go_wp2_with fail
  refine (M2.out _).mono ?_
  rintro e' w5 ⟨rfl, hb5⟩
  
  replace k0 := G.cell (a := ⟨w.heap.size, 0, none⟩) (v := .int .i64 n) (by go_simp) hb5
  replace k1 := G.cell (a := ⟨w.heap.size, 1, none⟩) (v := .int .i64 s) (by go_simp) hb5
  replace k2 := G.cell (a := ⟨w.heap.size + 1, 0, none⟩) (v := .int .i64 m) (by go_simp) hb5
  replace k3 := G.cell (a := ⟨w.heap.size + 1, 1, none⟩) (v := .int .i64 t) (by go_simp) hb5
  replace k4 := G.cell (a := ⟨w.heap.size + 1 + 1, 0, none⟩) (v := .int .i64 l) (by go_simp) hb5
  replace k5 := G.cell (a := ⟨w.heap.size + 1 + 1, 1, none⟩) (v := .int .i64 u) (by go_simp) hb5
  replace k6 := G.cell (a := ⟨w2.heap.size, 0, none⟩) (v := .int .i64 va1) (by go_simp) hb5
  replace k7 := G.cell (a := ⟨w2.heap.size, 1, none⟩) (v := .int .i64 va2) (by go_simp) hb5
  replace k8 := G.cell (a := ⟨w3.heap.size, 0, none⟩) (v := .int .i64 va1) (by go_simp) hb5
  replace k9 := G.cell (a := ⟨w3.heap.size, 1, none⟩) (v := .int .i64 va2) (by go_simp) hb5
  replace k10 := G.cell (a := ⟨w4.heap.size, 0, none⟩) (v := .int .i64 vp1) (by go_simp) hb5
  replace k11 := G.cell (a := ⟨w4.heap.size, 1, none⟩) (v := .int .i64 vp2) (by go_simp) hb5
  replace lt0 := cell_lt k0
  replace lt1 := cell_lt k1
  replace lt2 := cell_lt k2
  replace lt3 := cell_lt k3
  replace lt4 := cell_lt k4
  replace lt5 := cell_lt k5
  replace lt6 := cell_lt k6
  replace lt7 := cell_lt k7
  replace lt8 := cell_lt k8
  replace lt9 := cell_lt k9
  replace lt10 := cell_lt k10
  replace lt11 := cell_lt k11
  replace hbw : Below w.heap.size w w5 := by repeat (first | with_reducible assumption | with_reducible exact G.refl _ | with_reducible refine G.drew ?_ | with_reducible refine G.drewN ?_ _ | with_reducible refine G.alloc ?_ _ | with_reducible refine Below.setCell ?_ (by first | (simp; done) | (simp; omega)) _ | with_reducible refine G.trans ?_ hb12 | with_reducible refine G.trans ?_ hb11 | with_reducible refine G.trans ?_ hb10 | with_reducible refine G.trans ?_ hb9 | with_reducible refine G.trans ?_ hb8 | with_reducible refine G.trans ?_ hb7 | with_reducible refine G.trans ?_ hb6 | with_reducible refine G.trans ?_ hb5 | with_reducible refine G.trans ?_ hb4 | with_reducible refine G.trans ?_ hb3 | with_reducible refine G.trans ?_ hb2 | with_reducible refine G.trans ?_ hb1 | with_reducible refine G.trans ?_ hb | assumption)
  clear hb5
  rcases EA.out with rfl | rfl | rfl
  rotate_left
  · go_wp2
    go_ret
    exact ⟨rfl, by repeat (first | with_reducible assumption | with_reducible exact G.refl _ | with_reducible refine G.drew ?_ | with_reducible refine G.drewN ?_ _ | with_reducible refine G.alloc ?_ _ | with_reducible refine Below.setCell ?_ (by first | (simp; done) | (simp; omega)) _ | with_reducible refine G.trans ?_ hb12 | with_reducible refine G.trans ?_ hb11 | with_reducible refine G.trans ?_ hb10 | with_reducible refine G.trans ?_ hb9 | with_reducible refine G.trans ?_ hb8 | with_reducible refine G.trans ?_ hb7 | with_reducible refine G.trans ?_ hb6 | with_reducible refine G.trans ?_ hb5 | with_reducible refine G.trans ?_ hb4 | with_reducible refine G.trans ?_ hb3 | with_reducible refine G.trans ?_ hb2 | with_reducible refine G.trans ?_ hb1 | with_reducible refine G.trans ?_ hb | assumption)⟩
  · go_wp2
    go_ret
    exact ⟨rfl, by repeat (first | with_reducible assumption | with_reducible exact G.refl _ | with_reducible refine G.drew ?_ | with_reducible refine G.drewN ?_ _ | with_reducible refine G.alloc ?_ _ | with_reducible refine Below.setCell ?_ (by first | (simp; done) | (simp; omega)) _ | with_reducible refine G.trans ?_ hb12 | with_reducible refine G.trans ?_ hb11 | with_reducible refine G.trans ?_ hb10 | with_reducible refine G.trans ?_ hb9 | with_reducible refine G.trans ?_ hb8 | with_reducible refine G.trans ?_ hb7 | with_reducible refine G.trans ?_ hb6 | with_reducible refine G.trans ?_ hb5 | with_reducible refine G.trans ?_ hb4 | with_reducible refine G.trans ?_ hb3 | with_reducible refine G.trans ?_ hb2 | with_reducible refine G.trans ?_ hb1 | with_reducible refine G.trans ?_ hb | assumption)⟩
  rcases EM.out with rfl | rfl | rfl
  rotate_left
  · go_wp2
    go_ret
    exact ⟨rfl, by repeat (first | with_reducible assumption | with_reducible exact G.refl _ | with_reducible refine G.drew ?_ | with_reducible refine G.drewN ?_ _ | with_reducible refine G.alloc ?_ _ | with_reducible refine Below.setCell ?_ (by first | (simp; done) | (simp; omega)) _ | with_reducible refine G.trans ?_ hb12 | with_reducible refine G.trans ?_ hb11 | with_reducible refine G.trans ?_ hb10 | with_reducible refine G.trans ?_ hb9 | with_reducible refine G.trans ?_ hb8 | with_reducible refine G.trans ?_ hb7 | with_reducible refine G.trans ?_ hb6 | with_reducible refine G.trans ?_ hb5 | with_reducible refine G.trans ?_ hb4 | with_reducible refine G.trans ?_ hb3 | with_reducible refine G.trans ?_ hb2 | with_reducible refine G.trans ?_ hb1 | with_reducible refine G.trans ?_ hb | assumption)⟩
  · go_wp2
    go_ret
    exact ⟨rfl, by repeat (first | with_reducible assumption | with_reducible exact G.refl _ | with_reducible refine G.drew ?_ | with_reducible refine G.drewN ?_ _ | with_reducible refine G.alloc ?_ _ | with_reducible refine Below.setCell ?_ (by first | (simp; done) | (simp; omega)) _ | with_reducible refine G.trans ?_ hb12 | with_reducible refine G.trans ?_ hb11 | with_reducible refine G.trans ?_ hb10 | with_reducible refine G.trans ?_ hb9 | with_reducible refine G.trans ?_ hb8 | with_reducible refine G.trans ?_ hb7 | with_reducible refine G.trans ?_ hb6 | with_reducible refine G.trans ?_ hb5 | with_reducible refine G.trans ?_ hb4 | with_reducible refine G.trans ?_ hb3 | with_reducible refine G.trans ?_ hb2 | with_reducible refine G.trans ?_ hb1 | with_reducible refine G.trans ?_ hb | assumption)⟩
  have hs := HS.out rfl
  have C1 := Lib.hid hs.1
  have HC := Lib.hid hs.2
  clear hs HS EA EM
  go_wp2_with fail
  refine (S1.out _).mono ?_
  rintro e' w6 ⟨rfl, hb6⟩
  
  replace k0 := G.cell (a := ⟨w.heap.size, 0, none⟩) (v := .int .i64 n) (by go_simp) hb6
  replace k1 := G.cell (a := ⟨w.heap.size, 1, none⟩) (v := .int .i64 s) (by go_simp) hb6
  replace k2 := G.cell (a := ⟨w.heap.size + 1, 0, none⟩) (v := .int .i64 m) (by go_simp) hb6
  replace k3 := G.cell (a := ⟨w.heap.size + 1, 1, none⟩) (v := .int .i64 t) (by go_simp) hb6
  replace k4 := G.cell (a := ⟨w.heap.size + 1 + 1, 0, none⟩) (v := .int .i64 l) (by go_simp) hb6
  replace k5 := G.cell (a := ⟨w.heap.size + 1 + 1, 1, none⟩) (v := .int .i64 u) (by go_simp) hb6
  replace k6 := G.cell (a := ⟨w2.heap.size, 0, none⟩) (v := .int .i64 va1) (by go_simp) hb6
  replace k7 := G.cell (a := ⟨w2.heap.size, 1, none⟩) (v := .int .i64 va2) (by go_simp) hb6
  replace k8 := G.cell (a := ⟨w3.heap.size, 0, none⟩) (v := .int .i64 va1) (by go_simp) hb6
  replace k9 := G.cell (a := ⟨w3.heap.size, 1, none⟩) (v := .int .i64 va2) (by go_simp) hb6
  replace k10 := G.cell (a := ⟨w4.heap.size, 0, none⟩) (v := .int .i64 vp1) (by go_simp) hb6
  replace k11 := G.cell (a := ⟨w4.heap.size, 1, none⟩) (v := .int .i64 vp2) (by go_simp) hb6
  replace k12 := G.cell (a := ⟨w5.heap.size, 0, none⟩) (v := .int .i64 vp1) (by go_simp) hb6
  replace k13 := G.cell (a := ⟨w5.heap.size, 1, none⟩) (v := .int .i64 vp2) (by go_simp) hb6
  replace lt0 := cell_lt k0
  replace lt1 := cell_lt k1
  replace lt2 := cell_lt k2
  replace lt3 := cell_lt k3
  replace lt4 := cell_lt k4
  replace lt5 := cell_lt k5
  replace lt6 := cell_lt k6
  replace lt7 := cell_lt k7
  replace lt8 := cell_lt k8
  replace lt9 := cell_lt k9
  replace lt10 := cell_lt k10
  replace lt11 := cell_lt k11
  replace lt12 := cell_lt k12
  replace lt13 := cell_lt k13
  replace hbw : Below w.heap.size w w6 := by repeat (first | with_reducible assumption | with_reducible exact G.refl _ | with_reducible refine G.drew ?_ | with_reducible refine G.drewN ?_ _ | with_reducible refine G.alloc ?_ _ | with_reducible refine Below.setCell ?_ (by first | (simp; done) | (simp; omega)) _ | with_reducible refine G.trans ?_ hb12 | with_reducible refine G.trans ?_ hb11 | with_reducible refine G.trans ?_ hb10 | with_reducible refine G.trans ?_ hb9 | with_reducible refine G.trans ?_ hb8 | with_reducible refine G.trans ?_ hb7 | with_reducible refine G.trans ?_ hb6 | with_reducible refine G.trans ?_ hb5 | with_reducible refine G.trans ?_ hb4 | with_reducible refine G.trans ?_ hb3 | with_reducible refine G.trans ?_ hb2 | with_reducible refine G.trans ?_ hb1 | with_reducible refine G.trans ?_ hb | assumption)
  clear hb6
  go_wp2_with fail
  refine (C1.out _).mono ?_
  rintro e' w7 ⟨rfl, hb7⟩
  
  replace k0 := G.cell (a := ⟨w.heap.size, 0, none⟩) (v := .int .i64 n) (by go_simp) hb7
  replace k1 := G.cell (a := ⟨w.heap.size, 1, none⟩) (v := .int .i64 s) (by go_simp) hb7
  replace k2 := G.cell (a := ⟨w.heap.size + 1, 0, none⟩) (v := .int .i64 m) (by go_simp) hb7
  replace k3 := G.cell (a := ⟨w.heap.size + 1, 1, none⟩) (v := .int .i64 t) (by go_simp) hb7
  replace k4 := G.cell (a := ⟨w.heap.size + 1 + 1, 0, none⟩) (v := .int .i64 l) (by go_simp) hb7
  replace k5 := G.cell (a := ⟨w.heap.size + 1 + 1, 1, none⟩) (v := .int .i64 u) (by go_simp) hb7
  replace k6 := G.cell (a := ⟨w2.heap.size, 0, none⟩) (v := .int .i64 va1) (by go_simp) hb7
  replace k7 := G.cell (a := ⟨w2.heap.size, 1, none⟩) (v := .int .i64 va2) (by go_simp) hb7
  replace k8 := G.cell (a := ⟨w3.heap.size, 0, none⟩) (v := .int .i64 va1) (by go_simp) hb7
  replace k9 := G.cell (a := ⟨w3.heap.size, 1, none⟩) (v := .int .i64 va2) (by go_simp) hb7
  replace k10 := G.cell (a := ⟨w4.heap.size, 0, none⟩) (v := .int .i64 vp1) (by go_simp) hb7
  replace k11 := G.cell (a := ⟨w4.heap.size, 1, none⟩) (v := .int .i64 vp2) (by go_simp) hb7
  replace k12 := G.cell (a := ⟨w5.heap.size, 0, none⟩) (v := .int .i64 vp1) (by go_simp) hb7
  replace k13 := G.cell (a := ⟨w5.heap.size, 1, none⟩) (v := .int .i64 vp2) (by go_simp) hb7
  replace k14 := G.cell (a := ⟨w6.heap.size, 0, none⟩) (v := .int .i64 vd1) (by go_simp) hb7
  replace k15 := G.cell (a := ⟨w6.heap.size, 1, none⟩) (v := .int .i64 vd2) (by go_simp) hb7
  replace lt0 := cell_lt k0
  replace lt1 := cell_lt k1
  replace lt2 := cell_lt k2
  replace lt3 := cell_lt k3
  replace lt4 := cell_lt k4
  replace lt5 := cell_lt k5
  replace lt6 := cell_lt k6
  replace lt7 := cell_lt k7
  replace lt8 := cell_lt k8
  replace lt9 := cell_lt k9
  replace lt10 := cell_lt k10
  replace lt11 := cell_lt k11
  replace lt12 := cell_lt k12
  replace lt13 := cell_lt k13
  replace lt14 := cell_lt k14
  replace lt15 := cell_lt k15
  replace hbw : Below w.heap.size w w7 := by repeat (first | with_reducible assumption | with_reducible exact G.refl _ | with_reducible refine G.drew ?_ | with_reducible refine G.drewN ?_ _ | with_reducible refine G.alloc ?_ _ | with_reducible refine Below.setCell ?_ (by first | (simp; done) | (simp; omega)) _ | with_reducible refine G.trans ?_ hb12 | with_reducible refine G.trans ?_ hb11 | with_reducible refine G.trans ?_ hb10 | with_reducible refine G.trans ?_ hb9 | with_reducible refine G.trans ?_ hb8 | with_reducible refine G.trans ?_ hb7 | with_reducible refine G.trans ?_ hb6 | with_reducible refine G.trans ?_ hb5 | with_reducible refine G.trans ?_ hb4 | with_reducible refine G.trans ?_ hb3 | with_reducible refine G.trans ?_ hb2 | with_reducible refine G.trans ?_ hb1 | with_reducible refine G.trans ?_ hb | assumption)
  clear hb7
  rcases HC.out with rfl | ⟨rfl, hc⟩
  · go_wp2_with fail
    refine (M3.out _).mono ?_
    rintro e' w8 ⟨rfl, hb8⟩
    replace k0 := G.cell (a := ⟨w.heap.size, 0, none⟩) (v := .int .i64 n) (by go_simp) hb8
    replace k1 := G.cell (a := ⟨w.heap.size, 1, none⟩) (v := .int .i64 s) (by go_simp) hb8
    replace k2 := G.cell (a := ⟨w.heap.size + 1, 0, none⟩) (v := .int .i64 m) (by go_simp) hb8
    replace k3 := G.cell (a := ⟨w.heap.size + 1, 1, none⟩) (v := .int .i64 t) (by go_simp) hb8
    replace k4 := G.cell (a := ⟨w.heap.size + 1 + 1, 0, none⟩) (v := .int .i64 l) (by go_simp) hb8
    replace k5 := G.cell (a := ⟨w.heap.size + 1 + 1, 1, none⟩) (v := .int .i64 u) (by go_simp) hb8
    replace k6 := G.cell (a := ⟨w2.heap.size, 0, none⟩) (v := .int .i64 va1) (by go_simp) hb8
    replace k7 := G.cell (a := ⟨w2.heap.size, 1, none⟩) (v := .int .i64 va2) (by go_simp) hb8
    replace k8 := G.cell (a := ⟨w3.heap.size, 0, none⟩) (v := .int .i64 va1) (by go_simp) hb8
    replace k9 := G.cell (a := ⟨w3.heap.size, 1, none⟩) (v := .int .i64 va2) (by go_simp) hb8
    replace k10 := G.cell (a := ⟨w4.heap.size, 0, none⟩) (v := .int .i64 vp1) (by go_simp) hb8
    replace k11 := G.cell (a := ⟨w4.heap.size, 1, none⟩) (v := .int .i64 vp2) (by go_simp) hb8
    replace k12 := G.cell (a := ⟨w5.heap.size, 0, none⟩) (v := .int .i64 vp1) (by go_simp) hb8
    replace k13 := G.cell (a := ⟨w5.heap.size, 1, none⟩) (v := .int .i64 vp2) (by go_simp) hb8
    replace k14 := G.cell (a := ⟨w6.heap.size, 0, none⟩) (v := .int .i64 vd1) (by go_simp) hb8
    replace k15 := G.cell (a := ⟨w6.heap.size, 1, none⟩) (v := .int .i64 vd2) (by go_simp) hb8
    replace lt0 := cell_lt k0
    replace lt1 := cell_lt k1
    replace lt2 := cell_lt k2
    replace lt3 := cell_lt k3
    replace lt4 := cell_lt k4
    replace lt5 := cell_lt k5
    replace lt6 := cell_lt k6
    replace lt7 := cell_lt k7
    replace lt8 := cell_lt k8
    replace lt9 := cell_lt k9
    replace lt10 := cell_lt k10
    replace lt11 := cell_lt k11
    replace lt12 := cell_lt k12
    replace lt13 := cell_lt k13
    replace lt14 := cell_lt k14
    replace lt15 := cell_lt k15
    replace hbw : Below w.heap.size w w8 := by repeat (first | with_reducible assumption | with_reducible exact G.refl _ | with_reducible refine G.drew ?_ | with_reducible refine G.drewN ?_ _ | with_reducible refine G.alloc ?_ _ | with_reducible refine Below.setCell ?_ (by first | (simp; done) | (simp; omega)) _ | with_reducible refine G.trans ?_ hb12 | with_reducible refine G.trans ?_ hb11 | with_reducible refine G.trans ?_ hb10 | with_reducible refine G.trans ?_ hb9 | with_reducible refine G.trans ?_ hb8 | with_reducible refine G.trans ?_ hb7 | with_reducible refine G.trans ?_ hb6 | with_reducible refine G.trans ?_ hb5 | with_reducible refine G.trans ?_ hb4 | with_reducible refine G.trans ?_ hb3 | with_reducible refine G.trans ?_ hb2 | with_reducible refine G.trans ?_ hb1 | with_reducible refine G.trans ?_ hb | assumption)
    clear hb8
    go_wp2_with fail
    refine (M4.out _).mono ?_
    rintro e' w9 ⟨rfl, hb9⟩
    
    replace k0 := G.cell (a := ⟨w.heap.size, 0, none⟩) (v := .int .i64 n) (by go_simp) hb9
    replace k1 := G.cell (a := ⟨w.heap.size, 1, none⟩) (v := .int .i64 s) (by go_simp) hb9
    replace k2 := G.cell (a := ⟨w.heap.size + 1, 0, none⟩) (v := .int .i64 m) (by go_simp) hb9
    replace k3 := G.cell (a := ⟨w.heap.size + 1, 1, none⟩) (v := .int .i64 t) (by go_simp) hb9
    replace k4 := G.cell (a := ⟨w.heap.size + 1 + 1, 0, none⟩) (v := .int .i64 l) (by go_simp) hb9
    replace k5 := G.cell (a := ⟨w.heap.size + 1 + 1, 1, none⟩) (v := .int .i64 u) (by go_simp) hb9
    replace k6 := G.cell (a := ⟨w2.heap.size, 0, none⟩) (v := .int .i64 va1) (by go_simp) hb9
    replace k7 := G.cell (a := ⟨w2.heap.size, 1, none⟩) (v := .int .i64 va2) (by go_simp) hb9
    replace k8 := G.cell (a := ⟨w3.heap.size, 0, none⟩) (v := .int .i64 va1) (by go_simp) hb9
    replace k9 := G.cell (a := ⟨w3.heap.size, 1, none⟩) (v := .int .i64 va2) (by go_simp) hb9
    replace k10 := G.cell (a := ⟨w4.heap.size, 0, none⟩) (v := .int .i64 vp1) (by go_simp) hb9
    replace k11 := G.cell (a := ⟨w4.heap.size, 1, none⟩) (v := .int .i64 vp2) (by go_simp) hb9
    replace k12 := G.cell (a := ⟨w5.heap.size, 0, none⟩) (v := .int .i64 vp1) (by go_simp) hb9
    replace k13 := G.cell (a := ⟨w5.heap.size, 1, none⟩) (v := .int .i64 vp2) (by go_simp) hb9
    replace k14 := G.cell (a := ⟨w6.heap.size, 0, none⟩) (v := .int .i64 vd1) (by go_simp) hb9
    replace k15 := G.cell (a := ⟨w6.heap.size, 1, none⟩) (v := .int .i64 vd2) (by go_simp) hb9
    replace k16 := G.cell (a := ⟨w8.heap.size, 0, none⟩) (v := .int .i64 vr1) (by go_simp) hb9
    replace k17 := G.cell (a := ⟨w8.heap.size, 1, none⟩) (v := .int .i64 vr2) (by go_simp) hb9
    replace lt0 := cell_lt k0
    replace lt1 := cell_lt k1
    replace lt2 := cell_lt k2
    replace lt3 := cell_lt k3
    replace lt4 := cell_lt k4
    replace lt5 := cell_lt k5
    replace lt6 := cell_lt k6
    replace lt7 := cell_lt k7
    replace lt8 := cell_lt k8
    replace lt9 := cell_lt k9
    replace lt10 := cell_lt k10
    replace lt11 := cell_lt k11
    replace lt12 := cell_lt k12
    replace lt13 := cell_lt k13
    replace lt14 := cell_lt k14
    replace lt15 := cell_lt k15
    replace lt16 := cell_lt k16
    replace lt17 := cell_lt k17
    replace hbw : Below w.heap.size w w9 := by repeat (first | with_reducible assumption | with_reducible exact G.refl _ | with_reducible refine G.drew ?_ | with_reducible refine G.drewN ?_ _ | with_reducible refine G.alloc ?_ _ | with_reducible refine Below.setCell ?_ (by first | (simp; done) | (simp; omega)) _ | with_reducible refine G.trans ?_ hb12 | with_reducible refine G.trans ?_ hb11 | with_reducible refine G.trans ?_ hb10 | with_reducible refine G.trans ?_ hb9 | with_reducible refine G.trans ?_ hb8 | with_reducible refine G.trans ?_ hb7 | with_reducible refine G.trans ?_ hb6 | with_reducible refine G.trans ?_ hb5 | with_reducible refine G.trans ?_ hb4 | with_reducible refine G.trans ?_ hb3 | with_reducible refine G.trans ?_ hb2 | with_reducible refine G.trans ?_ hb1 | with_reducible refine G.trans ?_ hb | assumption)
    clear hb9
    go_wp2_with fail
    refine (A5.out _).mono ?_
    rintro e' w10 ⟨rfl, hb10⟩
    
    replace k0 := G.cell (a := ⟨w.heap.size, 0, none⟩) (v := .int .i64 n) (by go_simp) hb10
    replace k1 := G.cell (a := ⟨w.heap.size, 1, none⟩) (v := .int .i64 s) (by go_simp) hb10
    replace k2 := G.cell (a := ⟨w.heap.size + 1, 0, none⟩) (v := .int .i64 m) (by go_simp) hb10
    replace k3 := G.cell (a := ⟨w.heap.size + 1, 1, none⟩) (v := .int .i64 t) (by go_simp) hb10
    replace k4 := G.cell (a := ⟨w.heap.size + 1 + 1, 0, none⟩) (v := .int .i64 l) (by go_simp) hb10
    replace k5 := G.cell (a := ⟨w.heap.size + 1 + 1, 1, none⟩) (v := .int .i64 u) (by go_simp) hb10
    replace k6 := G.cell (a := ⟨w2.heap.size, 0, none⟩) (v := .int .i64 va1) (by go_simp) hb10
    replace k7 := G.cell (a := ⟨w2.heap.size, 1, none⟩) (v := .int .i64 va2) (by go_simp) hb10
    replace k8 := G.cell (a := ⟨w3.heap.size, 0, none⟩) (v := .int .i64 va1) (by go_simp) hb10
    replace k9 := G.cell (a := ⟨w3.heap.size, 1, none⟩) (v := .int .i64 va2) (by go_simp) hb10
    replace k10 := G.cell (a := ⟨w4.heap.size, 0, none⟩) (v := .int .i64 vp1) (by go_simp) hb10
    replace k11 := G.cell (a := ⟨w4.heap.size, 1, none⟩) (v := .int .i64 vp2) (by go_simp) hb10
    replace k12 := G.cell (a := ⟨w5.heap.size, 0, none⟩) (v := .int .i64 vp1) (by go_simp) hb10
    replace k13 := G.cell (a := ⟨w5.heap.size, 1, none⟩) (v := .int .i64 vp2) (by go_simp) hb10
    replace k14 := G.cell (a := ⟨w6.heap.size, 0, none⟩) (v := .int .i64 vd1) (by go_simp) hb10
    replace k15 := G.cell (a := ⟨w6.heap.size, 1, none⟩) (v := .int .i64 vd2) (by go_simp) hb10
    replace k16 := G.cell (a := ⟨w8.heap.size, 0, none⟩) (v := .int .i64 vr1) (by go_simp) hb10
    replace k17 := G.cell (a := ⟨w8.heap.size, 1, none⟩) (v := .int .i64 vr2) (by go_simp) hb10
    replace k18 := G.cell (a := ⟨w9.heap.size, 0, none⟩) (v := .int .i64 vs1) (by go_simp) hb10
    replace k19 := G.cell (a := ⟨w9.heap.size, 1, none⟩) (v := .int .i64 vs2) (by go_simp) hb10
    replace lt0 := cell_lt k0
    replace lt1 := cell_lt k1
    replace lt2 := cell_lt k2
    replace lt3 := cell_lt k3
    replace lt4 := cell_lt k4
    replace lt5 := cell_lt k5
    replace lt6 := cell_lt k6
    replace lt7 := cell_lt k7
    replace lt8 := cell_lt k8
    replace lt9 := cell_lt k9
    replace lt10 := cell_lt k10
    replace lt11 := cell_lt k11
    replace lt12 := cell_lt k12
    replace lt13 := cell_lt k13
    replace lt14 := cell_lt k14
    replace lt15 := cell_lt k15
    replace lt16 := cell_lt k16
    replace lt17 := cell_lt k17
    replace lt18 := cell_lt k18
    replace lt19 := cell_lt k19
    replace hbw : Below w.heap.size w w10 := by repeat (first | with_reducible assumption | with_reducible exact G.refl _ | with_reducible refine G.drew ?_ | with_reducible refine G.drewN ?_ _ | with_reducible refine G.alloc ?_ _ | with_reducible refine Below.setCell ?_ (by first | (simp; done) | (simp; omega)) _ | with_reducible refine G.trans ?_ hb12 | with_reducible refine G.trans ?_ hb11 | with_reducible refine G.trans ?_ hb10 | with_reducible refine G.trans ?_ hb9 | with_reducible refine G.trans ?_ hb8 | with_reducible refine G.trans ?_ hb7 | with_reducible refine G.trans ?_ hb6 | with_reducible refine G.trans ?_ hb5 | with_reducible refine G.trans ?_ hb4 | with_reducible refine G.trans ?_ hb3 | with_reducible refine G.trans ?_ hb2 | with_reducible refine G.trans ?_ hb1 | with_reducible refine G.trans ?_ hb | assumption)
    clear hb10
    rcases ER.out with rfl | rfl | rfl
    rotate_left
    · go_wp2
      go_ret
      exact ⟨rfl, by repeat (first | with_reducible assumption | with_reducible exact G.refl _ | with_reducible refine G.drew ?_ | with_reducible refine G.drewN ?_ _ | with_reducible refine G.alloc ?_ _ | with_reducible refine Below.setCell ?_ (by first | (simp; done) | (simp; omega)) _ | with_reducible refine G.trans ?_ hb12 | with_reducible refine G.trans ?_ hb11 | with_reducible refine G.trans ?_ hb10 | with_reducible refine G.trans ?_ hb9 | with_reducible refine G.trans ?_ hb8 | with_reducible refine G.trans ?_ hb7 | with_reducible refine G.trans ?_ hb6 | with_reducible refine G.trans ?_ hb5 | with_reducible refine G.trans ?_ hb4 | with_reducible refine G.trans ?_ hb3 | with_reducible refine G.trans ?_ hb2 | with_reducible refine G.trans ?_ hb1 | with_reducible refine G.trans ?_ hb | assumption)⟩
    · go_wp2
      go_ret
      exact ⟨rfl, by repeat (first | with_reducible assumption | with_reducible exact G.refl _ | with_reducible refine G.drew ?_ | with_reducible refine G.drewN ?_ _ | with_reducible refine G.alloc ?_ _ | with_reducible refine Below.setCell ?_ (by first | (simp; done) | (simp; omega)) _ | with_reducible refine G.trans ?_ hb12 | with_reducible refine G.trans ?_ hb11 | with_reducible refine G.trans ?_ hb10 | with_reducible refine G.trans ?_ hb9 | with_reducible refine G.trans ?_ hb8 | with_reducible refine G.trans ?_ hb7 | with_reducible refine G.trans ?_ hb6 | with_reducible refine G.trans ?_ hb5 | with_reducible refine G.trans ?_ hb4 | with_reducible refine G.trans ?_ hb3 | with_reducible refine G.trans ?_ hb2 | with_reducible refine G.trans ?_ hb1 | with_reducible refine G.trans ?_ hb | assumption)⟩
    rcases ES.out with rfl | rfl | rfl
    rotate_left
    · go_wp2
      go_ret
      exact ⟨rfl, by repeat (first | with_reducible assumption | with_reducible exact G.refl _ | with_reducible refine G.drew ?_ | with_reducible refine G.drewN ?_ _ | with_reducible refine G.alloc ?_ _ | with_reducible refine Below.setCell ?_ (by first | (simp; done) | (simp; omega)) _ | with_reducible refine G.trans ?_ hb12 | with_reducible refine G.trans ?_ hb11 | with_reducible refine G.trans ?_ hb10 | with_reducible refine G.trans ?_ hb9 | with_reducible refine G.trans ?_ hb8 | with_reducible refine G.trans ?_ hb7 | with_reducible refine G.trans ?_ hb6 | with_reducible refine G.trans ?_ hb5 | with_reducible refine G.trans ?_ hb4 | with_reducible refine G.trans ?_ hb3 | with_reducible refine G.trans ?_ hb2 | with_reducible refine G.trans ?_ hb1 | with_reducible refine G.trans ?_ hb | assumption)⟩
    · go_wp2
      go_ret
      exact ⟨rfl, by repeat (first | with_reducible assumption | with_reducible exact G.refl _ | with_reducible refine G.drew ?_ | with_reducible refine G.drewN ?_ _ | with_reducible refine G.alloc ?_ _ | with_reducible refine Below.setCell ?_ (by first | (simp; done) | (simp; omega)) _ | with_reducible refine G.trans ?_ hb12 | with_reducible refine G.trans ?_ hb11 | with_reducible refine G.trans ?_ hb10 | with_reducible refine G.trans ?_ hb9 | with_reducible refine G.trans ?_ hb8 | with_reducible refine G.trans ?_ hb7 | with_reducible refine G.trans ?_ hb6 | with_reducible refine G.trans ?_ hb5 | with_reducible refine G.trans ?_ hb4 | with_reducible refine G.trans ?_ hb3 | with_reducible refine G.trans ?_ hb2 | with_reducible refine G.trans ?_ hb1 | with_reducible refine G.trans ?_ hb | assumption)⟩
    rcases ET.out with rfl | rfl | rfl
    rotate_left
    · go_wp2
      go_ret
      exact ⟨rfl, by repeat (first | with_reducible assumption | with_reducible exact G.refl _ | with_reducible refine G.drew ?_ | with_reducible refine G.drewN ?_ _ | with_reducible refine G.alloc ?_ _ | with_reducible refine Below.setCell ?_ (by first | (simp; done) | (simp; omega)) _ | with_reducible refine G.trans ?_ hb12 | with_reducible refine G.trans ?_ hb11 | with_reducible refine G.trans ?_ hb10 | with_reducible refine G.trans ?_ hb9 | with_reducible refine G.trans ?_ hb8 | with_reducible refine G.trans ?_ hb7 | with_reducible refine G.trans ?_ hb6 | with_reducible refine G.trans ?_ hb5 | with_reducible refine G.trans ?_ hb4 | with_reducible refine G.trans ?_ hb3 | with_reducible refine G.trans ?_ hb2 | with_reducible refine G.trans ?_ hb1 | with_reducible refine G.trans ?_ hb | assumption)⟩
    · go_wp2
      go_ret
      exact ⟨rfl, by repeat (first | with_reducible assumption | with_reducible exact G.refl _ | with_reducible refine G.drew ?_ | with_reducible refine G.drewN ?_ _ | with_reducible refine G.alloc ?_ _ | with_reducible refine Below.setCell ?_ (by first | (simp; done) | (simp; omega)) _ | with_reducible refine G.trans ?_ hb12 | with_reducible refine G.trans ?_ hb11 | with_reducible refine G.trans ?_ hb10 | with_reducible refine G.trans ?_ hb9 | with_reducible refine G.trans ?_ hb8 | with_reducible refine G.trans ?_ hb7 | with_reducible refine G.trans ?_ hb6 | with_reducible refine G.trans ?_ hb5 | with_reducible refine G.trans ?_ hb4 | with_reducible refine G.trans ?_ hb3 | with_reducible refine G.trans ?_ hb2 | with_reducible refine G.trans ?_ hb1 | with_reducible refine G.trans ?_ hb | assumption)⟩
    have hd := HD.out (by simp) (by simp) (by simp) (by simp) (by simp)
    simp only [Prod.mk.injEq] at hd
    obtain ⟨rfl, rfl⟩ := hd
    clear HD ER ES ET
    go_wp2_with fail
    refine (C2.out _).mono ?_
    rintro e' w11 ⟨rfl, hb11⟩
    go_wp2
    go_ret
    exact ⟨rfl, by repeat (first | with_reducible assumption | with_reducible exact G.refl _ | with_reducible refine G.drew ?_ | with_reducible refine G.drewN ?_ _ | with_reducible refine G.alloc ?_ _ | with_reducible refine Below.setCell ?_ (by first | (simp; done) | (simp; omega)) _ | with_reducible refine G.trans ?_ hb12 | with_reducible refine G.trans ?_ hb11 | with_reducible refine G.trans ?_ hb10 | with_reducible refine G.trans ?_ hb9 | with_reducible refine G.trans ?_ hb8 | with_reducible refine G.trans ?_ hb7 | with_reducible refine G.trans ?_ hb6 | with_reducible refine G.trans ?_ hb5 | with_reducible refine G.trans ?_ hb4 | with_reducible refine G.trans ?_ hb3 | with_reducible refine G.trans ?_ hb2 | with_reducible refine G.trans ?_ hb1 | with_reducible refine G.trans ?_ hb | assumption)⟩
  · simp only [Prod.mk.injEq] at hc
    obtain ⟨rfl, rfl⟩ := hc
    go_wp2_with fail
    refine (M3.out _).mono ?_
    rintro e' w8 ⟨rfl, hb8⟩
    
    replace k0 := G.cell (a := ⟨w.heap.size, 0, none⟩) (v := .int .i64 n) (by go_simp) hb8
    replace k1 := G.cell (a := ⟨w.heap.size, 1, none⟩) (v := .int .i64 s) (by go_simp) hb8
    replace k2 := G.cell (a := ⟨w.heap.size + 1, 0, none⟩) (v := .int .i64 m) (by go_simp) hb8
    replace k3 := G.cell (a := ⟨w.heap.size + 1, 1, none⟩) (v := .int .i64 t) (by go_simp) hb8
    replace k4 := G.cell (a := ⟨w.heap.size + 1 + 1, 0, none⟩) (v := .int .i64 l) (by go_simp) hb8
    replace k5 := G.cell (a := ⟨w.heap.size + 1 + 1, 1, none⟩) (v := .int .i64 u) (by go_simp) hb8
    replace k6 := G.cell (a := ⟨w2.heap.size, 0, none⟩) (v := .int .i64 va1) (by go_simp) hb8
    replace k7 := G.cell (a := ⟨w2.heap.size, 1, none⟩) (v := .int .i64 va2) (by go_simp) hb8
    replace k8 := G.cell (a := ⟨w3.heap.size, 0, none⟩) (v := .int .i64 va1) (by go_simp) hb8
    replace k9 := G.cell (a := ⟨w3.heap.size, 1, none⟩) (v := .int .i64 va2) (by go_simp) hb8
    replace k10 := G.cell (a := ⟨w4.heap.size, 0, none⟩) (v := .int .i64 vp1) (by go_simp) hb8
    replace k11 := G.cell (a := ⟨w4.heap.size, 1, none⟩) (v := .int .i64 vp2) (by go_simp) hb8
    replace k12 := G.cell (a := ⟨w5.heap.size, 0, none⟩) (v := .int .i64 vp1) (by go_simp) hb8
    replace k13 := G.cell (a := ⟨w5.heap.size, 1, none⟩) (v := .int .i64 vp2) (by go_simp) hb8
    replace k14 := G.cell (a := ⟨w6.heap.size, 0, none⟩) (v := .int .i64 vd1) (by go_simp) hb8
    replace k15 := G.cell (a := ⟨w6.heap.size, 1, none⟩) (v := .int .i64 vd2) (by go_simp) hb8
    replace lt0 := cell_lt k0
    replace lt1 := cell_lt k1
    replace lt2 := cell_lt k2
    replace lt3 := cell_lt k3
    replace lt4 := cell_lt k4
    replace lt5 := cell_lt k5
    replace lt6 := cell_lt k6
    replace lt7 := cell_lt k7
    replace lt8 := cell_lt k8
    replace lt9 := cell_lt k9
    replace lt10 := cell_lt k10
    replace lt11 := cell_lt k11
    replace lt12 := cell_lt k12
    replace lt13 := cell_lt k13
    replace lt14 := cell_lt k14
    replace lt15 := cell_lt k15
    replace hbw : Below w.heap.size w w8 := by repeat (first | with_reducible assumption | with_reducible exact G.refl _ | with_reducible refine G.drew ?_ | with_reducible refine G.drewN ?_ _ | with_reducible refine G.alloc ?_ _ | with_reducible refine Below.setCell ?_ (by first | (simp; done) | (simp; omega)) _ | with_reducible refine G.trans ?_ hb12 | with_reducible refine G.trans ?_ hb11 | with_reducible refine G.trans ?_ hb10 | with_reducible refine G.trans ?_ hb9 | with_reducible refine G.trans ?_ hb8 | with_reducible refine G.trans ?_ hb7 | with_reducible refine G.trans ?_ hb6 | with_reducible refine G.trans ?_ hb5 | with_reducible refine G.trans ?_ hb4 | with_reducible refine G.trans ?_ hb3 | with_reducible refine G.trans ?_ hb2 | with_reducible refine G.trans ?_ hb1 | with_reducible refine G.trans ?_ hb | assumption)
    clear hb8
    go_wp2_with fail
    refine (M4.out _).mono ?_
    rintro e' w9 ⟨rfl, hb9⟩
    
    replace k0 := G.cell (a := ⟨w.heap.size, 0, none⟩) (v := .int .i64 n) (by go_simp) hb9
    replace k1 := G.cell (a := ⟨w.heap.size, 1, none⟩) (v := .int .i64 s) (by go_simp) hb9
    replace k2 := G.cell (a := ⟨w.heap.size + 1, 0, none⟩) (v := .int .i64 m) (by go_simp) hb9
    replace k3 := G.cell (a := ⟨w.heap.size + 1, 1, none⟩) (v := .int .i64 t) (by go_simp) hb9
    replace k4 := G.cell (a := ⟨w.heap.size + 1 + 1, 0, none⟩) (v := .int .i64 l) (by go_simp) hb9
    replace k5 := G.cell (a := ⟨w.heap.size + 1 + 1, 1, none⟩) (v := .int .i64 u) (by go_simp) hb9
    replace k6 := G.cell (a := ⟨w2.heap.size, 0, none⟩) (v := .int .i64 va1) (by go_simp) hb9
    replace k7 := G.cell (a := ⟨w2.heap.size, 1, none⟩) (v := .int .i64 va2) (by go_simp) hb9
    replace k8 := G.cell (a := ⟨w3.heap.size, 0, none⟩) (v := .int .i64 va1) (by go_simp) hb9
    replace k9 := G.cell (a := ⟨w3.heap.size, 1, none⟩) (v := .int .i64 va2) (by go_simp) hb9
    replace k10 := G.cell (a := ⟨w4.heap.size, 0, none⟩) (v := .int .i64 vp1) (by go_simp) hb9
    replace k11 := G.cell (a := ⟨w4.heap.size, 1, none⟩) (v := .int .i64 vp2) (by go_simp) hb9
    replace k12 := G.cell (a := ⟨w5.heap.size, 0, none⟩) (v := .int .i64 vp1) (by go_simp) hb9
    replace k13 := G.cell (a := ⟨w5.heap.size, 1, none⟩) (v := .int .i64 vp2) (by go_simp) hb9
    replace k14 := G.cell (a := ⟨w6.heap.size, 0, none⟩) (v := .int .i64 vd1) (by go_simp) hb9
    replace k15 := G.cell (a := ⟨w6.heap.size, 1, none⟩) (v := .int .i64 vd2) (by go_simp) hb9
    replace k16 := G.cell (a := ⟨w8.heap.size, 0, none⟩) (v := .int .i64 vr1) (by go_simp) hb9
    replace k17 := G.cell (a := ⟨w8.heap.size, 1, none⟩) (v := .int .i64 vr2) (by go_simp) hb9
    replace lt0 := cell_lt k0
    replace lt1 := cell_lt k1
    replace lt2 := cell_lt k2
    replace lt3 := cell_lt k3
    replace lt4 := cell_lt k4
    replace lt5 := cell_lt k5
    replace lt6 := cell_lt k6
    replace lt7 := cell_lt k7
    replace lt8 := cell_lt k8
    replace lt9 := cell_lt k9
    replace lt10 := cell_lt k10
    replace lt11 := cell_lt k11
    replace lt12 := cell_lt k12
    replace lt13 := cell_lt k13
    replace lt14 := cell_lt k14
    replace lt15 := cell_lt k15
    replace lt16 := cell_lt k16
    replace lt17 := cell_lt k17
    replace hbw : Below w.heap.size w w9 := by repeat (first | with_reducible assumption | with_reducible exact G.refl _ | with_reducible refine G.drew ?_ | with_reducible refine G.drewN ?_ _ | with_reducible refine G.alloc ?_ _ | with_reducible refine Below.setCell ?_ (by first | (simp; done) | (simp; omega)) _ | with_reducible refine G.trans ?_ hb12 | with_reducible refine G.trans ?_ hb11 | with_reducible refine G.trans ?_ hb10 | with_reducible refine G.trans ?_ hb9 | with_reducible refine G.trans ?_ hb8 | with_reducible refine G.trans ?_ hb7 | with_reducible refine G.trans ?_ hb6 | with_reducible refine G.trans ?_ hb5 | with_reducible refine G.trans ?_ hb4 | with_reducible refine G.trans ?_ hb3 | with_reducible refine G.trans ?_ hb2 | with_reducible refine G.trans ?_ hb1 | with_reducible refine G.trans ?_ hb | assumption)
    clear hb9
    go_wp2_with fail
    refine (A5.out _).mono ?_
    rintro e' w10 ⟨rfl, hb10⟩
    
    replace k0 := G.cell (a := ⟨w.heap.size, 0, none⟩) (v := .int .i64 n) (by go_simp) hb10
    replace k1 := G.cell (a := ⟨w.heap.size, 1, none⟩) (v := .int .i64 s) (by go_simp) hb10
    replace k2 := G.cell (a := ⟨w.heap.size + 1, 0, none⟩) (v := .int .i64 m) (by go_simp) hb10
    replace k3 := G.cell (a := ⟨w.heap.size + 1, 1, none⟩) (v := .int .i64 t) (by go_simp) hb10
    replace k4 := G.cell (a := ⟨w.heap.size + 1 + 1, 0, none⟩) (v := .int .i64 l) (by go_simp) hb10
    replace k5 := G.cell (a := ⟨w.heap.size + 1 + 1, 1, none⟩) (v := .int .i64 u) (by go_simp) hb10
    replace k6 := G.cell (a := ⟨w2.heap.size, 0, none⟩) (v := .int .i64 va1) (by go_simp) hb10
    replace k7 := G.cell (a := ⟨w2.heap.size, 1, none⟩) (v := .int .i64 va2) (by go_simp) hb10
    replace k8 := G.cell (a := ⟨w3.heap.size, 0, none⟩) (v := .int .i64 va1) (by go_simp) hb10
    replace k9 := G.cell (a := ⟨w3.heap.size, 1, none⟩) (v := .int .i64 va2) (by go_simp) hb10
    replace k10 := G.cell (a := ⟨w4.heap.size, 0, none⟩) (v := .int .i64 vp1) (by go_simp) hb10
    replace k11 := G.cell (a := ⟨w4.heap.size, 1, none⟩) (v := .int .i64 vp2) (by go_simp) hb10
    replace k12 := G.cell (a := ⟨w5.heap.size, 0, none⟩) (v := .int .i64 vp1) (by go_simp) hb10
    replace k13 := G.cell (a := ⟨w5.heap.size, 1, none⟩) (v := .int .i64 vp2) (by go_simp) hb10
    replace k14 := G.cell (a := ⟨w6.heap.size, 0, none⟩) (v := .int .i64 vd1) (by go_simp) hb10
    replace k15 := G.cell (a := ⟨w6.heap.size, 1, none⟩) (v := .int .i64 vd2) (by go_simp) hb10
    replace k16 := G.cell (a := ⟨w8.heap.size, 0, none⟩) (v := .int .i64 vr1) (by go_simp) hb10
    replace k17 := G.cell (a := ⟨w8.heap.size, 1, none⟩) (v := .int .i64 vr2) (by go_simp) hb10
    replace k18 := G.cell (a := ⟨w9.heap.size, 0, none⟩) (v := .int .i64 vs1) (by go_simp) hb10
    replace k19 := G.cell (a := ⟨w9.heap.size, 1, none⟩) (v := .int .i64 vs2) (by go_simp) hb10
    replace lt0 := cell_lt k0
    replace lt1 := cell_lt k1
    replace lt2 := cell_lt k2
    replace lt3 := cell_lt k3
    replace lt4 := cell_lt k4
    replace lt5 := cell_lt k5
    replace lt6 := cell_lt k6
    replace lt7 := cell_lt k7
    replace lt8 := cell_lt k8
    replace lt9 := cell_lt k9
    replace lt10 := cell_lt k10
    replace lt11 := cell_lt k11
    replace lt12 := cell_lt k12
    replace lt13 := cell_lt k13
    replace lt14 := cell_lt k14
    replace lt15 := cell_lt k15
    replace lt16 := cell_lt k16
    replace lt17 := cell_lt k17
    replace lt18 := cell_lt k18
    replace lt19 := cell_lt k19
    replace hbw : Below w.heap.size w w10 := by repeat (first | with_reducible assumption | with_reducible exact G.refl _ | with_reducible refine G.drew ?_ | with_reducible refine G.drewN ?_ _ | with_reducible refine G.alloc ?_ _ | with_reducible refine Below.setCell ?_ (by first | (simp; done) | (simp; omega)) _ | with_reducible refine G.trans ?_ hb12 | with_reducible refine G.trans ?_ hb11 | with_reducible refine G.trans ?_ hb10 | with_reducible refine G.trans ?_ hb9 | with_reducible refine G.trans ?_ hb8 | with_reducible refine G.trans ?_ hb7 | with_reducible refine G.trans ?_ hb6 | with_reducible refine G.trans ?_ hb5 | with_reducible refine G.trans ?_ hb4 | with_reducible refine G.trans ?_ hb3 | with_reducible refine G.trans ?_ hb2 | with_reducible refine G.trans ?_ hb1 | with_reducible refine G.trans ?_ hb | assumption)
    clear hb10
    rcases ER.out with rfl | rfl | rfl
    rotate_left
    · go_wp2
      go_ret
      exact ⟨rfl, by repeat (first | with_reducible assumption | with_reducible exact G.refl _ | with_reducible refine G.drew ?_ | with_reducible refine G.drewN ?_ _ | with_reducible refine G.alloc ?_ _ | with_reducible refine Below.setCell ?_ (by first | (simp; done) | (simp; omega)) _ | with_reducible refine G.trans ?_ hb12 | with_reducible refine G.trans ?_ hb11 | with_reducible refine G.trans ?_ hb10 | with_reducible refine G.trans ?_ hb9 | with_reducible refine G.trans ?_ hb8 | with_reducible refine G.trans ?_ hb7 | with_reducible refine G.trans ?_ hb6 | with_reducible refine G.trans ?_ hb5 | with_reducible refine G.trans ?_ hb4 | with_reducible refine G.trans ?_ hb3 | with_reducible refine G.trans ?_ hb2 | with_reducible refine G.trans ?_ hb1 | with_reducible refine G.trans ?_ hb | assumption)⟩
    · go_wp2
      go_ret
      exact ⟨rfl, by repeat (first | with_reducible assumption | with_reducible exact G.refl _ | with_reducible refine G.drew ?_ | with_reducible refine G.drewN ?_ _ | with_reducible refine G.alloc ?_ _ | with_reducible refine Below.setCell ?_ (by first | (simp; done) | (simp; omega)) _ | with_reducible refine G.trans ?_ hb12 | with_reducible refine G.trans ?_ hb11 | with_reducible refine G.trans ?_ hb10 | with_reducible refine G.trans ?_ hb9 | with_reducible refine G.trans ?_ hb8 | with_reducible refine G.trans ?_ hb7 | with_reducible refine G.trans ?_ hb6 | with_reducible refine G.trans ?_ hb5 | with_reducible refine G.trans ?_ hb4 | with_reducible refine G.trans ?_ hb3 | with_reducible refine G.trans ?_ hb2 | with_reducible refine G.trans ?_ hb1 | with_reducible refine G.trans ?_ hb | assumption)⟩
    rcases ES.out with rfl | rfl | rfl
    rotate_left
    · go_wp2
      go_ret
      exact ⟨rfl, by repeat (first | with_reducible assumption | with_reducible exact G.refl _ | with_reducible refine G.drew ?_ | with_reducible refine G.drewN ?_ _ | with_reducible refine G.alloc ?_ _ | with_reducible refine Below.setCell ?_ (by first | (simp; done) | (simp; omega)) _ | with_reducible refine G.trans ?_ hb12 | with_reducible refine G.trans ?_ hb11 | with_reducible refine G.trans ?_ hb10 | with_reducible refine G.trans ?_ hb9 | with_reducible refine G.trans ?_ hb8 | with_reducible refine G.trans ?_ hb7 | with_reducible refine G.trans ?_ hb6 | with_reducible refine G.trans ?_ hb5 | with_reducible refine G.trans ?_ hb4 | with_reducible refine G.trans ?_ hb3 | with_reducible refine G.trans ?_ hb2 | with_reducible refine G.trans ?_ hb1 | with_reducible refine G.trans ?_ hb | assumption)⟩
    · go_wp2
      go_ret
      exact ⟨rfl, by repeat (first | with_reducible assumption | with_reducible exact G.refl _ | with_reducible refine G.drew ?_ | with_reducible refine G.drewN ?_ _ | with_reducible refine G.alloc ?_ _ | with_reducible refine Below.setCell ?_ (by first | (simp; done) | (simp; omega)) _ | with_reducible refine G.trans ?_ hb12 | with_reducible refine G.trans ?_ hb11 | with_reducible refine G.trans ?_ hb10 | with_reducible refine G.trans ?_ hb9 | with_reducible refine G.trans ?_ hb8 | with_reducible refine G.trans ?_ hb7 | with_reducible refine G.trans ?_ hb6 | with_reducible refine G.trans ?_ hb5 | with_reducible refine G.trans ?_ hb4 | with_reducible refine G.trans ?_ hb3 | with_reducible refine G.trans ?_ hb2 | with_reducible refine G.trans ?_ hb1 | with_reducible refine G.trans ?_ hb | assumption)⟩
    rcases ET.out with rfl | rfl | rfl
    rotate_left
    · go_wp2
      go_ret
      exact ⟨rfl, by repeat (first | with_reducible assumption | with_reducible exact G.refl _ | with_reducible refine G.drew ?_ | with_reducible refine G.drewN ?_ _ | with_reducible refine G.alloc ?_ _ | with_reducible refine Below.setCell ?_ (by first | (simp; done) | (simp; omega)) _ | with_reducible refine G.trans ?_ hb12 | with_reducible refine G.trans ?_ hb11 | with_reducible refine G.trans ?_ hb10 | with_reducible refine G.trans ?_ hb9 | with_reducible refine G.trans ?_ hb8 | with_reducible refine G.trans ?_ hb7 | with_reducible refine G.trans ?_ hb6 | with_reducible refine G.trans ?_ hb5 | with_reducible refine G.trans ?_ hb4 | with_reducible refine G.trans ?_ hb3 | with_reducible refine G.trans ?_ hb2 | with_reducible refine G.trans ?_ hb1 | with_reducible refine G.trans ?_ hb | assumption)⟩
    · go_wp2
      go_ret
      exact ⟨rfl, by repeat (first | with_reducible assumption | with_reducible exact G.refl _ | with_reducible refine G.drew ?_ | with_reducible refine G.drewN ?_ _ | with_reducible refine G.alloc ?_ _ | with_reducible refine Below.setCell ?_ (by first | (simp; done) | (simp; omega)) _ | with_reducible refine G.trans ?_ hb12 | with_reducible refine G.trans ?_ hb11 | with_reducible refine G.trans ?_ hb10 | with_reducible refine G.trans ?_ hb9 | with_reducible refine G.trans ?_ hb8 | with_reducible refine G.trans ?_ hb7 | with_reducible refine G.trans ?_ hb6 | with_reducible refine G.trans ?_ hb5 | with_reducible refine G.trans ?_ hb4 | with_reducible refine G.trans ?_ hb3 | with_reducible refine G.trans ?_ hb2 | with_reducible refine G.trans ?_ hb1 | with_reducible refine G.trans ?_ hb | assumption)⟩
    have hd := HD.out (by simp) (by simp) (by simp) (by simp) (by simp)
    simp only [Prod.mk.injEq] at hd
    obtain ⟨rfl, rfl⟩ := hd
    clear HD ER ES ET
    go_wp2_with fail
    refine (C2.out _).mono ?_
    rintro e' w11 ⟨rfl, hb11⟩
    go_wp2
    go_ret
    exact ⟨rfl, by repeat (first | with_reducible assumption | with_reducible exact G.refl _ | with_reducible refine G.drew ?_ | with_reducible refine G.drewN ?_ _ | with_reducible refine G.alloc ?_ _ | with_reducible refine Below.setCell ?_ (by first | (simp; done) | (simp; omega)) _ | with_reducible refine G.trans ?_ hb12 | with_reducible refine G.trans ?_ hb11 | with_reducible refine G.trans ?_ hb10 | with_reducible refine G.trans ?_ hb9 | with_reducible refine G.trans ?_ hb8 | with_reducible refine G.trans ?_ hb7 | with_reducible refine G.trans ?_ hb6 | with_reducible refine G.trans ?_ hb5 | with_reducible refine G.trans ?_ hb4 | with_reducible refine G.trans ?_ hb3 | with_reducible refine G.trans ?_ hb2 | with_reducible refine G.trans ?_ hb1 | with_reducible refine G.trans ?_ hb | assumption)⟩
end Go.Proofs.YtoipapcbngknfaaDoor
