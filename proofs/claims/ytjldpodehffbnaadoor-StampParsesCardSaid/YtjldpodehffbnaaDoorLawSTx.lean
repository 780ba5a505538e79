/- The laws StampTexts and StampParses return true: the walks. -/
import Derived.Test.YtjldpodehffbnaaDoorSPar4
import Derived.Test.YtjldpodehffbnaaDoorKnown
namespace Go.Proofs.YtjldpodehffbnaaDoor
set_option linter.unusedVariables false
set_option linter.unnecessarySimpa false
set_option linter.unusedSimpArgs false
open Go.RowKit

theorem textB_eq (e : Int) (xs : List Int) : textB e xs = B (textL e xs) := by rw [← textB_list, B_of]
theorem textL_len {e : Int} {xs : List Int} (he : 0 ≤ e ∧ e ≤ 9999999) (hr : ∀ x ∈ xs, 0 ≤ x ∧ x ≤ 9999999) (hl : xs.length ≤ 512) : (textL e xs).length ≤ 100000 := by
  have h1 := itoa_len he.1 he.2
  have h2 := join_len [46] (xs.map Lib.itoa) 7 (fun y hy => by
    obtain ⟨z, hz, rfl⟩ := List.mem_map.1 hy
    exact itoa_len (hr z hz).1 (hr z hz).2)
  rw [List.length_map] at h2
  unfold textL
  simp only [List.length_append, List.length_cons, List.length_nil] at h2 ⊢
  omega
set_option maxRecDepth 20000 in set_option maxHeartbeats 2000000 in
theorem stampTexts_any (e : Int) (A : Option Addr) (n c : Nat) (xs : List Int) (w : World) (hs : StIs w e A n c xs) (hv : LibVars w) :
    Calls Tryd.prog 12 #[.agg #[.int .i64 e, .slice A n c]] w fun e' w' => e' = .returned (.bool true) ∧ Below w.heap.size w w' := by
  obtain ⟨⟨hnc, hcm, hx⟩, hwe⟩ := hs
  have hvv := Lib.hid hv
  have hmin : min n 600 ≤ maxLen := by unfold maxLen; omega
  have hmc : min n 600 ≤ c := by omega
  have hxt : Sl w A (min n 600) (i64s (xs.take (min n 600))) := by rw [← i64s_take]; exact hx.take (Nat.min_le_left _ _)
  clear hv hx
  go_enter Tryd.func12, Tryd.ntmps12
  go_wp2_with fail
  refine (short_any e A n c _ hnc hcm).mono ?_
  rintro e' w1 ⟨rfl, hb⟩
  have x1 : Bx w1 w.heap.size [.int .i64 e, .slice A n c] := Bx.grow (by repeat (first | with_reducible assumption | (with_reducible exact Bx.new (by simp; done) (by rfl)) | (with_reducible refine Bx.alloc ?_ _) | (with_reducible refine Bx.drewN ?_ _) | ((with_reducible apply Bx.put); rotate_right; (first | rfl | skip)) | (with_reducible refine Bx.other ?_ (by first | (simp; done) | (simp; omega)) _))) hb
  have hb0 : Below w.heap.size w w1 := G.trans (by repeat (first | with_reducible assumption | with_reducible exact G.refl _ | with_reducible refine G.drew ?_ | with_reducible refine G.drewN ?_ _ | with_reducible refine G.alloc ?_ _ | with_reducible refine Below.setCell ?_ (by first | (simp; done) | (simp; omega)) _ | with_reducible refine G.trans ?_ hb12 | with_reducible refine G.trans ?_ hb11 | with_reducible refine G.trans ?_ hb10 | with_reducible refine G.trans ?_ hb9 | with_reducible refine G.trans ?_ hb8 | with_reducible refine G.trans ?_ hb7 | with_reducible refine G.trans ?_ hb6 | with_reducible refine G.trans ?_ hb5 | with_reducible refine G.trans ?_ hb4 | with_reducible refine G.trans ?_ hb3 | with_reducible refine G.trans ?_ hb2 | with_reducible refine G.trans ?_ hb1 | with_reducible refine G.trans ?_ hb | assumption)) hb
  generalize min n 600 = m at *
  generalize xs.take m = ys at *
  obtain ⟨k0, k0f⟩ := x1.2 0 _ rfl
  obtain ⟨k1, k1f⟩ := x1.2 1 _ rfl
  have lt0 := x1.1
  clear hb
  go_wp2_with fail
  refine calls_name (fun wx => Below w.heap.size w wx ∧ Bx wx w.heap.size [.int .i64 e, .slice A m c]) ⟨(hb0.setCell (p := ⟨w.heap.size, 0, none⟩) (Nat.le_refl _) _).setCell (p := ⟨w.heap.size, 1, none⟩) (Nat.le_refl _) _, Bx.put (Bx.put x1 rfl) rfl⟩ ?_
  clear k0 k1 k0f k1f lt0 hb0 x1
  rintro w2 ⟨hb2, x2⟩
  have k0 := (x2.2 0 _ rfl).1
  have k1 := (x2.2 1 _ rfl).1
  have lt0 := cell_lt k0
  have hx2 := Lib.hid (hxt.grow hb2)
  clear hxt
  by_cases hz : checkS e ys = 0
  · obtain ⟨he0, he1, hl0, hl5, hbad⟩ := checkS_ok hz
    have hr : ∀ x ∈ ys, 0 ≤ x ∧ x ≤ 9999999 := by
      intro x hm
      have := List.any_eq_false.1 hbad x hm
      unfold badI at this
      simp at this
      omega
    have hps := Lib.hid (parseS_text hz (by omega) hr (by intro h; rw [h] at hl0; simp at hl0))
    have htl := textL_len (e := e) (xs := ys) (by omega) hr hl5
    have hml : ys.length = m := hx2.out.len
    have hm5 : m ≤ 512 := by omega
    have he : 0 ≤ e ∧ e ≤ 9999999 := by omega
    replace hr := Lib.hid hr
    replace hz := Lib.hid hz
    clear hbad he0 he1 hl0 hl5 hml
    go_wp2_with fail
    refine (text_ok e A m c ys _ hx2.out hmc hcm hz.out (hvv.out.grow hb2).pw).mono ?_
    rintro e3 w3 ⟨rfl, hb3⟩
    rw [textB_eq]
    replace k0 := G.cell k0 hb3
    replace k1 := G.cell k1 hb3
    replace lt0 := cell_lt k0
    have hbw3 := G.trans hb2 hb3
    have hx3 := Lib.hid (hx2.out.grow hb3)
    clear hb3
    go_wp2_with fail
    refine (known_any _ (hvv.out.grow hbw3).pw).mono ?_
    rintro e4 w4 ⟨rfl, hb4⟩
    replace k0 := G.cell k0 hb4
    replace k1 := G.cell k1 hb4
    replace lt0 := cell_lt k0
    have hbw4 := G.trans hbw3 hb4
    have hx4 := Lib.hid (hx3.out.grow hb4)
    clear hb4
    go_wp2_with fail
    refine (lcheck_any e A m c ys _ hx4.out hmin).mono ?_
    rintro e5 w5 ⟨rfl, hb5⟩
    rw [hz.out]
    replace k0 := G.cell k0 hb5
    replace k1 := G.cell k1 hb5
    replace lt0 := cell_lt k0
    have hbw5 := G.trans hbw4 hb5
    have hx5 := Lib.hid (hx4.out.grow hb5)
    clear hb5
    go_wp2_with fail
    refine (parse_any (B (textL e ys)) _ (by rw [B_size]; exact htl) (hvv.out.grow hbw5)).mono ?_
    rintro e6 w6 h6
    rw [B_list] at h6
    rcases h6 with ⟨en, zs, A', n', c', hp, rfl, hsl, hb6⟩ | ⟨hp, _⟩
    rotate_left
    · rw [hps.out] at hp; cases hp
    rw [hps.out] at hp
    obtain ⟨rfl, rfl⟩ : e = en ∧ ys = zs := by simpa using hp
    replace k0 := G.cell k0 hb6
    replace k1 := G.cell k1 hb6
    replace lt0 := cell_lt k0
    have hbw6 := G.trans hbw5 hb6
    have hx6 := Lib.hid (hx5.out.grow hb6)
    replace hsl := Lib.hid hsl
    clear hb6 hp
    go_wp2_with fail
    refine (textM_any e A m c ys _ (hx6.out.grow (by repeat (first | with_reducible assumption | with_reducible exact G.refl _ | with_reducible refine G.drew ?_ | with_reducible refine G.drewN ?_ _ | with_reducible refine G.alloc ?_ _ | with_reducible refine Below.setCell ?_ (by first | (simp; done) | (simp; omega)) _ | with_reducible refine G.trans ?_ hb12 | with_reducible refine G.trans ?_ hb11 | with_reducible refine G.trans ?_ hb10 | with_reducible refine G.trans ?_ hb9 | with_reducible refine G.trans ?_ hb8 | with_reducible refine G.trans ?_ hb7 | with_reducible refine G.trans ?_ hb6 | with_reducible refine G.trans ?_ hb5 | with_reducible refine G.trans ?_ hb4 | with_reducible refine G.trans ?_ hb3 | with_reducible refine G.trans ?_ hb2 | with_reducible refine G.trans ?_ hb1 | with_reducible refine G.trans ?_ hb | assumption))) hmc hm5 he hr.out).mono ?_
    rintro e7 w7 ⟨rfl, hb7⟩
    have x7 : Bx w7 w6.heap.size [.int .i64 e, .slice A' n' c'] := Bx.grow (by repeat (first | with_reducible assumption | (with_reducible exact Bx.new (by simp; done) (by rfl)) | (with_reducible refine Bx.alloc ?_ _) | (with_reducible refine Bx.drewN ?_ _) | ((with_reducible apply Bx.put); rotate_right; (first | rfl | skip)) | (with_reducible refine Bx.other ?_ (by first | (simp; done) | (simp; omega)) _))) hb7
    have hb67 : Below w6.heap.size w6 w7 := G.trans (by repeat (first | with_reducible assumption | with_reducible exact G.refl _ | with_reducible refine G.drew ?_ | with_reducible refine G.drewN ?_ _ | with_reducible refine G.alloc ?_ _ | with_reducible refine Below.setCell ?_ (by first | (simp; done) | (simp; omega)) _ | with_reducible refine G.trans ?_ hb12 | with_reducible refine G.trans ?_ hb11 | with_reducible refine G.trans ?_ hb10 | with_reducible refine G.trans ?_ hb9 | with_reducible refine G.trans ?_ hb8 | with_reducible refine G.trans ?_ hb7 | with_reducible refine G.trans ?_ hb6 | with_reducible refine G.trans ?_ hb5 | with_reducible refine G.trans ?_ hb4 | with_reducible refine G.trans ?_ hb3 | with_reducible refine G.trans ?_ hb2 | with_reducible refine G.trans ?_ hb1 | with_reducible refine G.trans ?_ hb | assumption)) hb7
    replace k0 := G.cell k0 hb67
    replace k1 := G.cell k1 hb67
    replace lt0 := cell_lt k0
    have j0 := (x7.2 0 _ rfl).1
    have j1 := (x7.2 1 _ rfl).1
    have lt1 := x7.1
    have hbw7 := G.trans hbw6 hb67
    have hx7 := Lib.hid (hx6.out.grow hb67)
    have hsl7 := Lib.hid (hsl.out.2.2.grow hb67)
    have hsame : (decide (cmpS e ys e ys = 0)) = true := by simp [cmpS_zero]
    clear hb7 hb67
    go_wp2_with fail
    refine (same_any e e A' A n' m c' c ys ys _ hsl7.out hx7.out (Nat.le_trans hsl.out.1 hsl.out.2.1) hmin).mono ?_
    rintro e8 w8 ⟨rfl, hb8⟩
    rw [hsame]
    go_wp2_with fail
    go_ret
    exact ⟨rfl, G.trans hbw7 hb8⟩
  · have hzb : (checkS e ys != 0) = true := by simp [hz]
    have CK := Lib.hid (fun w hx => lcheck_any e A m c ys w hx hmin)
    have TB := Lib.hid (fun w hx => text_bad e A m c ys w hx hmin hz)
    clear hz
    generalize checkS e ys = z at *
    go_wp2_with fail
    refine (TB.out _ hx2.out).mono ?_
    rintro e3 w3 ⟨rfl, hb3⟩
    replace k0 := G.cell k0 hb3
    replace k1 := G.cell k1 hb3
    replace lt0 := cell_lt k0
    have hbw3 := G.trans hb2 hb3
    have hx3 := Lib.hid (hx2.out.grow hb3)
    clear hb3
    go_wp2_with fail
    refine (known_any _ (hvv.out.grow hbw3).pw).mono ?_
    rintro e4 w4 ⟨rfl, hb4⟩
    replace k0 := G.cell k0 hb4
    replace k1 := G.cell k1 hb4
    replace lt0 := cell_lt k0
    have hbw4 := G.trans hbw3 hb4
    have hx4 := Lib.hid (hx3.out.grow hb4)
    clear hb4
    go_wp2_with fail
    refine (CK.out _ hx4.out).mono ?_
    rintro e5 w5 ⟨rfl, hb5⟩
    go_wp2_with fail
    go_ret
    exact ⟨rfl, G.trans hbw4 hb5⟩
end Go.Proofs.YtjldpodehffbnaaDoor
