/- manifoldlaw28's known() is true. -/
import Derived.Test.YtjldpodehffbnaaDoorText
namespace Go.Proofs.YtjldpodehffbnaaDoor
set_option linter.unusedVariables false
set_option linter.unnecessarySimpa false
set_option linter.unusedSimpArgs false
open Go.RowKit

theorem dec12 : Lib.itoa 12 = [49, 50] := by
  unfold Lib.itoa
  rw [if_neg (by omega), Lib.decDigits, dif_neg (by decide), Lib.decDigits, dif_pos (by decide)]
  rfl
theorem dec1 : Lib.itoa 1 = [49] := by unfold Lib.itoa; rw [if_neg (by omega), Lib.decDigits, dif_pos (by decide)]; rfl
theorem dec0 : Lib.itoa 0 = [48] := by unfold Lib.itoa; rw [if_neg (by omega), Lib.decDigits, dif_pos (by decide)]; rfl
theorem dec3 : Lib.itoa 3 = [51] := by unfold Lib.itoa; rw [if_neg (by omega), Lib.decDigits, dif_pos (by decide)]; rfl
theorem textKnown : textL 12 [1, 0, 3] = [49, 50, 47, 49, 46, 48, 46, 51] := by
  unfold textL
  simp only [List.map_cons, List.map_nil, dec12, dec1, dec0, dec3]
  rfl
theorem textKnownB : textB 12 [1, 0, 3] = ⟨#[49, 50, 47, 49, 46, 48, 46, 51]⟩ := by
  have h := (textB_list 12 [1, 0, 3]).trans textKnown
  cases hb : textB 12 [1, 0, 3] with
  | mk d =>
    rw [hb] at h
    obtain ⟨l⟩ := d
    simp only at h
    rw [h]

set_option maxRecDepth 20000 in set_option maxHeartbeats 400000 in
theorem known_any (w : World) (ht : Pow10 w) : Calls Tryd.prog 15 #[] w fun e w' => e = .returned (.bool true) ∧ Below w.heap.size w w' := by
  have htt := Lib.hid ht
  have hc1 : childErr 12 [1] 0 = 0 := by decide
  have hc2 : childErr 12 [1, 0] 3 = 0 := by decide
  have hk3 : checkS 12 [1, 0, 3] = 0 := by decide
  have C1 := Lib.hid hc1; have C2 := Lib.hid hc2; have C3 := Lib.hid hk3
  have hD := Lib.hid (show descS 12 [1, 0, 3] 12 [1] = true by decide)
  have hP := Lib.hid (show cmpS 12 [1, 0, 3] 12 [1, 0] = 1 by decide)
  clear ht hc1 hc2 hk3
  go_enter Tryd.func15, Tryd.ntmps15
  go_wp2_with fail
  refine (arrival_ok 12 _ (by decide)).mono ?_
  rintro e' w1 ⟨A1, c1, rfl, hs1, hl1, hm1, ha1, hb1⟩
  simp only [List.length_cons, List.length_nil, Nat.zero_add] at hs1 hl1 ⊢
  go_wp2_with fail
  refine (child_ok 12 0 A1 1 c1 [1] _ (by repeat (first | with_reducible assumption | with_reducible exact Sl.new' (by simp; done) (by simp; done) (by simp; done) | with_reducible refine Sl.drew ?_ | with_reducible refine Sl.drewN ?_ _ | with_reducible refine Sl.alloc ?_ _ | with_reducible refine Sl.grow ?_ hb12 | with_reducible refine Sl.grow ?_ hb11 | with_reducible refine Sl.grow ?_ hb10 | with_reducible refine Sl.grow ?_ hb9 | with_reducible refine Sl.grow ?_ hb8 | with_reducible refine Sl.grow ?_ hb7 | with_reducible refine Sl.grow ?_ hb6 | with_reducible refine Sl.grow ?_ hb5 | with_reducible refine Sl.grow ?_ hb4 | with_reducible refine Sl.grow ?_ hb3 | with_reducible refine Sl.grow ?_ hb2 | with_reducible refine Sl.grow ?_ hb1 | with_reducible refine Sl.grow ?_ hb | assumption)) hl1 hm1 C1.out).mono ?_
  rintro e' w2 ⟨A2, c2, rfl, hs2, hl2, hm2, ha2, hb2⟩
  have k1 := G.cell (a := ⟨w1.heap.size, 0, none⟩) (v := .int .i64 12) (by go_simp) hb2
  have k2 := G.cell (a := ⟨w1.heap.size, 1, none⟩) (v := .slice A1 1 c1) (by go_simp) hb2
  have hs1' := Sl.grow (hs1.alloc (.cells #[.int .i64 12, .slice A1 1 c1] 24)) hb2
  simp only [List.cons_append, List.nil_append, List.length_cons, List.length_nil, Nat.zero_add, Nat.reduceAdd] at hs2 hl2 ⊢
  go_wp2_with fail
  refine (child_ok 12 3 A2 2 c2 [1, 0] _ (by repeat (first | with_reducible assumption | with_reducible exact Sl.new' (by simp; done) (by simp; done) (by simp; done) | with_reducible refine Sl.drew ?_ | with_reducible refine Sl.drewN ?_ _ | with_reducible refine Sl.alloc ?_ _ | with_reducible refine Sl.grow ?_ hb12 | with_reducible refine Sl.grow ?_ hb11 | with_reducible refine Sl.grow ?_ hb10 | with_reducible refine Sl.grow ?_ hb9 | with_reducible refine Sl.grow ?_ hb8 | with_reducible refine Sl.grow ?_ hb7 | with_reducible refine Sl.grow ?_ hb6 | with_reducible refine Sl.grow ?_ hb5 | with_reducible refine Sl.grow ?_ hb4 | with_reducible refine Sl.grow ?_ hb3 | with_reducible refine Sl.grow ?_ hb2 | with_reducible refine Sl.grow ?_ hb1 | with_reducible refine Sl.grow ?_ hb | assumption)) hl2 hm2 C2.out).mono ?_
  rintro e' w3 ⟨A3, c3, rfl, hs3, hl3, hm3, ha3, hb3⟩
  have hlt1 : w1.heap.size < w2.heap.size := by have := hb2.size; simp at this; omega
  have hlt2 : w2.heap.size < w3.heap.size := by have := hb3.size; simp at this; omega
  have j1 := G.cell (a := ⟨w1.heap.size, 0, none⟩) (v := .int .i64 12) (by go_simp) hb3
  have j2 := G.cell (a := ⟨w1.heap.size, 1, none⟩) (v := .slice A1 1 c1) (by go_simp) hb3
  have j3 := G.cell (a := ⟨w2.heap.size, 0, none⟩) (v := .int .i64 12) (by go_simp) hb3
  have j4 := G.cell (a := ⟨w2.heap.size, 1, none⟩) (v := .slice A2 2 c2) (by go_simp) hb3
  have hs1'' := Sl.grow (hs1'.alloc (.cells #[.int .i64 12, .slice A2 2 c2] 24)) hb3
  have hs2' := Sl.grow (hs2.alloc (.cells #[.int .i64 12, .slice A2 2 c2] 24)) hb3
  simp only [List.cons_append, List.nil_append, List.length_cons, List.length_nil, Nat.zero_add, Nat.reduceAdd] at hs3 hl3 ⊢
  have hbw3 : Below w.heap.size w w3 := by repeat (first | with_reducible assumption | with_reducible exact G.refl _ | with_reducible refine G.drew ?_ | with_reducible refine G.drewN ?_ _ | with_reducible refine G.alloc ?_ _ | with_reducible refine Below.setCell ?_ (by first | (simp; done) | (simp; omega)) _ | with_reducible refine G.trans ?_ hb12 | with_reducible refine G.trans ?_ hb11 | with_reducible refine G.trans ?_ hb10 | with_reducible refine G.trans ?_ hb9 | with_reducible refine G.trans ?_ hb8 | with_reducible refine G.trans ?_ hb7 | with_reducible refine G.trans ?_ hb6 | with_reducible refine G.trans ?_ hb5 | with_reducible refine G.trans ?_ hb4 | with_reducible refine G.trans ?_ hb3 | with_reducible refine G.trans ?_ hb2 | with_reducible refine G.trans ?_ hb1 | with_reducible refine G.trans ?_ hb | assumption)
  have hpt : Pow10 w3 := htt.out.grow hbw3
  have hptt := Lib.hid hpt
  clear hpt hs1 hs1' hs2 k1 k2
  go_wp2_with fail
  refine (text_ok 12 A3 3 c3 [1, 0, 3] _ (by repeat (first | with_reducible assumption | with_reducible exact Sl.new' (by simp; done) (by simp; done) (by simp; done) | with_reducible refine Sl.drew ?_ | with_reducible refine Sl.drewN ?_ _ | with_reducible refine Sl.alloc ?_ _ | with_reducible refine Sl.grow ?_ hb12 | with_reducible refine Sl.grow ?_ hb11 | with_reducible refine Sl.grow ?_ hb10 | with_reducible refine Sl.grow ?_ hb9 | with_reducible refine Sl.grow ?_ hb8 | with_reducible refine Sl.grow ?_ hb7 | with_reducible refine Sl.grow ?_ hb6 | with_reducible refine Sl.grow ?_ hb5 | with_reducible refine Sl.grow ?_ hb4 | with_reducible refine Sl.grow ?_ hb3 | with_reducible refine Sl.grow ?_ hb2 | with_reducible refine Sl.grow ?_ hb1 | with_reducible refine Sl.grow ?_ hb | assumption)) hl3 hm3 C3.out (hptt.out.grow (by repeat (first | with_reducible assumption | with_reducible exact G.refl _ | with_reducible refine G.drew ?_ | with_reducible refine G.drewN ?_ _ | with_reducible refine G.alloc ?_ _ | with_reducible refine Below.setCell ?_ (by first | (simp; done) | (simp; omega)) _ | with_reducible refine G.trans ?_ hb12 | with_reducible refine G.trans ?_ hb11 | with_reducible refine G.trans ?_ hb10 | with_reducible refine G.trans ?_ hb9 | with_reducible refine G.trans ?_ hb8 | with_reducible refine G.trans ?_ hb7 | with_reducible refine G.trans ?_ hb6 | with_reducible refine G.trans ?_ hb5 | with_reducible refine G.trans ?_ hb4 | with_reducible refine G.trans ?_ hb3 | with_reducible refine G.trans ?_ hb2 | with_reducible refine G.trans ?_ hb1 | with_reducible refine G.trans ?_ hb | assumption)))).mono ?_
  rintro e' w4 ⟨rfl, hb4⟩
  have hlt3 : w3.heap.size < w4.heap.size := by have := hb4.size; simp at this; omega
  have hlt1' : w1.heap.size < w3.heap.size := by omega
  have i1 := G.cell (a := ⟨w1.heap.size, 0, none⟩) (v := .int .i64 12) (by go_simp) hb4
  have i2 := G.cell (a := ⟨w1.heap.size, 1, none⟩) (v := .slice A1 1 c1) (by go_simp) hb4
  have i3 := G.cell (a := ⟨w2.heap.size, 0, none⟩) (v := .int .i64 12) (by go_simp) hb4
  have i4 := G.cell (a := ⟨w2.heap.size, 1, none⟩) (v := .slice A2 2 c2) (by go_simp) hb4
  have i5 := G.cell (a := ⟨w3.heap.size, 0, none⟩) (v := .int .i64 12) (by go_simp) hb4
  have i6 := G.cell (a := ⟨w3.heap.size, 1, none⟩) (v := .slice A3 3 c3) (by go_simp) hb4
  have s1 := Sl.grow (hs1''.alloc (.cells #[.int .i64 12, .slice A3 3 c3] 24)) hb4
  have s2 := Sl.grow (hs2'.alloc (.cells #[.int .i64 12, .slice A3 3 c3] 24)) hb4
  have s3 := Sl.grow (hs3.alloc (.cells #[.int .i64 12, .slice A3 3 c3] 24)) hb4
  have hbw4 : Below w.heap.size w w4 := by repeat (first | with_reducible assumption | with_reducible exact G.refl _ | with_reducible refine G.drew ?_ | with_reducible refine G.drewN ?_ _ | with_reducible refine G.alloc ?_ _ | with_reducible refine Below.setCell ?_ (by first | (simp; done) | (simp; omega)) _ | with_reducible refine G.trans ?_ hb12 | with_reducible refine G.trans ?_ hb11 | with_reducible refine G.trans ?_ hb10 | with_reducible refine G.trans ?_ hb9 | with_reducible refine G.trans ?_ hb8 | with_reducible refine G.trans ?_ hb7 | with_reducible refine G.trans ?_ hb6 | with_reducible refine G.trans ?_ hb5 | with_reducible refine G.trans ?_ hb4 | with_reducible refine G.trans ?_ hb3 | with_reducible refine G.trans ?_ hb2 | with_reducible refine G.trans ?_ hb1 | with_reducible refine G.trans ?_ hb | assumption)
  rw [textKnownB]
  clear hs1'' hs2' hs3 j1 j2 j3 j4
  have hl4 : w1.heap.size < w4.heap.size := by omega
  have hl5 : w2.heap.size < w4.heap.size := by omega
  go_wp2_with fail
  refine (descends_any 12 12 A3 A1 3 1 c3 c1 [1, 0, 3] [1] _ s3 s1 (Nat.le_trans hl1 hm1) hl3).mono ?_
  rintro e' w5 ⟨rfl, hb5⟩
  rw [hD.out]
  have q3 := G.cell (a := ⟨w2.heap.size, 0, none⟩) (v := .int .i64 12) i3 hb5
  have q4 := G.cell (a := ⟨w2.heap.size, 1, none⟩) (v := .slice A2 2 c2) i4 hb5
  have q5 := G.cell (a := ⟨w3.heap.size, 0, none⟩) (v := .int .i64 12) i5 hb5
  have q6 := G.cell (a := ⟨w3.heap.size, 1, none⟩) (v := .slice A3 3 c3) i6 hb5
  go_wp2_with fail
  refine (compare_any 12 12 A3 A2 3 2 c3 c2 [1, 0, 3] [1, 0] _ (s3.grow hb5) (s2.grow hb5) (Nat.le_trans hl3 hm3)).mono ?_
  rintro e' w6 ⟨rfl, hb6⟩
  rw [hP.out]
  go_wp2
  go_ret
  exact ⟨rfl, (hbw4.trans (hb5.mono hbw4.size)).trans (hb6.mono (Nat.le_trans hbw4.size hb5.size))⟩
end Go.Proofs.YtjldpodehffbnaaDoor
