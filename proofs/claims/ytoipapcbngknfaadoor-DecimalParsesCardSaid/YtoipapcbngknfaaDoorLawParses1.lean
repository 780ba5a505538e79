/- The law DecimalParses returns true: the walk. -/
import Derived.Test.YtoipapcbngknfaaDoorText5
import Derived.Test.YtoipapcbngknfaaDoorDKnown
namespace Go.Proofs.YtoipapcbngknfaaDoor
set_option linter.unusedVariables false
set_option linter.unnecessarySimpa false
set_option linter.unusedSimpArgs false
open Go.RowKit

set_option maxRecDepth 20000 in set_option maxHeartbeats 1000000 in
theorem decimalParses_any (t : List UInt8) (w : World) (hmax : t.length ≤ maxLen) (hv : LibVars w) (ht : Pow10 w) :
    Calls Tryd.prog 13 #[.string (B t)] w fun e' w' => e' = .returned (.bool true) ∧ Below w.heap.size w w' := by
  have htt := Lib.hid ht
  have hvv := Lib.hid hv
  unfold maxLen at hmax
  have hsz : (B t).size = t.length := B_size t
  obtain ⟨m, hm⟩ : ∃ m, min t.length 40 = m := ⟨_, rfl⟩
  have hm2 : min (t.length : Int) 40 = (m : Int) := by omega
  have hmL : m ≤ t.length ∧ m ≤ 40 := by omega
  have hex : (B t).extract 0 m = B (t.take m) := B_take t m
  have hlen : (t.take m).length ≤ 40 := by rw [List.length_take]; omega
  have PA := fun w hv ht => parse_any (t.take m) w (by omega) hv ht
  have PR := fun w => refparse_any (t.take m) w (by omega)
  unfold RetF RetN at PA PR
  generalize parseN (t.take m) = p at *
  obtain ⟨p1, p2, p3⟩ := p
  simp only at PA PR
  obtain ⟨L, hL⟩ : ∃ L, t.length = L := ⟨_, rfl⟩
  rw [hL] at hsz hm2 hmL hmax
  generalize B (t.take m) = bu at *
  generalize B t = bt at *
  replace PA := Lib.hid PA
  replace PR := Lib.hid PR
  obtain ⟨hmL, hm40⟩ := hmL
  have hmLI : (m : Int) ≤ (L : Int) := by omega
  clear hm hL hlen hv ht
  go_enter Tryd.func13, Tryd.ntmps13
  go_wp2_with fail
  refine (PA.out _ (hvv.out.grow (by repeat (first | with_reducible assumption | with_reducible exact G.refl _ | with_reducible refine G.drew ?_ | with_reducible refine G.drewN ?_ _ | with_reducible refine G.alloc ?_ _ | with_reducible refine Below.setCell ?_ (by first | (simp; done) | (simp; omega)) _ | with_reducible refine G.trans ?_ hb12 | with_reducible refine G.trans ?_ hb11 | with_reducible refine G.trans ?_ hb10 | with_reducible refine G.trans ?_ hb9 | with_reducible refine G.trans ?_ hb8 | with_reducible refine G.trans ?_ hb7 | with_reducible refine G.trans ?_ hb6 | with_reducible refine G.trans ?_ hb5 | with_reducible refine G.trans ?_ hb4 | with_reducible refine G.trans ?_ hb3 | with_reducible refine G.trans ?_ hb2 | with_reducible refine G.trans ?_ hb1 | with_reducible refine G.trans ?_ hb | assumption))) (htt.out.grow (by repeat (first | with_reducible assumption | with_reducible exact G.refl _ | with_reducible refine G.drew ?_ | with_reducible refine G.drewN ?_ _ | with_reducible refine G.alloc ?_ _ | with_reducible refine Below.setCell ?_ (by first | (simp; done) | (simp; omega)) _ | with_reducible refine G.trans ?_ hb12 | with_reducible refine G.trans ?_ hb11 | with_reducible refine G.trans ?_ hb10 | with_reducible refine G.trans ?_ hb9 | with_reducible refine G.trans ?_ hb8 | with_reducible refine G.trans ?_ hb7 | with_reducible refine G.trans ?_ hb6 | with_reducible refine G.trans ?_ hb5 | with_reducible refine G.trans ?_ hb4 | with_reducible refine G.trans ?_ hb3 | with_reducible refine G.trans ?_ hb2 | with_reducible refine G.trans ?_ hb1 | with_reducible refine G.trans ?_ hb | assumption)))).mono ?_
  rintro e' w1 ⟨rfl, hb1⟩
  go_wp2_with fail
  refine (PR.out _).mono ?_
  rintro e' w2 ⟨rfl, hb2⟩
  
  replace k0 := G.cell (a := ⟨w1.heap.size, 0, none⟩) (v := .int .i64 p1) (by go_simp) hb2
  replace k1 := G.cell (a := ⟨w1.heap.size, 1, none⟩) (v := .int .i64 p2) (by go_simp) hb2
  replace lt0 := cell_lt k0
  replace lt1 := cell_lt k1
  go_wp2_with fail
  refine (known_any _ (htt.out.grow (by repeat (first | with_reducible assumption | with_reducible exact G.refl _ | with_reducible refine G.drew ?_ | with_reducible refine G.drewN ?_ _ | with_reducible refine G.alloc ?_ _ | with_reducible refine Below.setCell ?_ (by first | (simp; done) | (simp; omega)) _ | with_reducible refine G.trans ?_ hb12 | with_reducible refine G.trans ?_ hb11 | with_reducible refine G.trans ?_ hb10 | with_reducible refine G.trans ?_ hb9 | with_reducible refine G.trans ?_ hb8 | with_reducible refine G.trans ?_ hb7 | with_reducible refine G.trans ?_ hb6 | with_reducible refine G.trans ?_ hb5 | with_reducible refine G.trans ?_ hb4 | with_reducible refine G.trans ?_ hb3 | with_reducible refine G.trans ?_ hb2 | with_reducible refine G.trans ?_ hb1 | with_reducible refine G.trans ?_ hb | assumption)))).mono ?_
  rintro e' w3 ⟨rfl, hb3⟩
  
  replace k0 := G.cell (a := ⟨w1.heap.size, 0, none⟩) (v := .int .i64 p1) (by go_simp) hb3
  replace k1 := G.cell (a := ⟨w1.heap.size, 1, none⟩) (v := .int .i64 p2) (by go_simp) hb3
  replace k2 := G.cell (a := ⟨w2.heap.size, 0, none⟩) (v := .int .i64 p1) (by go_simp) hb3
  replace k3 := G.cell (a := ⟨w2.heap.size, 1, none⟩) (v := .int .i64 p2) (by go_simp) hb3
  replace lt0 := cell_lt k0
  replace lt1 := cell_lt k1
  replace lt2 := cell_lt k2
  replace lt3 := cell_lt k3
  go_wp2_with fail
  go_ret
  exact ⟨rfl, by repeat (first | with_reducible assumption | with_reducible exact G.refl _ | with_reducible refine G.drew ?_ | with_reducible refine G.drewN ?_ _ | with_reducible refine G.alloc ?_ _ | with_reducible refine Below.setCell ?_ (by first | (simp; done) | (simp; omega)) _ | with_reducible refine G.trans ?_ hb12 | with_reducible refine G.trans ?_ hb11 | with_reducible refine G.trans ?_ hb10 | with_reducible refine G.trans ?_ hb9 | with_reducible refine G.trans ?_ hb8 | with_reducible refine G.trans ?_ hb7 | with_reducible refine G.trans ?_ hb6 | with_reducible refine G.trans ?_ hb5 | with_reducible refine G.trans ?_ hb4 | with_reducible refine G.trans ?_ hb3 | with_reducible refine G.trans ?_ hb2 | with_reducible refine G.trans ?_ hb1 | with_reducible refine G.trans ?_ hb | assumption)⟩
end Go.Proofs.YtoipapcbngknfaaDoor
