/- The law StampParses returns true: the walk. -/
import Derived.Test.YtjldpodehffbnaaDoorLawSTx
namespace Go.Proofs.YtjldpodehffbnaaDoor
set_option linter.unusedVariables false
set_option linter.unnecessarySimpa false
set_option linter.unusedSimpArgs false
open Go.RowKit

theorem B_take (b : ByteArray) (m : Nat) : b.extract 0 m = B (b.data.toList.take m) := by
  apply ByteArray.ext; rw [ByteArray.data_extract]; apply Array.ext'; simp [B]
set_option maxRecDepth 20000 in set_option maxHeartbeats 2000000 in
theorem stampParses_b (b : ByteArray) (w : World) (hmax : b.size ≤ maxLen) (hv : LibVars w) :
    Calls Tryd.prog 13 #[.string b] w fun e' w' => e' = .returned (.bool true) ∧ Below w.heap.size w w' := by
  have hvv := Lib.hid hv
  unfold maxLen at hmax
  obtain ⟨m, hm⟩ : ∃ m, min b.size 200 = m := ⟨_, rfl⟩
  have hm2 : min (b.size : Int) 200 = (m : Int) := by omega
  have hex := B_take b m
  have hl2 : (b.data.toList.take m).length ≤ 200 := by rw [List.length_take]; omega
  have PA := Lib.hid (fun w hv => parse_any (B (b.data.toList.take m)) w (by rw [B_size]; omega) hv)
  have hmL : m ≤ b.size := by omega
  have hmLI : (m : Int) ≤ (b.size : Int) := by omega
  have hm200 : m ≤ 200 := by omega
  obtain ⟨t, ht⟩ : ∃ t, b.data.toList.take m = t := ⟨_, rfl⟩
  rw [ht] at hex PA
  clear hm hv hl2
  go_enter Tryd.func13, Tryd.ntmps13
  go_wp2_with fail
  refine (PA.out _ (hvv.out.grow (by repeat (first | with_reducible assumption | with_reducible exact G.refl _ | with_reducible refine G.drew ?_ | with_reducible refine G.drewN ?_ _ | with_reducible refine G.alloc ?_ _ | with_reducible refine Below.setCell ?_ (by first | (simp; done) | (simp; omega)) _ | with_reducible refine G.trans ?_ hb12 | with_reducible refine G.trans ?_ hb11 | with_reducible refine G.trans ?_ hb10 | with_reducible refine G.trans ?_ hb9 | with_reducible refine G.trans ?_ hb8 | with_reducible refine G.trans ?_ hb7 | with_reducible refine G.trans ?_ hb6 | with_reducible refine G.trans ?_ hb5 | with_reducible refine G.trans ?_ hb4 | with_reducible refine G.trans ?_ hb3 | with_reducible refine G.trans ?_ hb2 | with_reducible refine G.trans ?_ hb1 | with_reducible refine G.trans ?_ hb | assumption)))).mono ?_
  rintro e1 w1 h1
  rw [B_list] at h1
  rcases h1 with ⟨en, zs, A', n', c', hp, rfl, hsl, hb1⟩ | ⟨hp, rfl, hb1⟩
  · obtain ⟨hz, htx⟩ := parseS_some hp
    obtain ⟨he0, he1, hl0, hl5, hbad⟩ := checkS_ok hz
    have hr : ∀ x ∈ zs, 0 ≤ x ∧ x ≤ 9999999 := by
      intro x hm
      have := List.any_eq_false.1 hbad x hm
      unfold badI at this
      simp at this
      omega
    have he : 0 ≤ en ∧ en ≤ 9999999 := by omega
    have hnl : zs.length = n' := hsl.2.2.len
    have hn5 : n' ≤ 512 := by omega
    have hnc := hsl.1
    have hcm := hsl.2.1
    have hs1 := Lib.hid hsl.2.2
    replace hr := Lib.hid hr
    replace hz := Lib.hid hz
    replace htx := Lib.hid htx
    clear hbad he0 he1 hl0 hl5 hnl hsl hp
    go_wp2_with fail
    refine calls_name (fun wx => Below w.heap.size w wx ∧ Bx wx w1.heap.size [.int .i64 en, .slice A' n' c'] ∧ Below w1.heap.size w1 wx) ⟨by repeat (first | with_reducible assumption | with_reducible exact G.refl _ | with_reducible refine G.drew ?_ | with_reducible refine G.drewN ?_ _ | with_reducible refine G.alloc ?_ _ | with_reducible refine Below.setCell ?_ (by first | (simp; done) | (simp; omega)) _ | with_reducible refine G.trans ?_ hb12 | with_reducible refine G.trans ?_ hb11 | with_reducible refine G.trans ?_ hb10 | with_reducible refine G.trans ?_ hb9 | with_reducible refine G.trans ?_ hb8 | with_reducible refine G.trans ?_ hb7 | with_reducible refine G.trans ?_ hb6 | with_reducible refine G.trans ?_ hb5 | with_reducible refine G.trans ?_ hb4 | with_reducible refine G.trans ?_ hb3 | with_reducible refine G.trans ?_ hb2 | with_reducible refine G.trans ?_ hb1 | with_reducible refine G.trans ?_ hb | assumption), by repeat (first | with_reducible assumption | (with_reducible exact Bx.new (by simp; done) (by rfl)) | (with_reducible refine Bx.alloc ?_ _) | (with_reducible refine Bx.drewN ?_ _) | ((with_reducible apply Bx.put); rotate_right; (first | rfl | skip)) | (with_reducible refine Bx.other ?_ (by first | (simp; done) | (simp; omega)) _)), by repeat (first | with_reducible assumption | with_reducible exact G.refl _ | with_reducible refine G.drew ?_ | with_reducible refine G.drewN ?_ _ | with_reducible refine G.alloc ?_ _ | with_reducible refine Below.setCell ?_ (by first | (simp; done) | (simp; omega)) _ | with_reducible refine G.trans ?_ hb12 | with_reducible refine G.trans ?_ hb11 | with_reducible refine G.trans ?_ hb10 | with_reducible refine G.trans ?_ hb9 | with_reducible refine G.trans ?_ hb8 | with_reducible refine G.trans ?_ hb7 | with_reducible refine G.trans ?_ hb6 | with_reducible refine G.trans ?_ hb5 | with_reducible refine G.trans ?_ hb4 | with_reducible refine G.trans ?_ hb3 | with_reducible refine G.trans ?_ hb2 | with_reducible refine G.trans ?_ hb1 | with_reducible refine G.trans ?_ hb | assumption)⟩ ?_
    rintro w2 ⟨hb2, x2, hb12⟩
    have hs2 := Lib.hid (hs1.out.grow hb12)
    clear hb12
    refine (known_any _ (hvv.out.grow hb2).pw).mono ?_
    rintro e3 w3 ⟨rfl, hb3⟩
    have x3 := x2.grow hb3
    have j0 := (x3.2 0 _ rfl).1
    have j1 := (x3.2 1 _ rfl).1
    have lt1 := x3.1
    have hbw3 := G.trans hb2 hb3
    have hs3 := Lib.hid (hs2.out.grow hb3)
    clear hb3 x2
    go_wp2_with fail
    refine (lcheck_any en A' n' c' zs _ hs3.out (Nat.le_trans hnc hcm)).mono ?_
    rintro e4 w4 ⟨rfl, hb4⟩
    rw [hz.out]
    replace j0 := G.cell j0 hb4
    replace j1 := G.cell j1 hb4
    replace lt1 := cell_lt j0
    have hbw4 := G.trans hbw3 hb4
    have hs4 := Lib.hid (hs3.out.grow hb4)
    clear hb4
    go_wp2_with fail
    refine (textM_any en A' n' c' zs _ hs4.out hnc hn5 he hr.out).mono ?_
    rintro e5 w5 ⟨rfl, hb5⟩
    rw [htx.out]
    go_wp2_with fail
    go_ret
    exact ⟨rfl, G.trans hbw4 hb5⟩
  · go_wp2_with fail
    refine calls_name (fun wx => Below w.heap.size w wx ∧ Bx wx w1.heap.size [.int .i64 0, .slice none 0 0]) ⟨by repeat (first | with_reducible assumption | with_reducible exact G.refl _ | with_reducible refine G.drew ?_ | with_reducible refine G.drewN ?_ _ | with_reducible refine G.alloc ?_ _ | with_reducible refine Below.setCell ?_ (by first | (simp; done) | (simp; omega)) _ | with_reducible refine G.trans ?_ hb12 | with_reducible refine G.trans ?_ hb11 | with_reducible refine G.trans ?_ hb10 | with_reducible refine G.trans ?_ hb9 | with_reducible refine G.trans ?_ hb8 | with_reducible refine G.trans ?_ hb7 | with_reducible refine G.trans ?_ hb6 | with_reducible refine G.trans ?_ hb5 | with_reducible refine G.trans ?_ hb4 | with_reducible refine G.trans ?_ hb3 | with_reducible refine G.trans ?_ hb2 | with_reducible refine G.trans ?_ hb1 | with_reducible refine G.trans ?_ hb | assumption), by repeat (first | with_reducible assumption | (with_reducible exact Bx.new (by simp; done) (by rfl)) | (with_reducible refine Bx.alloc ?_ _) | (with_reducible refine Bx.drewN ?_ _) | ((with_reducible apply Bx.put); rotate_right; (first | rfl | skip)) | (with_reducible refine Bx.other ?_ (by first | (simp; done) | (simp; omega)) _))⟩ ?_
    rintro w2 ⟨hb2, x2⟩
    refine (known_any _ (hvv.out.grow hb2).pw).mono ?_
    rintro e3 w3 ⟨rfl, hb3⟩
    have x3 := x2.grow hb3
    have j0 := (x3.2 0 _ rfl).1
    have j1 := (x3.2 1 _ rfl).1
    have lt1 := x3.1
    have hbw3 := G.trans hb2 hb3
    have hsame : (decide (cmpS 0 [] 0 [] = 0)) = true := by simp [cmpS_zero]
    clear hb3 x2
    go_wp2_with fail
    refine (same_any 0 0 none none 0 0 0 0 [] [] _ (Sl.nil _ _) (Sl.nil _ _) (Nat.zero_le _) (Nat.zero_le _)).mono ?_
    rintro e4 w4 ⟨rfl, hb4⟩
    rw [hsame]
    go_wp2_with fail
    go_ret
    exact ⟨rfl, G.trans hbw3 hb4⟩
theorem stampParses_any (t : List UInt8) (w : World) (hmax : t.length ≤ maxLen) (hv : LibVars w) :
    Calls Tryd.prog 13 #[.string (B t)] w fun e' w' => e' = .returned (.bool true) ∧ Below w.heap.size w w' := stampParses_b (B t) w (by rw [B_size]; exact hmax) hv
end Go.Proofs.YtjldpodehffbnaaDoor
