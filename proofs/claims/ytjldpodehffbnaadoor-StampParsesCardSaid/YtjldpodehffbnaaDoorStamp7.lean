/- What stamp.Parent computes. -/
import Derived.Test.YtjldpodehffbnaaDoorStamp6
namespace Go.Proofs.YtjldpodehffbnaaDoor
set_option linter.unusedVariables false
set_option linter.unnecessarySimpa false
set_option linter.unusedSimpArgs false
open Go.RowKit

/-- Has the stamp a parent? -/
def hasParent (e : Int) (xs : List Int) : Bool := decide (checkS e xs = 0) && decide (2 - xs.getD 0 0 < xs.length)
/-- The call gives a stamp and a yes or no. -/
def RetStB (e : Int) (xs : List Int) (b : Bool) (w : World) (end_ : Ending) (w' : World) : Prop :=
  ∃ A c, end_ = .returned (.tuple #[.agg #[.int .i64 e, .slice A xs.length c], .bool b]) ∧ Sl w' A xs.length (i64s xs) ∧ xs.length ≤ c ∧ c ≤ maxLen ∧ Abv w.heap.size A ∧ Below w.heap.size w w'
theorem RetStB.zero {w w' : World} (h : Below w.heap.size w w') : RetStB 0 [] false w (.returned (.tuple #[.agg #[.int .i64 0, .slice none 0 0], .bool false])) w' :=
  ⟨none, 0, rfl, Sl.nil _ _, Nat.le_refl _, Nat.zero_le _, Abv.none_ _, h⟩
set_option maxRecDepth 20000 in set_option maxHeartbeats 400000 in
theorem parent_no1 (e : Int) (A : Option Addr) (n c : Nat) (xs : List Int) (w : World) (hx : Sl w A n (i64s xs)) (hn : n ≤ maxLen) (h : checkS e xs ≠ 0) :
    Calls Tryd.prog 29 #[.agg #[.int .i64 e, .slice A n c]] w (RetStB 0 [] false w) := by
  have C1 := fun w hx => check_any e A n c xs w hx hn
  have hz : (checkS e xs != 0) = true := by simp [h]
  have C1' := Lib.hid C1
  clear C1 h
  generalize checkS e xs = z at *
  go_enter Tryd.func29, Tryd.ntmps29
  go_wp2
  (refine wp_region_grow (by kernel_rfl) (by kernel_rfl) ?_)
  (repeat ((with_reducible refine wpQuiet_step ?_); intro K hK; first | ((with_reducible refine q_skip ?_ ?_); (focus (go_simp; done)); go_simp; (with_reducible refine hK _ ?_); clear hK K) | ((with_reducible refine q_any ?_ ?_); (focus (go_simp; done)); apply Exists.intro; refine And.intro ?_ ?_; (focus (intro wq hq; obtain ⟨hcq, hfq⟩ := G.old hq; go_simp; (first | done | (go_at_call 16; refine (C1'.out _ (Sl.grow ?_ hq.b)).mono (fun e w' h => ⟨h.1, Grew.trans hq h.2⟩); (repeat (first | with_reducible assumption | with_reducible exact Sl.new' (by simp; done) (by simp; done) (by simp; done) | with_reducible refine Sl.drew ?_ | with_reducible refine Sl.drewN ?_ _ | with_reducible refine Sl.alloc ?_ _ | with_reducible refine Sl.grow ?_ hb12 | with_reducible refine Sl.grow ?_ hb11 | with_reducible refine Sl.grow ?_ hb10 | with_reducible refine Sl.grow ?_ hb9 | with_reducible refine Sl.grow ?_ hb8 | with_reducible refine Sl.grow ?_ hb7 | with_reducible refine Sl.grow ?_ hb6 | with_reducible refine Sl.grow ?_ hb5 | with_reducible refine Sl.grow ?_ hb4 | with_reducible refine Sl.grow ?_ hb3 | with_reducible refine Sl.grow ?_ hb2 | with_reducible refine Sl.grow ?_ hb1 | with_reducible refine Sl.grow ?_ hb | assumption))) | exact rfl); done)); go_simp; (with_reducible refine hK _ ?_); clear hK K) | fail))
  ((with_reducible refine wpQuiet_nil ?_); intro w1 hb1)
  have hb := hb1.b
  have k0 := G.cell (a := ⟨w.heap.size + 1, 0, none⟩) (v := .int .i64 0) (by go_simp) hb
  have k1 := G.cell (a := ⟨w.heap.size + 1, 1, none⟩) (v := .slice none 0 0) (by go_simp) hb
  obtain ⟨hc, hf⟩ := G.old hb
  clear hb1
  go_wp2
  exact bodyPost_ret (v := .tuple #[.agg #[.int .i64 0, .slice none 0 0], .bool false]) (by simp only [results, Tryd.results29]; go_simp) rfl (RetStB.zero (by repeat (first | with_reducible assumption | with_reducible exact G.refl _ | with_reducible refine G.drew ?_ | with_reducible refine G.drewN ?_ _ | with_reducible refine G.alloc ?_ _ | with_reducible refine Below.setCell ?_ (by first | (simp; done) | (simp; omega)) _ | with_reducible refine G.trans ?_ hb12 | with_reducible refine G.trans ?_ hb11 | with_reducible refine G.trans ?_ hb10 | with_reducible refine G.trans ?_ hb9 | with_reducible refine G.trans ?_ hb8 | with_reducible refine G.trans ?_ hb7 | with_reducible refine G.trans ?_ hb6 | with_reducible refine G.trans ?_ hb5 | with_reducible refine G.trans ?_ hb4 | with_reducible refine G.trans ?_ hb3 | with_reducible refine G.trans ?_ hb2 | with_reducible refine G.trans ?_ hb1 | with_reducible refine G.trans ?_ hb | assumption)))
set_option maxRecDepth 20000 in set_option maxHeartbeats 400000 in
theorem parent_no2 (e : Int) (A : Option Addr) (n c : Nat) (xs : List Int) (w : World) (hx : Sl w A n (i64s xs)) (hn : n ≤ maxLen) (h : checkS e xs = 0) (h2 : (n : Int) ≤ 2 - xs.getD 0 0) (hwf : 0 ≤ xs.getD 0 0 ∧ xs.getD 0 0 ≤ 1) :
    Calls Tryd.prog 29 #[.agg #[.int .i64 e, .slice A n c]] w (RetStB 0 [] false w) := by
  have C1 := fun w hx => check_any e A n c xs w hx hn
  rw [h] at C1
  have C1' := Lib.hid C1
  have hl := hx.len
  have hn0 : 0 < n := by have := (checkS_ok h).2.2.1; omega
  obtain ⟨b, off, x0, rfl, hbl, hx0, hc0⟩ := hx.at0 hn0
  have hbl1 : b < w.heap.size + 1 := by omega
  have hbl2 : b < w.heap.size + 1 + 1 := by omega
  have hg0 : xs.getD 0 0 = x0 := by simp [List.getD, hx0]
  rw [hg0] at h2 hwf
  obtain ⟨hwf1, hwf2⟩ := hwf
  have hlt : (0 : Int) < (n : Int) := by omega
  have hsub : IntKind.i64.wrap (2 - x0) = 2 - x0 := IntWalk.i64_in _ (by omega)
  have hle : decide ((n : Int) ≤ 2 - x0) = true := by simpa using h2
  clear C1 h hl hg0 hx0 h2
  go_enter Tryd.func29, Tryd.ntmps29
  go_wp2
  (refine wp_region_grow (by kernel_rfl) (by kernel_rfl) ?_)
  (repeat ((with_reducible refine wpQuiet_step ?_); intro K hK; first | ((with_reducible refine q_skip ?_ ?_); (focus (go_simp; done)); go_simp; (with_reducible refine hK _ ?_); clear hK K) | ((with_reducible refine q_any ?_ ?_); (focus (go_simp; done)); apply Exists.intro; refine And.intro ?_ ?_; (focus (intro wq hq; obtain ⟨hcq, hfq⟩ := G.old hq; go_simp; (first | done | (go_at_call 16; refine (C1'.out _ (Sl.grow ?_ hq.b)).mono (fun e w' h => ⟨h.1, Grew.trans hq h.2⟩); (repeat (first | with_reducible assumption | with_reducible exact Sl.new' (by simp; done) (by simp; done) (by simp; done) | with_reducible refine Sl.drew ?_ | with_reducible refine Sl.drewN ?_ _ | with_reducible refine Sl.alloc ?_ _ | with_reducible refine Sl.grow ?_ hb12 | with_reducible refine Sl.grow ?_ hb11 | with_reducible refine Sl.grow ?_ hb10 | with_reducible refine Sl.grow ?_ hb9 | with_reducible refine Sl.grow ?_ hb8 | with_reducible refine Sl.grow ?_ hb7 | with_reducible refine Sl.grow ?_ hb6 | with_reducible refine Sl.grow ?_ hb5 | with_reducible refine Sl.grow ?_ hb4 | with_reducible refine Sl.grow ?_ hb3 | with_reducible refine Sl.grow ?_ hb2 | with_reducible refine Sl.grow ?_ hb1 | with_reducible refine Sl.grow ?_ hb | assumption))) | exact rfl); done)); go_simp; (with_reducible refine hK _ ?_); clear hK K) | fail))
  ((with_reducible refine wpQuiet_nil ?_); intro w1 hb1)
  have hb := hb1.b
  have k0 := G.cell (a := ⟨w.heap.size + 1, 0, none⟩) (v := .int .i64 0) (by go_simp) hb
  have k1 := G.cell (a := ⟨w.heap.size + 1, 1, none⟩) (v := .slice none 0 0) (by go_simp) hb
  obtain ⟨hc, hf⟩ := G.old hb
  clear hb1
  go_wp2
  exact bodyPost_ret (v := .tuple #[.agg #[.int .i64 0, .slice none 0 0], .bool false]) (by simp only [results, Tryd.results29]; go_simp) rfl (RetStB.zero (by repeat (first | with_reducible assumption | with_reducible exact G.refl _ | with_reducible refine G.drew ?_ | with_reducible refine G.drewN ?_ _ | with_reducible refine G.alloc ?_ _ | with_reducible refine Below.setCell ?_ (by first | (simp; done) | (simp; omega)) _ | with_reducible refine G.trans ?_ hb12 | with_reducible refine G.trans ?_ hb11 | with_reducible refine G.trans ?_ hb10 | with_reducible refine G.trans ?_ hb9 | with_reducible refine G.trans ?_ hb8 | with_reducible refine G.trans ?_ hb7 | with_reducible refine G.trans ?_ hb6 | with_reducible refine G.trans ?_ hb5 | with_reducible refine G.trans ?_ hb4 | with_reducible refine G.trans ?_ hb3 | with_reducible refine G.trans ?_ hb2 | with_reducible refine G.trans ?_ hb1 | with_reducible refine G.trans ?_ hb | assumption)))
set_option maxRecDepth 20000 in set_option maxHeartbeats 400000 in
theorem parent_yes (e : Int) (A : Option Addr) (n c : Nat) (xs : List Int) (w : World) (hx : Sl w A n (i64s xs)) (hnc : n ≤ c) (hcm : c ≤ maxLen) (h : checkS e xs = 0) (h2 : ¬ (n : Int) ≤ 2 - xs.getD 0 0) (hwf : 0 ≤ xs.getD 0 0 ∧ xs.getD 0 0 ≤ 1) :
    Calls Tryd.prog 29 #[.agg #[.int .i64 e, .slice A n c]] w (RetStB e (xs.take (n - 1)) true w) := by
  have C1 := fun w hx => check_any e A n c xs w hx (Nat.le_trans hnc hcm)
  rw [h] at C1
  have C1' := Lib.hid C1
  have hl := Lib.hid hx.len
  have hn0 : 0 < n := by have := (checkS_ok h).2.2.1; have := hl.out; omega
  have hn5 : n ≤ 512 := by have := (checkS_ok h).2.2.2.1; rw [hl.out] at this; exact this
  obtain ⟨b, off, x0, rfl, hbl, hx0, hc0⟩ := hx.at0 hn0
  have hbl1 : b < w.heap.size + 1 := by omega
  have hbl2 : b < w.heap.size + 1 + 1 := by omega
  have hg0 : xs.getD 0 0 = x0 := by simp [List.getD, hx0]
  rw [hg0] at h2 hwf
  obtain ⟨hwf1, hwf2⟩ := hwf
  have hlt : (0 : Int) < (n : Int) := by omega
  have hsub : IntKind.i64.wrap (2 - x0) = 2 - x0 := IntWalk.i64_in _ (by omega)
  have hle : decide ((n : Int) ≤ 2 - x0) = false := by simpa using h2
  clear C1 h hg0 hx0
  go_enter Tryd.func29, Tryd.ntmps29
  go_wp2
  (refine wp_region_grow (by kernel_rfl) (by kernel_rfl) ?_)
  (repeat ((with_reducible refine wpQuiet_step ?_); intro K hK; first | ((with_reducible refine q_skip ?_ ?_); (focus (go_simp; done)); go_simp; (with_reducible refine hK _ ?_); clear hK K) | ((with_reducible refine q_any ?_ ?_); (focus (go_simp; done)); apply Exists.intro; refine And.intro ?_ ?_; (focus (intro wq hq; obtain ⟨hcq, hfq⟩ := G.old hq; go_simp; (first | done | (go_at_call 16; refine (C1'.out _ (Sl.grow ?_ hq.b)).mono (fun e w' h => ⟨h.1, Grew.trans hq h.2⟩); (repeat (first | with_reducible assumption | with_reducible exact Sl.new' (by simp; done) (by simp; done) (by simp; done) | with_reducible refine Sl.drew ?_ | with_reducible refine Sl.drewN ?_ _ | with_reducible refine Sl.alloc ?_ _ | with_reducible refine Sl.grow ?_ hb12 | with_reducible refine Sl.grow ?_ hb11 | with_reducible refine Sl.grow ?_ hb10 | with_reducible refine Sl.grow ?_ hb9 | with_reducible refine Sl.grow ?_ hb8 | with_reducible refine Sl.grow ?_ hb7 | with_reducible refine Sl.grow ?_ hb6 | with_reducible refine Sl.grow ?_ hb5 | with_reducible refine Sl.grow ?_ hb4 | with_reducible refine Sl.grow ?_ hb3 | with_reducible refine Sl.grow ?_ hb2 | with_reducible refine Sl.grow ?_ hb1 | with_reducible refine Sl.grow ?_ hb | assumption))) | exact rfl); done)); go_simp; (with_reducible refine hK _ ?_); clear hK K) | fail))
  ((with_reducible refine wpQuiet_nil ?_); intro w1 hb1)
  have hb := hb1.b
  have k0 := G.cell (a := ⟨w.heap.size + 1, 0, none⟩) (v := .int .i64 0) (by go_simp) hb
  have k1 := G.cell (a := ⟨w.heap.size + 1, 1, none⟩) (v := .slice none 0 0) (by go_simp) hb
  have k2 := G.cell (a := ⟨w.heap.size, 0, none⟩) (v := .int .i64 e) (by go_simp) hb
  have k3 := G.cell (a := ⟨w.heap.size, 1, none⟩) (v := .slice (some ⟨b, off, none⟩) n c) (by go_simp) hb
  have hz : w.heap.size + 2 ≤ w1.heap.size := by have := hb.size; simp at this; omega
  obtain ⟨hc, hf⟩ := G.old hb
  have z0 : w1.frozen? ⟨w.heap.size + 1, 0, none⟩ = false := (hf _ _ (by simp)).trans (by go_simp)
  have z1 : w1.frozen? ⟨w.heap.size + 1, 1, none⟩ = false := (hf _ _ (by simp)).trans (by go_simp)
  have lt0 : w.heap.size < w1.heap.size := by omega
  have lt1 : w.heap.size + 1 < w1.heap.size := by omega
  have hx1 : Sl w1 (some ⟨b, off, none⟩) n (i64s xs) := by repeat (first | with_reducible assumption | with_reducible exact Sl.new' (by simp; done) (by simp; done) (by simp; done) | with_reducible refine Sl.drew ?_ | with_reducible refine Sl.drewN ?_ _ | with_reducible refine Sl.alloc ?_ _ | with_reducible refine Sl.grow ?_ hb12 | with_reducible refine Sl.grow ?_ hb11 | with_reducible refine Sl.grow ?_ hb10 | with_reducible refine Sl.grow ?_ hb9 | with_reducible refine Sl.grow ?_ hb8 | with_reducible refine Sl.grow ?_ hb7 | with_reducible refine Sl.grow ?_ hb6 | with_reducible refine Sl.grow ?_ hb5 | with_reducible refine Sl.grow ?_ hb4 | with_reducible refine Sl.grow ?_ hb3 | with_reducible refine Sl.grow ?_ hb2 | with_reducible refine Sl.grow ?_ hb1 | with_reducible refine Sl.grow ?_ hb | assumption)
  have hb0 : Below w.heap.size w w1 := G.trans (by repeat (first | with_reducible assumption | with_reducible exact G.refl _ | with_reducible refine G.drew ?_ | with_reducible refine G.drewN ?_ _ | with_reducible refine G.alloc ?_ _ | with_reducible refine Below.setCell ?_ (by first | (simp; done) | (simp; omega)) _ | with_reducible refine G.trans ?_ hb12 | with_reducible refine G.trans ?_ hb11 | with_reducible refine G.trans ?_ hb10 | with_reducible refine G.trans ?_ hb9 | with_reducible refine G.trans ?_ hb8 | with_reducible refine G.trans ?_ hb7 | with_reducible refine G.trans ?_ hb6 | with_reducible refine G.trans ?_ hb5 | with_reducible refine G.trans ?_ hb4 | with_reducible refine G.trans ?_ hb3 | with_reducible refine G.trans ?_ hb2 | with_reducible refine G.trans ?_ hb1 | with_reducible refine G.trans ?_ hb | assumption)) hb
  clear hc hf hx hb1 hb
  have hn1 : (1 : Int) ≤ (n : Int) := by omega
  have hnc' : n - 1 ≤ c := by omega
  have hxt : Sl w1 (some ⟨b, off, none⟩) (n - 1) (i64s (xs.take (n - 1))) := by rw [← i64s_take]; exact hx1.take (by omega)
  obtain ⟨m, rfl⟩ : ∃ m, n = m + 1 := ⟨n - 1, by omega⟩
  simp only [Nat.add_sub_cancel] at hxt hnc' ⊢
  have hlm : (xs.take m).length = m := hxt.len
  have hsub1 : IntKind.i64.wrap ((m : Int) + 1 - 1) = (m : Int) := by rw [IntWalk.i64_in _ (by omega)]; omega
  have hsub2 : IntKind.i64.wrap (((m + 1 : Nat) : Int) - 1) = (m : Int) := by rw [IntWalk.i64_in _ (by omega)]; omega
  have hm0 : (0 : Int) ≤ (m : Int) := by omega
  have hmc : (m : Int) ≤ (c : Int) := by omega
  have hsub0 : IntKind.i64.wrap (m : Int) = (m : Int) := IntWalk.i64_in _ (by omega)
  go_wp2
  go_region_held3 (fun w' => w'.cell? ⟨w.heap.size, 0, none⟩ = some (.int .i64 e) ∧ w'.cell? ⟨w.heap.size, 1, none⟩ = some (.slice (some ⟨b, off, none⟩) (m + 1) c)) (go_keep)
    (first | (go_at_call 44; refine (clone_any _ m c (xs.take m) _ (by repeat (first | with_reducible assumption | with_reducible exact Sl.new' (by simp; done) (by simp; done) (by simp; done) | with_reducible refine Sl.drew ?_ | with_reducible refine Sl.drewN ?_ _ | with_reducible refine Sl.alloc ?_ _ | with_reducible refine Sl.grow ?_ hb12 | with_reducible refine Sl.grow ?_ hb11 | with_reducible refine Sl.grow ?_ hb10 | with_reducible refine Sl.grow ?_ hb9 | with_reducible refine Sl.grow ?_ hb8 | with_reducible refine Sl.grow ?_ hb7 | with_reducible refine Sl.grow ?_ hb6 | with_reducible refine Sl.grow ?_ hb5 | with_reducible refine Sl.grow ?_ hb4 | with_reducible refine Sl.grow ?_ hb3 | with_reducible refine Sl.grow ?_ hb2 | with_reducible refine Sl.grow ?_ hb1 | with_reducible refine Sl.grow ?_ hb | assumption)) hnc' hcm (by show m * 8 ≤ _; omega)).mono ?_; rintro e2 w2 ⟨A2, c2, rfl, hown2', hb2⟩; have hown2 := own_mono (base' := w1.heap.size) hown2' (by simp); have hB : Below w1.heap.size w1 w2 := G.trans (by repeat (first | with_reducible assumption | with_reducible exact G.refl _ | with_reducible refine G.drew ?_ | with_reducible refine G.drewN ?_ _ | with_reducible refine G.alloc ?_ _ | with_reducible refine Below.setCell ?_ (by first | (simp; done) | (simp; omega)) _ | with_reducible refine G.trans ?_ hb12 | with_reducible refine G.trans ?_ hb11 | with_reducible refine G.trans ?_ hb10 | with_reducible refine G.trans ?_ hb9 | with_reducible refine G.trans ?_ hb8 | with_reducible refine G.trans ?_ hb7 | with_reducible refine G.trans ?_ hb6 | with_reducible refine G.trans ?_ hb5 | with_reducible refine G.trans ?_ hb4 | with_reducible refine G.trans ?_ hb3 | with_reducible refine G.trans ?_ hb2 | with_reducible refine G.trans ?_ hb1 | with_reducible refine G.trans ?_ hb | assumption)) hb2; obtain ⟨hc2, hf2⟩ := G.old hB; have zz0 := (hf2 (w.heap.size+1) 0 lt1).trans z0; have zz1 := (hf2 (w.heap.size+1) 1 lt1).trans z1) | fail)
  have hs2 := Sl.of_own1 hown2
  have ha2 := Abv.of_own hown2
  have hcap := own_cap hown2
  go_wp2
  refine bodyPost_ret (v := .tuple #[.agg #[.int .i64 e, .slice A2 (xs.take m).length c2], .bool true]) (by simp only [results, Tryd.results29]; go_simp) rfl ⟨A2, c2, rfl, Sl.setCell (Sl.setCell hs2 ha2 lt1 _) ha2 lt1 _, hcap.1, hcap.2, ha2.mono (by omega), ?_⟩
  exact ((hb0.trans (hB.mono (by omega))).setCell (by simp) _).setCell (by simp) _
end Go.Proofs.YtjldpodehffbnaaDoor
