/- What the model's short, joined and check compute. -/
import Derived.Test.YtjldpodehffbnaaDoorStamp7
namespace Go.Proofs.YtjldpodehffbnaaDoor
set_option linter.unusedVariables false
set_option linter.unnecessarySimpa false
set_option linter.unusedSimpArgs false
open Go.RowKit

set_option maxRecDepth 20000 in set_option maxHeartbeats 400000 in
theorem short_any (e : Int) (A : Option Addr) (n c : Nat) (w : World) (hnc : n ≤ c) (hcm : c ≤ maxLen) :
    Calls Tryd.prog 14 #[.agg #[.int .i64 e, .slice A n c]] w fun e' w' => e' = .returned (.agg #[.int .i64 e, .slice A (min n 600) c]) ∧ Below w.heap.size w w' := by
  unfold maxLen at hcm
  by_cases h : n ≤ 600
  · rw [Nat.min_eq_left h]
    have h0 : (0 : Int) ≤ (n : Int) := by omega
    have h1 : (n : Int) ≤ (c : Int) := by omega
    have h2 : (n : Int) ≤ 600 := by omega
    go_enter Tryd.func14, Tryd.ntmps14
    go_wp2
    exact bodyPost_ret (v := .agg #[.int .i64 e, .slice A n c]) (by simp only [results, Tryd.results14]; go_simp) rfl ⟨rfl, by repeat (first | with_reducible assumption | with_reducible exact G.refl _ | with_reducible refine G.drew ?_ | with_reducible refine G.drewN ?_ _ | with_reducible refine G.alloc ?_ _ | with_reducible refine Below.setCell ?_ (by first | (simp; done) | (simp; omega)) _ | with_reducible refine G.trans ?_ hb12 | with_reducible refine G.trans ?_ hb11 | with_reducible refine G.trans ?_ hb10 | with_reducible refine G.trans ?_ hb9 | with_reducible refine G.trans ?_ hb8 | with_reducible refine G.trans ?_ hb7 | with_reducible refine G.trans ?_ hb6 | with_reducible refine G.trans ?_ hb5 | with_reducible refine G.trans ?_ hb4 | with_reducible refine G.trans ?_ hb3 | with_reducible refine G.trans ?_ hb2 | with_reducible refine G.trans ?_ hb1 | with_reducible refine G.trans ?_ hb | assumption)⟩
  · rw [Nat.min_eq_right (by omega)]
    have h0 : (0 : Int) ≤ (600 : Int) := by omega
    have h1 : (600 : Int) ≤ (c : Int) := by omega
    have h2 : (600 : Int) < (n : Int) := by omega
    have h3 : ¬ (n : Int) ≤ 600 := by omega
    clear h
    go_enter Tryd.func14, Tryd.ntmps14
    go_wp2
    exact bodyPost_ret (v := .agg #[.int .i64 e, .slice A 600 c]) (by simp only [results, Tryd.results14]; go_simp) rfl ⟨rfl, by repeat (first | with_reducible assumption | with_reducible exact G.refl _ | with_reducible refine G.drew ?_ | with_reducible refine G.drewN ?_ _ | with_reducible refine G.alloc ?_ _ | with_reducible refine Below.setCell ?_ (by first | (simp; done) | (simp; omega)) _ | with_reducible refine G.trans ?_ hb12 | with_reducible refine G.trans ?_ hb11 | with_reducible refine G.trans ?_ hb10 | with_reducible refine G.trans ?_ hb9 | with_reducible refine G.trans ?_ hb8 | with_reducible refine G.trans ?_ hb7 | with_reducible refine G.trans ?_ hb6 | with_reducible refine G.trans ?_ hb5 | with_reducible refine G.trans ?_ hb4 | with_reducible refine G.trans ?_ hb3 | with_reducible refine G.trans ?_ hb2 | with_reducible refine G.trans ?_ hb1 | with_reducible refine G.trans ?_ hb | assumption)⟩

/-- The call gives a stamp whose path lies in memory of its own. -/
def RetP (e : Int) (xs : List Int) (w : World) (end_ : Ending) (w' : World) : Prop :=
  ∃ A c, end_ = .returned (.agg #[.int .i64 e, .slice A xs.length c]) ∧ Sl w' A xs.length (i64s xs) ∧ xs.length ≤ c ∧ c ≤ maxLen ∧ Abv w.heap.size A ∧ Below w.heap.size w w'

set_option maxRecDepth 20000 in set_option maxHeartbeats 400000 in
theorem joined_any (e : Int) (A B : Option Addr) (n c m d : Nat) (xs ts : List Int) (w : World) (hx : Sl w A n (i64s xs)) (ht : Sl w B m (i64s ts)) (hn : n ≤ 600) (hm : m ≤ 20) :
    Calls Tryd.prog 20 #[.agg #[.int .i64 e, .slice A n c], .slice B m d] w (RetP e (xs ++ ts) w) := by
  obtain ⟨i0, hi0, hz0, hz1, hz2⟩ := info_parts Tryd.infoI
  obtain rfl := hx.len
  obtain rfl := ht.len
  go_enter Tryd.func20, Tryd.ntmps20
  go_wp2_with (first
    | (at_builtin; refine wpList_app _ rfl (.tmp 5) (.tmp 7) _ rfl (w.heap.size + 1 + 1) 3 i0 _ 1 8 Tryd.underlying22 hi0 hz0 hz1 hz2 rfl Nat.zero_lt_one (.slice (some ⟨w.heap.size + 1 + 1, 0, none⟩) 0 0) 0 [] rfl (own_made (by simp) (Nat.le_refl _)) A xs.length c (i64s xs) rfl (by rw [Nat.mul_one]; repeat (first | with_reducible assumption | with_reducible exact Sl.new' (by simp; done) (by simp; done) (by simp; done) | with_reducible refine Sl.drew ?_ | with_reducible refine Sl.drewN ?_ _ | with_reducible refine Sl.alloc ?_ _ | with_reducible refine Sl.grow ?_ hb12 | with_reducible refine Sl.grow ?_ hb11 | with_reducible refine Sl.grow ?_ hb10 | with_reducible refine Sl.grow ?_ hb9 | with_reducible refine Sl.grow ?_ hb8 | with_reducible refine Sl.grow ?_ hb7 | with_reducible refine Sl.grow ?_ hb6 | with_reducible refine Sl.grow ?_ hb5 | with_reducible refine Sl.grow ?_ hb4 | with_reducible refine Sl.grow ?_ hb3 | with_reducible refine Sl.grow ?_ hb2 | with_reducible refine Sl.grow ?_ hb1 | with_reducible refine Sl.grow ?_ hb | assumption)) (oneCell_i64s _) (by show _ ≤ 2 ^ 63 - 1; omega) (by omega) (by simp) ?_; intro A1 c1 w1 hown1 hc1 hm1 hg1; have hb1 : Below (w.heap.size + 1 + 1) _ w1 := (Below.refl _ _).grown hg1 (by simp) (by simp [Value.ownBlock]); simp only [Nat.zero_add, List.nil_append] at hown1 hc1; have hbw : Below w.heap.size w w1 := Below.trans (by repeat (first | with_reducible assumption | with_reducible exact G.refl _ | with_reducible refine G.drew ?_ | with_reducible refine G.drewN ?_ _ | with_reducible refine G.alloc ?_ _ | with_reducible refine Below.setCell ?_ (by first | (simp; done) | (simp; omega)) _ | with_reducible refine G.trans ?_ hb12 | with_reducible refine G.trans ?_ hb11 | with_reducible refine G.trans ?_ hb10 | with_reducible refine G.trans ?_ hb9 | with_reducible refine G.trans ?_ hb8 | with_reducible refine G.trans ?_ hb7 | with_reducible refine G.trans ?_ hb6 | with_reducible refine G.trans ?_ hb5 | with_reducible refine G.trans ?_ hb4 | with_reducible refine G.trans ?_ hb3 | with_reducible refine G.trans ?_ hb2 | with_reducible refine G.trans ?_ hb1 | with_reducible refine G.trans ?_ hb | assumption)) (hb1.mono (by omega)); have x0 := (hb1.frozen (p := ⟨w.heap.size + 1, 0, none⟩) (by simp)).trans (show _ = false by go_simp); have x1 := (hb1.frozen (p := ⟨w.heap.size + 1, 1, none⟩) (by simp)).trans (show _ = false by go_simp); have z0 := (hb1.frozen (p := ⟨w.heap.size, 1, none⟩) (by simp; omega)).trans (show _ = false by go_simp); have k0 := (hb1.cell (p := ⟨w.heap.size, 0, none⟩) (by simp; omega)).trans (show _ = some (.int .i64 e) by go_simp); have k1 := (hb1.cell (p := ⟨w.heap.size, 1, none⟩) (by simp; omega)).trans (show _ = some (.slice A xs.length c) by go_simp); have k2 := (hb1.cell (p := ⟨w.heap.size + 1, 0, none⟩) (by simp)).trans (show _ = some (.int .i64 0) by go_simp); have k3 := (hb1.cell (p := ⟨w.heap.size + 1, 1, none⟩) (by simp)).trans (show _ = some (.slice none 0 0) by go_simp))
    | (at_builtin; refine wpList_app _ rfl (.tmp 8) (.tmp 9) _ rfl (w.heap.size + 1 + 1) 3 i0 _ 1 8 Tryd.underlying22 hi0 hz0 hz1 hz2 rfl Nat.zero_lt_one (.slice A1 xs.length c1) xs.length (i64s xs) rfl hown1 B ts.length d (i64s ts) rfl (by rw [Nat.mul_one]; exact ht.grow hbw) (oneCell_i64s _) (by show _ ≤ 2 ^ 63 - 1; omega) (by omega) (by have := hb1.size; simp at this; omega) ?_; intro A2 c2 w2 hown2 hc2 hm2 hg2; have hb2 : Below (w.heap.size + 1 + 1) w1 w2 := (Below.refl _ _).grown hg2 (by have := hb1.size; simp at this; omega) (fun k hk => (hown1.lt k hk).1); have m0 := (hb2.cell (p := ⟨w.heap.size, 0, none⟩) (by simp; omega)).trans k0; have m1 := (hb2.cell (p := ⟨w.heap.size, 1, none⟩) (by simp; omega)).trans k1; have m2 := (hb2.cell (p := ⟨w.heap.size + 1, 0, none⟩) (by simp)).trans k2; have m3 := (hb2.cell (p := ⟨w.heap.size + 1, 1, none⟩) (by simp)).trans k3; have z1 := (hb2.frozen (p := ⟨w.heap.size, 1, none⟩) (by simp; omega)).trans z0; have y0 := (hb2.frozen (p := ⟨w.heap.size + 1, 0, none⟩) (by simp)).trans x0; have y1 := (hb2.frozen (p := ⟨w.heap.size + 1, 1, none⟩) (by simp)).trans x1) | fail)
  have hs2 : Sl w2 A2 (xs.length + ts.length) (i64s (xs ++ ts)) := by rw [show i64s (xs ++ ts) = i64s xs ++ i64s ts by simp]; exact Sl.of_own1 hown2
  have ha2 := Abv.of_own hown2
  have el : (xs ++ ts).length = xs.length + ts.length := List.length_append
  refine bodyPost_ret (v := .agg #[.int .i64 e, .slice A2 (xs.length + ts.length) c2]) (by simp only [results, Tryd.results20]; go_simp) rfl ⟨A2, c2, by rw [el], ?_, by rw [el]; exact hc2, hm2, ha2.mono (by omega), ?_⟩
  · rw [el]
    exact Sl.setCell (Sl.setCell (Sl.setCell hs2 ha2 (by simp; omega) _) ha2 (by simp) _) ha2 (by simp) _
  · exact (((hbw.trans (hb2.mono (by omega))).setCell (by simp) _).setCell (by simp) _).setCell (by simp) _

set_option maxRecDepth 20000 in set_option maxHeartbeats 400000 in
theorem lcheck_any (e : Int) (A : Option Addr) (n c : Nat) (xs : List Int) (w : World) (hx : Sl w A n (i64s xs)) (hn : n ≤ maxLen) :
    Calls Tryd.prog 17 #[.agg #[.int .i64 e, .slice A n c]] w fun e' w' => e' = .returned (.int .i64 (checkS e xs)) ∧ Below w.heap.size w w' := by
  have hl := Lib.hid hx.len
  unfold maxLen at hn
  by_cases h1 : e < 1
  · have hs : Hid (checkS e xs = 2) := by unfold Hid checkS; rw [if_pos (.inl h1)]
    go_enter Tryd.func17, Tryd.ntmps17
    go_wp2
    go_ret
    exact ⟨ret_i hs.out.symm, by repeat (first | with_reducible assumption | with_reducible exact G.refl _ | with_reducible refine G.drew ?_ | with_reducible refine G.drewN ?_ _ | with_reducible refine G.alloc ?_ _ | with_reducible refine Below.setCell ?_ (by first | (simp; done) | (simp; omega)) _ | with_reducible refine G.trans ?_ hb12 | with_reducible refine G.trans ?_ hb11 | with_reducible refine G.trans ?_ hb10 | with_reducible refine G.trans ?_ hb9 | with_reducible refine G.trans ?_ hb8 | with_reducible refine G.trans ?_ hb7 | with_reducible refine G.trans ?_ hb6 | with_reducible refine G.trans ?_ hb5 | with_reducible refine G.trans ?_ hb4 | with_reducible refine G.trans ?_ hb3 | with_reducible refine G.trans ?_ hb2 | with_reducible refine G.trans ?_ hb1 | with_reducible refine G.trans ?_ hb | assumption)⟩
  by_cases h2 : 1048576 < e
  · have hs : Hid (checkS e xs = 2) := by unfold Hid checkS; rw [if_pos (.inr h2)]
    go_enter Tryd.func17, Tryd.ntmps17
    go_wp2
    go_ret
    exact ⟨ret_i hs.out.symm, by repeat (first | with_reducible assumption | with_reducible exact G.refl _ | with_reducible refine G.drew ?_ | with_reducible refine G.drewN ?_ _ | with_reducible refine G.alloc ?_ _ | with_reducible refine Below.setCell ?_ (by first | (simp; done) | (simp; omega)) _ | with_reducible refine G.trans ?_ hb12 | with_reducible refine G.trans ?_ hb11 | with_reducible refine G.trans ?_ hb10 | with_reducible refine G.trans ?_ hb9 | with_reducible refine G.trans ?_ hb8 | with_reducible refine G.trans ?_ hb7 | with_reducible refine G.trans ?_ hb6 | with_reducible refine G.trans ?_ hb5 | with_reducible refine G.trans ?_ hb4 | with_reducible refine G.trans ?_ hb3 | with_reducible refine G.trans ?_ hb2 | with_reducible refine G.trans ?_ hb1 | with_reducible refine G.trans ?_ hb | assumption)⟩
  have h12 : ¬ (e < 1 ∨ 1048576 < e) := by omega
  by_cases h3 : n = 0
  · have hs : Hid (checkS e xs = 4) := by unfold Hid checkS; rw [if_neg h12, if_pos (by have := hl.out; omega)]
    subst h3
    go_enter Tryd.func17, Tryd.ntmps17
    go_wp2
    go_ret
    exact ⟨ret_i hs.out.symm, by repeat (first | with_reducible assumption | with_reducible exact G.refl _ | with_reducible refine G.drew ?_ | with_reducible refine G.drewN ?_ _ | with_reducible refine G.alloc ?_ _ | with_reducible refine Below.setCell ?_ (by first | (simp; done) | (simp; omega)) _ | with_reducible refine G.trans ?_ hb12 | with_reducible refine G.trans ?_ hb11 | with_reducible refine G.trans ?_ hb10 | with_reducible refine G.trans ?_ hb9 | with_reducible refine G.trans ?_ hb8 | with_reducible refine G.trans ?_ hb7 | with_reducible refine G.trans ?_ hb6 | with_reducible refine G.trans ?_ hb5 | with_reducible refine G.trans ?_ hb4 | with_reducible refine G.trans ?_ hb3 | with_reducible refine G.trans ?_ hb2 | with_reducible refine G.trans ?_ hb1 | with_reducible refine G.trans ?_ hb | assumption)⟩
  have h3' : ((n : Int) == 0) = false := by simp; omega
  by_cases h4 : 512 < n
  · have hs : Hid (checkS e xs = 9) := by unfold Hid checkS; rw [if_neg h12, if_neg (by have := hl.out; omega), if_pos (by have := hl.out; omega)]
    go_enter Tryd.func17, Tryd.ntmps17
    go_wp2
    go_ret
    exact ⟨ret_i hs.out.symm, by repeat (first | with_reducible assumption | with_reducible exact G.refl _ | with_reducible refine G.drew ?_ | with_reducible refine G.drewN ?_ _ | with_reducible refine G.alloc ?_ _ | with_reducible refine Below.setCell ?_ (by first | (simp; done) | (simp; omega)) _ | with_reducible refine G.trans ?_ hb12 | with_reducible refine G.trans ?_ hb11 | with_reducible refine G.trans ?_ hb10 | with_reducible refine G.trans ?_ hb9 | with_reducible refine G.trans ?_ hb8 | with_reducible refine G.trans ?_ hb7 | with_reducible refine G.trans ?_ hb6 | with_reducible refine G.trans ?_ hb5 | with_reducible refine G.trans ?_ hb4 | with_reducible refine G.trans ?_ hb3 | with_reducible refine G.trans ?_ hb2 | with_reducible refine G.trans ?_ hb1 | with_reducible refine G.trans ?_ hb | assumption)⟩
  have hs : Hid (checkS e xs = if xs.any badI = true then 2 else if 1 < xs.getD 0 0 then 11 else if xs.getD 0 0 = 1 then 0 else if xs.length = 1 then 4 else if 128 ≤ xs.getD 1 0 then 2 else 0) := by
    unfold Hid checkS; rw [if_neg h12, if_neg (by have := hl.out; omega), if_neg (by have := hl.out; omega)]
  obtain ⟨b, off, x0, rfl, hbl, hx0, hc0⟩ := hx.at0 (by omega)
  have hn0 : 0 < n := by omega
  have hn0i : (0 : Int) < (n : Int) := by omega
  have hg0 : Hid (xs.getD 0 0 = x0) := by unfold Hid; simp [List.getD, hx0]
  clear hx0
  go_enter Tryd.func17, Tryd.ntmps17
  go_wp2
  go_loop [3] (fun i => ∃ k : Nat, k ≤ n ∧ i = .int .i64 k ∧ Hid ((xs.take k).any badI = false)) (fun i => n - (intOf i).toNat)
  case atStart => exact ⟨0, Nat.zero_le _, rfl, rfl⟩
  case round =>
    obtain ⟨k, hk, rfl, hc⟩ := hrel
    by_cases hlt : k < n
    · obtain ⟨x, hxk, hcx⟩ := hx.get hlt
      have hbl1 : b < w.heap.size + 1 := by omega
      by_cases hb1 : x < 0
      · have hr : Hid (checkS e xs = 2) := by
          unfold Hid; rw [hs.out, if_pos]
          exact List.any_eq_true.2 ⟨x, List.mem_of_getElem? hxk, badI_yes1 hb1⟩
        go_wp2
        go_ret
        exact ⟨ret_i hr.out.symm, by repeat (first | with_reducible assumption | with_reducible exact G.refl _ | with_reducible refine G.drew ?_ | with_reducible refine G.drewN ?_ _ | with_reducible refine G.alloc ?_ _ | with_reducible refine Below.setCell ?_ (by first | (simp; done) | (simp; omega)) _ | with_reducible refine G.trans ?_ hb12 | with_reducible refine G.trans ?_ hb11 | with_reducible refine G.trans ?_ hb10 | with_reducible refine G.trans ?_ hb9 | with_reducible refine G.trans ?_ hb8 | with_reducible refine G.trans ?_ hb7 | with_reducible refine G.trans ?_ hb6 | with_reducible refine G.trans ?_ hb5 | with_reducible refine G.trans ?_ hb4 | with_reducible refine G.trans ?_ hb3 | with_reducible refine G.trans ?_ hb2 | with_reducible refine G.trans ?_ hb1 | with_reducible refine G.trans ?_ hb | assumption)⟩
      by_cases hb2 : 65535 < x
      · have hr : Hid (checkS e xs = 2) := by
          unfold Hid; rw [hs.out, if_pos]
          exact List.any_eq_true.2 ⟨x, List.mem_of_getElem? hxk, badI_yes2 hb2⟩
        go_wp2
        go_ret
        exact ⟨ret_i hr.out.symm, by repeat (first | with_reducible assumption | with_reducible exact G.refl _ | with_reducible refine G.drew ?_ | with_reducible refine G.drewN ?_ _ | with_reducible refine G.alloc ?_ _ | with_reducible refine Below.setCell ?_ (by first | (simp; done) | (simp; omega)) _ | with_reducible refine G.trans ?_ hb12 | with_reducible refine G.trans ?_ hb11 | with_reducible refine G.trans ?_ hb10 | with_reducible refine G.trans ?_ hb9 | with_reducible refine G.trans ?_ hb8 | with_reducible refine G.trans ?_ hb7 | with_reducible refine G.trans ?_ hb6 | with_reducible refine G.trans ?_ hb5 | with_reducible refine G.trans ?_ hb4 | with_reducible refine G.trans ?_ hb3 | with_reducible refine G.trans ?_ hb2 | with_reducible refine G.trans ?_ hb1 | with_reducible refine G.trans ?_ hb | assumption)⟩
      · have hr : Hid ((xs.take (k + 1)).any badI = false) := by
          unfold Hid
          rw [List.take_add_one, hxk, List.any_append, hc.out]
          simp [badI_no hb1 hb2]
        go_wp2
        go_round
        case rel => exact ⟨k+1, by omega, by go_num, hr⟩
        case measure => simp [intOf]; omega
    · have hb0 : xs.any badI = false := by
        have := hc.out
        rwa [List.take_of_length_le (by have := hl.out; omega)] at this
      have hs' : Hid (checkS e xs = if 1 < x0 then 11 else if x0 = 1 then 0 else if n = 1 then 4 else if 128 ≤ xs.getD 1 0 then 2 else 0) := by
        unfold Hid; rw [hs.out, if_neg (by simp [hb0]), hg0.out, hl.out]
      have hx00 : 0 ≤ x0 := by
        have hm : x0 ∈ xs := by
          have := hg0.out
          cases xs with
          | nil => have := hl.out; simp at this; omega
          | cons y ys => simp at this; simp [this]
        have := List.any_eq_false.1 hb0 x0 hm
        unfold badI at this
        simp at this
        omega
      have hbl1 : b < w.heap.size + 1 := by omega
      have hkn : k = n := by omega
      clear hb0
      subst hkn
      by_cases h6 : 1 < x0
      · have hr : Hid (checkS e xs = 11) := by unfold Hid; rw [hs'.out, if_pos h6]
        go_wp2
        go_ret
        exact ⟨ret_i hr.out.symm, by repeat (first | with_reducible assumption | with_reducible exact G.refl _ | with_reducible refine G.drew ?_ | with_reducible refine G.drewN ?_ _ | with_reducible refine G.alloc ?_ _ | with_reducible refine Below.setCell ?_ (by first | (simp; done) | (simp; omega)) _ | with_reducible refine G.trans ?_ hb12 | with_reducible refine G.trans ?_ hb11 | with_reducible refine G.trans ?_ hb10 | with_reducible refine G.trans ?_ hb9 | with_reducible refine G.trans ?_ hb8 | with_reducible refine G.trans ?_ hb7 | with_reducible refine G.trans ?_ hb6 | with_reducible refine G.trans ?_ hb5 | with_reducible refine G.trans ?_ hb4 | with_reducible refine G.trans ?_ hb3 | with_reducible refine G.trans ?_ hb2 | with_reducible refine G.trans ?_ hb1 | with_reducible refine G.trans ?_ hb | assumption)⟩
      by_cases h7 : x0 = 1
      · have hr : Hid (checkS e xs = 0) := by unfold Hid; rw [hs'.out, if_neg h6, if_pos h7]
        subst h7
        go_wp2
        go_ret
        exact ⟨ret_i hr.out.symm, by repeat (first | with_reducible assumption | with_reducible exact G.refl _ | with_reducible refine G.drew ?_ | with_reducible refine G.drewN ?_ _ | with_reducible refine G.alloc ?_ _ | with_reducible refine Below.setCell ?_ (by first | (simp; done) | (simp; omega)) _ | with_reducible refine G.trans ?_ hb12 | with_reducible refine G.trans ?_ hb11 | with_reducible refine G.trans ?_ hb10 | with_reducible refine G.trans ?_ hb9 | with_reducible refine G.trans ?_ hb8 | with_reducible refine G.trans ?_ hb7 | with_reducible refine G.trans ?_ hb6 | with_reducible refine G.trans ?_ hb5 | with_reducible refine G.trans ?_ hb4 | with_reducible refine G.trans ?_ hb3 | with_reducible refine G.trans ?_ hb2 | with_reducible refine G.trans ?_ hb1 | with_reducible refine G.trans ?_ hb | assumption)⟩
      have h70 : x0 = 0 := by omega
      subst h70
      by_cases h8 : k = 1
      · have hr : Hid (checkS e xs = 4) := by unfold Hid; rw [hs'.out, if_neg h6, if_neg h7, if_pos h8]
        subst h8
        go_wp2
        go_ret
        exact ⟨ret_i hr.out.symm, by repeat (first | with_reducible assumption | with_reducible exact G.refl _ | with_reducible refine G.drew ?_ | with_reducible refine G.drewN ?_ _ | with_reducible refine G.alloc ?_ _ | with_reducible refine Below.setCell ?_ (by first | (simp; done) | (simp; omega)) _ | with_reducible refine G.trans ?_ hb12 | with_reducible refine G.trans ?_ hb11 | with_reducible refine G.trans ?_ hb10 | with_reducible refine G.trans ?_ hb9 | with_reducible refine G.trans ?_ hb8 | with_reducible refine G.trans ?_ hb7 | with_reducible refine G.trans ?_ hb6 | with_reducible refine G.trans ?_ hb5 | with_reducible refine G.trans ?_ hb4 | with_reducible refine G.trans ?_ hb3 | with_reducible refine G.trans ?_ hb2 | with_reducible refine G.trans ?_ hb1 | with_reducible refine G.trans ?_ hb | assumption)⟩
      have h8' : ¬ (k : Int) < 2 := by omega
      have h8n : 1 < k := by omega
      have h8i : (1 : Int) < (k : Int) := by omega
      obtain ⟨x1, hx1, hc1⟩ := hx.get (k := 1) h8n
      have hg1 : Hid (xs.getD 1 0 = x1) := by unfold Hid; simp [List.getD, hx1]
      clear hx1
      by_cases h9 : 128 ≤ x1
      · have hr : Hid (checkS e xs = 2) := by unfold Hid; rw [hs'.out, if_neg h6, if_neg h7, if_neg h8, hg1.out, if_pos h9]
        go_wp2
        go_ret
        exact ⟨ret_i hr.out.symm, by repeat (first | with_reducible assumption | with_reducible exact G.refl _ | with_reducible refine G.drew ?_ | with_reducible refine G.drewN ?_ _ | with_reducible refine G.alloc ?_ _ | with_reducible refine Below.setCell ?_ (by first | (simp; done) | (simp; omega)) _ | with_reducible refine G.trans ?_ hb12 | with_reducible refine G.trans ?_ hb11 | with_reducible refine G.trans ?_ hb10 | with_reducible refine G.trans ?_ hb9 | with_reducible refine G.trans ?_ hb8 | with_reducible refine G.trans ?_ hb7 | with_reducible refine G.trans ?_ hb6 | with_reducible refine G.trans ?_ hb5 | with_reducible refine G.trans ?_ hb4 | with_reducible refine G.trans ?_ hb3 | with_reducible refine G.trans ?_ hb2 | with_reducible refine G.trans ?_ hb1 | with_reducible refine G.trans ?_ hb | assumption)⟩
      · have hr : Hid (checkS e xs = 0) := by unfold Hid; rw [hs'.out, if_neg h6, if_neg h7, if_neg h8, hg1.out, if_neg h9]
        go_wp2
        go_ret
        exact ⟨ret_i hr.out.symm, by repeat (first | with_reducible assumption | with_reducible exact G.refl _ | with_reducible refine G.drew ?_ | with_reducible refine G.drewN ?_ _ | with_reducible refine G.alloc ?_ _ | with_reducible refine Below.setCell ?_ (by first | (simp; done) | (simp; omega)) _ | with_reducible refine G.trans ?_ hb12 | with_reducible refine G.trans ?_ hb11 | with_reducible refine G.trans ?_ hb10 | with_reducible refine G.trans ?_ hb9 | with_reducible refine G.trans ?_ hb8 | with_reducible refine G.trans ?_ hb7 | with_reducible refine G.trans ?_ hb6 | with_reducible refine G.trans ?_ hb5 | with_reducible refine G.trans ?_ hb4 | with_reducible refine G.trans ?_ hb3 | with_reducible refine G.trans ?_ hb2 | with_reducible refine G.trans ?_ hb1 | with_reducible refine G.trans ?_ hb | assumption)⟩
end Go.Proofs.YtjldpodehffbnaaDoor
