/- What the model of layer 28 computes: less, same, compare, begins, descends; and stamp.Descends. -/
import Derived.Test.YtjldpodehffbnaaDoorStamp3
namespace Go.Proofs.YtjldpodehffbnaaDoor
set_option linter.unusedVariables false
set_option linter.unnecessarySimpa false
set_option linter.unusedSimpArgs false
open Go.RowKit

theorem dec_lt {a b : Int} : decide (cmpI a b < 0) = decide (a < b) := by
  unfold cmpI; split
  · simp [*]
  · split <;> simp [*]

set_option maxRecDepth 20000 in set_option maxHeartbeats 400000 in
theorem less_any (e f : Int) (A B : Option Addr) (n m c d : Nat) (xs ys : List Int) (w : World) (hx : Sl w A n (i64s xs)) (hy : Sl w B m (i64s ys)) (hn : n ≤ maxLen) :
    Calls Tryd.prog 27 #[.agg #[.int .i64 e, .slice A n c], .agg #[.int .i64 f, .slice B m d]] w fun e' w' => e' = .returned (.bool (decide (cmpS e xs f ys < 0))) ∧ Below w.heap.size w w' := by
  unfold maxLen at hn
  by_cases hef : e = f
  · subst hef
    have hne : (e != e) = false := by simp
    rw [cmpS_same]
    have hlx := Lib.hid hx.len
    have hly := Lib.hid hy.len
    go_enter Tryd.func27, Tryd.ntmps27
    go_wp2
    obtain ⟨w0, hw0⟩ : ∃ w0, (w.alloc (Obj.cells #[Value.int IntKind.i64 e, Value.slice A n c] 24)).alloc (Obj.cells #[Value.int IntKind.i64 e, Value.slice B m d] 24) = w0 := ⟨_, rfl⟩
    have hb : Below w.heap.size w w0 := by subst hw0; repeat (first | with_reducible assumption | with_reducible exact G.refl _ | with_reducible refine G.drew ?_ | with_reducible refine G.drewN ?_ _ | with_reducible refine G.alloc ?_ _ | with_reducible refine Below.setCell ?_ (by first | (simp; done) | (simp; omega)) _ | with_reducible refine G.trans ?_ hb12 | with_reducible refine G.trans ?_ hb11 | with_reducible refine G.trans ?_ hb10 | with_reducible refine G.trans ?_ hb9 | with_reducible refine G.trans ?_ hb8 | with_reducible refine G.trans ?_ hb7 | with_reducible refine G.trans ?_ hb6 | with_reducible refine G.trans ?_ hb5 | with_reducible refine G.trans ?_ hb4 | with_reducible refine G.trans ?_ hb3 | with_reducible refine G.trans ?_ hb2 | with_reducible refine G.trans ?_ hb1 | with_reducible refine G.trans ?_ hb | assumption)
    have k1 : w0.cell? ⟨w.heap.size, 1, none⟩ = some (.slice A n c) := by subst hw0; go_simp
    have k2 : w0.cell? ⟨w.heap.size + 1, 1, none⟩ = some (.slice B m d) := by subst hw0; go_simp
    have hx := hx.grow hb
    have hy := hy.grow hb
    rw [hw0]
    clear hw0
    go_loopw [5] (fun i wr => ∃ k : Nat, k ≤ n ∧ k ≤ m ∧ i = .int .i64 k ∧ Hid (cmpL xs ys = cmpL (xs.drop k) (ys.drop k)) ∧ Drawn w0 wr) (fun i _ => n - (intOf i).toNat)
    case atStart => exact ⟨0, Nat.zero_le _, Nat.zero_le _, rfl, rfl, 0, rfl⟩
    case round =>
      obtain ⟨k, hk, hkm, rfl, hc, q, rfl⟩ := hrel
      by_cases hlt : k < n
      · obtain ⟨bx, ox, x, rfl, hbx, hxk, hcx⟩ := hx.at_ hlt
        have hdx : Hid (xs.drop k = x :: xs.drop (k+1)) := drop_at hxk
        by_cases hltm : k < m
        · obtain ⟨bz, oy, y, rfl, hby, hyk, hcy⟩ := hy.at_ hltm
          have hdy : Hid (ys.drop k = y :: ys.drop (k+1)) := drop_at hyk
          by_cases hxy : x = y
          · subst hxy
            have hs : Hid (cmpL xs ys = cmpL (xs.drop (k+1)) (ys.drop (k+1))) := by unfold Hid; rw [hc.out, hdx.out, hdy.out, cmpL, if_pos (cmpI_zero.2 rfl)]
            go_wp2
            go_quiet (fail)
            go_wp2
            go_roundw
            case rel => exact ⟨k+1, by omega, by omega, by go_num, hs, by repeat (first | assumption | exact Drawn.refl _ | exact Drawn.n _ _ | refine Drawn.drewN ?_ _ | refine Drawn.drew ?_)⟩
            case measure => simp [intOf]; omega
          · have hs : Hid (cmpL xs ys = cmpI x y) := by unfold Hid; rw [hc.out, hdx.out, hdy.out, cmpL, if_neg (fun h => hxy (cmpI_zero.1 h))]
            have hne : (x != y) = true := by simp [hxy]
            clear hxy
            go_wp2
            go_quiet (fail)
            go_wp2
            go_quiet (fail)
            go_wp2
            go_ret
            exact ⟨ret_b (by rw [hs.out, dec_lt]), by repeat (first | with_reducible assumption | with_reducible exact G.refl _ | with_reducible refine G.drew ?_ | with_reducible refine G.drewN ?_ _ | with_reducible refine G.alloc ?_ _ | with_reducible refine Below.setCell ?_ (by first | (simp; done) | (simp; omega)) _ | with_reducible refine G.trans ?_ hb12 | with_reducible refine G.trans ?_ hb11 | with_reducible refine G.trans ?_ hb10 | with_reducible refine G.trans ?_ hb9 | with_reducible refine G.trans ?_ hb8 | with_reducible refine G.trans ?_ hb7 | with_reducible refine G.trans ?_ hb6 | with_reducible refine G.trans ?_ hb5 | with_reducible refine G.trans ?_ hb4 | with_reducible refine G.trans ?_ hb3 | with_reducible refine G.trans ?_ hb2 | with_reducible refine G.trans ?_ hb1 | with_reducible refine G.trans ?_ hb | assumption)⟩
        · have hs : Hid (cmpL xs ys = 1) := by
            unfold Hid; rw [hc.out, hdx.out, List.drop_of_length_le (l := ys) (by have := hly.out; omega), cmpL]
          go_wp2
          go_ret
          exact ⟨ret_b (by rw [hs.out]; first | (simp; done) | (simp; omega)), by repeat (first | with_reducible assumption | with_reducible exact G.refl _ | with_reducible refine G.drew ?_ | with_reducible refine G.drewN ?_ _ | with_reducible refine G.alloc ?_ _ | with_reducible refine Below.setCell ?_ (by first | (simp; done) | (simp; omega)) _ | with_reducible refine G.trans ?_ hb12 | with_reducible refine G.trans ?_ hb11 | with_reducible refine G.trans ?_ hb10 | with_reducible refine G.trans ?_ hb9 | with_reducible refine G.trans ?_ hb8 | with_reducible refine G.trans ?_ hb7 | with_reducible refine G.trans ?_ hb6 | with_reducible refine G.trans ?_ hb5 | with_reducible refine G.trans ?_ hb4 | with_reducible refine G.trans ?_ hb3 | with_reducible refine G.trans ?_ hb2 | with_reducible refine G.trans ?_ hb1 | with_reducible refine G.trans ?_ hb | assumption)⟩
      · have hx0 : xs.drop k = [] := List.drop_of_length_le (by have := hlx.out; omega)
        have hkn : k = n := by omega
        subst hkn
        by_cases hltm : k < m
        · obtain ⟨bz, oy, y, rfl, hby, hyk, hcy⟩ := hy.at_ hltm
          have hs : Hid (cmpL xs ys = -1) := by
            unfold Hid; rw [hc.out, hx0, drop_at hyk, cmpL]
          clear hx0
          go_wp2
          go_ret
          exact ⟨ret_b (by rw [hs.out]; first | (simp; done) | (simp; omega)), by repeat (first | with_reducible assumption | with_reducible exact G.refl _ | with_reducible refine G.drew ?_ | with_reducible refine G.drewN ?_ _ | with_reducible refine G.alloc ?_ _ | with_reducible refine Below.setCell ?_ (by first | (simp; done) | (simp; omega)) _ | with_reducible refine G.trans ?_ hb12 | with_reducible refine G.trans ?_ hb11 | with_reducible refine G.trans ?_ hb10 | with_reducible refine G.trans ?_ hb9 | with_reducible refine G.trans ?_ hb8 | with_reducible refine G.trans ?_ hb7 | with_reducible refine G.trans ?_ hb6 | with_reducible refine G.trans ?_ hb5 | with_reducible refine G.trans ?_ hb4 | with_reducible refine G.trans ?_ hb3 | with_reducible refine G.trans ?_ hb2 | with_reducible refine G.trans ?_ hb1 | with_reducible refine G.trans ?_ hb | assumption)⟩
        · have hs : Hid (cmpL xs ys = 0) := by
            unfold Hid; rw [hc.out, hx0, List.drop_of_length_le (l := ys) (by have := hly.out; omega), cmpL]
          clear hx0
          go_wp2
          go_ret
          exact ⟨ret_b (by rw [hs.out]; first | (simp; done) | (simp; omega)), by repeat (first | with_reducible assumption | with_reducible exact G.refl _ | with_reducible refine G.drew ?_ | with_reducible refine G.drewN ?_ _ | with_reducible refine G.alloc ?_ _ | with_reducible refine Below.setCell ?_ (by first | (simp; done) | (simp; omega)) _ | with_reducible refine G.trans ?_ hb12 | with_reducible refine G.trans ?_ hb11 | with_reducible refine G.trans ?_ hb10 | with_reducible refine G.trans ?_ hb9 | with_reducible refine G.trans ?_ hb8 | with_reducible refine G.trans ?_ hb7 | with_reducible refine G.trans ?_ hb6 | with_reducible refine G.trans ?_ hb5 | with_reducible refine G.trans ?_ hb4 | with_reducible refine G.trans ?_ hb3 | with_reducible refine G.trans ?_ hb2 | with_reducible refine G.trans ?_ hb1 | with_reducible refine G.trans ?_ hb | assumption)⟩
  · have hs : Hid (cmpS e xs f ys = cmpI e f) := cmpS_ne hef
    have hne : (e != f) = true := by simp [hef]
    clear hef
    go_enter Tryd.func27, Tryd.ntmps27
    go_wp2
    go_ret
    exact ⟨ret_b (by rw [hs.out, dec_lt]), by repeat (first | with_reducible assumption | with_reducible exact G.refl _ | with_reducible refine G.drew ?_ | with_reducible refine G.drewN ?_ _ | with_reducible refine G.alloc ?_ _ | with_reducible refine Below.setCell ?_ (by first | (simp; done) | (simp; omega)) _ | with_reducible refine G.trans ?_ hb12 | with_reducible refine G.trans ?_ hb11 | with_reducible refine G.trans ?_ hb10 | with_reducible refine G.trans ?_ hb9 | with_reducible refine G.trans ?_ hb8 | with_reducible refine G.trans ?_ hb7 | with_reducible refine G.trans ?_ hb6 | with_reducible refine G.trans ?_ hb5 | with_reducible refine G.trans ?_ hb4 | with_reducible refine G.trans ?_ hb3 | with_reducible refine G.trans ?_ hb2 | with_reducible refine G.trans ?_ hb1 | with_reducible refine G.trans ?_ hb | assumption)⟩

set_option maxRecDepth 20000 in set_option maxHeartbeats 400000 in
theorem same_any (e f : Int) (A B : Option Addr) (n m c d : Nat) (xs ys : List Int) (w : World) (hx : Sl w A n (i64s xs)) (hy : Sl w B m (i64s ys)) (hn : n ≤ maxLen) (hm : m ≤ maxLen) :
    Calls Tryd.prog 23 #[.agg #[.int .i64 e, .slice A n c], .agg #[.int .i64 f, .slice B m d]] w fun e' w' => e' = .returned (.bool (decide (cmpS e xs f ys = 0))) ∧ Below w.heap.size w w' := by
  have L1 := fun w hx hy => less_any e f A B n m c d xs ys w hx hy hn
  have L2 := fun w hy hx => less_any f e B A m n d c ys xs w hy hx hm
  rw [cmpS_neg e f xs ys] at L2
  have hcs := cmpS_cases e f xs ys
  generalize cmpS e xs f ys = z at *
  have hn' := hn; have hm' := hm
  have L1' := Lib.hid L1; have L2' := Lib.hid L2
  clear L1 L2
  rcases hcs with rfl | rfl | rfl
  · go_enter Tryd.func23, Tryd.ntmps23
    go_wp2_with (go_at_call 27; refine (L1'.out _ ?g1 ?g2).mono ?_; (case g1 => (repeat (first | with_reducible assumption | with_reducible exact Sl.new' (by simp; done) (by simp; done) (by simp; done) | with_reducible refine Sl.drew ?_ | with_reducible refine Sl.drewN ?_ _ | with_reducible refine Sl.alloc ?_ _ | with_reducible refine Sl.grow ?_ hb12 | with_reducible refine Sl.grow ?_ hb11 | with_reducible refine Sl.grow ?_ hb10 | with_reducible refine Sl.grow ?_ hb9 | with_reducible refine Sl.grow ?_ hb8 | with_reducible refine Sl.grow ?_ hb7 | with_reducible refine Sl.grow ?_ hb6 | with_reducible refine Sl.grow ?_ hb5 | with_reducible refine Sl.grow ?_ hb4 | with_reducible refine Sl.grow ?_ hb3 | with_reducible refine Sl.grow ?_ hb2 | with_reducible refine Sl.grow ?_ hb1 | with_reducible refine Sl.grow ?_ hb | assumption))); (case g2 => (repeat (first | with_reducible assumption | with_reducible exact Sl.new' (by simp; done) (by simp; done) (by simp; done) | with_reducible refine Sl.drew ?_ | with_reducible refine Sl.drewN ?_ _ | with_reducible refine Sl.alloc ?_ _ | with_reducible refine Sl.grow ?_ hb12 | with_reducible refine Sl.grow ?_ hb11 | with_reducible refine Sl.grow ?_ hb10 | with_reducible refine Sl.grow ?_ hb9 | with_reducible refine Sl.grow ?_ hb8 | with_reducible refine Sl.grow ?_ hb7 | with_reducible refine Sl.grow ?_ hb6 | with_reducible refine Sl.grow ?_ hb5 | with_reducible refine Sl.grow ?_ hb4 | with_reducible refine Sl.grow ?_ hb3 | with_reducible refine Sl.grow ?_ hb2 | with_reducible refine Sl.grow ?_ hb1 | with_reducible refine Sl.grow ?_ hb | assumption))); rintro e w1 ⟨rfl, hb⟩)
    go_ret
    exact ⟨rfl, G.trans (by repeat (first | with_reducible assumption | with_reducible exact G.refl _ | with_reducible refine G.drew ?_ | with_reducible refine G.drewN ?_ _ | with_reducible refine G.alloc ?_ _ | with_reducible refine Below.setCell ?_ (by first | (simp; done) | (simp; omega)) _ | with_reducible refine G.trans ?_ hb12 | with_reducible refine G.trans ?_ hb11 | with_reducible refine G.trans ?_ hb10 | with_reducible refine G.trans ?_ hb9 | with_reducible refine G.trans ?_ hb8 | with_reducible refine G.trans ?_ hb7 | with_reducible refine G.trans ?_ hb6 | with_reducible refine G.trans ?_ hb5 | with_reducible refine G.trans ?_ hb4 | with_reducible refine G.trans ?_ hb3 | with_reducible refine G.trans ?_ hb2 | with_reducible refine G.trans ?_ hb1 | with_reducible refine G.trans ?_ hb | assumption)) hb⟩
  · go_enter Tryd.func23, Tryd.ntmps23
    go_wp2_with fail
    refine (L1'.out _ ?g1 ?g2).mono ?_
    case g1 => (repeat (first | with_reducible assumption | with_reducible exact Sl.new' (by simp; done) (by simp; done) (by simp; done) | with_reducible refine Sl.drew ?_ | with_reducible refine Sl.drewN ?_ _ | with_reducible refine Sl.alloc ?_ _ | with_reducible refine Sl.grow ?_ hb12 | with_reducible refine Sl.grow ?_ hb11 | with_reducible refine Sl.grow ?_ hb10 | with_reducible refine Sl.grow ?_ hb9 | with_reducible refine Sl.grow ?_ hb8 | with_reducible refine Sl.grow ?_ hb7 | with_reducible refine Sl.grow ?_ hb6 | with_reducible refine Sl.grow ?_ hb5 | with_reducible refine Sl.grow ?_ hb4 | with_reducible refine Sl.grow ?_ hb3 | with_reducible refine Sl.grow ?_ hb2 | with_reducible refine Sl.grow ?_ hb1 | with_reducible refine Sl.grow ?_ hb | assumption))
    case g2 => (repeat (first | with_reducible assumption | with_reducible exact Sl.new' (by simp; done) (by simp; done) (by simp; done) | with_reducible refine Sl.drew ?_ | with_reducible refine Sl.drewN ?_ _ | with_reducible refine Sl.alloc ?_ _ | with_reducible refine Sl.grow ?_ hb12 | with_reducible refine Sl.grow ?_ hb11 | with_reducible refine Sl.grow ?_ hb10 | with_reducible refine Sl.grow ?_ hb9 | with_reducible refine Sl.grow ?_ hb8 | with_reducible refine Sl.grow ?_ hb7 | with_reducible refine Sl.grow ?_ hb6 | with_reducible refine Sl.grow ?_ hb5 | with_reducible refine Sl.grow ?_ hb4 | with_reducible refine Sl.grow ?_ hb3 | with_reducible refine Sl.grow ?_ hb2 | with_reducible refine Sl.grow ?_ hb1 | with_reducible refine Sl.grow ?_ hb | assumption))
    rintro e w1 ⟨rfl, hb⟩
    obtain ⟨hc, hf⟩ := G.old hb
    go_wp2_with fail
    refine (L2'.out _ ?g3 ?g4).mono ?_
    case g3 => exact Sl.grow (by repeat (first | with_reducible assumption | with_reducible exact Sl.new' (by simp; done) (by simp; done) (by simp; done) | with_reducible refine Sl.drew ?_ | with_reducible refine Sl.drewN ?_ _ | with_reducible refine Sl.alloc ?_ _ | with_reducible refine Sl.grow ?_ hb12 | with_reducible refine Sl.grow ?_ hb11 | with_reducible refine Sl.grow ?_ hb10 | with_reducible refine Sl.grow ?_ hb9 | with_reducible refine Sl.grow ?_ hb8 | with_reducible refine Sl.grow ?_ hb7 | with_reducible refine Sl.grow ?_ hb6 | with_reducible refine Sl.grow ?_ hb5 | with_reducible refine Sl.grow ?_ hb4 | with_reducible refine Sl.grow ?_ hb3 | with_reducible refine Sl.grow ?_ hb2 | with_reducible refine Sl.grow ?_ hb1 | with_reducible refine Sl.grow ?_ hb | assumption)) hb
    case g4 => exact Sl.grow (by repeat (first | with_reducible assumption | with_reducible exact Sl.new' (by simp; done) (by simp; done) (by simp; done) | with_reducible refine Sl.drew ?_ | with_reducible refine Sl.drewN ?_ _ | with_reducible refine Sl.alloc ?_ _ | with_reducible refine Sl.grow ?_ hb12 | with_reducible refine Sl.grow ?_ hb11 | with_reducible refine Sl.grow ?_ hb10 | with_reducible refine Sl.grow ?_ hb9 | with_reducible refine Sl.grow ?_ hb8 | with_reducible refine Sl.grow ?_ hb7 | with_reducible refine Sl.grow ?_ hb6 | with_reducible refine Sl.grow ?_ hb5 | with_reducible refine Sl.grow ?_ hb4 | with_reducible refine Sl.grow ?_ hb3 | with_reducible refine Sl.grow ?_ hb2 | with_reducible refine Sl.grow ?_ hb1 | with_reducible refine Sl.grow ?_ hb | assumption)) hb
    rintro e w2 ⟨rfl, hb2⟩
    go_wp2
    go_ret
    exact ⟨rfl, G.trans (G.trans (by repeat (first | with_reducible assumption | with_reducible exact G.refl _ | with_reducible refine G.drew ?_ | with_reducible refine G.drewN ?_ _ | with_reducible refine G.alloc ?_ _ | with_reducible refine Below.setCell ?_ (by first | (simp; done) | (simp; omega)) _ | with_reducible refine G.trans ?_ hb12 | with_reducible refine G.trans ?_ hb11 | with_reducible refine G.trans ?_ hb10 | with_reducible refine G.trans ?_ hb9 | with_reducible refine G.trans ?_ hb8 | with_reducible refine G.trans ?_ hb7 | with_reducible refine G.trans ?_ hb6 | with_reducible refine G.trans ?_ hb5 | with_reducible refine G.trans ?_ hb4 | with_reducible refine G.trans ?_ hb3 | with_reducible refine G.trans ?_ hb2 | with_reducible refine G.trans ?_ hb1 | with_reducible refine G.trans ?_ hb | assumption)) hb) hb2⟩
  · go_enter Tryd.func23, Tryd.ntmps23
    go_wp2_with fail
    refine (L1'.out _ ?g1 ?g2).mono ?_
    case g1 => (repeat (first | with_reducible assumption | with_reducible exact Sl.new' (by simp; done) (by simp; done) (by simp; done) | with_reducible refine Sl.drew ?_ | with_reducible refine Sl.drewN ?_ _ | with_reducible refine Sl.alloc ?_ _ | with_reducible refine Sl.grow ?_ hb12 | with_reducible refine Sl.grow ?_ hb11 | with_reducible refine Sl.grow ?_ hb10 | with_reducible refine Sl.grow ?_ hb9 | with_reducible refine Sl.grow ?_ hb8 | with_reducible refine Sl.grow ?_ hb7 | with_reducible refine Sl.grow ?_ hb6 | with_reducible refine Sl.grow ?_ hb5 | with_reducible refine Sl.grow ?_ hb4 | with_reducible refine Sl.grow ?_ hb3 | with_reducible refine Sl.grow ?_ hb2 | with_reducible refine Sl.grow ?_ hb1 | with_reducible refine Sl.grow ?_ hb | assumption))
    case g2 => (repeat (first | with_reducible assumption | with_reducible exact Sl.new' (by simp; done) (by simp; done) (by simp; done) | with_reducible refine Sl.drew ?_ | with_reducible refine Sl.drewN ?_ _ | with_reducible refine Sl.alloc ?_ _ | with_reducible refine Sl.grow ?_ hb12 | with_reducible refine Sl.grow ?_ hb11 | with_reducible refine Sl.grow ?_ hb10 | with_reducible refine Sl.grow ?_ hb9 | with_reducible refine Sl.grow ?_ hb8 | with_reducible refine Sl.grow ?_ hb7 | with_reducible refine Sl.grow ?_ hb6 | with_reducible refine Sl.grow ?_ hb5 | with_reducible refine Sl.grow ?_ hb4 | with_reducible refine Sl.grow ?_ hb3 | with_reducible refine Sl.grow ?_ hb2 | with_reducible refine Sl.grow ?_ hb1 | with_reducible refine Sl.grow ?_ hb | assumption))
    rintro e w1 ⟨rfl, hb⟩
    obtain ⟨hc, hf⟩ := G.old hb
    go_wp2_with fail
    refine (L2'.out _ ?g3 ?g4).mono ?_
    case g3 => exact Sl.grow (by repeat (first | with_reducible assumption | with_reducible exact Sl.new' (by simp; done) (by simp; done) (by simp; done) | with_reducible refine Sl.drew ?_ | with_reducible refine Sl.drewN ?_ _ | with_reducible refine Sl.alloc ?_ _ | with_reducible refine Sl.grow ?_ hb12 | with_reducible refine Sl.grow ?_ hb11 | with_reducible refine Sl.grow ?_ hb10 | with_reducible refine Sl.grow ?_ hb9 | with_reducible refine Sl.grow ?_ hb8 | with_reducible refine Sl.grow ?_ hb7 | with_reducible refine Sl.grow ?_ hb6 | with_reducible refine Sl.grow ?_ hb5 | with_reducible refine Sl.grow ?_ hb4 | with_reducible refine Sl.grow ?_ hb3 | with_reducible refine Sl.grow ?_ hb2 | with_reducible refine Sl.grow ?_ hb1 | with_reducible refine Sl.grow ?_ hb | assumption)) hb
    case g4 => exact Sl.grow (by repeat (first | with_reducible assumption | with_reducible exact Sl.new' (by simp; done) (by simp; done) (by simp; done) | with_reducible refine Sl.drew ?_ | with_reducible refine Sl.drewN ?_ _ | with_reducible refine Sl.alloc ?_ _ | with_reducible refine Sl.grow ?_ hb12 | with_reducible refine Sl.grow ?_ hb11 | with_reducible refine Sl.grow ?_ hb10 | with_reducible refine Sl.grow ?_ hb9 | with_reducible refine Sl.grow ?_ hb8 | with_reducible refine Sl.grow ?_ hb7 | with_reducible refine Sl.grow ?_ hb6 | with_reducible refine Sl.grow ?_ hb5 | with_reducible refine Sl.grow ?_ hb4 | with_reducible refine Sl.grow ?_ hb3 | with_reducible refine Sl.grow ?_ hb2 | with_reducible refine Sl.grow ?_ hb1 | with_reducible refine Sl.grow ?_ hb | assumption)) hb
    rintro e w2 ⟨rfl, hb2⟩
    go_wp2
    go_ret
    exact ⟨rfl, G.trans (G.trans (by repeat (first | with_reducible assumption | with_reducible exact G.refl _ | with_reducible refine G.drew ?_ | with_reducible refine G.drewN ?_ _ | with_reducible refine G.alloc ?_ _ | with_reducible refine Below.setCell ?_ (by first | (simp; done) | (simp; omega)) _ | with_reducible refine G.trans ?_ hb12 | with_reducible refine G.trans ?_ hb11 | with_reducible refine G.trans ?_ hb10 | with_reducible refine G.trans ?_ hb9 | with_reducible refine G.trans ?_ hb8 | with_reducible refine G.trans ?_ hb7 | with_reducible refine G.trans ?_ hb6 | with_reducible refine G.trans ?_ hb5 | with_reducible refine G.trans ?_ hb4 | with_reducible refine G.trans ?_ hb3 | with_reducible refine G.trans ?_ hb2 | with_reducible refine G.trans ?_ hb1 | with_reducible refine G.trans ?_ hb | assumption)) hb) hb2⟩

set_option maxRecDepth 20000 in set_option maxHeartbeats 400000 in
theorem lcompare_any (e f : Int) (A B : Option Addr) (n m c d : Nat) (xs ys : List Int) (w : World) (hx : Sl w A n (i64s xs)) (hy : Sl w B m (i64s ys)) (hn : n ≤ maxLen) (hm : m ≤ maxLen) :
    Calls Tryd.prog 25 #[.agg #[.int .i64 e, .slice A n c], .agg #[.int .i64 f, .slice B m d]] w fun e' w' => e' = .returned (.int .i64 (cmpS e xs f ys)) ∧ Below w.heap.size w w' := by
  have L1 := fun w hx hy => less_any e f A B n m c d xs ys w hx hy hn
  have L2 := fun w hy hx => less_any f e B A m n d c ys xs w hy hx hm
  rw [cmpS_neg e f xs ys] at L2
  have hcs := cmpS_cases e f xs ys
  generalize cmpS e xs f ys = z at *
  have L1' := Lib.hid L1; have L2' := Lib.hid L2
  clear L1 L2
  rcases hcs with rfl | rfl | rfl
  · go_enter Tryd.func25, Tryd.ntmps25
    go_wp2_with (go_at_call 27; refine (L1'.out _ ?g1 ?g2).mono ?_; (case g1 => (repeat (first | with_reducible assumption | with_reducible exact Sl.new' (by simp; done) (by simp; done) (by simp; done) | with_reducible refine Sl.drew ?_ | with_reducible refine Sl.drewN ?_ _ | with_reducible refine Sl.alloc ?_ _ | with_reducible refine Sl.grow ?_ hb12 | with_reducible refine Sl.grow ?_ hb11 | with_reducible refine Sl.grow ?_ hb10 | with_reducible refine Sl.grow ?_ hb9 | with_reducible refine Sl.grow ?_ hb8 | with_reducible refine Sl.grow ?_ hb7 | with_reducible refine Sl.grow ?_ hb6 | with_reducible refine Sl.grow ?_ hb5 | with_reducible refine Sl.grow ?_ hb4 | with_reducible refine Sl.grow ?_ hb3 | with_reducible refine Sl.grow ?_ hb2 | with_reducible refine Sl.grow ?_ hb1 | with_reducible refine Sl.grow ?_ hb | assumption))); (case g2 => (repeat (first | with_reducible assumption | with_reducible exact Sl.new' (by simp; done) (by simp; done) (by simp; done) | with_reducible refine Sl.drew ?_ | with_reducible refine Sl.drewN ?_ _ | with_reducible refine Sl.alloc ?_ _ | with_reducible refine Sl.grow ?_ hb12 | with_reducible refine Sl.grow ?_ hb11 | with_reducible refine Sl.grow ?_ hb10 | with_reducible refine Sl.grow ?_ hb9 | with_reducible refine Sl.grow ?_ hb8 | with_reducible refine Sl.grow ?_ hb7 | with_reducible refine Sl.grow ?_ hb6 | with_reducible refine Sl.grow ?_ hb5 | with_reducible refine Sl.grow ?_ hb4 | with_reducible refine Sl.grow ?_ hb3 | with_reducible refine Sl.grow ?_ hb2 | with_reducible refine Sl.grow ?_ hb1 | with_reducible refine Sl.grow ?_ hb | assumption))); rintro e w1 ⟨rfl, hb⟩)
    go_ret
    exact ⟨rfl, G.trans (by repeat (first | with_reducible assumption | with_reducible exact G.refl _ | with_reducible refine G.drew ?_ | with_reducible refine G.drewN ?_ _ | with_reducible refine G.alloc ?_ _ | with_reducible refine Below.setCell ?_ (by first | (simp; done) | (simp; omega)) _ | with_reducible refine G.trans ?_ hb12 | with_reducible refine G.trans ?_ hb11 | with_reducible refine G.trans ?_ hb10 | with_reducible refine G.trans ?_ hb9 | with_reducible refine G.trans ?_ hb8 | with_reducible refine G.trans ?_ hb7 | with_reducible refine G.trans ?_ hb6 | with_reducible refine G.trans ?_ hb5 | with_reducible refine G.trans ?_ hb4 | with_reducible refine G.trans ?_ hb3 | with_reducible refine G.trans ?_ hb2 | with_reducible refine G.trans ?_ hb1 | with_reducible refine G.trans ?_ hb | assumption)) hb⟩
  all_goals
    go_enter Tryd.func25, Tryd.ntmps25
    go_wp2_with fail
    refine (L1'.out _ ?_ ?_).mono ?_
    · (repeat (first | with_reducible assumption | with_reducible exact Sl.new' (by simp; done) (by simp; done) (by simp; done) | with_reducible refine Sl.drew ?_ | with_reducible refine Sl.drewN ?_ _ | with_reducible refine Sl.alloc ?_ _ | with_reducible refine Sl.grow ?_ hb12 | with_reducible refine Sl.grow ?_ hb11 | with_reducible refine Sl.grow ?_ hb10 | with_reducible refine Sl.grow ?_ hb9 | with_reducible refine Sl.grow ?_ hb8 | with_reducible refine Sl.grow ?_ hb7 | with_reducible refine Sl.grow ?_ hb6 | with_reducible refine Sl.grow ?_ hb5 | with_reducible refine Sl.grow ?_ hb4 | with_reducible refine Sl.grow ?_ hb3 | with_reducible refine Sl.grow ?_ hb2 | with_reducible refine Sl.grow ?_ hb1 | with_reducible refine Sl.grow ?_ hb | assumption))
    · (repeat (first | with_reducible assumption | with_reducible exact Sl.new' (by simp; done) (by simp; done) (by simp; done) | with_reducible refine Sl.drew ?_ | with_reducible refine Sl.drewN ?_ _ | with_reducible refine Sl.alloc ?_ _ | with_reducible refine Sl.grow ?_ hb12 | with_reducible refine Sl.grow ?_ hb11 | with_reducible refine Sl.grow ?_ hb10 | with_reducible refine Sl.grow ?_ hb9 | with_reducible refine Sl.grow ?_ hb8 | with_reducible refine Sl.grow ?_ hb7 | with_reducible refine Sl.grow ?_ hb6 | with_reducible refine Sl.grow ?_ hb5 | with_reducible refine Sl.grow ?_ hb4 | with_reducible refine Sl.grow ?_ hb3 | with_reducible refine Sl.grow ?_ hb2 | with_reducible refine Sl.grow ?_ hb1 | with_reducible refine Sl.grow ?_ hb | assumption))
    rintro e w1 ⟨rfl, hb⟩
    obtain ⟨hc, hf⟩ := G.old hb
    go_wp2_with fail
    refine (L2'.out _ ?_ ?_).mono ?_
    · exact Sl.grow (by repeat (first | with_reducible assumption | with_reducible exact Sl.new' (by simp; done) (by simp; done) (by simp; done) | with_reducible refine Sl.drew ?_ | with_reducible refine Sl.drewN ?_ _ | with_reducible refine Sl.alloc ?_ _ | with_reducible refine Sl.grow ?_ hb12 | with_reducible refine Sl.grow ?_ hb11 | with_reducible refine Sl.grow ?_ hb10 | with_reducible refine Sl.grow ?_ hb9 | with_reducible refine Sl.grow ?_ hb8 | with_reducible refine Sl.grow ?_ hb7 | with_reducible refine Sl.grow ?_ hb6 | with_reducible refine Sl.grow ?_ hb5 | with_reducible refine Sl.grow ?_ hb4 | with_reducible refine Sl.grow ?_ hb3 | with_reducible refine Sl.grow ?_ hb2 | with_reducible refine Sl.grow ?_ hb1 | with_reducible refine Sl.grow ?_ hb | assumption)) hb
    · exact Sl.grow (by repeat (first | with_reducible assumption | with_reducible exact Sl.new' (by simp; done) (by simp; done) (by simp; done) | with_reducible refine Sl.drew ?_ | with_reducible refine Sl.drewN ?_ _ | with_reducible refine Sl.alloc ?_ _ | with_reducible refine Sl.grow ?_ hb12 | with_reducible refine Sl.grow ?_ hb11 | with_reducible refine Sl.grow ?_ hb10 | with_reducible refine Sl.grow ?_ hb9 | with_reducible refine Sl.grow ?_ hb8 | with_reducible refine Sl.grow ?_ hb7 | with_reducible refine Sl.grow ?_ hb6 | with_reducible refine Sl.grow ?_ hb5 | with_reducible refine Sl.grow ?_ hb4 | with_reducible refine Sl.grow ?_ hb3 | with_reducible refine Sl.grow ?_ hb2 | with_reducible refine Sl.grow ?_ hb1 | with_reducible refine Sl.grow ?_ hb | assumption)) hb
    rintro e w2 ⟨rfl, hb2⟩
    go_wp2
    go_ret
    exact ⟨rfl, G.trans (G.trans (by repeat (first | with_reducible assumption | with_reducible exact G.refl _ | with_reducible refine G.drew ?_ | with_reducible refine G.drewN ?_ _ | with_reducible refine G.alloc ?_ _ | with_reducible refine Below.setCell ?_ (by first | (simp; done) | (simp; omega)) _ | with_reducible refine G.trans ?_ hb12 | with_reducible refine G.trans ?_ hb11 | with_reducible refine G.trans ?_ hb10 | with_reducible refine G.trans ?_ hb9 | with_reducible refine G.trans ?_ hb8 | with_reducible refine G.trans ?_ hb7 | with_reducible refine G.trans ?_ hb6 | with_reducible refine G.trans ?_ hb5 | with_reducible refine G.trans ?_ hb4 | with_reducible refine G.trans ?_ hb3 | with_reducible refine G.trans ?_ hb2 | with_reducible refine G.trans ?_ hb1 | with_reducible refine G.trans ?_ hb | assumption)) hb) hb2⟩

set_option maxRecDepth 20000 in set_option maxHeartbeats 400000 in
theorem begins_any (A B : Option Addr) (n m c d : Nat) (xs ys : List Int) (w : World) (hx : Sl w A n (i64s xs)) (hy : Sl w B m (i64s ys)) (hm : m ≤ maxLen) :
    Calls Tryd.prog 38 #[.slice A n c, .slice B m d] w fun e w' => e = .returned (.bool (decide (m ≤ n ∧ xs.take m = ys))) ∧ Drawn w w' := by
  have hlx := Lib.hid hx.len
  have hly := Lib.hid hy.len
  unfold maxLen at hm
  by_cases hnm : m ≤ n
  · go_enter Tryd.func38, Tryd.ntmps38
    go_wp2
    go_loopw [5] (fun i wr => ∃ k : Nat, k ≤ m ∧ i = .int .i64 k ∧ Hid (xs.take k = ys.take k) ∧ Drawn w wr) (fun i _ => m - (intOf i).toNat)
    case atStart => exact ⟨0, Nat.zero_le _, rfl, rfl, 0, rfl⟩
    case round =>
      obtain ⟨k, hk, rfl, hc, q, rfl⟩ := hrel
      by_cases hlt : k < m
      · obtain ⟨bx, ox, x, rfl, hbx, hxk, hcx⟩ := hx.at_ (k := k) (by omega)
        obtain ⟨bz, oy, y, rfl, hby, hyk, hcy⟩ := hy.at_ hlt
        have hltn : k < n := by omega
        by_cases hxy : x = y
        · subst hxy
          have hs : Hid (xs.take (k+1) = ys.take (k+1)) := take_eq hc.out hxk hyk
          go_wp2
          go_quiet (fail)
          go_wp2
          go_roundw
          case rel => exact ⟨k+1, by omega, by go_num, hs, by repeat (first | assumption | exact Drawn.refl _ | exact Drawn.n _ _ | refine Drawn.drewN ?_ _ | refine Drawn.drew ?_)⟩
          case measure => simp [intOf]; omega
        · have hs : Hid (decide (m ≤ n ∧ xs.take m = ys) = false) := by
            unfold Hid
            simp only [decide_eq_false_iff_not, not_and]
            intro _ h
            refine hxy ?_
            have : (xs.take m)[k]? = ys[k]? := by rw [h]
            rw [List.getElem?_take_of_lt hlt, hxk, hyk] at this
            exact Option.some.inj this
          have hne : (x != y) = true := by simp [hxy]
          clear hxy
          go_wp2
          go_quiet (fail)
          go_wp2
          go_ret
          exact ⟨ret_b hs.out.symm, by repeat (first | assumption | exact Drawn.refl _ | exact Drawn.n _ _ | refine Drawn.drewN ?_ _ | refine Drawn.drew ?_)⟩
      · have hkm : k = m := by omega
        subst hkm
        have hs : Hid (decide (k ≤ n ∧ xs.take k = ys) = true) := by
          unfold Hid
          have := hc.out
          rw [List.take_of_length_le (l := ys) (by have := hly.out; omega)] at this
          simp [this, hnm]
        go_wp2
        go_ret
        exact ⟨ret_b hs.out.symm, by repeat (first | assumption | exact Drawn.refl _ | exact Drawn.n _ _ | refine Drawn.drewN ?_ _ | refine Drawn.drew ?_)⟩
  · have hs : Hid (decide (m ≤ n ∧ xs.take m = ys) = false) := by unfold Hid; simp [hnm]
    go_enter Tryd.func38, Tryd.ntmps38
    go_wp2
    go_ret
    exact ⟨ret_b hs.out.symm, Drawn.refl _⟩

set_option maxRecDepth 20000 in set_option maxHeartbeats 400000 in
theorem ldescends_any (e f : Int) (A B : Option Addr) (n m c d : Nat) (xs ys : List Int) (w : World) (hx : Sl w A n (i64s xs)) (hy : Sl w B m (i64s ys)) (hn : n ≤ maxLen) (hm : m ≤ maxLen) :
    Calls Tryd.prog 19 #[.agg #[.int .i64 e, .slice A n c], .agg #[.int .i64 f, .slice B m d]] w fun e' w' => e' = .returned (.bool (descS e xs f ys)) ∧ Below w.heap.size w w' := by
  have hlx := Lib.hid hx.len
  have hly := Lib.hid hy.len
  by_cases hef : e = f
  · subst hef
    by_cases hnm : m < n
    · have hs : Hid (decide (m ≤ n ∧ xs.take m = ys) = descS e xs e ys) := by
        unfold Hid descS
        rw [hly.out, hlx.out]
        simp [hnm, Nat.le_of_lt hnm]
      go_enter Tryd.func19, Tryd.ntmps19
      go_wp2_with (go_at_call 38; refine (begins_any _ _ _ _ _ _ xs ys _ ?g1 ?g2 hm).mono ?_; (case g1 => (repeat (first | with_reducible assumption | with_reducible exact Sl.new' (by simp; done) (by simp; done) (by simp; done) | with_reducible refine Sl.drew ?_ | with_reducible refine Sl.drewN ?_ _ | with_reducible refine Sl.alloc ?_ _ | with_reducible refine Sl.grow ?_ hb12 | with_reducible refine Sl.grow ?_ hb11 | with_reducible refine Sl.grow ?_ hb10 | with_reducible refine Sl.grow ?_ hb9 | with_reducible refine Sl.grow ?_ hb8 | with_reducible refine Sl.grow ?_ hb7 | with_reducible refine Sl.grow ?_ hb6 | with_reducible refine Sl.grow ?_ hb5 | with_reducible refine Sl.grow ?_ hb4 | with_reducible refine Sl.grow ?_ hb3 | with_reducible refine Sl.grow ?_ hb2 | with_reducible refine Sl.grow ?_ hb1 | with_reducible refine Sl.grow ?_ hb | assumption))); (case g2 => (repeat (first | with_reducible assumption | with_reducible exact Sl.new' (by simp; done) (by simp; done) (by simp; done) | with_reducible refine Sl.drew ?_ | with_reducible refine Sl.drewN ?_ _ | with_reducible refine Sl.alloc ?_ _ | with_reducible refine Sl.grow ?_ hb12 | with_reducible refine Sl.grow ?_ hb11 | with_reducible refine Sl.grow ?_ hb10 | with_reducible refine Sl.grow ?_ hb9 | with_reducible refine Sl.grow ?_ hb8 | with_reducible refine Sl.grow ?_ hb7 | with_reducible refine Sl.grow ?_ hb6 | with_reducible refine Sl.grow ?_ hb5 | with_reducible refine Sl.grow ?_ hb4 | with_reducible refine Sl.grow ?_ hb3 | with_reducible refine Sl.grow ?_ hb2 | with_reducible refine Sl.grow ?_ hb1 | with_reducible refine Sl.grow ?_ hb | assumption))); rintro e w1 ⟨rfl, hb⟩)
      go_ret
      exact ⟨ret_b (by rw [← hs.out]; simp), G.trans (by repeat (first | with_reducible assumption | with_reducible exact G.refl _ | with_reducible refine G.drew ?_ | with_reducible refine G.drewN ?_ _ | with_reducible refine G.alloc ?_ _ | with_reducible refine Below.setCell ?_ (by first | (simp; done) | (simp; omega)) _ | with_reducible refine G.trans ?_ hb12 | with_reducible refine G.trans ?_ hb11 | with_reducible refine G.trans ?_ hb10 | with_reducible refine G.trans ?_ hb9 | with_reducible refine G.trans ?_ hb8 | with_reducible refine G.trans ?_ hb7 | with_reducible refine G.trans ?_ hb6 | with_reducible refine G.trans ?_ hb5 | with_reducible refine G.trans ?_ hb4 | with_reducible refine G.trans ?_ hb3 | with_reducible refine G.trans ?_ hb2 | with_reducible refine G.trans ?_ hb1 | with_reducible refine G.trans ?_ hb | assumption)) hb.grow⟩
    · have hs : Hid (descS e xs e ys = false) := by
        unfold Hid descS
        rw [hly.out, hlx.out]
        simp [hnm]
      go_enter Tryd.func19, Tryd.ntmps19
      go_wp2
      go_ret
      exact ⟨ret_b hs.out.symm, by repeat (first | with_reducible assumption | with_reducible exact G.refl _ | with_reducible refine G.drew ?_ | with_reducible refine G.drewN ?_ _ | with_reducible refine G.alloc ?_ _ | with_reducible refine Below.setCell ?_ (by first | (simp; done) | (simp; omega)) _ | with_reducible refine G.trans ?_ hb12 | with_reducible refine G.trans ?_ hb11 | with_reducible refine G.trans ?_ hb10 | with_reducible refine G.trans ?_ hb9 | with_reducible refine G.trans ?_ hb8 | with_reducible refine G.trans ?_ hb7 | with_reducible refine G.trans ?_ hb6 | with_reducible refine G.trans ?_ hb5 | with_reducible refine G.trans ?_ hb4 | with_reducible refine G.trans ?_ hb3 | with_reducible refine G.trans ?_ hb2 | with_reducible refine G.trans ?_ hb1 | with_reducible refine G.trans ?_ hb | assumption)⟩
  · have hs : Hid (descS e xs f ys = false) := by unfold Hid descS; simp [hef]
    have hne : (e == f) = false := by simp [hef]
    clear hef
    go_enter Tryd.func19, Tryd.ntmps19
    go_wp2
    go_ret
    exact ⟨ret_b hs.out.symm, by repeat (first | with_reducible assumption | with_reducible exact G.refl _ | with_reducible refine G.drew ?_ | with_reducible refine G.drewN ?_ _ | with_reducible refine G.alloc ?_ _ | with_reducible refine Below.setCell ?_ (by first | (simp; done) | (simp; omega)) _ | with_reducible refine G.trans ?_ hb12 | with_reducible refine G.trans ?_ hb11 | with_reducible refine G.trans ?_ hb10 | with_reducible refine G.trans ?_ hb9 | with_reducible refine G.trans ?_ hb8 | with_reducible refine G.trans ?_ hb7 | with_reducible refine G.trans ?_ hb6 | with_reducible refine G.trans ?_ hb5 | with_reducible refine G.trans ?_ hb4 | with_reducible refine G.trans ?_ hb3 | with_reducible refine G.trans ?_ hb2 | with_reducible refine G.trans ?_ hb1 | with_reducible refine G.trans ?_ hb | assumption)⟩
end Go.Proofs.YtjldpodehffbnaaDoor
