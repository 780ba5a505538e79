/- slices.Clone and slices.Equal on []int, and the model's functions of layer 28: what each computes. -/
import Derived.Test.YtjldpodehffbnaaDoorStamp2
namespace Go.Proofs.YtjldpodehffbnaaDoor
set_option linter.unusedVariables false
set_option linter.unnecessarySimpa false
set_option linter.unusedSimpArgs false
open Go.RowKit

theorem Tryd.infoI : (Tryd.prog.info? 3).map (fun i => (i.zero, i.size, i.bytes)) = some (some (.int .i64 0), 1, 8) := by kernel_rfl
/-- The call gives a slice of its own that holds the numbers xs; nothing that was there has changed. -/
def RetSl (xs : List Int) (w : World) (e : Ending) (w' : World) : Prop :=
  ∃ A c, e = .returned (.slice A xs.length c) ∧ w'.ownsRow w.heap.size 3 1 (.slice A xs.length c) xs.length (i64s xs) ∧ Below w.heap.size w w'

set_option maxRecDepth 20000 in set_option maxHeartbeats 400000 in
theorem clone_any (A : Option Addr) (n c : Nat) (xs : List Int) (w : World) (hx : Sl w A n (i64s xs)) (hnc : n ≤ c) (hc : c ≤ maxLen) (hn : Fits (n * 8)) :
    Calls Tryd.prog 44 #[.slice A n c] w (RetSl xs w) := by
  obtain ⟨i0, hi0, hz0, hz1, hz2⟩ := info_parts Tryd.infoI
  obtain rfl := hx.len
  have hn' : xs.length * 8 ≤ 140737488355328 := hn
  have hm : xs.length ≤ maxLen := Nat.le_trans hnc hc
  have Hm : Hid (xs.length ≤ maxLen ∧ xs.length * 8 ≤ 140737488355328) := ⟨hm, hn'⟩
  clear hm hn' hn
  rcases A with _ | ad
  · have he := fun wx => Lib.run_eql_slice_nil (P := Tryd.prog) wx 22 3 none 0 c 0 0 Tryd.underlying22
    have h0 : xs = [] := by
      rcases xs with _ | ⟨x, xs⟩
      · rfl
      · obtain ⟨b, off, hA, _⟩ := hx.2 (by simp)
        cases hA
    subst h0
    go_enter Tryd.func44, Tryd.ntmps44
    go_wp2
    go_ret
    exact ⟨none, 0, rfl, World.ownsRow_nil _ _ _ _, G.refl _⟩
  · have he := fun wx => Lib.run_eql_slice_nil (P := Tryd.prog) wx 22 3 (some ad) xs.length c 0 0 Tryd.underlying22
    go_enter Tryd.func44, Tryd.ntmps44
    go_wp2_with (at_builtin; refine wpList_app _ rfl (.tmp 5) (.tmp 6) _ rfl w.heap.size 3 i0 _ 1 8 Tryd.underlying22 hi0 hz0 hz1 hz2 rfl (by omega) (.slice (some ⟨w.heap.size, 0, none⟩) 0 0) 0 [] rfl (World.ownsRow_made w #[] 0 (Nat.le_refl _) (Nat.zero_le _) rfl) (some ad) xs.length c (i64s xs) rfl (by rw [Nat.mul_one]; exact hx.alloc _) (oneCell_i64s _) (by have := Hm.out.1; omega) (by have := Hm.out.2; omega) (by simp) ?_; intro A' c' w' hown hc1 hc2 hg)
    go_ret
    refine ⟨A', c', rfl, by simpa using hown, ?_⟩
    exact (G.alloc (G.refl w) _).grown hg (by simp) (by simp [Value.ownBlock])

/-- Nothing but draws. -/
def Drawn (w w' : World) : Prop := ∃ k, w' = w.drewN k
theorem Drawn.refl (w : World) : Drawn w w := ⟨0, rfl⟩
theorem Drawn.n (w : World) (k : Nat) : Drawn w (w.drewN k) := ⟨k, rfl⟩
theorem Drawn.drewN {w w' : World} (h : Drawn w w') (k : Nat) : Drawn w (w'.drewN k) := by
  obtain ⟨q, rfl⟩ := h
  refine ⟨q + k, ?_⟩
  simp [World.drewN, Nat.add_assoc]
theorem Drawn.drew {w w' : World} (h : Drawn w w') : Drawn w w'.drew := h.drewN 1
theorem Drawn.grow {w w' : World} (h : Drawn w w') : Below w.heap.size w w' := by obtain ⟨k, rfl⟩ := h; exact G.drewN (G.refl _) k

theorem take_eq {xs ys : List Int} {k : Nat} {x : Int} (h : xs.take k = ys.take k) (hx : xs[k]? = some x) (hy : ys[k]? = some x) : xs.take (k + 1) = ys.take (k + 1) := by
  rw [List.take_add_one, List.take_add_one, h, hx, hy]
theorem ne_of_at {xs ys : List Int} {k : Nat} {x y : Int} (hx : xs[k]? = some x) (hy : ys[k]? = some y) (h : x ≠ y) : xs ≠ ys := by
  rintro rfl
  rw [hx] at hy
  cases hy
  exact h rfl

set_option maxRecDepth 20000 in set_option maxHeartbeats 400000 in
theorem slEqual_any (A B : Option Addr) (n m c d : Nat) (xs ys : List Int) (w : World) (hx : Sl w A n (i64s xs)) (hy : Sl w B m (i64s ys)) (hn : n ≤ maxLen) :
    Calls Tryd.prog 37 #[.slice A n c, .slice B m d] w fun e w' => e = .returned (.bool (decide (xs = ys))) ∧ Drawn w w' := by
  have hlx := Lib.hid hx.len
  have hly := Lib.hid hy.len
  unfold maxLen at hn
  by_cases hnm : n = m
  · subst hnm
    go_enter Tryd.func37, Tryd.ntmps37
    go_wp2
    go_loopw [13] (fun i wr => ∃ k : Nat, k ≤ n ∧ i = .int .i64 k ∧ Hid (xs.take k = ys.take k) ∧ Drawn w wr) (fun i _ => n - (intOf i).toNat)
    case atStart => exact ⟨0, Nat.zero_le _, rfl, rfl, 0, rfl⟩
    case round =>
      obtain ⟨k, hk, rfl, hc, q, rfl⟩ := hrel
      by_cases hlt : k < n
      · obtain ⟨bx, ox, x, rfl, hbx, hxk, hcx⟩ := hx.at_ hlt
        obtain ⟨bz, oy, y, rfl, hby, hyk, hcy⟩ := hy.at_ hlt
        by_cases hxy : x = y
        · subst hxy
          have hs : Hid (xs.take (k+1) = ys.take (k+1)) := take_eq hc.out hxk hyk
          go_wp2
          go_quiet (fail)
          go_wp2
          go_roundw
          case rel => exact ⟨k+1, by omega, by go_num, hs, by repeat (first | assumption | exact Drawn.refl _ | exact Drawn.n _ _ | refine Drawn.drewN ?_ _ | refine Drawn.drew ?_)⟩
          case measure => simp [intOf]; omega
        · have hs : Hid (decide (xs = ys) = false) := by unfold Hid; simp [ne_of_at hxk hyk hxy]
          have hne : (x != y) = true := by simp [hxy]
          clear hxy
          go_wp2
          go_quiet (fail)
          go_wp2
          go_ret
          exact ⟨ret_b hs.out.symm, by repeat (first | assumption | exact Drawn.refl _ | exact Drawn.n _ _ | refine Drawn.drewN ?_ _ | refine Drawn.drew ?_)⟩
      · have hs : Hid (decide (xs = ys) = true) := by
          unfold Hid
          have := hc.out
          rw [List.take_of_length_le (by have := hlx.out; omega), List.take_of_length_le (by have := hly.out; omega)] at this
          simp [this]
        go_wp2
        go_ret
        exact ⟨ret_b hs.out.symm, by repeat (first | assumption | exact Drawn.refl _ | exact Drawn.n _ _ | refine Drawn.drewN ?_ _ | refine Drawn.drew ?_)⟩
  · have hs : Hid (decide (xs = ys) = false) := by
      unfold Hid
      simp only [decide_eq_false_iff_not]
      rintro rfl
      exact hnm (hlx.out.symm.trans hly.out)
    have hne : ((n : Int) != (m : Int)) = true := by simp; omega
    clear hnm
    go_enter Tryd.func37, Tryd.ntmps37
    go_wp2
    go_ret
    exact ⟨ret_b hs.out.symm, Drawn.refl _⟩
end Go.Proofs.YtjldpodehffbnaaDoor
