/- slices.Clone on []int (the first part of XStamp3, for seats without slices.Equal). -/
import Derived.Test.YtjldpodehffbnaaStamp2
namespace Go.Proofs.Ytjldpodehffbnaa
set_option linter.unusedVariables false
set_option linter.unnecessarySimpa false
set_option linter.unusedSimpArgs false
open Go.RowKit

theorem Try.infoI : (Try.prog.info? 3).map (fun i => (i.zero, i.size, i.bytes)) = some (some (.int .i64 0), 1, 8) := by kernel_rfl
/-- The call gives a slice of its own that holds the numbers xs; nothing that was there has changed. -/
def RetSl (xs : List Int) (w : World) (e : Ending) (w' : World) : Prop :=
  ∃ A c, e = .returned (.slice A xs.length c) ∧ w'.ownsRow w.heap.size 3 1 (.slice A xs.length c) xs.length (i64s xs) ∧ Below w.heap.size w w'

set_option maxRecDepth 20000 in set_option maxHeartbeats 400000 in
theorem clone_any (A : Option Addr) (n c : Nat) (xs : List Int) (w : World) (hx : Sl w A n (i64s xs)) (hnc : n ≤ c) (hc : c ≤ maxLen) (hn : Fits (n * 8)) :
    Calls Try.prog 63 #[.slice A n c] w (RetSl xs w) := by
  obtain ⟨i0, hi0, hz0, hz1, hz2⟩ := info_parts Try.infoI
  obtain rfl := hx.len
  have hn' : xs.length * 8 ≤ 140737488355328 := hn
  have hm : xs.length ≤ maxLen := Nat.le_trans hnc hc
  have Hm : Hid (xs.length ≤ maxLen ∧ xs.length * 8 ≤ 140737488355328) := ⟨hm, hn'⟩
  clear hm hn' hn
  rcases A with _ | ad
  · have he := fun wx => Lib.run_eql_slice_nil (P := Try.prog) wx 22 3 none 0 c 0 0 Try.underlying22
    have h0 : xs = [] := by
      rcases xs with _ | ⟨x, xs⟩
      · rfl
      · obtain ⟨b, off, hA, _⟩ := hx.2 (by simp)
        cases hA
    subst h0
    go_enter Try.func63, Try.ntmps63
    go_wp2
    go_ret
    exact ⟨none, 0, rfl, World.ownsRow_nil _ _ _ _, G.refl _⟩
  · have he := fun wx => Lib.run_eql_slice_nil (P := Try.prog) wx 22 3 (some ad) xs.length c 0 0 Try.underlying22
    go_enter Try.func63, Try.ntmps63
    go_wp2_with (at_builtin; refine wpList_app _ rfl (.tmp 5) (.tmp 6) _ rfl w.heap.size 3 i0 _ 1 8 Try.underlying22 hi0 hz0 hz1 hz2 rfl (by omega) (.slice (some ⟨w.heap.size, 0, none⟩) 0 0) 0 [] rfl (World.ownsRow_made w #[] 0 (Nat.le_refl _) (Nat.zero_le _) rfl) (some ad) xs.length c (i64s xs) rfl (by rw [Nat.mul_one]; exact hx.alloc _) (oneCell_i64s _) (by have := Hm.out.1; omega) (by have := Hm.out.2; omega) (by simp) ?_; intro A' c' w' hown hc1 hc2 hg)
    go_ret
    refine ⟨A', c', rfl, by simpa using hown, ?_⟩
    exact (G.alloc (G.refl w) _).grown hg (by simp) (by simp [Value.ownBlock])

/-- Nothing but draws. -/
def Drawn (w w' : World) : Prop := ∃ k, w' = w.drewN k
theorem Drawn.refl (w : World) : Drawn w w := ⟨0, rfl⟩
theorem Drawn.n (w : World) (k : Nat) : Drawn w (w.drewN k) := ⟨k, rfl⟩
theorem Drawn.drewN {w w' : World} (h : Drawn w w') (k : Nat) : Drawn w (w'.drewN k) := by
  obtain ⟨q, rfl⟩ := h
  refine ⟨q + k, ?_⟩
  simp [World.drewN, Nat.add_assoc]
theorem Drawn.drew {w w' : World} (h : Drawn w w') : Drawn w w'.drew := h.drewN 1
theorem Drawn.grow {w w' : World} (h : Drawn w w') : Below w.heap.size w w' := by obtain ⟨k, rfl⟩ := h; exact G.drewN (G.refl _) k

end Go.Proofs.Ytjldpodehffbnaa
