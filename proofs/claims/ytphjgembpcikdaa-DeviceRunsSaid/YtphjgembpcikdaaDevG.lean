/- device: slices.Clone and slices.Equal of bytes. -/
import Derived.Test.YtphjgembpcikdaaDevF
namespace Go.Proofs.Ytphjgembpcikdaa
set_option linter.unusedVariables false
set_option linter.unnecessarySimpa false
set_option linter.unusedSimpArgs false
open Go.RowKit

theorem Try.infoB8 : (Try.prog.info? 5).map (fun i => (i.zero, i.size, i.bytes)) = some (some (.int .u8 0), 1, 1) := by kernel_rfl
theorem oneCell_u8s (l : List UInt8) : ∀ u ∈ u8s l, u.oneCell' = true := by
  intro u hu
  obtain ⟨x, _, rfl⟩ := List.mem_map.1 hu
  rfl
/-- A slice of its own that holds the bytes. -/
def RetB (l : List UInt8) (w : World) (e : Ending) (w' : World) : Prop :=
  ∃ A c, e = .returned (.slice A l.length c) ∧ w'.ownsRow w.heap.size 5 1 (.slice A l.length c) l.length (u8s l) ∧ Below w.heap.size w w'
set_option maxRecDepth 20000 in set_option maxHeartbeats 400000 in
theorem cloneB_any (A : Option Addr) (n c : Nat) (l : List UInt8) (w : World) (hx : Sl w A n (u8s l)) (hnc : n ≤ c) (hc : c ≤ maxLen) (hn : n ≤ 140737488355328) :
    Calls Try.prog 50 #[.slice A n c] w (RetB l w) := by
  obtain ⟨i0, hi0, hz0, hz1, hz2⟩ := info_parts Try.infoB8
  obtain rfl : l.length = n := by have := hx.1; rwa [u8s_len] at this
  have hm : l.length ≤ maxLen := Nat.le_trans hnc hc
  have Hm : Hid (l.length ≤ maxLen ∧ l.length ≤ 140737488355328) := ⟨hm, hn⟩
  clear hm hn
  rcases A with _ | ad
  · have he := fun wx => Lib.run_eql_slice_nil (P := Try.prog) wx 39 5 none 0 c 0 0 Try.underlying39
    have h0 : l = [] := by
      rcases l with _ | ⟨x, xs⟩
      · rfl
      · obtain ⟨b, off, hA, _⟩ := hx.2 (by simp)
        cases hA
    subst h0
    go_enter Try.func50, Try.ntmps50
    go_wp2
    go_ret
    exact ⟨none, 0, rfl, World.ownsRow_nil _ _ _ _, G.refl _⟩
  · have he := fun wx => Lib.run_eql_slice_nil (P := Try.prog) wx 39 5 (some ad) l.length c 0 0 Try.underlying39
    go_enter Try.func50, Try.ntmps50
    go_wp2_with (at_builtin; refine wpList_app _ rfl (.tmp 5) (.tmp 6) _ rfl w.heap.size 5 i0 _ 1 1 Try.underlying39 hi0 hz0 hz1 hz2 rfl (by omega) (.slice (some ⟨w.heap.size, 0, none⟩) 0 0) 0 [] rfl (World.ownsRow_made w #[] 0 (Nat.le_refl _) (Nat.zero_le _) rfl) (some ad) l.length c (u8s l) rfl (by rw [Nat.mul_one]; exact hx.alloc _) (oneCell_u8s _) (by have := Hm.out.1; omega) (by have := Hm.out.2; omega) (by simp) ?_; intro A' c' w' hown hc1 hc2 hg)
    go_ret
    refine ⟨A', c', rfl, by simpa using hown, ?_⟩
    exact (G.alloc (G.refl w) _).grown hg (by simp) (by simp [Value.ownBlock])
theorem Sl.byte {w : World} {A : Option Addr} {n : Nat} {l : List UInt8} (h : Sl w A n (u8s l)) {k : Nat} (hk : k < n) : ∃ b off x, A = some ⟨b, off, none⟩ ∧ b < w.heap.size ∧ l[k]? = some x ∧ w.cell? ⟨b, off + k, none⟩ = some (.int .u8 x.toNat) := by
  obtain ⟨b, off, e, hb, hc⟩ := h.2 (by omega)
  have hl : k < l.length := by have := h.1; rw [u8s_len] at this; omega
  exact ⟨b, off, l[k], e, hb, List.getElem?_eq_getElem hl, hc k _ (u8s_get (List.getElem?_eq_getElem hl))⟩
theorem takeB_eq {xs ys : List UInt8} {k : Nat} {x : UInt8} (h : xs.take k = ys.take k) (hx : xs[k]? = some x) (hy : ys[k]? = some x) : xs.take (k + 1) = ys.take (k + 1) := by
  rw [List.take_add_one, List.take_add_one, h, hx, hy]
theorem neB_of_at {xs ys : List UInt8} {k : Nat} {x y : UInt8} (hx : xs[k]? = some x) (hy : ys[k]? = some y) (h : x ≠ y) : xs ≠ ys := by
  rintro rfl
  rw [hx] at hy
  cases hy
  exact h rfl
set_option maxRecDepth 20000 in set_option maxHeartbeats 400000 in
theorem eqB_any (A B : Option Addr) (n m c d : Nat) (xs ys : List UInt8) (w : World) (hx : Sl w A n (u8s xs)) (hy : Sl w B m (u8s ys)) (hn : n ≤ maxLen) :
    Calls Try.prog 53 #[.slice A n c, .slice B m d] w fun e w' => e = .returned (.bool (decide (xs = ys))) ∧ Below w.heap.size w w' := by
  have hlx : Hid (xs.length = n) := by have := hx.1; rwa [u8s_len] at this
  have hly : Hid (ys.length = m) := by have := hy.1; rwa [u8s_len] at this
  unfold maxLen at hn
  by_cases hnm : n = m
  · subst hnm
    have hx0 := Lib.hid hx
    have hy0 := Lib.hid hy
    clear hx hy
    go_enter Try.func53, Try.ntmps53
    go_wp2
    go_loopw [13] (fun i wr => ∃ k : Nat, k ≤ n ∧ i = .int .i64 k ∧ Hid (xs.take k = ys.take k) ∧ Below w.heap.size w wr) (fun i _ => n - (intOf i).toNat)
    case atStart => exact ⟨0, Nat.zero_le _, rfl, rfl, G.refl _⟩
    case round =>
      obtain ⟨k, hk, rfl, hc, hbr⟩ := hrel
      by_cases hlt : k < n
      · obtain ⟨bx, ox, x, rfl, hbx, hxk, hcx⟩ := (hx0.out.grow hbr).byte hlt
        obtain ⟨bz, oy, y, rfl, hby, hyk, hcy⟩ := (hy0.out.grow hbr).byte hlt
        by_cases hxy : x = y
        · subst hxy
          have hs : Hid (xs.take (k+1) = ys.take (k+1)) := takeB_eq hc.out hxk hyk
          go_wp2
          refine wp_region_ord [(0, 1), (1, 1), (2, 1), (3, 1), (4, 1), (5, 1), (6, 1), (7, 1), (8, 1)] [] 5 (by kernel_rfl) (by decide +kernel) ?_
          simp only [pickO, List.append_eq, List.cons_append, List.nil_append, List.getElem?_cons_succ, List.getElem?_cons_zero]
          intro w0 hG
          (repeat ((first | (with_reducible refine ord_q1 ?_) | (with_reducible refine ord_q0 ?_)); intro K hK; first | (refine Or.inr ⟨?_, ?_⟩; (focus (go_simp; first | done | (simp [undef]; done))); go_simp; (with_reducible refine hK _ ?_); clear hK K) | (refine Or.inl ⟨?_, ?_⟩; (focus (go_simp; done)); apply Exists.intro; refine And.intro ?_ ?_; (focus (first | (intro wq hq; obtain ⟨hcq, hfq⟩ := G.old hq; go_simp; (first | done | exact rfl); done) | (intro wq; go_simp; (first | done | exact rfl); done))); go_simp; (with_reducible refine hK _ ?_); clear hK K) | fail))
          (with_reducible refine ord_nil ?_)
          go_wp2
          go_roundw
          case rel => exact ⟨k+1, by omega, by go_num, hs, G.trans hbr hG.b⟩
          case measure => simp [intOf]; omega
        · have hs : Hid (decide (xs = ys) = false) := by unfold Hid; simp [neB_of_at hxk hyk hxy]
          have hne : ((x.toNat : Int) != (y.toNat : Int)) = true := by
            have : x.toNat ≠ y.toNat := fun h => hxy (UInt8.toNat_inj.1 h)
            simp; omega
          have hne2 : ((x.toNat : Int) == (y.toNat : Int)) = false := by
            have : x.toNat ≠ y.toNat := fun h => hxy (UInt8.toNat_inj.1 h)
            simp; omega
          clear hxy
          go_wp2
          refine wp_region_ord [(0, 1), (1, 1), (2, 1), (3, 1), (4, 1), (5, 1), (6, 1), (7, 1), (8, 1)] [] 5 (by kernel_rfl) (by decide +kernel) ?_
          simp only [pickO, List.append_eq, List.cons_append, List.nil_append, List.getElem?_cons_succ, List.getElem?_cons_zero]
          intro w0 hG
          (repeat ((first | (with_reducible refine ord_q1 ?_) | (with_reducible refine ord_q0 ?_)); intro K hK; first | (refine Or.inr ⟨?_, ?_⟩; (focus (go_simp; first | done | (simp [undef]; done))); go_simp; (with_reducible refine hK _ ?_); clear hK K) | (refine Or.inl ⟨?_, ?_⟩; (focus (go_simp; done)); apply Exists.intro; refine And.intro ?_ ?_; (focus (first | (intro wq hq; obtain ⟨hcq, hfq⟩ := G.old hq; go_simp; (first | done | exact rfl); done) | (intro wq; go_simp; (first | done | exact rfl); done))); go_simp; (with_reducible refine hK _ ?_); clear hK K) | fail))
          (with_reducible refine ord_nil ?_)
          go_wp2
          go_ret
          exact ⟨ret_b hs.out.symm, G.trans hbr hG.b⟩
      · have hs : Hid (decide (xs = ys) = true) := by
          unfold Hid
          have := hc.out
          rw [List.take_of_length_le (by have := hlx.out; omega), List.take_of_length_le (by have := hly.out; omega)] at this
          simp [this]
        go_wp2
        go_ret
        exact ⟨ret_b hs.out.symm, hbr⟩
  · have hs : Hid (decide (xs = ys) = false) := by
      unfold Hid
      simp only [decide_eq_false_iff_not]
      rintro rfl
      exact hnm (hlx.out.symm.trans hly.out)
    have hne : ((n : Int) != (m : Int)) = true := by simp; omega
    clear hnm
    go_enter Try.func53, Try.ntmps53
    go_wp2
    go_ret
    exact ⟨ret_b hs.out.symm, G.refl _⟩
end Go.Proofs.Ytphjgembpcikdaa
