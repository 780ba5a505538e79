/- Next. -/
import Derived.Test.YtjldpodehffbnaaChan4
namespace Go.Proofs.Ytjldpodehffbnaa
set_option linter.unusedVariables false
set_option linter.unnecessarySimpa false
set_option linter.unusedSimpArgs false
open Go.RowKit

set_option maxRecDepth 20000 in set_option maxHeartbeats 400000 in
theorem len0_any (w : World) : Calls Try.prog 21 #[.pointer none] w fun e w' => e = .returned (.int .i64 0) ∧ w' = w := by
  go_enter Try.func21, Try.ntmps21
  go_wp2
  go_ret
  exact ⟨rfl, rfl⟩
def better (c : Ch) : Option (Nat × Ch) → Bool
  | none => true
  | some (_, b) => decide (cmpS (leE c) (leP c) (leE b) (leP b) < 0)
def stepB (k : Nat) (o : Option (Nat × Ch)) : CP → Option (Nat × Ch)
  | none => o
  | some (_, _, c) => if decide (0 < c.items.length) && better c o then some (k, c) else o
/-- The first of the channels with items whose first item is least, among the first k: its index, and it. -/
def bestO (l : List CP) : Nat → Option (Nat × Ch)
  | 0 => none
  | k + 1 => match l[k]? with
    | some x => stepB k (bestO l k) x
    | none => bestO l k
def bestV : Option (Nat × Ch) → Int
  | none => -1
  | some (j, _) => j
theorem bestO_at (l : List CP) : ∀ (k : Nat) {j : Nat} {c : Ch}, bestO l k = some (j, c) → j < k ∧ (∃ b r, l[j]? = some (some (b, r, c))) ∧ 0 < c.items.length
  | 0, j, c, h => by cases h
  | k + 1, j, c, h => by
    unfold bestO at h
    rcases hx : l[k]? with _ | x
    · rw [hx] at h
      obtain ⟨h1, h2⟩ := bestO_at l k h
      exact ⟨by omega, h2⟩
    · rw [hx] at h
      rcases x with _ | ⟨b, r, c'⟩
      · obtain ⟨h1, h2⟩ := bestO_at l k h
        exact ⟨by omega, h2⟩
      · simp only [stepB] at h
        split at h
        · rename_i h0
          cases h
          simp only [Bool.and_eq_true, decide_eq_true_eq] at h0
          exact ⟨by omega, ⟨b, r, hx⟩, h0.1⟩
        · obtain ⟨h1, h2⟩ := bestO_at l k h
          exact ⟨by omega, h2⟩
theorem Sl.getC {w : World} {b off n : Nat} {l : List CP} (h : Sl w (some ⟨b, off, none⟩) n (chs l)) {k : Nat} (hk : k < n) {x : CP} (hx : l[k]? = some x) : w.cell? ⟨b, off + k, none⟩ = some (chv x) := by
  obtain ⟨b', off', x', e, _, hx', hc⟩ := h.atC hk
  simp only [Option.some.injEq, Addr.mk.injEq, and_true] at e
  obtain ⟨rfl, rfl⟩ := e
  rw [hx] at hx'
  cases hx'
  exact hc
/-- What Next gives. -/
def nextC (l : List CP) : Int × Bool := match bestO l l.length with
  | none => (0, false)
  | some (j, c) => if l.any (lessO (leE c) (leP c)) = true then (0, false) else (j, true)
set_option maxRecDepth 20000 in set_option maxHeartbeats 2000000 in
theorem next_any {ok : Nat → Prop} {w : World} {P : Option Addr} {n cp : Nat} {l : List CP} (hl : Sl w P n (chs l)) (hn : n ≤ maxLen) (hc : ChansAt ok w l) :
    Calls Try.prog 30 #[.slice P n cp] w fun e' w' => e' = .returned (.tuple #[.int .i64 (nextC l).1, .bool (nextC l).2]) ∧ Below w.heap.size w w' := by
  have hnm := Lib.hid hn
  unfold maxLen at hn
  have HC := Lib.hid hc
  have hlen := Lib.hid hl.lenC
  clear hc
  go_enter Try.func30, Try.ntmps30
  go_wp2
  go_loopw [4, 10] (fun bv iv wr => ∃ k : Nat, k ≤ n ∧ iv = .int .i64 k ∧ Hid (bv = .int .i64 (bestV (bestO l k))) ∧ Below w.heap.size w wr) (fun _ iv _ => n - (intOf iv).toNat)
  case atStart => exact ⟨0, Nat.zero_le _, rfl, rfl, G.refl _⟩
  case round =>
    obtain ⟨k, hk, rfl, hbv, hbr⟩ := hrel
    have hbv := hbv.out
    subst hbv
    by_cases hlt : k < n
    · obtain ⟨bx, ox, x, rfl, hbx, hxk, hcx⟩ := (hl.grow hbr).atC hlt
      have hx : ∀ b r c, x = some (b, r, c) → ChanAt ok wr b r c := fun b r c h => (HC.out b r c (by rw [← h]; exact List.mem_of_getElem? hxk)).grow hbr
      replace hx := Lib.hid hx
      have hbk : bestO l (k + 1) = stepB k (bestO l k) x := by show (match l[k]? with | some x => stepB k (bestO l k) x | none => bestO l k) = _; rw [hxk]
      replace hbk := Lib.hid hbk
      have hxk' := Lib.hid hxk
      clear hxk
      rcases x with _ | ⟨b, r, c⟩
      · have hs : Hid (bestO l (k + 1) = bestO l k) := hbk.out
        replace hcx : wr.cell? ⟨bx, ox + k, none⟩ = some (.pointer none) := hcx
        obtain ⟨V, hV⟩ : ∃ V, bestV (bestO l k) = V := ⟨_, rfl⟩
        rw [hV]
        replace hV := Lib.hid hV
        go_wp2_with fail
        refine wp_region_ord [(0, 1), (1, 2), (2, 1), (3, 1), (4, 1), (5, 1), (6, 1), (7, 1), (9, 1), (10, 1), (11, 1), (12, 1), (8, 2), (13, 2), (14, 2), (15, 1), (16, 1), (17, 1)] [] 5 (by kernel_rfl) (by decide +kernel) ?_
        simp only [pickO, List.append_eq, List.cons_append, List.nil_append, List.getElem?_cons_succ, List.getElem?_cons_zero]
        intro w0 hG
        (repeat ((first | (with_reducible refine ord_q1 ?_) | (with_reducible refine ord_q0 ?_)); intro K hK; first | (refine Or.inr ⟨?_, ?_⟩; (focus (go_simp; first | done | (simp [undef]; done))); go_simp; (with_reducible refine hK _ ?_); clear hK K) | (refine Or.inl ⟨?_, ?_⟩; (focus (go_simp; done)); apply Exists.intro; refine And.intro ?_ ?_; (focus (first | (intro wq hq; obtain ⟨hcq, hfq⟩ := G.old hq; go_simp; (first | done | exact rfl); done) | (intro wq; go_simp; (first | done | exact rfl); done))); go_simp; (with_reducible refine hK _ ?_); clear hK K) | fail))
        (with_reducible refine ord_run ?_ hG)
        intro K hK
        go_simp
        go_at_call 21; (with_reducible refine (len0_any _).mono ?_); rintro e' w2 ⟨rfl, hw2⟩; subst hw2; have hb2 := G.refl w2
        replace hG := Grew.trans hG hb2
        (try dsimp only)
        (with_reducible refine hK _ _ hG ?_)
        clear hK K
        (repeat ((first | (with_reducible refine ord_q1 ?_) | (with_reducible refine ord_q0 ?_)); intro K hK; first | (refine Or.inr ⟨?_, ?_⟩; (focus (go_simp; first | done | (simp [undef]; done))); go_simp; (with_reducible refine hK _ ?_); clear hK K) | (refine Or.inl ⟨?_, ?_⟩; (focus (go_simp; done)); apply Exists.intro; refine And.intro ?_ ?_; (focus (first | (intro wq hq; obtain ⟨hcq, hfq⟩ := G.old hq; go_simp; (first | done | exact rfl); done) | (intro wq; go_simp; (first | done | exact rfl); done))); go_simp; (with_reducible refine hK _ ?_); clear hK K) | fail))
        (with_reducible refine ord_skip ?_ hG ?_); (focus (go_simp; first | done | (simp [undef]; done))); intro K hK; go_simp; (with_reducible refine hK _ ?_); clear hK K; (repeat ((first | (with_reducible refine ord_q1 ?_) | (with_reducible refine ord_q0 ?_)); intro K hK; first | (refine Or.inr ⟨?_, ?_⟩; (focus (go_simp; first | done | (simp [undef]; done))); go_simp; (with_reducible refine hK _ ?_); clear hK K) | (refine Or.inl ⟨?_, ?_⟩; (focus (go_simp; done)); apply Exists.intro; refine And.intro ?_ ?_; (focus (first | (intro wq hq; obtain ⟨hcq, hfq⟩ := G.old hq; go_simp; (first | done | exact rfl); done) | (intro wq; go_simp; (first | done | exact rfl); done))); go_simp; (with_reducible refine hK _ ?_); clear hK K) | fail))
        (with_reducible refine ord_skip ?_ hG ?_); (focus (go_simp; first | done | (simp [undef]; done))); intro K hK; go_simp; (with_reducible refine hK _ ?_); clear hK K; (repeat ((first | (with_reducible refine ord_q1 ?_) | (with_reducible refine ord_q0 ?_)); intro K hK; first | (refine Or.inr ⟨?_, ?_⟩; (focus (go_simp; first | done | (simp [undef]; done))); go_simp; (with_reducible refine hK _ ?_); clear hK K) | (refine Or.inl ⟨?_, ?_⟩; (focus (go_simp; done)); apply Exists.intro; refine And.intro ?_ ?_; (focus (first | (intro wq hq; obtain ⟨hcq, hfq⟩ := G.old hq; go_simp; (first | done | exact rfl); done) | (intro wq; go_simp; (first | done | exact rfl); done))); go_simp; (with_reducible refine hK _ ?_); clear hK K) | fail))
        (with_reducible refine ord_skip ?_ hG ?_); (focus (go_simp; first | done | (simp [undef]; done))); intro K hK; go_simp; (with_reducible refine hK _ ?_); clear hK K; (repeat ((first | (with_reducible refine ord_q1 ?_) | (with_reducible refine ord_q0 ?_)); intro K hK; first | (refine Or.inr ⟨?_, ?_⟩; (focus (go_simp; first | done | (simp [undef]; done))); go_simp; (with_reducible refine hK _ ?_); clear hK K) | (refine Or.inl ⟨?_, ?_⟩; (focus (go_simp; done)); apply Exists.intro; refine And.intro ?_ ?_; (focus (first | (intro wq hq; obtain ⟨hcq, hfq⟩ := G.old hq; go_simp; (first | done | exact rfl); done) | (intro wq; go_simp; (first | done | exact rfl); done))); go_simp; (with_reducible refine hK _ ?_); clear hK K) | fail))
        (with_reducible refine ord_nil ?_)
        go_wp2_with fail
        go_roundw
        case rel => exact ⟨k + 1, by omega, by go_num, by unfold Hid; rw [hs.out, hV.out], G.trans hbr hG.b⟩
        case measure => simp [intOf]; omega
      · have hC : Hid (ChanAt ok wr b r c) := hx.out b r c rfl
        replace hcx : wr.cell? ⟨bx, ox + k, none⟩ = some (.pointer (some ⟨b, 0, none⟩)) := hcx
        have hC' := Lib.hid hC.out.lt.1
        by_cases hc0 : 0 < c.items.length
        · have hc0' : (0 : Int) < (c.items.length : Int) := by omega
          rcases hbo : bestO l k with _ | ⟨j, bc⟩
          · have hs : Hid (bestO l (k + 1) = some (k, c)) := by unfold Hid; rw [hbk.out, hbo]; simp [stepB, better, hc0]
            replace hbo := Lib.hid hbo
            have hbj : bestV none = -1 := rfl
            rw [hbj]
            clear hbj
            go_wp2_with fail
            refine wp_region_ord [(0, 1), (1, 2), (2, 1), (3, 1), (4, 1), (5, 1), (6, 1), (7, 1), (9, 1), (10, 1), (11, 1), (12, 1), (8, 2), (13, 2), (14, 2), (15, 1), (16, 1), (17, 1)] [] 5 (by kernel_rfl) (by decide +kernel) ?_
            simp only [pickO, List.append_eq, List.cons_append, List.nil_append, List.getElem?_cons_succ, List.getElem?_cons_zero]
            intro w0 hG
            (repeat ((first | (with_reducible refine ord_q1 ?_) | (with_reducible refine ord_q0 ?_)); intro K hK; first | (refine Or.inr ⟨?_, ?_⟩; (focus (go_simp; first | done | (simp [undef]; done))); go_simp; (with_reducible refine hK _ ?_); clear hK K) | (refine Or.inl ⟨?_, ?_⟩; (focus (go_simp; done)); apply Exists.intro; refine And.intro ?_ ?_; (focus (first | (intro wq hq; obtain ⟨hcq, hfq⟩ := G.old hq; go_simp; (first | done | exact rfl); done) | (intro wq; go_simp; (first | done | exact rfl); done))); go_simp; (with_reducible refine hK _ ?_); clear hK K) | fail))
            (with_reducible refine ord_run ?_ hG)
            intro K hK
            go_simp
            go_at_call 21; (with_reducible refine (len_any (hC.out.grow hG.b)).mono ?_); rintro e' w2 ⟨rfl, hw2⟩; subst hw2; have hb2 := G.refl w2
            replace hG := Grew.trans hG hb2
            (try dsimp only)
            (with_reducible refine hK _ _ hG ?_)
            clear hK K
            (repeat ((first | (with_reducible refine ord_q1 ?_) | (with_reducible refine ord_q0 ?_)); intro K hK; first | (refine Or.inr ⟨?_, ?_⟩; (focus (go_simp; first | done | (simp [undef]; done))); go_simp; (with_reducible refine hK _ ?_); clear hK K) | (refine Or.inl ⟨?_, ?_⟩; (focus (go_simp; done)); apply Exists.intro; refine And.intro ?_ ?_; (focus (first | (intro wq hq; obtain ⟨hcq, hfq⟩ := G.old hq; go_simp; (first | done | exact rfl); done) | (intro wq; go_simp; (first | done | exact rfl); done))); go_simp; (with_reducible refine hK _ ?_); clear hK K) | fail))
            (with_reducible refine ord_skip ?_ hG ?_); (focus (go_simp; first | done | (simp [undef]; done))); intro K hK; go_simp; (with_reducible refine hK _ ?_); clear hK K; (repeat ((first | (with_reducible refine ord_q1 ?_) | (with_reducible refine ord_q0 ?_)); intro K hK; first | (refine Or.inr ⟨?_, ?_⟩; (focus (go_simp; first | done | (simp [undef]; done))); go_simp; (with_reducible refine hK _ ?_); clear hK K) | (refine Or.inl ⟨?_, ?_⟩; (focus (go_simp; done)); apply Exists.intro; refine And.intro ?_ ?_; (focus (first | (intro wq hq; obtain ⟨hcq, hfq⟩ := G.old hq; go_simp; (first | done | exact rfl); done) | (intro wq; go_simp; (first | done | exact rfl); done))); go_simp; (with_reducible refine hK _ ?_); clear hK K) | fail))
            (with_reducible refine ord_skip ?_ hG ?_); (focus (go_simp; first | done | (simp [undef]; done))); intro K hK; go_simp; (with_reducible refine hK _ ?_); clear hK K; (repeat ((first | (with_reducible refine ord_q1 ?_) | (with_reducible refine ord_q0 ?_)); intro K hK; first | (refine Or.inr ⟨?_, ?_⟩; (focus (go_simp; first | done | (simp [undef]; done))); go_simp; (with_reducible refine hK _ ?_); clear hK K) | (refine Or.inl ⟨?_, ?_⟩; (focus (go_simp; done)); apply Exists.intro; refine And.intro ?_ ?_; (focus (first | (intro wq hq; obtain ⟨hcq, hfq⟩ := G.old hq; go_simp; (first | done | exact rfl); done) | (intro wq; go_simp; (first | done | exact rfl); done))); go_simp; (with_reducible refine hK _ ?_); clear hK K) | fail))
            (with_reducible refine ord_skip ?_ hG ?_); (focus (go_simp; first | done | (simp [undef]; done))); intro K hK; go_simp; (with_reducible refine hK _ ?_); clear hK K; (repeat ((first | (with_reducible refine ord_q1 ?_) | (with_reducible refine ord_q0 ?_)); intro K hK; first | (refine Or.inr ⟨?_, ?_⟩; (focus (go_simp; first | done | (simp [undef]; done))); go_simp; (with_reducible refine hK _ ?_); clear hK K) | (refine Or.inl ⟨?_, ?_⟩; (focus (go_simp; done)); apply Exists.intro; refine And.intro ?_ ?_; (focus (first | (intro wq hq; obtain ⟨hcq, hfq⟩ := G.old hq; go_simp; (first | done | exact rfl); done) | (intro wq; go_simp; (first | done | exact rfl); done))); go_simp; (with_reducible refine hK _ ?_); clear hK K) | fail))
            (with_reducible refine ord_nil ?_)
            go_wp2_with fail
            go_roundw
            case rel => exact ⟨k + 1, by omega, by go_num, by unfold Hid; rw [hs.out]; rfl, G.trans hbr hG.b⟩
            case measure => simp [intOf]; omega
          · obtain ⟨hjk, ⟨bb, br, hjx⟩, hb0⟩ := bestO_at l k hbo
            have hcj : wr.cell? ⟨bx, ox + j, none⟩ = some (.pointer (some ⟨bb, 0, none⟩)) := (hl.grow hbr).getC (by omega) hjx
            have hB : Hid (ChanAt ok wr bb br bc) := (HC.out bb br bc (List.mem_of_getElem? hjx)).grow hbr
            obtain ⟨v, hv⟩ : ∃ v, cmpS (leE c) (leP c) (leE bc) (leP bc) = v := ⟨_, rfl⟩
            have hs0 : Hid (bestO l (k + 1) = if v < 0 then some (k, c) else some (j, bc)) := by unfold Hid; rw [hbk.out, hbo]; simp [stepB, better, hc0, hv]
            replace hv := Lib.hid hv
            have hj0 : ¬ (j : Int) < 0 := by omega
            have hj1 : (0 : Int) ≤ (j : Int) := by omega
            have hj2 : (j : Int) < (n : Int) := by omega
            replace hbo := Lib.hid hbo
            replace hjx := Lib.hid hjx
            have hbj : bestV (some (j, bc)) = (j : Int) := rfl
            rw [hbj]
            clear hbj hb0
            have hln : j < n := by omega
            go_wp2_with fail
            have ltx := cell_lt hcj
            dsimp only at ltx
            by_cases hvn : v < 0
            · have hs : Hid (bestO l (k + 1) = some (k, c)) := by unfold Hid; rw [hs0.out, if_pos hvn]
              refine wp_region_ord [(0, 1), (1, 2), (2, 1), (3, 1), (4, 1), (5, 1), (6, 1), (7, 1), (9, 1), (10, 1), (11, 1), (12, 1), (8, 2), (13, 2), (14, 2), (15, 1), (16, 1), (17, 1)] [] 5 (by kernel_rfl) (by decide +kernel) ?_
              simp only [pickO, List.append_eq, List.cons_append, List.nil_append, List.getElem?_cons_succ, List.getElem?_cons_zero]
              intro w0 hG
              (repeat ((first | (with_reducible refine ord_q1 ?_) | (with_reducible refine ord_q0 ?_)); intro K hK; first | (refine Or.inr ⟨?_, ?_⟩; (focus (go_simp; first | done | (simp [undef]; done))); go_simp; (with_reducible refine hK _ ?_); clear hK K) | (refine Or.inl ⟨?_, ?_⟩; (focus (go_simp; done)); apply Exists.intro; refine And.intro ?_ ?_; (focus (first | (intro wq hq; obtain ⟨hcq, hfq⟩ := G.old hq; go_simp; (first | done | exact rfl); done) | (intro wq; go_simp; (first | done | exact rfl); done))); go_simp; (with_reducible refine hK _ ?_); clear hK K) | fail))
              (with_reducible refine ord_run ?_ hG)
              intro K hK
              go_simp
              go_at_call 21; (with_reducible refine (len_any (hC.out.grow hG.b)).mono ?_); rintro e' w2 ⟨rfl, hw2⟩; subst hw2; have hb2 := G.refl w2
              replace hG := Grew.trans hG hb2
              (try dsimp only)
              (with_reducible refine hK _ _ hG ?_)
              clear hK K
              (repeat ((first | (with_reducible refine ord_q1 ?_) | (with_reducible refine ord_q0 ?_)); intro K hK; first | (refine Or.inr ⟨?_, ?_⟩; (focus (go_simp; first | done | (simp [undef]; done))); go_simp; (with_reducible refine hK _ ?_); clear hK K) | (refine Or.inl ⟨?_, ?_⟩; (focus (go_simp; done)); apply Exists.intro; refine And.intro ?_ ?_; (focus (first | (intro wq hq; obtain ⟨hcq, hfq⟩ := G.old hq; go_simp; (first | done | exact rfl); done) | (intro wq; go_simp; (first | done | exact rfl); done))); go_simp; (with_reducible refine hK _ ?_); clear hK K) | fail))
              (with_reducible refine ord_run ?_ hG)
              intro K hK
              go_simp
              go_at_call 41; (with_reducible refine (least_any (hC.out.grow hG.b)).mono ?_); rintro e' w3 ⟨A1, c1, rfl, hp1, hb3⟩
              replace hG := Grew.trans hG hb3
              (try dsimp only)
              (with_reducible refine hK _ _ hG ?_)
              clear hK K
              (repeat ((first | (with_reducible refine ord_q1 ?_) | (with_reducible refine ord_q0 ?_)); intro K hK; first | (refine Or.inr ⟨?_, ?_⟩; (focus (go_simp; first | done | (simp [undef]; done))); go_simp; (with_reducible refine hK _ ?_); clear hK K) | (refine Or.inl ⟨?_, ?_⟩; (focus (go_simp; done)); apply Exists.intro; refine And.intro ?_ ?_; (focus (first | (intro wq hq; obtain ⟨hcq, hfq⟩ := G.old hq; go_simp; (first | done | exact rfl); done) | (intro wq; go_simp; (first | done | exact rfl); done))); go_simp; (with_reducible refine hK _ ?_); clear hK K) | fail))
              (with_reducible refine ord_run ?_ hG)
              intro K hK
              go_simp
              go_at_call 41; (with_reducible refine (least_any (hB.out.grow hG.b)).mono ?_); rintro e' w4 ⟨A2, c2, rfl, hp2, hb4⟩
              replace hG := Grew.trans hG hb4
              (try dsimp only)
              (with_reducible refine hK _ _ hG ?_)
              clear hK K
              (repeat ((first | (with_reducible refine ord_q1 ?_) | (with_reducible refine ord_q0 ?_)); intro K hK; first | (refine Or.inr ⟨?_, ?_⟩; (focus (go_simp; first | done | (simp [undef]; done))); go_simp; (with_reducible refine hK _ ?_); clear hK K) | (refine Or.inl ⟨?_, ?_⟩; (focus (go_simp; done)); apply Exists.intro; refine And.intro ?_ ?_; (focus (first | (intro wq hq; obtain ⟨hcq, hfq⟩ := G.old hq; go_simp; (first | done | exact rfl); done) | (intro wq; go_simp; (first | done | exact rfl); done))); go_simp; (with_reducible refine hK _ ?_); clear hK K) | fail))
              (with_reducible refine ord_run ?_ hG)
              intro K hK
              go_simp
              go_at_call 25; (with_reducible refine (compare_any (leE c) (leE bc) A1 A2 (leP c).length (leP bc).length c1 c2 (leP c) (leP bc) _ (hp1.sl.grow hb4) hp2.sl hp1.max).mono ?_); rintro e' w5 ⟨rfl, hb5⟩; rw [hv.out]
              replace hG := Grew.trans hG hb5
              (try dsimp only)
              (with_reducible refine hK _ _ hG ?_)
              clear hK K
              (repeat ((first | (with_reducible refine ord_q1 ?_) | (with_reducible refine ord_q0 ?_)); intro K hK; first | (refine Or.inr ⟨?_, ?_⟩; (focus (go_simp; first | done | (simp [undef]; done))); go_simp; (with_reducible refine hK _ ?_); clear hK K) | (refine Or.inl ⟨?_, ?_⟩; (focus (go_simp; done)); apply Exists.intro; refine And.intro ?_ ?_; (focus (first | (intro wq hq; obtain ⟨hcq, hfq⟩ := G.old hq; go_simp; (first | done | exact rfl); done) | (intro wq; go_simp; (first | done | exact rfl); done))); go_simp; (with_reducible refine hK _ ?_); clear hK K) | fail))
              (with_reducible refine ord_nil ?_)
              go_wp2_with fail
              go_roundw
              case rel => exact ⟨k + 1, by omega, by go_num, by unfold Hid; rw [hs.out]; rfl, G.trans hbr hG.b⟩
              case measure => simp [intOf]; omega
            · have hs : Hid (bestO l (k + 1) = some (j, bc)) := by unfold Hid; rw [hs0.out, if_neg hvn]
              refine wp_region_ord [(0, 1), (1, 2), (2, 1), (3, 1), (4, 1), (5, 1), (6, 1), (7, 1), (9, 1), (10, 1), (11, 1), (12, 1), (8, 2), (13, 2), (14, 2), (15, 1), (16, 1), (17, 1)] [] 5 (by kernel_rfl) (by decide +kernel) ?_
              simp only [pickO, List.append_eq, List.cons_append, List.nil_append, List.getElem?_cons_succ, List.getElem?_cons_zero]
              intro w0 hG
              (repeat ((first | (with_reducible refine ord_q1 ?_) | (with_reducible refine ord_q0 ?_)); intro K hK; first | (refine Or.inr ⟨?_, ?_⟩; (focus (go_simp; first | done | (simp [undef]; done))); go_simp; (with_reducible refine hK _ ?_); clear hK K) | (refine Or.inl ⟨?_, ?_⟩; (focus (go_simp; done)); apply Exists.intro; refine And.intro ?_ ?_; (focus (first | (intro wq hq; obtain ⟨hcq, hfq⟩ := G.old hq; go_simp; (first | done | exact rfl); done) | (intro wq; go_simp; (first | done | exact rfl); done))); go_simp; (with_reducible refine hK _ ?_); clear hK K) | fail))
              (with_reducible refine ord_run ?_ hG)
              intro K hK
              go_simp
              go_at_call 21; (with_reducible refine (len_any (hC.out.grow hG.b)).mono ?_); rintro e' w2 ⟨rfl, hw2⟩; subst hw2; have hb2 := G.refl w2
              replace hG := Grew.trans hG hb2
              (try dsimp only)
              (with_reducible refine hK _ _ hG ?_)
              clear hK K
              (repeat ((first | (with_reducible refine ord_q1 ?_) | (with_reducible refine ord_q0 ?_)); intro K hK; first | (refine Or.inr ⟨?_, ?_⟩; (focus (go_simp; first | done | (simp [undef]; done))); go_simp; (with_reducible refine hK _ ?_); clear hK K) | (refine Or.inl ⟨?_, ?_⟩; (focus (go_simp; done)); apply Exists.intro; refine And.intro ?_ ?_; (focus (first | (intro wq hq; obtain ⟨hcq, hfq⟩ := G.old hq; go_simp; (first | done | exact rfl); done) | (intro wq; go_simp; (first | done | exact rfl); done))); go_simp; (with_reducible refine hK _ ?_); clear hK K) | fail))
              (with_reducible refine ord_run ?_ hG)
              intro K hK
              go_simp
              go_at_call 41; (with_reducible refine (least_any (hC.out.grow hG.b)).mono ?_); rintro e' w3 ⟨A1, c1, rfl, hp1, hb3⟩
              replace hG := Grew.trans hG hb3
              (try dsimp only)
              (with_reducible refine hK _ _ hG ?_)
              clear hK K
              (repeat ((first | (with_reducible refine ord_q1 ?_) | (with_reducible refine ord_q0 ?_)); intro K hK; first | (refine Or.inr ⟨?_, ?_⟩; (focus (go_simp; first | done | (simp [undef]; done))); go_simp; (with_reducible refine hK _ ?_); clear hK K) | (refine Or.inl ⟨?_, ?_⟩; (focus (go_simp; done)); apply Exists.intro; refine And.intro ?_ ?_; (focus (first | (intro wq hq; obtain ⟨hcq, hfq⟩ := G.old hq; go_simp; (first | done | exact rfl); done) | (intro wq; go_simp; (first | done | exact rfl); done))); go_simp; (with_reducible refine hK _ ?_); clear hK K) | fail))
              (with_reducible refine ord_run ?_ hG)
              intro K hK
              go_simp
              go_at_call 41; (with_reducible refine (least_any (hB.out.grow hG.b)).mono ?_); rintro e' w4 ⟨A2, c2, rfl, hp2, hb4⟩
              replace hG := Grew.trans hG hb4
              (try dsimp only)
              (with_reducible refine hK _ _ hG ?_)
              clear hK K
              (repeat ((first | (with_reducible refine ord_q1 ?_) | (with_reducible refine ord_q0 ?_)); intro K hK; first | (refine Or.inr ⟨?_, ?_⟩; (focus (go_simp; first | done | (simp [undef]; done))); go_simp; (with_reducible refine hK _ ?_); clear hK K) | (refine Or.inl ⟨?_, ?_⟩; (focus (go_simp; done)); apply Exists.intro; refine And.intro ?_ ?_; (focus (first | (intro wq hq; obtain ⟨hcq, hfq⟩ := G.old hq; go_simp; (first | done | exact rfl); done) | (intro wq; go_simp; (first | done | exact rfl); done))); go_simp; (with_reducible refine hK _ ?_); clear hK K) | fail))
              (with_reducible refine ord_run ?_ hG)
              intro K hK
              go_simp
              go_at_call 25; (with_reducible refine (compare_any (leE c) (leE bc) A1 A2 (leP c).length (leP bc).length c1 c2 (leP c) (leP bc) _ (hp1.sl.grow hb4) hp2.sl hp1.max).mono ?_); rintro e' w5 ⟨rfl, hb5⟩; rw [hv.out]
              replace hG := Grew.trans hG hb5
              (try dsimp only)
              (with_reducible refine hK _ _ hG ?_)
              clear hK K
              (repeat ((first | (with_reducible refine ord_q1 ?_) | (with_reducible refine ord_q0 ?_)); intro K hK; first | (refine Or.inr ⟨?_, ?_⟩; (focus (go_simp; first | done | (simp [undef]; done))); go_simp; (with_reducible refine hK _ ?_); clear hK K) | (refine Or.inl ⟨?_, ?_⟩; (focus (go_simp; done)); apply Exists.intro; refine And.intro ?_ ?_; (focus (first | (intro wq hq; obtain ⟨hcq, hfq⟩ := G.old hq; go_simp; (first | done | exact rfl); done) | (intro wq; go_simp; (first | done | exact rfl); done))); go_simp; (with_reducible refine hK _ ?_); clear hK K) | fail))
              (with_reducible refine ord_nil ?_)
              go_wp2_with fail
              go_roundw
              case rel => exact ⟨k + 1, by omega, by go_num, by unfold Hid; rw [hs.out]; rfl, G.trans hbr hG.b⟩
              case measure => simp [intOf]; omega
        · have hs : Hid (bestO l (k + 1) = bestO l k) := by unfold Hid; rw [hbk.out]; simp [stepB, hc0]
          have hz : c.items.length = 0 := by omega
          have hz' := Lib.hid hz
          obtain ⟨V, hV⟩ : ∃ V, bestV (bestO l k) = V := ⟨_, rfl⟩
          rw [hV]
          replace hV := Lib.hid hV
          clear hc0
          go_wp2_with fail
          refine wp_region_ord [(0, 1), (1, 2), (2, 1), (3, 1), (4, 1), (5, 1), (6, 1), (7, 1), (9, 1), (10, 1), (11, 1), (12, 1), (8, 2), (13, 2), (14, 2), (15, 1), (16, 1), (17, 1)] [] 5 (by kernel_rfl) (by decide +kernel) ?_
          simp only [pickO, List.append_eq, List.cons_append, List.nil_append, List.getElem?_cons_succ, List.getElem?_cons_zero]
          intro w0 hG
          (repeat ((first | (with_reducible refine ord_q1 ?_) | (with_reducible refine ord_q0 ?_)); intro K hK; first | (refine Or.inr ⟨?_, ?_⟩; (focus (go_simp; first | done | (simp [undef]; done))); go_simp; (with_reducible refine hK _ ?_); clear hK K) | (refine Or.inl ⟨?_, ?_⟩; (focus (go_simp; done)); apply Exists.intro; refine And.intro ?_ ?_; (focus (first | (intro wq hq; obtain ⟨hcq, hfq⟩ := G.old hq; go_simp; (first | done | exact rfl); done) | (intro wq; go_simp; (first | done | exact rfl); done))); go_simp; (with_reducible refine hK _ ?_); clear hK K) | fail))
          (with_reducible refine ord_run ?_ hG)
          intro K hK
          go_simp
          go_at_call 21; (with_reducible refine (len_any (hC.out.grow hG.b)).mono ?_); rintro e' w2 ⟨rfl, hw2⟩; subst hw2; rw [hz'.out]; have hb2 := G.refl w2
          replace hG := Grew.trans hG hb2
          (try dsimp only)
          (with_reducible refine hK _ _ hG ?_)
          clear hK K
          (repeat ((first | (with_reducible refine ord_q1 ?_) | (with_reducible refine ord_q0 ?_)); intro K hK; first | (refine Or.inr ⟨?_, ?_⟩; (focus (go_simp; first | done | (simp [undef]; done))); go_simp; (with_reducible refine hK _ ?_); clear hK K) | (refine Or.inl ⟨?_, ?_⟩; (focus (go_simp; done)); apply Exists.intro; refine And.intro ?_ ?_; (focus (first | (intro wq hq; obtain ⟨hcq, hfq⟩ := G.old hq; go_simp; (first | done | exact rfl); done) | (intro wq; go_simp; (first | done | exact rfl); done))); go_simp; (with_reducible refine hK _ ?_); clear hK K) | fail))
          (with_reducible refine ord_skip ?_ hG ?_); (focus (go_simp; first | done | (simp [undef]; done))); intro K hK; go_simp; (with_reducible refine hK _ ?_); clear hK K; (repeat ((first | (with_reducible refine ord_q1 ?_) | (with_reducible refine ord_q0 ?_)); intro K hK; first | (refine Or.inr ⟨?_, ?_⟩; (focus (go_simp; first | done | (simp [undef]; done))); go_simp; (with_reducible refine hK _ ?_); clear hK K) | (refine Or.inl ⟨?_, ?_⟩; (focus (go_simp; done)); apply Exists.intro; refine And.intro ?_ ?_; (focus (first | (intro wq hq; obtain ⟨hcq, hfq⟩ := G.old hq; go_simp; (first | done | exact rfl); done) | (intro wq; go_simp; (first | done | exact rfl); done))); go_simp; (with_reducible refine hK _ ?_); clear hK K) | fail))
          (with_reducible refine ord_skip ?_ hG ?_); (focus (go_simp; first | done | (simp [undef]; done))); intro K hK; go_simp; (with_reducible refine hK _ ?_); clear hK K; (repeat ((first | (with_reducible refine ord_q1 ?_) | (with_reducible refine ord_q0 ?_)); intro K hK; first | (refine Or.inr ⟨?_, ?_⟩; (focus (go_simp; first | done | (simp [undef]; done))); go_simp; (with_reducible refine hK _ ?_); clear hK K) | (refine Or.inl ⟨?_, ?_⟩; (focus (go_simp; done)); apply Exists.intro; refine And.intro ?_ ?_; (focus (first | (intro wq hq; obtain ⟨hcq, hfq⟩ := G.old hq; go_simp; (first | done | exact rfl); done) | (intro wq; go_simp; (first | done | exact rfl); done))); go_simp; (with_reducible refine hK _ ?_); clear hK K) | fail))
          (with_reducible refine ord_skip ?_ hG ?_); (focus (go_simp; first | done | (simp [undef]; done))); intro K hK; go_simp; (with_reducible refine hK _ ?_); clear hK K; (repeat ((first | (with_reducible refine ord_q1 ?_) | (with_reducible refine ord_q0 ?_)); intro K hK; first | (refine Or.inr ⟨?_, ?_⟩; (focus (go_simp; first | done | (simp [undef]; done))); go_simp; (with_reducible refine hK _ ?_); clear hK K) | (refine Or.inl ⟨?_, ?_⟩; (focus (go_simp; done)); apply Exists.intro; refine And.intro ?_ ?_; (focus (first | (intro wq hq; obtain ⟨hcq, hfq⟩ := G.old hq; go_simp; (first | done | exact rfl); done) | (intro wq; go_simp; (first | done | exact rfl); done))); go_simp; (with_reducible refine hK _ ?_); clear hK K) | fail))
          (with_reducible refine ord_nil ?_)
          go_wp2_with fail
          go_roundw
          case rel => exact ⟨k + 1, by omega, by go_num, by unfold Hid; rw [hs.out, hV.out], G.trans hbr hG.b⟩
          case measure => simp [intOf]; omega
    · obtain rfl : k = n := by omega
      rcases hbo : bestO l k with _ | ⟨j, bc⟩
      · have hs : Hid (nextC l = (0, false)) := by unfold Hid nextC; rw [hlen.out, hbo]
        have hbj : bestV none = -1 := rfl
        rw [hbj]
        clear hbj hbo
        go_wp2
        go_ret2
        exact ⟨by rw [hs.out]; rfl, hbr⟩
      · obtain ⟨hjk, ⟨bb, br, hjx⟩, hb0⟩ := bestO_at l k hbo
        have hs0 : Hid (nextC l = if l.any (lessO (leE bc) (leP bc)) = true then (0, false) else ((j : Int), true)) := by unfold Hid nextC; rw [hlen.out, hbo]
        have hbj : bestV (some (j, bc)) = (j : Int) := rfl
        rw [hbj]
        obtain ⟨bx, ox, x, rfl, hbx, hxk, hcx⟩ := (hl.grow hbr).atC hjk
        have hcj : wr.cell? ⟨bx, ox + j, none⟩ = some (.pointer (some ⟨bb, 0, none⟩)) := (hl.grow hbr).getC (by omega) hjx
        have hB : Hid (ChanAt ok wr bb br bc) := (HC.out bb br bc (List.mem_of_getElem? hjx)).grow hbr
        have hj0 : ¬ (j : Int) < 0 := by omega
        have hj1 : (0 : Int) ≤ (j : Int) := by omega
        obtain ⟨an, han⟩ : ∃ an, l.any (lessO (leE bc) (leP bc)) = an := ⟨_, rfl⟩
        have hs1 : Hid (nextC l = if an = true then (0, false) else ((j : Int), true)) := by unfold Hid; rw [hs0.out, han]
        replace han := Lib.hid han
        clear hbj hb0 hbo hjx hxk hcx
        go_wp2_with fail
        refine (least_any hB.out).mono ?_
        rintro e' w3 ⟨A1, c1, rfl, hp1, hb3⟩
        have hbw3 : Below w.heap.size w w3 := G.trans hbr hb3
        replace hp1 := Lib.hid hp1
        go_wp2_with fail
        refine calls_name (fun wx => Below w3.heap.size w3 wx ∧ Bx wx w3.heap.size [.int .i64 (leE bc), .slice A1 (leP bc).length c1]) ⟨by repeat (first | with_reducible assumption | with_reducible exact G.refl _ | with_reducible refine G.drew ?_ | with_reducible refine G.drewN ?_ _ | with_reducible refine G.alloc ?_ _ | with_reducible refine Below.setCell ?_ (by first | (simp; done) | (simp; omega)) _ | with_reducible refine G.trans ?_ hb12 | with_reducible refine G.trans ?_ hb11 | with_reducible refine G.trans ?_ hb10 | with_reducible refine G.trans ?_ hb9 | with_reducible refine G.trans ?_ hb8 | with_reducible refine G.trans ?_ hb7 | with_reducible refine G.trans ?_ hb6 | with_reducible refine G.trans ?_ hb5 | with_reducible refine G.trans ?_ hb4 | with_reducible refine G.trans ?_ hb3 | with_reducible refine G.trans ?_ hb2 | with_reducible refine G.trans ?_ hb1 | with_reducible refine G.trans ?_ hb | assumption), by repeat (first | with_reducible assumption | (with_reducible exact Bx.new (by simp; done) (by rfl)) | (with_reducible refine Bx.alloc ?_ _) | (with_reducible refine Bx.drewN ?_ _) | ((with_reducible apply Bx.put); rotate_right; (first | rfl | skip)) | (with_reducible refine Bx.other ?_ (by first | (simp; done) | (simp; omega)) _))⟩ ?_
        rintro w4 ⟨hb4, x4⟩
        have hbw4 : Below w.heap.size w w4 := G.trans hbw3 hb4
        refine (conN_any (hl.grow hbw4) hnm.out (HC.out.grow hbw4) x4 (hp1.out.grow hb4)).mono ?_
        rintro e' w5 ⟨rfl, hb5⟩
        rw [han.out]
        have hbw5 := G.trans hbw4 hb5
        rcases an with _ | _
        · have hs2 : Hid (nextC l = ((j : Int), true)) := hs1.out
          go_wp2_with fail
          go_ret2
          exact ⟨by rw [hs2.out]; rfl, hbw5⟩
        · have hs2 : Hid (nextC l = (0, false)) := hs1.out
          go_wp2_with fail
          go_ret2
          exact ⟨by rw [hs2.out]; rfl, hbw5⟩
end Go.Proofs.Ytjldpodehffbnaa
