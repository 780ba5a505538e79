/- The method Equal. Printed by mkeq2.py. -/
import Derived.Test.YtjldpodehffbnaaEq1
namespace Go.Proofs.Ytjldpodehffbnaa
set_option linter.unusedVariables false
set_option linter.unnecessarySimpa false
set_option linter.unusedSimpArgs false
open Go.RowKit

def eqC (c d : Ch) : Bool := decide (c.cap = d.cap) && ((cmpS c.me c.mp d.me d.mp == 0) && ((c.used == d.used) && ((cmpS c.le c.lp d.le d.lp == 0) && eqIs c.items d.items)))
theorem RetIs.items {its : List It} {A : Option Addr} {c : Nat} {xs : List Value} {L : Nat} {w : World} (h1 : Rw (From L) w 11 A its.length c xs) (h2 : ∀ j it, its[j]? = some it → ItemV (From L) w ((xs.drop (j * 11)).take 11) it) : ItemsV (From L) w A its.length c xs its := ⟨h1, rfl, h2⟩
set_option maxRecDepth 20000 in set_option maxHeartbeats 4000000 in
theorem eqC_any {ok ok' : Nat → Prop} {w : World} {b r b' r' : Nat} {c d : Ch} (h : ChanAt ok w b r c) (h' : ChanAt ok' w b' r' d) :
    Calls Try.prog 35 #[.pointer (some ⟨b, 0, none⟩), .pointer (some ⟨b', 0, none⟩)] w fun e w' => e = .returned (.bool (eqC c d)) ∧ Below w.heap.size w w' := by
  have HC := Lib.hid h
  have HD := Lib.hid h'
  have hc4 : c.items.length ≤ 1024 := by
    obtain ⟨_, _, _, _, _, _, _, _, h1⟩ := h
    have := h1.2.2.2.2.2.2.1
    have := h1.2.2.2.2.2.2.2.1
    omega
  have hd4 : d.items.length ≤ 1024 := by
    obtain ⟨_, _, _, _, _, _, _, _, h1⟩ := h'
    have := h1.2.2.2.2.2.2.1
    have := h1.2.2.2.2.2.2.2.1
    omega
  replace hc4 := Lib.hid hc4
  replace hd4 := Lib.hid hd4
  obtain ⟨f1, g1, A1, B1, n1, q1, m1, d1, hI⟩ := h
  obtain ⟨f2, g2, A2, B2, n2, q2, m2, d2, hJ⟩ := h'
  have k0 := (hI.1.2 0 _ rfl).1
  have k3 := (hI.1.2 3 _ rfl).1
  have k4 := (hI.1.2 4 _ rfl).1
  have k5 := (hI.1.2 5 _ rfl).1
  have k6 := (hI.1.2 6 _ rfl).1
  have k7 := (hI.1.2 7 _ rfl).1
  have ltk := hI.1.lt
  have j0 := (hJ.1.2 0 _ rfl).1
  have j3 := (hJ.1.2 3 _ rfl).1
  have j4 := (hJ.1.2 4 _ rfl).1
  have j5 := (hJ.1.2 5 _ rfl).1
  have j6 := (hJ.1.2 6 _ rfl).1
  have j7 := (hJ.1.2 7 _ rfl).1
  have ltj := hJ.1.lt
  have P1 := Lib.hid hI.2.2.2.1
  have P2 := Lib.hid hJ.2.2.2.1
  have R1 := Lib.hid hI.2.2.2.2.1
  have R2 := Lib.hid hJ.2.2.2.2.1
  clear hI hJ
  obtain ⟨cc, hcc⟩ : ∃ x, c.cap = x := ⟨_, rfl⟩
  obtain ⟨dc, hdc⟩ : ∃ x, d.cap = x := ⟨_, rfl⟩
  obtain ⟨u1, hu1⟩ : ∃ x, c.used = x := ⟨_, rfl⟩
  obtain ⟨u2, hu2⟩ : ∃ x, d.used = x := ⟨_, rfl⟩
  obtain ⟨v1, hv1⟩ : ∃ v, (cmpS c.me c.mp d.me d.mp == 0) = v := ⟨_, rfl⟩
  obtain ⟨v2, hv2⟩ : ∃ v, (cmpS c.le c.lp d.le d.lp == 0) = v := ⟨_, rfl⟩
  obtain ⟨v3, hv3⟩ : ∃ v, eqIs c.items d.items = v := ⟨_, rfl⟩
  have hs : Hid (eqC c d = (decide (cc = dc) && (v1 && ((u1 == u2) && (v2 && v3))))) := by unfold Hid eqC; rw [hcc, hdc, hu1, hu2, hv1, hv2, hv3]
  rw [hcc] at k0
  rw [hdc] at j0
  rw [hu1] at k7
  rw [hu2] at j7
  replace hv1 := Lib.hid hv1
  replace hv2 := Lib.hid hv2
  replace hv3 := Lib.hid hv3
  clear hcc hdc hu1 hu2
  go_enter Try.func35, Try.ntmps35
  go_wp2_with fail
  by_cases h1 : cc = dc
  · subst h1
    rcases v1 with _ | _
    · have hs' : Hid (eqC c d = false) := by unfold Hid; rw [hs.out]; simp [*]
      refine wp_region_ord [(0, 1), (1, 1), (2, 1), (3, 1), (4, 1), (5, 1), (6, 1), (7, 1), (8, 1), (9, 1), (10, 1), (11, 1), (12, 1), (13, 1), (14, 1), (15, 1), (16, 1), (17, 1), (18, 1), (19, 1), (20, 2), (21, 1), (22, 1), (23, 1), (24, 1), (25, 1), (26, 1), (27, 1), (28, 1), (29, 1), (30, 1), (31, 1), (32, 1), (33, 1), (34, 1), (35, 1), (36, 1), (37, 1), (38, 1), (39, 1), (40, 1), (41, 1), (42, 2), (43, 1), (44, 1), (45, 1), (47, 1), (46, 2), (48, 2), (49, 2), (50, 1), (51, 1)] [] 5 (by kernel_rfl) (by decide +kernel) ?_
      simp only [pickO, List.append_eq, List.cons_append, List.nil_append, List.getElem?_cons_succ, List.getElem?_cons_zero]
      intro w0 hG
      (repeat ((first | (with_reducible refine ord_q1 ?_) | (with_reducible refine ord_q0 ?_)); intro K hK; first | (refine Or.inr ⟨?_, ?_⟩; (focus (go_simp; first | done | (simp [undef]; done))); go_simp; (with_reducible refine hK _ ?_); clear hK K) | (refine Or.inl ⟨?_, ?_⟩; (focus (go_simp; done)); apply Exists.intro; refine And.intro ?_ ?_; (focus (first | (intro wq hq; obtain ⟨hcq, hfq⟩ := G.old hq; go_simp; (first | done | exact rfl); done) | (intro wq; go_simp; (first | done | exact rfl); done))); go_simp; (with_reducible refine hK _ ?_); clear hK K) | fail))
      (with_reducible refine ord_run ?_ hG)
      intro K hK
      go_simp
      go_at_call 15; (with_reducible refine (equal_any c.me d.me A1 A2 n1 n2 q1 q2 c.mp d.mp _ (P1.out.sl.grow hG.b) (P2.out.sl.grow hG.b) P1.out.max).mono ?_); rintro e' w3 ⟨rfl, hb3⟩; rw [hv1.out]
      replace hG := Grew.trans hG hb3
      (try dsimp only)
      (with_reducible refine hK _ _ hG ?_)
      clear hK K
      (repeat ((first | (with_reducible refine ord_q1 ?_) | (with_reducible refine ord_q0 ?_)); intro K hK; first | (refine Or.inr ⟨?_, ?_⟩; (focus (go_simp; first | done | (simp [undef]; done))); go_simp; (with_reducible refine hK _ ?_); clear hK K) | (refine Or.inl ⟨?_, ?_⟩; (focus (go_simp; done)); apply Exists.intro; refine And.intro ?_ ?_; (focus (first | (intro wq hq; obtain ⟨hcq, hfq⟩ := G.old hq; go_simp; (first | done | exact rfl); done) | (intro wq; go_simp; (first | done | exact rfl); done))); go_simp; (with_reducible refine hK _ ?_); clear hK K) | fail))
      (with_reducible refine ord_skip ?_ hG ?_); (focus (go_simp; first | done | (simp [undef]; done))); intro K hK; go_simp; (with_reducible refine hK _ ?_); clear hK K; (repeat ((first | (with_reducible refine ord_q1 ?_) | (with_reducible refine ord_q0 ?_)); intro K hK; first | (refine Or.inr ⟨?_, ?_⟩; (focus (go_simp; first | done | (simp [undef]; done))); go_simp; (with_reducible refine hK _ ?_); clear hK K) | (refine Or.inl ⟨?_, ?_⟩; (focus (go_simp; done)); apply Exists.intro; refine And.intro ?_ ?_; (focus (first | (intro wq hq; obtain ⟨hcq, hfq⟩ := G.old hq; go_simp; (first | done | exact rfl); done) | (intro wq; go_simp; (first | done | exact rfl); done))); go_simp; (with_reducible refine hK _ ?_); clear hK K) | fail))
      (with_reducible refine ord_skip ?_ hG ?_); (focus (go_simp; first | done | (simp [undef]; done))); intro K hK; go_simp; (with_reducible refine hK _ ?_); clear hK K; (repeat ((first | (with_reducible refine ord_q1 ?_) | (with_reducible refine ord_q0 ?_)); intro K hK; first | (refine Or.inr ⟨?_, ?_⟩; (focus (go_simp; first | done | (simp [undef]; done))); go_simp; (with_reducible refine hK _ ?_); clear hK K) | (refine Or.inl ⟨?_, ?_⟩; (focus (go_simp; done)); apply Exists.intro; refine And.intro ?_ ?_; (focus (first | (intro wq hq; obtain ⟨hcq, hfq⟩ := G.old hq; go_simp; (first | done | exact rfl); done) | (intro wq; go_simp; (first | done | exact rfl); done))); go_simp; (with_reducible refine hK _ ?_); clear hK K) | fail))
      (with_reducible refine ord_skip ?_ hG ?_); (focus (go_simp; first | done | (simp [undef]; done))); intro K hK; go_simp; (with_reducible refine hK _ ?_); clear hK K; (repeat ((first | (with_reducible refine ord_q1 ?_) | (with_reducible refine ord_q0 ?_)); intro K hK; first | (refine Or.inr ⟨?_, ?_⟩; (focus (go_simp; first | done | (simp [undef]; done))); go_simp; (with_reducible refine hK _ ?_); clear hK K) | (refine Or.inl ⟨?_, ?_⟩; (focus (go_simp; done)); apply Exists.intro; refine And.intro ?_ ?_; (focus (first | (intro wq hq; obtain ⟨hcq, hfq⟩ := G.old hq; go_simp; (first | done | exact rfl); done) | (intro wq; go_simp; (first | done | exact rfl); done))); go_simp; (with_reducible refine hK _ ?_); clear hK K) | fail))
      (with_reducible refine ord_skip ?_ hG ?_); (focus (go_simp; first | done | (simp [undef]; done))); intro K hK; go_simp; (with_reducible refine hK _ ?_); clear hK K; (repeat ((first | (with_reducible refine ord_q1 ?_) | (with_reducible refine ord_q0 ?_)); intro K hK; first | (refine Or.inr ⟨?_, ?_⟩; (focus (go_simp; first | done | (simp [undef]; done))); go_simp; (with_reducible refine hK _ ?_); clear hK K) | (refine Or.inl ⟨?_, ?_⟩; (focus (go_simp; done)); apply Exists.intro; refine And.intro ?_ ?_; (focus (first | (intro wq hq; obtain ⟨hcq, hfq⟩ := G.old hq; go_simp; (first | done | exact rfl); done) | (intro wq; go_simp; (first | done | exact rfl); done))); go_simp; (with_reducible refine hK _ ?_); clear hK K) | fail))
      (with_reducible refine ord_nil ?_)
      go_wp2_with fail
      go_ret
      exact ⟨ret_b hs'.out.symm, hG.b⟩
    · by_cases h3 : u1 = u2
      · subst h3
        rcases v2 with _ | _
        · have hs' : Hid (eqC c d = false) := by unfold Hid; rw [hs.out]; simp [*]
          refine wp_region_ord [(0, 1), (1, 1), (2, 1), (3, 1), (4, 1), (5, 1), (6, 1), (7, 1), (8, 1), (9, 1), (10, 1), (11, 1), (12, 1), (13, 1), (14, 1), (15, 1), (16, 1), (17, 1), (18, 1), (19, 1), (20, 2), (21, 1), (22, 1), (23, 1), (24, 1), (25, 1), (26, 1), (27, 1), (28, 1), (29, 1), (30, 1), (31, 1), (32, 1), (33, 1), (34, 1), (35, 1), (36, 1), (37, 1), (38, 1), (39, 1), (40, 1), (41, 1), (42, 2), (43, 1), (44, 1), (45, 1), (47, 1), (46, 2), (48, 2), (49, 2), (50, 1), (51, 1)] [] 5 (by kernel_rfl) (by decide +kernel) ?_
          simp only [pickO, List.append_eq, List.cons_append, List.nil_append, List.getElem?_cons_succ, List.getElem?_cons_zero]
          intro w0 hG
          (repeat ((first | (with_reducible refine ord_q1 ?_) | (with_reducible refine ord_q0 ?_)); intro K hK; first | (refine Or.inr ⟨?_, ?_⟩; (focus (go_simp; first | done | (simp [undef]; done))); go_simp; (with_reducible refine hK _ ?_); clear hK K) | (refine Or.inl ⟨?_, ?_⟩; (focus (go_simp; done)); apply Exists.intro; refine And.intro ?_ ?_; (focus (first | (intro wq hq; obtain ⟨hcq, hfq⟩ := G.old hq; go_simp; (first | done | exact rfl); done) | (intro wq; go_simp; (first | done | exact rfl); done))); go_simp; (with_reducible refine hK _ ?_); clear hK K) | fail))
          (with_reducible refine ord_run ?_ hG)
          intro K hK
          go_simp
          go_at_call 15; (with_reducible refine (equal_any c.me d.me A1 A2 n1 n2 q1 q2 c.mp d.mp _ (P1.out.sl.grow hG.b) (P2.out.sl.grow hG.b) P1.out.max).mono ?_); rintro e' w3 ⟨rfl, hb3⟩; rw [hv1.out]
          replace hG := Grew.trans hG hb3
          (try dsimp only)
          (with_reducible refine hK _ _ hG ?_)
          clear hK K
          (repeat ((first | (with_reducible refine ord_q1 ?_) | (with_reducible refine ord_q0 ?_)); intro K hK; first | (refine Or.inr ⟨?_, ?_⟩; (focus (go_simp; first | done | (simp [undef]; done))); go_simp; (with_reducible refine hK _ ?_); clear hK K) | (refine Or.inl ⟨?_, ?_⟩; (focus (go_simp; done)); apply Exists.intro; refine And.intro ?_ ?_; (focus (first | (intro wq hq; obtain ⟨hcq, hfq⟩ := G.old hq; go_simp; (first | done | exact rfl); done) | (intro wq; go_simp; (first | done | exact rfl); done))); go_simp; (with_reducible refine hK _ ?_); clear hK K) | fail))
          (with_reducible refine ord_run ?_ hG)
          intro K hK
          go_simp
          go_at_call 15; (with_reducible refine (equal_any c.le d.le B1 B2 m1 m2 d1 d2 c.lp d.lp _ (R1.out.sl.grow hG.b) (R2.out.sl.grow hG.b) R1.out.max).mono ?_); rintro e' w4 ⟨rfl, hb4⟩; rw [hv2.out]
          replace hG := Grew.trans hG hb4
          (try dsimp only)
          (with_reducible refine hK _ _ hG ?_)
          clear hK K
          (repeat ((first | (with_reducible refine ord_q1 ?_) | (with_reducible refine ord_q0 ?_)); intro K hK; first | (refine Or.inr ⟨?_, ?_⟩; (focus (go_simp; first | done | (simp [undef]; done))); go_simp; (with_reducible refine hK _ ?_); clear hK K) | (refine Or.inl ⟨?_, ?_⟩; (focus (go_simp; done)); apply Exists.intro; refine And.intro ?_ ?_; (focus (first | (intro wq hq; obtain ⟨hcq, hfq⟩ := G.old hq; go_simp; (first | done | exact rfl); done) | (intro wq; go_simp; (first | done | exact rfl); done))); go_simp; (with_reducible refine hK _ ?_); clear hK K) | fail))
          (with_reducible refine ord_skip ?_ hG ?_); (focus (go_simp; first | done | (simp [undef]; done))); intro K hK; go_simp; (with_reducible refine hK _ ?_); clear hK K; (repeat ((first | (with_reducible refine ord_q1 ?_) | (with_reducible refine ord_q0 ?_)); intro K hK; first | (refine Or.inr ⟨?_, ?_⟩; (focus (go_simp; first | done | (simp [undef]; done))); go_simp; (with_reducible refine hK _ ?_); clear hK K) | (refine Or.inl ⟨?_, ?_⟩; (focus (go_simp; done)); apply Exists.intro; refine And.intro ?_ ?_; (focus (first | (intro wq hq; obtain ⟨hcq, hfq⟩ := G.old hq; go_simp; (first | done | exact rfl); done) | (intro wq; go_simp; (first | done | exact rfl); done))); go_simp; (with_reducible refine hK _ ?_); clear hK K) | fail))
          (with_reducible refine ord_skip ?_ hG ?_); (focus (go_simp; first | done | (simp [undef]; done))); intro K hK; go_simp; (with_reducible refine hK _ ?_); clear hK K; (repeat ((first | (with_reducible refine ord_q1 ?_) | (with_reducible refine ord_q0 ?_)); intro K hK; first | (refine Or.inr ⟨?_, ?_⟩; (focus (go_simp; first | done | (simp [undef]; done))); go_simp; (with_reducible refine hK _ ?_); clear hK K) | (refine Or.inl ⟨?_, ?_⟩; (focus (go_simp; done)); apply Exists.intro; refine And.intro ?_ ?_; (focus (first | (intro wq hq; obtain ⟨hcq, hfq⟩ := G.old hq; go_simp; (first | done | exact rfl); done) | (intro wq; go_simp; (first | done | exact rfl); done))); go_simp; (with_reducible refine hK _ ?_); clear hK K) | fail))
          (with_reducible refine ord_skip ?_ hG ?_); (focus (go_simp; first | done | (simp [undef]; done))); intro K hK; go_simp; (with_reducible refine hK _ ?_); clear hK K; (repeat ((first | (with_reducible refine ord_q1 ?_) | (with_reducible refine ord_q0 ?_)); intro K hK; first | (refine Or.inr ⟨?_, ?_⟩; (focus (go_simp; first | done | (simp [undef]; done))); go_simp; (with_reducible refine hK _ ?_); clear hK K) | (refine Or.inl ⟨?_, ?_⟩; (focus (go_simp; done)); apply Exists.intro; refine And.intro ?_ ?_; (focus (first | (intro wq hq; obtain ⟨hcq, hfq⟩ := G.old hq; go_simp; (first | done | exact rfl); done) | (intro wq; go_simp; (first | done | exact rfl); done))); go_simp; (with_reducible refine hK _ ?_); clear hK K) | fail))
          (with_reducible refine ord_nil ?_)
          go_wp2_with fail
          go_ret
          exact ⟨ret_b hs'.out.symm, hG.b⟩
        · have hs' : Hid (eqC c d = v3) := by unfold Hid; rw [hs.out]; simp [*]
          refine wp_region_ord [(0, 1), (1, 1), (2, 1), (3, 1), (4, 1), (5, 1), (6, 1), (7, 1), (8, 1), (9, 1), (10, 1), (11, 1), (12, 1), (13, 1), (14, 1), (15, 1), (16, 1), (17, 1), (18, 1), (19, 1), (20, 2), (21, 1), (22, 1), (23, 1), (24, 1), (25, 1), (26, 1), (27, 1), (28, 1), (29, 1), (30, 1), (31, 1), (32, 1), (33, 1), (34, 1), (35, 1), (36, 1), (37, 1), (38, 1), (39, 1), (40, 1), (41, 1), (42, 2), (43, 1), (44, 1), (45, 1), (47, 1), (46, 2), (48, 2), (49, 2), (50, 1), (51, 1)] [] 5 (by kernel_rfl) (by decide +kernel) ?_
          simp only [pickO, List.append_eq, List.cons_append, List.nil_append, List.getElem?_cons_succ, List.getElem?_cons_zero]
          intro w0 hG
          (repeat ((first | (with_reducible refine ord_q1 ?_) | (with_reducible refine ord_q0 ?_)); intro K hK; first | (refine Or.inr ⟨?_, ?_⟩; (focus (go_simp; first | done | (simp [undef]; done))); go_simp; (with_reducible refine hK _ ?_); clear hK K) | (refine Or.inl ⟨?_, ?_⟩; (focus (go_simp; done)); apply Exists.intro; refine And.intro ?_ ?_; (focus (first | (intro wq hq; obtain ⟨hcq, hfq⟩ := G.old hq; go_simp; (first | done | exact rfl); done) | (intro wq; go_simp; (first | done | exact rfl); done))); go_simp; (with_reducible refine hK _ ?_); clear hK K) | fail))
          (with_reducible refine ord_run ?_ hG)
          intro K hK
          go_simp
          go_at_call 15; (with_reducible refine (equal_any c.me d.me A1 A2 n1 n2 q1 q2 c.mp d.mp _ (P1.out.sl.grow hG.b) (P2.out.sl.grow hG.b) P1.out.max).mono ?_); rintro e' w3 ⟨rfl, hb3⟩; rw [hv1.out]
          replace hG := Grew.trans hG hb3
          (try dsimp only)
          (with_reducible refine hK _ _ hG ?_)
          clear hK K
          (repeat ((first | (with_reducible refine ord_q1 ?_) | (with_reducible refine ord_q0 ?_)); intro K hK; first | (refine Or.inr ⟨?_, ?_⟩; (focus (go_simp; first | done | (simp [undef]; done))); go_simp; (with_reducible refine hK _ ?_); clear hK K) | (refine Or.inl ⟨?_, ?_⟩; (focus (go_simp; done)); apply Exists.intro; refine And.intro ?_ ?_; (focus (first | (intro wq hq; obtain ⟨hcq, hfq⟩ := G.old hq; go_simp; (first | done | exact rfl); done) | (intro wq; go_simp; (first | done | exact rfl); done))); go_simp; (with_reducible refine hK _ ?_); clear hK K) | fail))
          (with_reducible refine ord_run ?_ hG)
          intro K hK
          go_simp
          go_at_call 15; (with_reducible refine (equal_any c.le d.le B1 B2 m1 m2 d1 d2 c.lp d.lp _ (R1.out.sl.grow hG.b) (R2.out.sl.grow hG.b) R1.out.max).mono ?_); rintro e' w4 ⟨rfl, hb4⟩; rw [hv2.out]
          replace hG := Grew.trans hG hb4
          (try dsimp only)
          (with_reducible refine hK _ _ hG ?_)
          clear hK K
          (repeat ((first | (with_reducible refine ord_q1 ?_) | (with_reducible refine ord_q0 ?_)); intro K hK; first | (refine Or.inr ⟨?_, ?_⟩; (focus (go_simp; first | done | (simp [undef]; done))); go_simp; (with_reducible refine hK _ ?_); clear hK K) | (refine Or.inl ⟨?_, ?_⟩; (focus (go_simp; done)); apply Exists.intro; refine And.intro ?_ ?_; (focus (first | (intro wq hq; obtain ⟨hcq, hfq⟩ := G.old hq; go_simp; (first | done | exact rfl); done) | (intro wq; go_simp; (first | done | exact rfl); done))); go_simp; (with_reducible refine hK _ ?_); clear hK K) | fail))
          (with_reducible refine ord_run ?_ hG)
          intro K hK
          go_simp
          go_at_call 40; (with_reducible refine (items_any (HC.out.grow hG.b)).mono ?_); rintro e' w5 ⟨X5, s5, xs5, rfl, hr5, hi5, hb5⟩
          replace hG := Grew.trans hG hb5
          (try dsimp only)
          (with_reducible refine hK _ _ hG ?_)
          clear hK K
          (repeat ((first | (with_reducible refine ord_q1 ?_) | (with_reducible refine ord_q0 ?_)); intro K hK; first | (refine Or.inr ⟨?_, ?_⟩; (focus (go_simp; first | done | (simp [undef]; done))); go_simp; (with_reducible refine hK _ ?_); clear hK K) | (refine Or.inl ⟨?_, ?_⟩; (focus (go_simp; done)); apply Exists.intro; refine And.intro ?_ ?_; (focus (first | (intro wq hq; obtain ⟨hcq, hfq⟩ := G.old hq; go_simp; (first | done | exact rfl); done) | (intro wq; go_simp; (first | done | exact rfl); done))); go_simp; (with_reducible refine hK _ ?_); clear hK K) | fail))
          (with_reducible refine ord_run ?_ hG)
          intro K hK
          go_simp
          go_at_call 40; (with_reducible refine (items_any (HD.out.grow hG.b)).mono ?_); rintro e' w6 ⟨X6, s6, xs6, rfl, hr6, hi6, hb6⟩
          replace hG := Grew.trans hG hb6
          (try dsimp only)
          (with_reducible refine hK _ _ hG ?_)
          clear hK K
          (repeat ((first | (with_reducible refine ord_q1 ?_) | (with_reducible refine ord_q0 ?_)); intro K hK; first | (refine Or.inr ⟨?_, ?_⟩; (focus (go_simp; first | done | (simp [undef]; done))); go_simp; (with_reducible refine hK _ ?_); clear hK K) | (refine Or.inl ⟨?_, ?_⟩; (focus (go_simp; done)); apply Exists.intro; refine And.intro ?_ ?_; (focus (first | (intro wq hq; obtain ⟨hcq, hfq⟩ := G.old hq; go_simp; (first | done | exact rfl); done) | (intro wq; go_simp; (first | done | exact rfl); done))); go_simp; (with_reducible refine hK _ ?_); clear hK K) | fail))
          (with_reducible refine ord_run ?_ hG)
          intro K hK
          go_simp
          go_at_call 61; (with_reducible refine (eqF_any ((RetIs.items hr5 hi5).grow hb6) (RetIs.items hr6 hi6) hc4.out hd4.out).mono ?_); rintro e' w7 ⟨rfl, hb7⟩; rw [hv3.out]
          replace hG := Grew.trans hG hb7
          (try dsimp only)
          (with_reducible refine hK _ _ hG ?_)
          clear hK K
          (repeat ((first | (with_reducible refine ord_q1 ?_) | (with_reducible refine ord_q0 ?_)); intro K hK; first | (refine Or.inr ⟨?_, ?_⟩; (focus (go_simp; first | done | (simp [undef]; done))); go_simp; (with_reducible refine hK _ ?_); clear hK K) | (refine Or.inl ⟨?_, ?_⟩; (focus (go_simp; done)); apply Exists.intro; refine And.intro ?_ ?_; (focus (first | (intro wq hq; obtain ⟨hcq, hfq⟩ := G.old hq; go_simp; (first | done | exact rfl); done) | (intro wq; go_simp; (first | done | exact rfl); done))); go_simp; (with_reducible refine hK _ ?_); clear hK K) | fail))
          (with_reducible refine ord_nil ?_)
          go_wp2_with fail
          go_ret
          exact ⟨ret_b hs'.out.symm, hG.b⟩
      · have h3' : (u1 == u2) = false := by simpa using h3
        have hs' : Hid (eqC c d = false) := by unfold Hid; rw [hs.out]; simp [*]
        refine wp_region_ord [(0, 1), (1, 1), (2, 1), (3, 1), (4, 1), (5, 1), (6, 1), (7, 1), (8, 1), (9, 1), (10, 1), (11, 1), (12, 1), (13, 1), (14, 1), (15, 1), (16, 1), (17, 1), (18, 1), (19, 1), (20, 2), (21, 1), (22, 1), (23, 1), (24, 1), (25, 1), (26, 1), (27, 1), (28, 1), (29, 1), (30, 1), (31, 1), (32, 1), (33, 1), (34, 1), (35, 1), (36, 1), (37, 1), (38, 1), (39, 1), (40, 1), (41, 1), (42, 2), (43, 1), (44, 1), (45, 1), (47, 1), (46, 2), (48, 2), (49, 2), (50, 1), (51, 1)] [] 5 (by kernel_rfl) (by decide +kernel) ?_
        simp only [pickO, List.append_eq, List.cons_append, List.nil_append, List.getElem?_cons_succ, List.getElem?_cons_zero]
        intro w0 hG
        (repeat ((first | (with_reducible refine ord_q1 ?_) | (with_reducible refine ord_q0 ?_)); intro K hK; first | (refine Or.inr ⟨?_, ?_⟩; (focus (go_simp; first | done | (simp [undef]; done))); go_simp; (with_reducible refine hK _ ?_); clear hK K) | (refine Or.inl ⟨?_, ?_⟩; (focus (go_simp; done)); apply Exists.intro; refine And.intro ?_ ?_; (focus (first | (intro wq hq; obtain ⟨hcq, hfq⟩ := G.old hq; go_simp; (first | done | exact rfl); done) | (intro wq; go_simp; (first | done | exact rfl); done))); go_simp; (with_reducible refine hK _ ?_); clear hK K) | fail))
        (with_reducible refine ord_run ?_ hG)
        intro K hK
        go_simp
        go_at_call 15; (with_reducible refine (equal_any c.me d.me A1 A2 n1 n2 q1 q2 c.mp d.mp _ (P1.out.sl.grow hG.b) (P2.out.sl.grow hG.b) P1.out.max).mono ?_); rintro e' w3 ⟨rfl, hb3⟩; rw [hv1.out]
        replace hG := Grew.trans hG hb3
        (try dsimp only)
        (with_reducible refine hK _ _ hG ?_)
        clear hK K
        (repeat ((first | (with_reducible refine ord_q1 ?_) | (with_reducible refine ord_q0 ?_)); intro K hK; first | (refine Or.inr ⟨?_, ?_⟩; (focus (go_simp; first | done | (simp [undef]; done))); go_simp; (with_reducible refine hK _ ?_); clear hK K) | (refine Or.inl ⟨?_, ?_⟩; (focus (go_simp; done)); apply Exists.intro; refine And.intro ?_ ?_; (focus (first | (intro wq hq; obtain ⟨hcq, hfq⟩ := G.old hq; go_simp; (first | done | exact rfl); done) | (intro wq; go_simp; (first | done | exact rfl); done))); go_simp; (with_reducible refine hK _ ?_); clear hK K) | fail))
        (with_reducible refine ord_skip ?_ hG ?_); (focus (go_simp; first | done | (simp [undef]; done))); intro K hK; go_simp; (with_reducible refine hK _ ?_); clear hK K; (repeat ((first | (with_reducible refine ord_q1 ?_) | (with_reducible refine ord_q0 ?_)); intro K hK; first | (refine Or.inr ⟨?_, ?_⟩; (focus (go_simp; first | done | (simp [undef]; done))); go_simp; (with_reducible refine hK _ ?_); clear hK K) | (refine Or.inl ⟨?_, ?_⟩; (focus (go_simp; done)); apply Exists.intro; refine And.intro ?_ ?_; (focus (first | (intro wq hq; obtain ⟨hcq, hfq⟩ := G.old hq; go_simp; (first | done | exact rfl); done) | (intro wq; go_simp; (first | done | exact rfl); done))); go_simp; (with_reducible refine hK _ ?_); clear hK K) | fail))
        (with_reducible refine ord_skip ?_ hG ?_); (focus (go_simp; first | done | (simp [undef]; done))); intro K hK; go_simp; (with_reducible refine hK _ ?_); clear hK K; (repeat ((first | (with_reducible refine ord_q1 ?_) | (with_reducible refine ord_q0 ?_)); intro K hK; first | (refine Or.inr ⟨?_, ?_⟩; (focus (go_simp; first | done | (simp [undef]; done))); go_simp; (with_reducible refine hK _ ?_); clear hK K) | (refine Or.inl ⟨?_, ?_⟩; (focus (go_simp; done)); apply Exists.intro; refine And.intro ?_ ?_; (focus (first | (intro wq hq; obtain ⟨hcq, hfq⟩ := G.old hq; go_simp; (first | done | exact rfl); done) | (intro wq; go_simp; (first | done | exact rfl); done))); go_simp; (with_reducible refine hK _ ?_); clear hK K) | fail))
        (with_reducible refine ord_skip ?_ hG ?_); (focus (go_simp; first | done | (simp [undef]; done))); intro K hK; go_simp; (with_reducible refine hK _ ?_); clear hK K; (repeat ((first | (with_reducible refine ord_q1 ?_) | (with_reducible refine ord_q0 ?_)); intro K hK; first | (refine Or.inr ⟨?_, ?_⟩; (focus (go_simp; first | done | (simp [undef]; done))); go_simp; (with_reducible refine hK _ ?_); clear hK K) | (refine Or.inl ⟨?_, ?_⟩; (focus (go_simp; done)); apply Exists.intro; refine And.intro ?_ ?_; (focus (first | (intro wq hq; obtain ⟨hcq, hfq⟩ := G.old hq; go_simp; (first | done | exact rfl); done) | (intro wq; go_simp; (first | done | exact rfl); done))); go_simp; (with_reducible refine hK _ ?_); clear hK K) | fail))
        (with_reducible refine ord_skip ?_ hG ?_); (focus (go_simp; first | done | (simp [undef]; done))); intro K hK; go_simp; (with_reducible refine hK _ ?_); clear hK K; (repeat ((first | (with_reducible refine ord_q1 ?_) | (with_reducible refine ord_q0 ?_)); intro K hK; first | (refine Or.inr ⟨?_, ?_⟩; (focus (go_simp; first | done | (simp [undef]; done))); go_simp; (with_reducible refine hK _ ?_); clear hK K) | (refine Or.inl ⟨?_, ?_⟩; (focus (go_simp; done)); apply Exists.intro; refine And.intro ?_ ?_; (focus (first | (intro wq hq; obtain ⟨hcq, hfq⟩ := G.old hq; go_simp; (first | done | exact rfl); done) | (intro wq; go_simp; (first | done | exact rfl); done))); go_simp; (with_reducible refine hK _ ?_); clear hK K) | fail))
        (with_reducible refine ord_nil ?_)
        go_wp2_with fail
        go_ret
        exact ⟨ret_b hs'.out.symm, hG.b⟩
  · have h1' : ((cc : Int) == (dc : Int)) = false := by simp; omega
    have hs' : Hid (eqC c d = false) := by unfold Hid; rw [hs.out]; simp [*]
    refine wp_region_ord [(0, 1), (1, 1), (2, 1), (3, 1), (4, 1), (5, 1), (6, 1), (7, 1), (8, 1), (9, 1), (10, 1), (11, 1), (12, 1), (13, 1), (14, 1), (15, 1), (16, 1), (17, 1), (18, 1), (19, 1), (20, 2), (21, 1), (22, 1), (23, 1), (24, 1), (25, 1), (26, 1), (27, 1), (28, 1), (29, 1), (30, 1), (31, 1), (32, 1), (33, 1), (34, 1), (35, 1), (36, 1), (37, 1), (38, 1), (39, 1), (40, 1), (41, 1), (42, 2), (43, 1), (44, 1), (45, 1), (47, 1), (46, 2), (48, 2), (49, 2), (50, 1), (51, 1)] [] 5 (by kernel_rfl) (by decide +kernel) ?_
    simp only [pickO, List.append_eq, List.cons_append, List.nil_append, List.getElem?_cons_succ, List.getElem?_cons_zero]
    intro w0 hG
    (repeat ((first | (with_reducible refine ord_q1 ?_) | (with_reducible refine ord_q0 ?_)); intro K hK; first | (refine Or.inr ⟨?_, ?_⟩; (focus (go_simp; first | done | (simp [undef]; done))); go_simp; (with_reducible refine hK _ ?_); clear hK K) | (refine Or.inl ⟨?_, ?_⟩; (focus (go_simp; done)); apply Exists.intro; refine And.intro ?_ ?_; (focus (first | (intro wq hq; obtain ⟨hcq, hfq⟩ := G.old hq; go_simp; (first | done | exact rfl); done) | (intro wq; go_simp; (first | done | exact rfl); done))); go_simp; (with_reducible refine hK _ ?_); clear hK K) | fail))
    (with_reducible refine ord_skip ?_ hG ?_); (focus (go_simp; first | done | (simp [undef]; done))); intro K hK; go_simp; (with_reducible refine hK _ ?_); clear hK K; (repeat ((first | (with_reducible refine ord_q1 ?_) | (with_reducible refine ord_q0 ?_)); intro K hK; first | (refine Or.inr ⟨?_, ?_⟩; (focus (go_simp; first | done | (simp [undef]; done))); go_simp; (with_reducible refine hK _ ?_); clear hK K) | (refine Or.inl ⟨?_, ?_⟩; (focus (go_simp; done)); apply Exists.intro; refine And.intro ?_ ?_; (focus (first | (intro wq hq; obtain ⟨hcq, hfq⟩ := G.old hq; go_simp; (first | done | exact rfl); done) | (intro wq; go_simp; (first | done | exact rfl); done))); go_simp; (with_reducible refine hK _ ?_); clear hK K) | fail))
    (with_reducible refine ord_skip ?_ hG ?_); (focus (go_simp; first | done | (simp [undef]; done))); intro K hK; go_simp; (with_reducible refine hK _ ?_); clear hK K; (repeat ((first | (with_reducible refine ord_q1 ?_) | (with_reducible refine ord_q0 ?_)); intro K hK; first | (refine Or.inr ⟨?_, ?_⟩; (focus (go_simp; first | done | (simp [undef]; done))); go_simp; (with_reducible refine hK _ ?_); clear hK K) | (refine Or.inl ⟨?_, ?_⟩; (focus (go_simp; done)); apply Exists.intro; refine And.intro ?_ ?_; (focus (first | (intro wq hq; obtain ⟨hcq, hfq⟩ := G.old hq; go_simp; (first | done | exact rfl); done) | (intro wq; go_simp; (first | done | exact rfl); done))); go_simp; (with_reducible refine hK _ ?_); clear hK K) | fail))
    (with_reducible refine ord_skip ?_ hG ?_); (focus (go_simp; first | done | (simp [undef]; done))); intro K hK; go_simp; (with_reducible refine hK _ ?_); clear hK K; (repeat ((first | (with_reducible refine ord_q1 ?_) | (with_reducible refine ord_q0 ?_)); intro K hK; first | (refine Or.inr ⟨?_, ?_⟩; (focus (go_simp; first | done | (simp [undef]; done))); go_simp; (with_reducible refine hK _ ?_); clear hK K) | (refine Or.inl ⟨?_, ?_⟩; (focus (go_simp; done)); apply Exists.intro; refine And.intro ?_ ?_; (focus (first | (intro wq hq; obtain ⟨hcq, hfq⟩ := G.old hq; go_simp; (first | done | exact rfl); done) | (intro wq; go_simp; (first | done | exact rfl); done))); go_simp; (with_reducible refine hK _ ?_); clear hK K) | fail))
    (with_reducible refine ord_skip ?_ hG ?_); (focus (go_simp; first | done | (simp [undef]; done))); intro K hK; go_simp; (with_reducible refine hK _ ?_); clear hK K; (repeat ((first | (with_reducible refine ord_q1 ?_) | (with_reducible refine ord_q0 ?_)); intro K hK; first | (refine Or.inr ⟨?_, ?_⟩; (focus (go_simp; first | done | (simp [undef]; done))); go_simp; (with_reducible refine hK _ ?_); clear hK K) | (refine Or.inl ⟨?_, ?_⟩; (focus (go_simp; done)); apply Exists.intro; refine And.intro ?_ ?_; (focus (first | (intro wq hq; obtain ⟨hcq, hfq⟩ := G.old hq; go_simp; (first | done | exact rfl); done) | (intro wq; go_simp; (first | done | exact rfl); done))); go_simp; (with_reducible refine hK _ ?_); clear hK K) | fail))
    (with_reducible refine ord_skip ?_ hG ?_); (focus (go_simp; first | done | (simp [undef]; done))); intro K hK; go_simp; (with_reducible refine hK _ ?_); clear hK K; (repeat ((first | (with_reducible refine ord_q1 ?_) | (with_reducible refine ord_q0 ?_)); intro K hK; first | (refine Or.inr ⟨?_, ?_⟩; (focus (go_simp; first | done | (simp [undef]; done))); go_simp; (with_reducible refine hK _ ?_); clear hK K) | (refine Or.inl ⟨?_, ?_⟩; (focus (go_simp; done)); apply Exists.intro; refine And.intro ?_ ?_; (focus (first | (intro wq hq; obtain ⟨hcq, hfq⟩ := G.old hq; go_simp; (first | done | exact rfl); done) | (intro wq; go_simp; (first | done | exact rfl); done))); go_simp; (with_reducible refine hK _ ?_); clear hK K) | fail))
    (with_reducible refine ord_nil ?_)
    go_wp2_with fail
    go_ret
    exact ⟨ret_b hs'.out.symm, hG.b⟩
end Go.Proofs.Ytjldpodehffbnaa
