/- The law SegmentFiles. -/
import Derived.Test.YtbafnlccpbonmaaGreatDoorNu2
namespace Go.Proofs.YtbafnlccpbonmaaGreatDoor
set_option linter.unusedVariables false
set_option linter.unnecessarySimpa false
set_option linter.unusedSimpArgs false
open Go.RowKit

set_option maxRecDepth 20000 in set_option maxHeartbeats 8000000 in
theorem segmentFiles_any (t1 t2 : ByteArray) (n : Int) (w : World) (ws1 : t1.size ≤ maxLen) (ws2 : t2.size ≤ maxLen) (wn : (Lit.int .i64 n).wf = true) (hE : Pow10 w ∧ LibVars w) : Calls Tryz.prog 6 #[.string t1, .string t2, .int .i64 n] w fun e w' => e = .returned (.bool true) ∧ Below w.heap.size w w' := by
  have HP := Lib.hid hE.1
  have HV := Lib.hid hE.2
  obtain ⟨k1, hk1⟩ : ∃ k, k = min t1.size 50 := ⟨_, rfl⟩
  obtain ⟨k2, hk2⟩ : ∃ k, k = min t2.size 80 := ⟨_, rfl⟩
  have e1 := take_cut t1 50 k1 hk1
  have e2 := take_cut t2 80 k2 hk2
  have m1 : min (t1.size : Int) 50 = (k1 : Int) := by omega
  have m2 : min (t2.size : Int) 80 = (k2 : Int) := by omega
  have p1 : (0 : Int) ≤ (k1 : Int) := by omega
  have p2 : (0 : Int) ≤ (k2 : Int) := by omega
  have q1 : (k1 : Int) ≤ (t1.size : Int) := by omega
  have q2 : (k2 : Int) ≤ (t2.size : Int) := by omega
  have q3 : k1 ≤ t1.size := by omega
  have q4 : k2 ≤ t2.size := by omega
  obtain ⟨nm, hd⟩ : ∃ d, t1.data.toList.take 50 = d := ⟨_, rfl⟩
  obtain ⟨o, hr⟩ : ∃ d, t2.data.toList.take 80 = d := ⟨_, rfl⟩
  have hnl : nm.length ≤ 50 := by rw [← hd, List.length_take]; omega
  have hol : o.length ≤ 80 := by rw [← hr, List.length_take]; omega
  rw [hd] at e1
  rw [hr] at e2
  clear hd hr hk1 hk2 hE
  have KN := Lib.hid (fun (wx : World) (hb : Below w.heap.size w wx) => known_any wx (HP.out.grow hb) (HV.out.grow hb))
  have FI := Lib.hid (fun (wx : World) (hb : Below w.heap.size w wx) => file_any nm n wx (HP.out.grow hb))
  have NU := Lib.hid (fun (wx : World) (hb : Below w.heap.size w wx) => number_any nm o (by omega) wx (HP.out.grow hb) (HV.out.grow hb))
  have LN := Lib.hid (fun (wx : World) => lawnumber_any nm o (by omega) (by omega) wx)
  have IS := Lib.hid (fun (wx : World) => isname_any (B nm) wx)
  rw [B_list] at IS
  by_cases hn : nameC nm = true
  · rw [hn] at IS
    by_cases hi : inN n
    · have NV := Lib.hid (fun (wx : World) (hb : Below w.heap.size w wx) => number_any nm (fileL nm n.toNat) (by unfold fileL; rw [List.length_append, List.length_cons, digL_len]; omega) wx (HP.out.grow hb) (HV.out.grow hb))
      rw [(numM_iff nm _ n.toNat).2 ⟨hn, by unfold inN at hi ⊢; omega, rfl⟩, show numV (some n.toNat) = #[.int .i64 (n.toNat : Int), .bool true] from rfl, show (n.toNat : Int) = n by unfold inN at hi; omega] at NV
      have LF := Lib.hid (fun (wx : World) => lawfile_any nm (by omega) n.toNat (by unfold inN at hi; omega) wx)
      rw [show (n.toNat : Int) = n by unfold inN at hi; omega] at LF
      rw [fileR_ok hn hi] at FI
      have n1 : ¬ n < 1 := by unfold inN at hi; omega
      have n2 : ¬ 99999999 < n := by unfold inN at hi; omega
      obtain ⟨F, hF⟩ : ∃ F, fileL nm n.toNat = F := ⟨_, rfl⟩
      rw [hF] at FI NV LF
      dsimp only at FI
      clear hF hi hn
      rcases hX : numM nm o with _ | v
      · rw [hX, numV_none] at NU LN
        clear hX
        go_enter Tryz.func6, Tryz.ntmps6
        go_wp2_with fail
        refine wp_region_ord [(0, 1), (1, 1), (2, 1), (3, 1), (4, 1), (5, 1), (6, 1), (7, 1), (8, 1), (9, 1), (10, 1), (11, 1)] [] 5 (by kernel_rfl) (by decide +kernel) ?_
        simp only [pickO, List.append_eq, List.cons_append, List.nil_append, List.getElem?_cons_succ, List.getElem?_cons_zero]
        intro w0 hG
        (repeat ((first | (with_reducible refine ord_q1 ?_) | (with_reducible refine ord_q0 ?_)); intro K hK; first | (refine Or.inr ⟨?_, ?_⟩; (focus (go_simp; first | done | (simp [undef]; done))); go_simp; (with_reducible refine hK _ ?_); clear hK K) | (refine Or.inl ⟨?_, ?_⟩; (focus (go_simp; done)); apply Exists.intro; refine And.intro ?_ ?_; (focus (first | (intro wq hq; obtain ⟨hcq, hfq⟩ := G.old hq; go_simp; (first | done | exact rfl); done) | (intro wq; go_simp; (first | done | exact rfl); done))); go_simp; (with_reducible refine hK _ ?_); clear hK K) | fail))
        (with_reducible refine ord_nil ?_)
        have hb0 := hG.b
        clear hG
        go_wp2_with fail
        go_at_call 19
        (with_reducible refine (FI.out _ hb0).mono ?_)
        rintro e1 w1 ⟨rfl, hb1⟩
        replace hb1 := G.trans hb0 hb1
        clear FI hb0
        go_wp2_with fail
        go_at_call 20
        (with_reducible refine (NU.out _ hb1).mono ?_)
        rintro e1 w2 ⟨rfl, hb2⟩
        replace hb2 := G.trans hb1 hb2
        clear NU hb1
        go_wp2_with fail
        go_at_call 21
        (with_reducible refine (LN.out _).mono ?_)
        rintro e1 w3 ⟨rfl, hw3⟩
        subst hw3
        clear LN
        go_wp2_with fail
        go_at_call 13
        (with_reducible refine (KN.out _ hb2).mono ?_)
        rintro e1 w4 ⟨rfl, hb4⟩
        replace hb4 := G.trans hb2 hb4
        clear KN hb2
        go_wp2_with fail
        go_at_call 22
        (with_reducible refine (IS.out _).mono ?_)
        rintro e1 w5 ⟨rfl, hw5⟩
        subst hw5
        clear IS
        go_wp2_with fail
        go_at_call 20
        (with_reducible refine (NV.out _ hb4).mono ?_)
        rintro e1 w6 ⟨rfl, hb6⟩
        replace hb6 := G.trans hb4 hb6
        clear NV hb4
        go_wp2_with fail
        go_at_call 23
        (with_reducible refine (LF.out _).mono ?_)
        rintro e1 w7 ⟨rfl, hb7⟩
        replace hb7 := G.trans hb6 hb7
        clear LF hb6
        go_wp2_with fail
        go_ret
        exact ⟨rfl, hb7⟩
      · rw [hX, show numV (some v) = #[.int .i64 (v : Int), .bool true] from rfl] at NU LN
        clear hX
        go_enter Tryz.func6, Tryz.ntmps6
        go_wp2_with fail
        refine wp_region_ord [(0, 1), (1, 1), (2, 1), (3, 1), (4, 1), (5, 1), (6, 1), (7, 1), (8, 1), (9, 1), (10, 1), (11, 1)] [] 5 (by kernel_rfl) (by decide +kernel) ?_
        simp only [pickO, List.append_eq, List.cons_append, List.nil_append, List.getElem?_cons_succ, List.getElem?_cons_zero]
        intro w0 hG
        (repeat ((first | (with_reducible refine ord_q1 ?_) | (with_reducible refine ord_q0 ?_)); intro K hK; first | (refine Or.inr ⟨?_, ?_⟩; (focus (go_simp; first | done | (simp [undef]; done))); go_simp; (with_reducible refine hK _ ?_); clear hK K) | (refine Or.inl ⟨?_, ?_⟩; (focus (go_simp; done)); apply Exists.intro; refine And.intro ?_ ?_; (focus (first | (intro wq hq; obtain ⟨hcq, hfq⟩ := G.old hq; go_simp; (first | done | exact rfl); done) | (intro wq; go_simp; (first | done | exact rfl); done))); go_simp; (with_reducible refine hK _ ?_); clear hK K) | fail))
        (with_reducible refine ord_nil ?_)
        have hb0 := hG.b
        clear hG
        go_wp2_with fail
        go_at_call 19
        (with_reducible refine (FI.out _ hb0).mono ?_)
        rintro e1 w1 ⟨rfl, hb1⟩
        replace hb1 := G.trans hb0 hb1
        clear FI hb0
        go_wp2_with fail
        go_at_call 20
        (with_reducible refine (NU.out _ hb1).mono ?_)
        rintro e1 w2 ⟨rfl, hb2⟩
        replace hb2 := G.trans hb1 hb2
        clear NU hb1
        go_wp2_with fail
        go_at_call 21
        (with_reducible refine (LN.out _).mono ?_)
        rintro e1 w3 ⟨rfl, hw3⟩
        subst hw3
        clear LN
        go_wp2_with fail
        go_at_call 13
        (with_reducible refine (KN.out _ hb2).mono ?_)
        rintro e1 w4 ⟨rfl, hb4⟩
        replace hb4 := G.trans hb2 hb4
        clear KN hb2
        go_wp2_with fail
        go_at_call 22
        (with_reducible refine (IS.out _).mono ?_)
        rintro e1 w5 ⟨rfl, hw5⟩
        subst hw5
        clear IS
        go_wp2_with fail
        go_at_call 20
        (with_reducible refine (NV.out _ hb4).mono ?_)
        rintro e1 w6 ⟨rfl, hb6⟩
        replace hb6 := G.trans hb4 hb6
        clear NV hb4
        go_wp2_with fail
        go_at_call 23
        (with_reducible refine (LF.out _).mono ?_)
        rintro e1 w7 ⟨rfl, hb7⟩
        replace hb7 := G.trans hb6 hb7
        clear LF hb6
        go_wp2_with fail
        go_ret
        exact ⟨rfl, hb7⟩
    · rw [fileR_bad hn hi, show B ([], (2 : Int)).1 = (⟨#[]⟩ : ByteArray) from rfl] at FI
      dsimp only at FI
      have n12 : n < 1 ∨ (¬ n < 1 ∧ 99999999 < n) := by unfold inN at hi; omega
      clear hi hn
      rcases n12 with n1 | ⟨n1, n2⟩
      · skip
        rcases hX : numM nm o with _ | v
        · rw [hX, numV_none] at NU LN
          clear hX
          go_enter Tryz.func6, Tryz.ntmps6
          go_wp2_with fail
          refine wp_region_ord [(0, 1), (1, 1), (2, 1), (3, 1), (4, 1), (5, 1), (6, 1), (7, 1), (8, 1), (9, 1), (10, 1), (11, 1)] [] 5 (by kernel_rfl) (by decide +kernel) ?_
          simp only [pickO, List.append_eq, List.cons_append, List.nil_append, List.getElem?_cons_succ, List.getElem?_cons_zero]
          intro w0 hG
          (repeat ((first | (with_reducible refine ord_q1 ?_) | (with_reducible refine ord_q0 ?_)); intro K hK; first | (refine Or.inr ⟨?_, ?_⟩; (focus (go_simp; first | done | (simp [undef]; done))); go_simp; (with_reducible refine hK _ ?_); clear hK K) | (refine Or.inl ⟨?_, ?_⟩; (focus (go_simp; done)); apply Exists.intro; refine And.intro ?_ ?_; (focus (first | (intro wq hq; obtain ⟨hcq, hfq⟩ := G.old hq; go_simp; (first | done | exact rfl); done) | (intro wq; go_simp; (first | done | exact rfl); done))); go_simp; (with_reducible refine hK _ ?_); clear hK K) | fail))
          (with_reducible refine ord_nil ?_)
          have hb0 := hG.b
          clear hG
          go_wp2_with fail
          go_at_call 19
          (with_reducible refine (FI.out _ hb0).mono ?_)
          rintro e1 w1 ⟨rfl, hb1⟩
          replace hb1 := G.trans hb0 hb1
          clear FI hb0
          go_wp2_with fail
          go_at_call 20
          (with_reducible refine (NU.out _ hb1).mono ?_)
          rintro e1 w2 ⟨rfl, hb2⟩
          replace hb2 := G.trans hb1 hb2
          clear NU hb1
          go_wp2_with fail
          go_at_call 21
          (with_reducible refine (LN.out _).mono ?_)
          rintro e1 w3 ⟨rfl, hw3⟩
          subst hw3
          clear LN
          go_wp2_with fail
          go_at_call 13
          (with_reducible refine (KN.out _ hb2).mono ?_)
          rintro e1 w4 ⟨rfl, hb4⟩
          replace hb4 := G.trans hb2 hb4
          clear KN hb2
          go_wp2_with fail
          go_at_call 22
          (with_reducible refine (IS.out _).mono ?_)
          rintro e1 w5 ⟨rfl, hw5⟩
          subst hw5
          clear IS
          go_wp2_with fail
          go_ret
          exact ⟨rfl, hb4⟩
        · rw [hX, show numV (some v) = #[.int .i64 (v : Int), .bool true] from rfl] at NU LN
          clear hX
          go_enter Tryz.func6, Tryz.ntmps6
          go_wp2_with fail
          refine wp_region_ord [(0, 1), (1, 1), (2, 1), (3, 1), (4, 1), (5, 1), (6, 1), (7, 1), (8, 1), (9, 1), (10, 1), (11, 1)] [] 5 (by kernel_rfl) (by decide +kernel) ?_
          simp only [pickO, List.append_eq, List.cons_append, List.nil_append, List.getElem?_cons_succ, List.getElem?_cons_zero]
          intro w0 hG
          (repeat ((first | (with_reducible refine ord_q1 ?_) | (with_reducible refine ord_q0 ?_)); intro K hK; first | (refine Or.inr ⟨?_, ?_⟩; (focus (go_simp; first | done | (simp [undef]; done))); go_simp; (with_reducible refine hK _ ?_); clear hK K) | (refine Or.inl ⟨?_, ?_⟩; (focus (go_simp; done)); apply Exists.intro; refine And.intro ?_ ?_; (focus (first | (intro wq hq; obtain ⟨hcq, hfq⟩ := G.old hq; go_simp; (first | done | exact rfl); done) | (intro wq; go_simp; (first | done | exact rfl); done))); go_simp; (with_reducible refine hK _ ?_); clear hK K) | fail))
          (with_reducible refine ord_nil ?_)
          have hb0 := hG.b
          clear hG
          go_wp2_with fail
          go_at_call 19
          (with_reducible refine (FI.out _ hb0).mono ?_)
          rintro e1 w1 ⟨rfl, hb1⟩
          replace hb1 := G.trans hb0 hb1
          clear FI hb0
          go_wp2_with fail
          go_at_call 20
          (with_reducible refine (NU.out _ hb1).mono ?_)
          rintro e1 w2 ⟨rfl, hb2⟩
          replace hb2 := G.trans hb1 hb2
          clear NU hb1
          go_wp2_with fail
          go_at_call 21
          (with_reducible refine (LN.out _).mono ?_)
          rintro e1 w3 ⟨rfl, hw3⟩
          subst hw3
          clear LN
          go_wp2_with fail
          go_at_call 13
          (with_reducible refine (KN.out _ hb2).mono ?_)
          rintro e1 w4 ⟨rfl, hb4⟩
          replace hb4 := G.trans hb2 hb4
          clear KN hb2
          go_wp2_with fail
          go_at_call 22
          (with_reducible refine (IS.out _).mono ?_)
          rintro e1 w5 ⟨rfl, hw5⟩
          subst hw5
          clear IS
          go_wp2_with fail
          go_ret
          exact ⟨rfl, hb4⟩
      · skip
        rcases hX : numM nm o with _ | v
        · rw [hX, numV_none] at NU LN
          clear hX
          go_enter Tryz.func6, Tryz.ntmps6
          go_wp2_with fail
          refine wp_region_ord [(0, 1), (1, 1), (2, 1), (3, 1), (4, 1), (5, 1), (6, 1), (7, 1), (8, 1), (9, 1), (10, 1), (11, 1)] [] 5 (by kernel_rfl) (by decide +kernel) ?_
          simp only [pickO, List.append_eq, List.cons_append, List.nil_append, List.getElem?_cons_succ, List.getElem?_cons_zero]
          intro w0 hG
          (repeat ((first | (with_reducible refine ord_q1 ?_) | (with_reducible refine ord_q0 ?_)); intro K hK; first | (refine Or.inr ⟨?_, ?_⟩; (focus (go_simp; first | done | (simp [undef]; done))); go_simp; (with_reducible refine hK _ ?_); clear hK K) | (refine Or.inl ⟨?_, ?_⟩; (focus (go_simp; done)); apply Exists.intro; refine And.intro ?_ ?_; (focus (first | (intro wq hq; obtain ⟨hcq, hfq⟩ := G.old hq; go_simp; (first | done | exact rfl); done) | (intro wq; go_simp; (first | done | exact rfl); done))); go_simp; (with_reducible refine hK _ ?_); clear hK K) | fail))
          (with_reducible refine ord_nil ?_)
          have hb0 := hG.b
          clear hG
          go_wp2_with fail
          go_at_call 19
          (with_reducible refine (FI.out _ hb0).mono ?_)
          rintro e1 w1 ⟨rfl, hb1⟩
          replace hb1 := G.trans hb0 hb1
          clear FI hb0
          go_wp2_with fail
          go_at_call 20
          (with_reducible refine (NU.out _ hb1).mono ?_)
          rintro e1 w2 ⟨rfl, hb2⟩
          replace hb2 := G.trans hb1 hb2
          clear NU hb1
          go_wp2_with fail
          go_at_call 21
          (with_reducible refine (LN.out _).mono ?_)
          rintro e1 w3 ⟨rfl, hw3⟩
          subst hw3
          clear LN
          go_wp2_with fail
          go_at_call 13
          (with_reducible refine (KN.out _ hb2).mono ?_)
          rintro e1 w4 ⟨rfl, hb4⟩
          replace hb4 := G.trans hb2 hb4
          clear KN hb2
          go_wp2_with fail
          go_at_call 22
          (with_reducible refine (IS.out _).mono ?_)
          rintro e1 w5 ⟨rfl, hw5⟩
          subst hw5
          clear IS
          go_wp2_with fail
          go_ret
          exact ⟨rfl, hb4⟩
        · rw [hX, show numV (some v) = #[.int .i64 (v : Int), .bool true] from rfl] at NU LN
          clear hX
          go_enter Tryz.func6, Tryz.ntmps6
          go_wp2_with fail
          refine wp_region_ord [(0, 1), (1, 1), (2, 1), (3, 1), (4, 1), (5, 1), (6, 1), (7, 1), (8, 1), (9, 1), (10, 1), (11, 1)] [] 5 (by kernel_rfl) (by decide +kernel) ?_
          simp only [pickO, List.append_eq, List.cons_append, List.nil_append, List.getElem?_cons_succ, List.getElem?_cons_zero]
          intro w0 hG
          (repeat ((first | (with_reducible refine ord_q1 ?_) | (with_reducible refine ord_q0 ?_)); intro K hK; first | (refine Or.inr ⟨?_, ?_⟩; (focus (go_simp; first | done | (simp [undef]; done))); go_simp; (with_reducible refine hK _ ?_); clear hK K) | (refine Or.inl ⟨?_, ?_⟩; (focus (go_simp; done)); apply Exists.intro; refine And.intro ?_ ?_; (focus (first | (intro wq hq; obtain ⟨hcq, hfq⟩ := G.old hq; go_simp; (first | done | exact rfl); done) | (intro wq; go_simp; (first | done | exact rfl); done))); go_simp; (with_reducible refine hK _ ?_); clear hK K) | fail))
          (with_reducible refine ord_nil ?_)
          have hb0 := hG.b
          clear hG
          go_wp2_with fail
          go_at_call 19
          (with_reducible refine (FI.out _ hb0).mono ?_)
          rintro e1 w1 ⟨rfl, hb1⟩
          replace hb1 := G.trans hb0 hb1
          clear FI hb0
          go_wp2_with fail
          go_at_call 20
          (with_reducible refine (NU.out _ hb1).mono ?_)
          rintro e1 w2 ⟨rfl, hb2⟩
          replace hb2 := G.trans hb1 hb2
          clear NU hb1
          go_wp2_with fail
          go_at_call 21
          (with_reducible refine (LN.out _).mono ?_)
          rintro e1 w3 ⟨rfl, hw3⟩
          subst hw3
          clear LN
          go_wp2_with fail
          go_at_call 13
          (with_reducible refine (KN.out _ hb2).mono ?_)
          rintro e1 w4 ⟨rfl, hb4⟩
          replace hb4 := G.trans hb2 hb4
          clear KN hb2
          go_wp2_with fail
          go_at_call 22
          (with_reducible refine (IS.out _).mono ?_)
          rintro e1 w5 ⟨rfl, hw5⟩
          subst hw5
          clear IS
          go_wp2_with fail
          go_ret
          exact ⟨rfl, hb4⟩
  · have hn' : nameC nm = false := by simpa using hn
    rw [hn'] at IS
    rw [fileR_nil hn', show B ([], (12 : Int)).1 = (⟨#[]⟩ : ByteArray) from rfl] at FI
    dsimp only at FI
    clear hn
    rcases hX : numM nm o with _ | v
    · rw [hX, numV_none] at NU LN
      clear hX
      go_enter Tryz.func6, Tryz.ntmps6
      go_wp2_with fail
      refine wp_region_ord [(0, 1), (1, 1), (2, 1), (3, 1), (4, 1), (5, 1), (6, 1), (7, 1), (8, 1), (9, 1), (10, 1), (11, 1)] [] 5 (by kernel_rfl) (by decide +kernel) ?_
      simp only [pickO, List.append_eq, List.cons_append, List.nil_append, List.getElem?_cons_succ, List.getElem?_cons_zero]
      intro w0 hG
      (repeat ((first | (with_reducible refine ord_q1 ?_) | (with_reducible refine ord_q0 ?_)); intro K hK; first | (refine Or.inr ⟨?_, ?_⟩; (focus (go_simp; first | done | (simp [undef]; done))); go_simp; (with_reducible refine hK _ ?_); clear hK K) | (refine Or.inl ⟨?_, ?_⟩; (focus (go_simp; done)); apply Exists.intro; refine And.intro ?_ ?_; (focus (first | (intro wq hq; obtain ⟨hcq, hfq⟩ := G.old hq; go_simp; (first | done | exact rfl); done) | (intro wq; go_simp; (first | done | exact rfl); done))); go_simp; (with_reducible refine hK _ ?_); clear hK K) | fail))
      (with_reducible refine ord_nil ?_)
      have hb0 := hG.b
      clear hG
      go_wp2_with fail
      go_at_call 19
      (with_reducible refine (FI.out _ hb0).mono ?_)
      rintro e1 w1 ⟨rfl, hb1⟩
      replace hb1 := G.trans hb0 hb1
      clear FI hb0
      go_wp2_with fail
      go_at_call 20
      (with_reducible refine (NU.out _ hb1).mono ?_)
      rintro e1 w2 ⟨rfl, hb2⟩
      replace hb2 := G.trans hb1 hb2
      clear NU hb1
      go_wp2_with fail
      go_at_call 21
      (with_reducible refine (LN.out _).mono ?_)
      rintro e1 w3 ⟨rfl, hw3⟩
      subst hw3
      clear LN
      go_wp2_with fail
      go_at_call 13
      (with_reducible refine (KN.out _ hb2).mono ?_)
      rintro e1 w4 ⟨rfl, hb4⟩
      replace hb4 := G.trans hb2 hb4
      clear KN hb2
      go_wp2_with fail
      go_at_call 22
      (with_reducible refine (IS.out _).mono ?_)
      rintro e1 w5 ⟨rfl, hw5⟩
      subst hw5
      clear IS
      go_wp2_with fail
      go_ret
      exact ⟨rfl, hb4⟩
    · rw [hX, show numV (some v) = #[.int .i64 (v : Int), .bool true] from rfl] at NU LN
      clear hX
      go_enter Tryz.func6, Tryz.ntmps6
      go_wp2_with fail
      refine wp_region_ord [(0, 1), (1, 1), (2, 1), (3, 1), (4, 1), (5, 1), (6, 1), (7, 1), (8, 1), (9, 1), (10, 1), (11, 1)] [] 5 (by kernel_rfl) (by decide +kernel) ?_
      simp only [pickO, List.append_eq, List.cons_append, List.nil_append, List.getElem?_cons_succ, List.getElem?_cons_zero]
      intro w0 hG
      (repeat ((first | (with_reducible refine ord_q1 ?_) | (with_reducible refine ord_q0 ?_)); intro K hK; first | (refine Or.inr ⟨?_, ?_⟩; (focus (go_simp; first | done | (simp [undef]; done))); go_simp; (with_reducible refine hK _ ?_); clear hK K) | (refine Or.inl ⟨?_, ?_⟩; (focus (go_simp; done)); apply Exists.intro; refine And.intro ?_ ?_; (focus (first | (intro wq hq; obtain ⟨hcq, hfq⟩ := G.old hq; go_simp; (first | done | exact rfl); done) | (intro wq; go_simp; (first | done | exact rfl); done))); go_simp; (with_reducible refine hK _ ?_); clear hK K) | fail))
      (with_reducible refine ord_nil ?_)
      have hb0 := hG.b
      clear hG
      go_wp2_with fail
      go_at_call 19
      (with_reducible refine (FI.out _ hb0).mono ?_)
      rintro e1 w1 ⟨rfl, hb1⟩
      replace hb1 := G.trans hb0 hb1
      clear FI hb0
      go_wp2_with fail
      go_at_call 20
      (with_reducible refine (NU.out _ hb1).mono ?_)
      rintro e1 w2 ⟨rfl, hb2⟩
      replace hb2 := G.trans hb1 hb2
      clear NU hb1
      go_wp2_with fail
      go_at_call 21
      (with_reducible refine (LN.out _).mono ?_)
      rintro e1 w3 ⟨rfl, hw3⟩
      subst hw3
      clear LN
      go_wp2_with fail
      go_at_call 13
      (with_reducible refine (KN.out _ hb2).mono ?_)
      rintro e1 w4 ⟨rfl, hb4⟩
      replace hb4 := G.trans hb2 hb4
      clear KN hb2
      go_wp2_with fail
      go_at_call 22
      (with_reducible refine (IS.out _).mono ?_)
      rintro e1 w5 ⟨rfl, hw5⟩
      subst hw5
      clear IS
      go_wp2_with fail
      go_ret
      exact ⟨rfl, hb4⟩
end Go.Proofs.YtbafnlccpbonmaaGreatDoor
