/- The laws of frames: SegmentFrames, SegmentParses, SegmentDetects. -/
import Derived.Test.YtbafnlccpbonmaaGreatDoorGMl
import Derived.Test.YtbafnlccpbonmaaGreatDoorGMe
namespace Go.Proofs.YtbafnlccpbonmaaGreatDoor
set_option linter.unusedVariables false
set_option linter.unnecessarySimpa false
set_option linter.unusedSimpArgs false
open Go.RowKit

theorem ext_take0 (s : ByteArray) (k : Nat) : s.extract 0 k = B (s.data.toList.take k) := B_of (by simp [ByteArray.data_extract])
theorem take_cut (s : ByteArray) (n k : Nat) (hk : k = min s.size n) : s.extract 0 k = B (s.data.toList.take n) := by
  rw [ext_take0, hk]
  congr 1
  rw [show s.size = s.data.toList.length from rfl]
  rcases Nat.le_total s.data.toList.length n with h | h
  · rw [Nat.min_eq_left h, List.take_length, List.take_of_length_le h]
  · rw [Nat.min_eq_right h]
theorem B_neL {a b : List UInt8} (h : a ≠ b) : ((B a).toList == (B b).toList) = false := B_neq h
set_option maxRecDepth 20000 in set_option maxHeartbeats 4000000 in
theorem segmentFrames_any (n : Int) (t1 t2 : ByteArray) (w : World) (wn : (Lit.int .i64 n).wf = true) (ws1 : t1.size ≤ maxLen) (ws2 : t2.size ≤ maxLen) (hE : Pow10 w ∧ LibVars w) : Calls Tryz.prog 3 #[.int .i64 n, .string t1, .string t2] w fun e w' => e = .returned (.bool true) ∧ Below w.heap.size w w' := by
  have HP := Lib.hid hE.1
  have HV := Lib.hid hE.2
  obtain ⟨k1, hk1⟩ : ∃ k, k = min t1.size 600 := ⟨_, rfl⟩
  obtain ⟨k2, hk2⟩ : ∃ k, k = min t2.size 100 := ⟨_, rfl⟩
  have e1 := take_cut t1 600 k1 hk1
  have e2 := take_cut t2 100 k2 hk2
  have m1 : min (t1.size : Int) 600 = (k1 : Int) := by omega
  have m2 : min (t2.size : Int) 100 = (k2 : Int) := by omega
  have p1 : (0 : Int) ≤ (k1 : Int) := by omega
  have p2 : (0 : Int) ≤ (k2 : Int) := by omega
  have q1 : (k1 : Int) ≤ (t1.size : Int) := by omega
  have q2 : (k2 : Int) ≤ (t2.size : Int) := by omega
  have q3 : k1 ≤ t1.size := by omega
  have q4 : k2 ≤ t2.size := by omega
  obtain ⟨d, hd⟩ : ∃ d, t1.data.toList.take 600 = d := ⟨_, rfl⟩
  obtain ⟨r, hr⟩ : ∃ d, t2.data.toList.take 100 = d := ⟨_, rfl⟩
  have hdl : d.length ≤ 600 := by rw [← hd, List.length_take]; omega
  have hrl : r.length ≤ 100 := by rw [← hr, List.length_take]; omega
  rw [hd] at e1
  rw [hr] at e2
  clear hd hr hk1 hk2 hE
  have FA := Lib.hid (fun (wx : World) => frame_any n d (by omega) wx)
  have KN := Lib.hid (fun (wx : World) (hb : Below w.heap.size w wx) => known_any wx (HP.out.grow hb) (HV.out.grow hb))
  have CK := Lib.hid (fun (wx : World) => checksum_any (B d) (by rw [B_size]; omega) wx)
  have LS := Lib.hid (fun (wx : World) => lawsum_any (B d) (by rw [B_size]; omega) wx)
  by_cases hn : inN n
  · obtain ⟨N, hN⟩ : ∃ N : Nat, n = (N : Int) := ⟨n.toNat, by unfold inN at hn; omega⟩
    rw [frameR_ok hn (by omega)] at FA
    have hpa := parse_at (n := N) (by rw [← hN]; exact hn) (d := d) (by omega) r r
    have hpv : parseV (r ++ frameL N d ++ r) r.length n = (d, (r.length : Int) + 16 + d.length, 0) := by
      unfold parseV
      rw [hN, hpa]
    have hfl := frameL_len N d
    have PA := Lib.hid (fun (wx : World) => parse_any (r ++ frameL N d ++ r) (by rw [List.length_append, List.length_append, hfl]; omega) r.length n wn wx)
    rw [hpv, List.append_assoc] at PA
    have LF := Lib.hid (fun (wx : World) => lawframe_any N (by unfold inN at hn; omega) d (by omega) wx)
    rw [← hN] at LF
    have n1 : ¬ n < 1 := by unfold inN at hn; omega
    have n2 : ¬ 99999999 < n := by unfold inN at hn; omega
    rw [show n.toNat = N by omega] at FA
    have b1 := B_app r (frameL N d)
    have b2 := B_app (r ++ frameL N d) r
    have z1 := B_size r
    have z2 := B_size (frameL N d)
    have z3 := B_size (r ++ frameL N d)
    have z4 := B_size d
    rw [List.length_append] at z3
    rw [hfl] at z2 z3
    obtain ⟨rl, hrl2⟩ : ∃ k, r.length = k := ⟨_, rfl⟩
    obtain ⟨dl, hdl2⟩ : ∃ k, d.length = k := ⟨_, rfl⟩
    rw [hdl2] at z2 z3 z4 hdl PA
    rw [hrl2] at z1 z3 hrl PA
    have v1 : ¬ (9223372036854775807 < rl + (16 + dl)) := by omega
    have v2 : ¬ (9223372036854775807 < rl + (16 + dl) + rl) := by omega
    have v3 : IntKind.i64.wrap ((rl : Int) + ((16 + dl : Nat) : Int)) = (rl : Int) + 16 + (dl : Int) := by rw [IntWalk.i64_in _ (by omega)]; omega
    clear hN hn hpa hpv hfl hrl2 hdl2
    go_enter Tryz.func3, Tryz.ntmps3
    go_wp2_with fail
    refine wp_region_ord [(0, 1), (1, 1), (2, 1), (3, 1), (4, 1), (5, 1), (6, 1), (7, 1), (8, 1), (9, 1), (10, 1), (11, 1)] [] 5 (by kernel_rfl) (by decide +kernel) ?_
    simp only [pickO, List.append_eq, List.cons_append, List.nil_append, List.getElem?_cons_succ, List.getElem?_cons_zero]
    intro w0 hG
    (repeat ((first | (with_reducible refine ord_q1 ?_) | (with_reducible refine ord_q0 ?_)); intro K hK; first | (refine Or.inr ⟨?_, ?_⟩; (focus (go_simp; first | done | (simp [undef]; done))); go_simp; (with_reducible refine hK _ ?_); clear hK K) | (refine Or.inl ⟨?_, ?_⟩; (focus (go_simp; done)); apply Exists.intro; refine And.intro ?_ ?_; (focus (first | (intro wq hq; obtain ⟨hcq, hfq⟩ := G.old hq; go_simp; (first | done | exact rfl); done) | (intro wq; go_simp; (first | done | exact rfl); done))); go_simp; (with_reducible refine hK _ ?_); clear hK K) | fail))
    (with_reducible refine ord_nil ?_)
    have hb0 := hG.b
    clear hG
    go_wp2_with fail
    go_at_call 12
    (with_reducible refine (FA.out _).mono ?_)
    rintro e1 w1 ⟨rfl, hb1⟩
    replace hb1 := G.trans hb0 hb1
    clear hb0
    clear FA
    go_wp2_with fail
    go_at_call 13
    (with_reducible refine (KN.out _ hb1).mono ?_)
    rintro e1 w2 ⟨rfl, hb2⟩
    replace hb2 := G.trans hb1 hb2
    clear KN hb1
    go_wp2_with fail
    go_at_call 14
    (with_reducible refine (CK.out _).mono ?_)
    rintro e1 w3 ⟨rfl, hb3⟩
    replace hb3 := G.trans hb2 hb3
    clear CK hb2
    go_wp2_with fail
    go_at_call 15
    (with_reducible refine (LS.out _).mono ?_)
    rintro e1 w4 ⟨rfl, hw4⟩
    subst hw4
    clear LS
    go_wp2_with fail
    go_at_call 16
    (with_reducible refine (PA.out _).mono ?_)
    unfold RetP
    rintro e1 w5 ⟨rfl, hb5⟩
    replace hb5 := G.trans hb3 hb5
    clear PA hb3
    go_wp2_with fail
    go_at_call 17
    (with_reducible refine (LF.out _).mono ?_)
    rintro e1 w6 ⟨rfl, hb6⟩
    replace hb6 := G.trans hb5 hb6
    clear LF hb5
    go_wp2_with fail
    go_ret
    exact ⟨rfl, hb6⟩
  · rw [show frameR n d = ([], 2) by unfold frameR; rw [if_neg hn]] at FA
    rw [show B ([], (2 : Int)).1 = (⟨#[]⟩ : ByteArray) from rfl] at FA
    dsimp only at FA
    have n12 : n < 1 ∨ (¬ n < 1 ∧ 99999999 < n) := by unfold inN at hn; omega
    clear hn
    rcases n12 with n1 | ⟨n1, n2⟩
    · go_enter Tryz.func3, Tryz.ntmps3
      go_wp2_with fail
      refine wp_region_ord [(0, 1), (1, 1), (2, 1), (3, 1), (4, 1), (5, 1), (6, 1), (7, 1), (8, 1), (9, 1), (10, 1), (11, 1)] [] 5 (by kernel_rfl) (by decide +kernel) ?_
      simp only [pickO, List.append_eq, List.cons_append, List.nil_append, List.getElem?_cons_succ, List.getElem?_cons_zero]
      intro w0 hG
      (repeat ((first | (with_reducible refine ord_q1 ?_) | (with_reducible refine ord_q0 ?_)); intro K hK; first | (refine Or.inr ⟨?_, ?_⟩; (focus (go_simp; first | done | (simp [undef]; done))); go_simp; (with_reducible refine hK _ ?_); clear hK K) | (refine Or.inl ⟨?_, ?_⟩; (focus (go_simp; done)); apply Exists.intro; refine And.intro ?_ ?_; (focus (first | (intro wq hq; obtain ⟨hcq, hfq⟩ := G.old hq; go_simp; (first | done | exact rfl); done) | (intro wq; go_simp; (first | done | exact rfl); done))); go_simp; (with_reducible refine hK _ ?_); clear hK K) | fail))
      (with_reducible refine ord_nil ?_)
      have hb0 := hG.b
      clear hG
      go_wp2_with fail
      go_at_call 12
      (with_reducible refine (FA.out _).mono ?_)
      rintro e1 w1 ⟨rfl, hb1⟩
      replace hb1 := G.trans hb0 hb1
      clear hb0
      clear FA
      go_wp2_with fail
      go_at_call 13
      (with_reducible refine (KN.out _ hb1).mono ?_)
      rintro e1 w2 ⟨rfl, hb2⟩
      replace hb2 := G.trans hb1 hb2
      clear KN hb1
      go_wp2_with fail
      go_at_call 14
      (with_reducible refine (CK.out _).mono ?_)
      rintro e1 w3 ⟨rfl, hb3⟩
      replace hb3 := G.trans hb2 hb3
      clear CK hb2
      go_wp2_with fail
      go_at_call 15
      (with_reducible refine (LS.out _).mono ?_)
      rintro e1 w4 ⟨rfl, hw4⟩
      subst hw4
      clear LS
      go_wp2_with fail
      go_ret
      exact ⟨rfl, hb3⟩
    · go_enter Tryz.func3, Tryz.ntmps3
      go_wp2_with fail
      refine wp_region_ord [(0, 1), (1, 1), (2, 1), (3, 1), (4, 1), (5, 1), (6, 1), (7, 1), (8, 1), (9, 1), (10, 1), (11, 1)] [] 5 (by kernel_rfl) (by decide +kernel) ?_
      simp only [pickO, List.append_eq, List.cons_append, List.nil_append, List.getElem?_cons_succ, List.getElem?_cons_zero]
      intro w0 hG
      (repeat ((first | (with_reducible refine ord_q1 ?_) | (with_reducible refine ord_q0 ?_)); intro K hK; first | (refine Or.inr ⟨?_, ?_⟩; (focus (go_simp; first | done | (simp [undef]; done))); go_simp; (with_reducible refine hK _ ?_); clear hK K) | (refine Or.inl ⟨?_, ?_⟩; (focus (go_simp; done)); apply Exists.intro; refine And.intro ?_ ?_; (focus (first | (intro wq hq; obtain ⟨hcq, hfq⟩ := G.old hq; go_simp; (first | done | exact rfl); done) | (intro wq; go_simp; (first | done | exact rfl); done))); go_simp; (with_reducible refine hK _ ?_); clear hK K) | fail))
      (with_reducible refine ord_nil ?_)
      have hb0 := hG.b
      clear hG
      go_wp2_with fail
      go_at_call 12
      (with_reducible refine (FA.out _).mono ?_)
      rintro e1 w1 ⟨rfl, hb1⟩
      replace hb1 := G.trans hb0 hb1
      clear hb0
      clear FA
      go_wp2_with fail
      go_at_call 13
      (with_reducible refine (KN.out _ hb1).mono ?_)
      rintro e1 w2 ⟨rfl, hb2⟩
      replace hb2 := G.trans hb1 hb2
      clear KN hb1
      go_wp2_with fail
      go_at_call 14
      (with_reducible refine (CK.out _).mono ?_)
      rintro e1 w3 ⟨rfl, hb3⟩
      replace hb3 := G.trans hb2 hb3
      clear CK hb2
      go_wp2_with fail
      go_at_call 15
      (with_reducible refine (LS.out _).mono ?_)
      rintro e1 w4 ⟨rfl, hw4⟩
      subst hw4
      clear LS
      go_wp2_with fail
      go_ret
      exact ⟨rfl, hb3⟩
set_option maxRecDepth 20000 in set_option maxHeartbeats 4000000 in
theorem segmentParses_any (t : ByteArray) (a n : Int) (w : World) (ws : t.size ≤ maxLen) (wa : (Lit.int .i64 a).wf = true) (wn : (Lit.int .i64 n).wf = true) (hE : Pow10 w ∧ LibVars w) : Calls Tryz.prog 4 #[.string t, .int .i64 a, .int .i64 n] w fun e w' => e = .returned (.bool true) ∧ Below w.heap.size w w' := by
  have HP := Lib.hid hE.1
  have HV := Lib.hid hE.2
  obtain ⟨k1, hk1⟩ : ∃ k, k = min t.size 800 := ⟨_, rfl⟩
  have e1 := take_cut t 800 k1 hk1
  have m1 : min (t.size : Int) 800 = (k1 : Int) := by omega
  have p1 : (0 : Int) ≤ (k1 : Int) := by omega
  have q1 : (k1 : Int) ≤ (t.size : Int) := by omega
  have q3 : k1 ≤ t.size := by omega
  obtain ⟨d, hd⟩ : ∃ d, t.data.toList.take 800 = d := ⟨_, rfl⟩
  have hdl : d.length ≤ 800 := by rw [← hd, List.length_take]; omega
  rw [hd] at e1
  clear hd hk1 hE
  have KN := Lib.hid (fun (wx : World) (hb : Below w.heap.size w wx) => known_any wx (HP.out.grow hb) (HV.out.grow hb))
  have PA := Lib.hid (fun (wx : World) => parse_any d (by omega) a n wn wx)
  have PB := Lib.hid (fun (wx : World) => lawparse_any d (by omega) a n wn wx)
  obtain ⟨X, hX⟩ : ∃ X, parseV d a n = X := ⟨_, rfl⟩
  rw [hX] at PA PB
  obtain ⟨x, y, z⟩ := X
  unfold RetP at PA PB
  dsimp only at PA PB
  clear hX
  go_enter Tryz.func4, Tryz.ntmps4
  go_wp2_with fail
  go_at_call 16
  (with_reducible refine (PA.out _).mono ?_)
  rintro e1 w1 ⟨rfl, hb1⟩
  go_wp2_with fail
  go_at_call 18
  (with_reducible refine (PB.out _).mono ?_)
  rintro e1 w2 ⟨rfl, hb2⟩
  replace hb2 := G.trans hb1 hb2
  clear PA PB hb1
  go_wp2_with fail
  go_at_call 13
  (with_reducible refine (KN.out _ hb2).mono ?_)
  rintro e1 w3 ⟨rfl, hb3⟩
  replace hb3 := G.trans hb2 hb3
  clear KN hb2
  go_wp2_with fail
  go_ret
  exact ⟨rfl, hb3⟩
end Go.Proofs.YtbafnlccpbonmaaGreatDoor
