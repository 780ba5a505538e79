/- The law's model: blanks. -/
import Derived.Test.YtmchiibbodllaaaGreatDoorMa
namespace Go.Proofs.YtmchiibbodllaaaGreatDoor
set_option linter.unusedVariables false
set_option linter.unnecessarySimpa false
set_option linter.unusedSimpArgs false
open Go.RowKit

section
variable {w : World} {b : Nat} {s : ByteArray} {i : Nat} {lv : Value} {e tb : Int}
set_option maxRecDepth 20000 in set_option maxHeartbeats 4000000 in
theorem blanks_m (h : Bx w b (mC s i lv e tb)) (hs : s.size ≤ 100000) (hi : i ≤ s.size) :
    Calls Tryz.prog 53 #[.pointer (some ⟨b, 0, none⟩)] w fun e1 w' => e1 = .returned (.tuple #[]) ∧ Bx w' b (mC s ((i + blk false (s.data.toList.drop i) : Nat) : Int) lv e tb) ∧ Chg b b w w' := by
  have H := Lib.hid h
  have hbd := blk_bd false s.data.toList (i := i) hi
  obtain ⟨n, hn⟩ : ∃ n, i + blk false (s.data.toList.drop i) = n := ⟨_, rfl⟩
  rw [hn] at hbd ⊢
  have hns : n ≤ s.size := hbd
  have hin : i ≤ n := by omega
  replace hn := Lib.hid hn
  clear hbd h
  go_enter Tryz.func53, Tryz.ntmps53
  go_wp2_with fail
  go_loopw [] (fun wx => ∃ j : Nat, i ≤ j ∧ j ≤ n ∧ Hid (j + blk false (s.data.toList.drop j) = n) ∧ Hid (Bx wx b (mC s j lv e tb)) ∧ Hid (Chg b b w wx)) (fun wx => n + 1 - (rdI wx ⟨b, 1, none⟩).toNat)
  case atStart => exact ⟨i, Nat.le_refl _, hin, hn, H, Lib.hid (Chg.refl _ _ _)⟩
  case round =>
    obtain ⟨j, hij, hjn, hj, HB, HC⟩ := hrel
    have hm0 := Lib.hid (rdI_of HB.out.c5.2.1)
    (obtain ⟨c0, c1, c2, c3, c4⟩ := HB.out.c5; obtain ⟨f0, f1, f2, f3, f4⟩ := HB.out.f5; have lt := HB.out.lt)
    by_cases hlt : j < s.size
    · have hlt2 : (j : Int) < (s.size : Int) := by omega
      have hnt := nth_idx s hlt
      obtain ⟨c, hc⟩ : ∃ c, s[j] = c := ⟨_, rfl⟩
      rw [hc] at hnt
      have hx1 : IntKind.i64.wrap ((j : Int) + 1) = ((j + 1 : Nat) : Int) := by rw [IntWalk.i64_in _ (by omega)]; simp
      have hyes := fun hb => blk_yes (l := s.data.toList) (i := j) hlt hb
      have hsl := fun h0 h1 => blk_slash (l := s.data.toList) (i := j) hlt h0 h1
      have hno := fun hb h0 => blk_no (l := s.data.toList) (i := j) hb h0
      rw [hnt] at hyes hsl hno
      go_wp2_with fail
      refine wp_region_ord [(0, 1), (1, 1), (2, 1), (3, 1), (4, 1), (5, 1), (6, 1), (7, 1), (8, 1), (9, 1)] [] 5 (by kernel_rfl) (by decide +kernel) ?_
      simp only [pickO, List.append_eq, List.cons_append, List.nil_append, List.getElem?_cons_succ, List.getElem?_cons_zero]
      intro w0 hG
      (repeat ((first | (with_reducible refine ord_q1 ?_) | (with_reducible refine ord_q0 ?_)); intro K hK; first | (refine Or.inr ⟨?_, ?_⟩; (focus (go_simp; first | done | (simp [undef]; done))); go_simp; (with_reducible refine hK _ ?_); clear hK K) | (refine Or.inl ⟨?_, ?_⟩; (focus (go_simp; done)); apply Exists.intro; refine And.intro ?_ ?_; (focus (first | (intro wq hq; obtain ⟨hcq, hfq⟩ := G.old hq; go_simp; (first | done | exact rfl); done) | (intro wq; go_simp; (first | done | exact rfl); done))); go_simp; (with_reducible refine hK _ ?_); clear hK K) | fail))
      (with_reducible refine ord_nil ?_)
      have hbx := hG.b; replace HB := Lib.hid (HB.out.grow hbx); replace HC := Lib.hid (HC.out.grow hbx); clear hG hbx; clear c0 c1 c2 c3 c4 f0 f1 f2 f3 f4 lt; (obtain ⟨c0, c1, c2, c3, c4⟩ := HB.out.c5; obtain ⟨f0, f1, f2, f3, f4⟩ := HB.out.f5; have lt := HB.out.lt)
      by_cases hbl : isBl c = true
      · have hn1 := Lib.hid (hyes hbl)
        have hj1 : Hid (j + 1 + blk false (s.data.toList.drop (j + 1)) = n) := by
          have h1 := hj.out
          have h2 := hn1.out
          unfold Hid
          omega
        have hle : j + 1 ≤ n := by have := hj1.out; omega
        have hcs : ((c.toNat : Int) == 32) = true ∨ (((c.toNat : Int) == 32) = false ∧ ((c.toNat : Int) == 9) = true) ∨ (((c.toNat : Int) == 32) = false ∧ ((c.toNat : Int) == 9) = false ∧ ((c.toNat : Int) == 10) = true) := by
          unfold isBl at hbl
          simp only [Bool.or_eq_true, decide_eq_true_eq] at hbl
          simp only [beq_iff_eq, beq_eq_false_iff_ne, ne_eq]
          omega
        clear hyes hsl hno hbl hnt
        rcases hcs with h1 | ⟨h0, h1⟩ | ⟨h0, h01, h1⟩ <;>
        · go_wp2_with fail
          refine wp_region_ord [(0, 1), (1, 1), (2, 1), (3, 1), (4, 1), (5, 1), (6, 1), (7, 1), (8, 1), (9, 1), (10, 1), (11, 1), (12, 1), (13, 1), (14, 1), (15, 1), (16, 1), (17, 1), (18, 1), (19, 1), (20, 1), (21, 1), (22, 1), (23, 1), (24, 1), (25, 1), (26, 1), (27, 1), (28, 1), (29, 1), (30, 1), (31, 1), (32, 1), (33, 1), (34, 1)] [] 5 (by kernel_rfl) (by decide +kernel) ?_
          simp only [pickO, List.append_eq, List.cons_append, List.nil_append, List.getElem?_cons_succ, List.getElem?_cons_zero]
          intro w0 hG
          (repeat ((first | (with_reducible refine ord_q1 ?_) | (with_reducible refine ord_q0 ?_)); intro K hK; first | (refine Or.inr ⟨?_, ?_⟩; (focus (go_simp; first | done | (simp [undef]; done))); go_simp; (with_reducible refine hK _ ?_); clear hK K) | (refine Or.inl ⟨?_, ?_⟩; (focus (go_simp; done)); apply Exists.intro; refine And.intro ?_ ?_; (focus (first | (intro wq hq; obtain ⟨hcq, hfq⟩ := G.old hq; go_simp; (first | done | exact rfl); done) | (intro wq; go_simp; (first | done | exact rfl); done))); go_simp; (with_reducible refine hK _ ?_); clear hK K) | fail))
          (with_reducible refine ord_nil ?_)
          have hbx := hG.b; replace HB := Lib.hid (HB.out.grow hbx); replace HC := Lib.hid (HC.out.grow hbx); clear hG hbx; clear c0 c1 c2 c3 c4 f0 f1 f2 f3 f4 lt; (obtain ⟨c0, c1, c2, c3, c4⟩ := HB.out.c5; obtain ⟨f0, f1, f2, f3, f4⟩ := HB.out.f5; have lt := HB.out.lt)
          go_wp2_with fail
          go_roundw
          case rel => exact ⟨j + 1, by omega, hle, hj1, Lib.hid (HB.out.put rfl), Lib.hid (HC.out.set1 _ _)⟩
          case measure =>
            rw [rdI_of (Bx.put (i := 1) (v := .int .i64 ((j : Int) + 1)) HB.out rfl).c5.2.1, hm0.out]
            omega
      · have hbf : isBl c = false := by simpa using hbl
        have hcs : ((c.toNat : Int) == 32) = false ∧ ((c.toNat : Int) == 9) = false ∧ ((c.toNat : Int) == 10) = false := by
          unfold isBl at hbf
          simp only [Bool.or_eq_false_iff, decide_eq_false_iff_not] at hbf
          simp only [beq_eq_false_iff_ne, ne_eq]
          omega
        obtain ⟨h32, h9, h10⟩ := hcs
        have hend : ¬ (c.toNat = 47 ∧ (nth s.data.toList (j + 1)).toNat = 47) → Hid (j = n) := fun k => by
          have h1 := hno hbf k
          have h2 := hj.out
          unfold Hid
          omega
        have hgo : c.toNat = 47 → (nth s.data.toList (j + 1)).toNat = 47 → Hid (j + spn notNL (s.data.toList.drop j) + blk false (s.data.toList.drop (j + spn notNL (s.data.toList.drop j))) = n ∧ 1 ≤ spn notNL (s.data.toList.drop j)) := fun k0 k1 => by
          have h1 := hsl k0 k1
          have h2 := hj.out
          have h3 : 1 ≤ spn notNL (s.data.toList.drop j) := spn_pos hlt (by rw [hnt]; unfold notNL; simp [k0])
          unfold Hid
          omega
        have BA := Lib.hid (fun wx hb => here_a (w := wx) (b := b) (s := s) (i := (j : Int)) (lv := lv) (e := e) (tb := tb) hb hs ((j : Int) + 1) (j + 1) (by omega) (by omega))
        obtain ⟨d, hd⟩ : ∃ d, nth s.data.toList (j + 1) = d := ⟨_, rfl⟩
        rw [hd] at hend hgo BA
        have hk : (d.toNat = 47) ↔ (((d.toNat : Int) == 47) = true) := by simp only [beq_iff_eq]; omega
        have hk0 : (c.toNat = 47) ↔ (((c.toNat : Int) == 47) = true) := by simp only [beq_iff_eq]; omega
        rw [hk0] at hend hgo
        rw [hk] at hend hgo
        clear hk hk0 hyes hsl hno hbl hnt hbf hd
        go_wp2_with fail
        refine wp_region_ord [(0, 1), (1, 1), (2, 1), (3, 1), (4, 1), (5, 1), (6, 1), (7, 1), (8, 1), (9, 1), (10, 1), (11, 1), (12, 1), (13, 1), (14, 1), (15, 1), (16, 1), (17, 1), (18, 1), (19, 1), (20, 1), (21, 1), (22, 1), (23, 1), (24, 1), (25, 1), (26, 1), (27, 1), (28, 1), (29, 1), (30, 1), (31, 1), (32, 1), (33, 1), (34, 1)] [] 5 (by kernel_rfl) (by decide +kernel) ?_
        simp only [pickO, List.append_eq, List.cons_append, List.nil_append, List.getElem?_cons_succ, List.getElem?_cons_zero]
        intro w0 hG
        (repeat ((first | (with_reducible refine ord_q1 ?_) | (with_reducible refine ord_q0 ?_)); intro K hK; first | (refine Or.inr ⟨?_, ?_⟩; (focus (go_simp; first | done | (simp [undef]; done))); go_simp; (with_reducible refine hK _ ?_); clear hK K) | (refine Or.inl ⟨?_, ?_⟩; (focus (go_simp; done)); apply Exists.intro; refine And.intro ?_ ?_; (focus (first | (intro wq hq; obtain ⟨hcq, hfq⟩ := G.old hq; go_simp; (first | done | exact rfl); done) | (intro wq; go_simp; (first | done | exact rfl); done))); go_simp; (with_reducible refine hK _ ?_); clear hK K) | fail))
        (with_reducible refine ord_nil ?_)
        have hbx := hG.b; replace HB := Lib.hid (HB.out.grow hbx); replace HC := Lib.hid (HC.out.grow hbx); clear hG hbx; clear c0 c1 c2 c3 c4 f0 f1 f2 f3 f4 lt; (obtain ⟨c0, c1, c2, c3, c4⟩ := HB.out.c5; obtain ⟨f0, f1, f2, f3, f4⟩ := HB.out.f5; have lt := HB.out.lt)
        rcases h47 : ((c.toNat : Int) == 47) with _ | _
        · have hjn2 := hend (by rw [h47]; simp)
          have hjn3 : j = n := hjn2.out
          subst hjn3
          clear hend hgo
          go_wp2_with fail
          refine wp_region_ord [(0, 1), (1, 1), (2, 1), (3, 1), (4, 1), (5, 1), (6, 1), (7, 1), (8, 1), (9, 1), (10, 1), (11, 1), (12, 1), (13, 1), (14, 1), (15, 1), (16, 1), (17, 2), (18, 1), (19, 1), (20, 1)] [] 5 (by kernel_rfl) (by decide +kernel) ?_
          simp only [pickO, List.append_eq, List.cons_append, List.nil_append, List.getElem?_cons_succ, List.getElem?_cons_zero]
          intro w0 hG
          (repeat ((first | (with_reducible refine ord_q1 ?_) | (with_reducible refine ord_q0 ?_)); intro K hK; first | (refine Or.inr ⟨?_, ?_⟩; (focus (go_simp; first | done | (simp [undef]; done))); go_simp; (with_reducible refine hK _ ?_); clear hK K) | (refine Or.inl ⟨?_, ?_⟩; (focus (go_simp; done)); apply Exists.intro; refine And.intro ?_ ?_; (focus (first | (intro wq hq; obtain ⟨hcq, hfq⟩ := G.old hq; go_simp; (first | done | exact rfl); done) | (intro wq; go_simp; (first | done | exact rfl); done))); go_simp; (with_reducible refine hK _ ?_); clear hK K) | fail))
          (with_reducible refine ord_skip ?_ hG ?_); (focus (go_simp; first | done | (simp [undef]; done))); intro K hK; go_simp; (with_reducible refine hK _ ?_); clear hK K; (repeat ((first | (with_reducible refine ord_q1 ?_) | (with_reducible refine ord_q0 ?_)); intro K hK; first | (refine Or.inr ⟨?_, ?_⟩; (focus (go_simp; first | done | (simp [undef]; done))); go_simp; (with_reducible refine hK _ ?_); clear hK K) | (refine Or.inl ⟨?_, ?_⟩; (focus (go_simp; done)); apply Exists.intro; refine And.intro ?_ ?_; (focus (first | (intro wq hq; obtain ⟨hcq, hfq⟩ := G.old hq; go_simp; (first | done | exact rfl); done) | (intro wq; go_simp; (first | done | exact rfl); done))); go_simp; (with_reducible refine hK _ ?_); clear hK K) | fail))
          (with_reducible refine ord_nil ?_)
          have hbx := hG.b; replace HB := Lib.hid (HB.out.grow hbx); replace HC := Lib.hid (HC.out.grow hbx); clear hG hbx; clear c0 c1 c2 c3 c4 f0 f1 f2 f3 f4 lt; (obtain ⟨c0, c1, c2, c3, c4⟩ := HB.out.c5; obtain ⟨f0, f1, f2, f3, f4⟩ := HB.out.f5; have lt := HB.out.lt)
          go_wp2_with fail
          (first | go_end0 | refine bodyPost_ret (results_none rfl _ _ _) rfl ?_)
          exact ⟨rfl, HB.out, HC.out⟩
        · go_wp2_with fail
          refine wp_region_ord [(0, 1), (1, 1), (2, 1), (3, 1), (4, 1), (5, 1), (6, 1), (7, 1), (8, 1), (9, 1), (10, 1), (11, 1), (12, 1), (13, 1), (14, 1), (15, 1), (16, 1), (17, 2), (18, 1), (19, 1), (20, 1)] [] 5 (by kernel_rfl) (by decide +kernel) ?_
          simp only [pickO, List.append_eq, List.cons_append, List.nil_append, List.getElem?_cons_succ, List.getElem?_cons_zero]
          intro w0 hG
          (repeat ((first | (with_reducible refine ord_q1 ?_) | (with_reducible refine ord_q0 ?_)); intro K hK; first | (refine Or.inr ⟨?_, ?_⟩; (focus (go_simp; first | done | (simp [undef]; done))); go_simp; (with_reducible refine hK _ ?_); clear hK K) | (refine Or.inl ⟨?_, ?_⟩; (focus (go_simp; done)); apply Exists.intro; refine And.intro ?_ ?_; (focus (first | (intro wq hq; obtain ⟨hcq, hfq⟩ := G.old hq; go_simp; (first | done | exact rfl); done) | (intro wq; go_simp; (first | done | exact rfl); done))); go_simp; (with_reducible refine hK _ ?_); clear hK K) | fail))
          (with_reducible refine ord_run ?_ hG)
          intro K hK
          go_simp
          go_at_call 86; (with_reducible refine (BA.out _ (HB.out.grow hG.b)).mono ?_); rintro e1 w3 ⟨rfl, rfl⟩; have hb := G.refl w3
          replace hG := Grew.trans hG hb
          (try dsimp only)
          (with_reducible refine hK _ _ hG ?_)
          clear hK K
          (repeat ((first | (with_reducible refine ord_q1 ?_) | (with_reducible refine ord_q0 ?_)); intro K hK; first | (refine Or.inr ⟨?_, ?_⟩; (focus (go_simp; first | done | (simp [undef]; done))); go_simp; (with_reducible refine hK _ ?_); clear hK K) | (refine Or.inl ⟨?_, ?_⟩; (focus (go_simp; done)); apply Exists.intro; refine And.intro ?_ ?_; (focus (first | (intro wq hq; obtain ⟨hcq, hfq⟩ := G.old hq; go_simp; (first | done | exact rfl); done) | (intro wq; go_simp; (first | done | exact rfl); done))); go_simp; (with_reducible refine hK _ ?_); clear hK K) | fail))
          (with_reducible refine ord_nil ?_)
          have hbx := hG.b; replace HB := Lib.hid (HB.out.grow hbx); replace HC := Lib.hid (HC.out.grow hbx); clear hG hbx; clear c0 c1 c2 c3 c4 f0 f1 f2 f3 f4 lt; (obtain ⟨c0, c1, c2, c3, c4⟩ := HB.out.c5; obtain ⟨f0, f1, f2, f3, f4⟩ := HB.out.f5; have lt := HB.out.lt)
          clear hb
          rcases h47d : ((d.toNat : Int) == 47) with _ | _
          · have hjn2 := hend (by rw [h47d]; simp)
            have hjn3 : j = n := hjn2.out
            subst hjn3
            clear hend hgo
            go_wp2_with fail
            (first | go_end0 | refine bodyPost_ret (results_none rfl _ _ _) rfl ?_)
            exact ⟨rfl, HB.out, HC.out⟩
          · have hgo2 := hgo h47 h47d
            clear hend hgo BA hx1 hc
            obtain ⟨m, hm⟩ : ∃ m, j + spn notNL (s.data.toList.drop j) = m := ⟨_, rfl⟩
            have hmle := spn_bd notNL s.data.toList (i := j) (Nat.le_of_lt hlt)
            rw [hm] at hgo2 hmle
            have hmle2 : m ≤ s.size := hmle
            have hm1 : j + 1 ≤ m := by have := hgo2.out.2; omega
            have hle : m ≤ n := by have := hgo2.out.1; omega
            have hj1 : Hid (m + blk false (s.data.toList.drop m) = n) := hgo2.out.1
            replace hm := Lib.hid hm
            clear hgo2 hmle hlt hlt2
            go_wp2_with fail
            clear c0 c1 c2 c3 c4 f0 f1 f2 f3 f4 lt
            go_loopw [] (fun wx => ∃ q : Nat, j ≤ q ∧ q ≤ m ∧ Hid (q + spn notNL (s.data.toList.drop q) = m) ∧ Hid (Bx wx b (mC s q lv e tb)) ∧ Hid (Chg b b w wx)) (fun wx => m + 1 - (rdI wx ⟨b, 1, none⟩).toNat)
            case atStart => exact ⟨j, Nat.le_refl _, by omega, hm, HB, HC⟩
            case round =>
              clear HB HC
              obtain ⟨q, hjq, hqm, hq, HB, HC⟩ := hrel
              have hmq := Lib.hid (rdI_of HB.out.c5.2.1)
              (obtain ⟨c0, c1, c2, c3, c4⟩ := HB.out.c5; obtain ⟨f0, f1, f2, f3, f4⟩ := HB.out.f5; have lt := HB.out.lt)
              by_cases hlt : q < s.size
              · have hlt2 : (q : Int) < (s.size : Int) := by omega
                have hx1 : IntKind.i64.wrap ((q : Int) + 1) = ((q + 1 : Nat) : Int) := by rw [IntWalk.i64_in _ (by omega)]; simp
                have hnq := nth_idx s hlt
                obtain ⟨c9, hc9⟩ : ∃ c, s[q] = c := ⟨_, rfl⟩
                rw [hc9] at hnq
                have hqq := hq.out
                by_cases hq10 : c9.toNat = 10
                · have k10 : ((c9.toNat : Int) != 10) = false := by simp [hq10]
                  have hqe : q = m := by rw [spn_no (by rw [hnq]; unfold notNL; simp [hq10])] at hqq; omega
                  subst hqe
                  clear hqq hq10 hnq
                  go_wp2_with fail
                  refine wp_region_ord [(0, 1), (1, 1), (2, 1), (3, 1), (4, 1), (5, 1), (6, 1), (7, 1), (8, 1), (9, 1), (10, 1), (11, 1), (12, 1), (13, 1), (14, 1), (15, 1), (16, 1), (17, 1), (18, 1), (19, 1), (20, 1), (21, 1)] [] 5 (by kernel_rfl) (by decide +kernel) ?_
                  simp only [pickO, List.append_eq, List.cons_append, List.nil_append, List.getElem?_cons_succ, List.getElem?_cons_zero]
                  intro w0 hG
                  (repeat ((first | (with_reducible refine ord_q1 ?_) | (with_reducible refine ord_q0 ?_)); intro K hK; first | (refine Or.inr ⟨?_, ?_⟩; (focus (go_simp; first | done | (simp [undef]; done))); go_simp; (with_reducible refine hK _ ?_); clear hK K) | (refine Or.inl ⟨?_, ?_⟩; (focus (go_simp; done)); apply Exists.intro; refine And.intro ?_ ?_; (focus (first | (intro wq hq; obtain ⟨hcq, hfq⟩ := G.old hq; go_simp; (first | done | exact rfl); done) | (intro wq; go_simp; (first | done | exact rfl); done))); go_simp; (with_reducible refine hK _ ?_); clear hK K) | fail))
                  (with_reducible refine ord_nil ?_)
                  have hbx := hG.b; replace HB := Lib.hid (HB.out.grow hbx); replace HC := Lib.hid (HC.out.grow hbx); clear hG hbx; clear c0 c1 c2 c3 c4 f0 f1 f2 f3 f4 lt; (obtain ⟨c0, c1, c2, c3, c4⟩ := HB.out.c5; obtain ⟨f0, f1, f2, f3, f4⟩ := HB.out.f5; have lt := HB.out.lt)
                  go_wp2_with fail
                  go_roundw
                  case rel => exact ⟨q, by omega, hle, hj1, HB, HC⟩
                  case measure =>
                    rw [rdI_of HB.out.c5.2.1, hm0.out]
                    omega
                · have k10 : ((c9.toNat : Int) != 10) = true := by simp; omega
                  have hq1 : Hid (q + 1 + spn notNL (s.data.toList.drop (q + 1)) = m) := by rw [spn_yes hlt (by rw [hnq]; unfold notNL; simp [hq10])] at hqq; unfold Hid; omega
                  have hq2 : q + 1 ≤ m := by have := hq1.out; omega
                  clear hqq hq10 hnq
                  go_wp2_with fail
                  refine wp_region_ord [(0, 1), (1, 1), (2, 1), (3, 1), (4, 1), (5, 1), (6, 1), (7, 1), (8, 1), (9, 1), (10, 1), (11, 1), (12, 1), (13, 1), (14, 1), (15, 1), (16, 1), (17, 1), (18, 1), (19, 1), (20, 1), (21, 1)] [] 5 (by kernel_rfl) (by decide +kernel) ?_
                  simp only [pickO, List.append_eq, List.cons_append, List.nil_append, List.getElem?_cons_succ, List.getElem?_cons_zero]
                  intro w0 hG
                  (repeat ((first | (with_reducible refine ord_q1 ?_) | (with_reducible refine ord_q0 ?_)); intro K hK; first | (refine Or.inr ⟨?_, ?_⟩; (focus (go_simp; first | done | (simp [undef]; done))); go_simp; (with_reducible refine hK _ ?_); clear hK K) | (refine Or.inl ⟨?_, ?_⟩; (focus (go_simp; done)); apply Exists.intro; refine And.intro ?_ ?_; (focus (first | (intro wq hq; obtain ⟨hcq, hfq⟩ := G.old hq; go_simp; (first | done | exact rfl); done) | (intro wq; go_simp; (first | done | exact rfl); done))); go_simp; (with_reducible refine hK _ ?_); clear hK K) | fail))
                  (with_reducible refine ord_nil ?_)
                  have hbx := hG.b; replace HB := Lib.hid (HB.out.grow hbx); replace HC := Lib.hid (HC.out.grow hbx); clear hG hbx; clear c0 c1 c2 c3 c4 f0 f1 f2 f3 f4 lt; (obtain ⟨c0, c1, c2, c3, c4⟩ := HB.out.c5; obtain ⟨f0, f1, f2, f3, f4⟩ := HB.out.f5; have lt := HB.out.lt)
                  go_wp2_with fail
                  go_roundw
                  case rel => exact ⟨q + 1, by omega, hq2, hq1, Lib.hid (HB.out.put rfl), Lib.hid (HC.out.set1 _ _)⟩
                  case measure =>
                    rw [rdI_of (Bx.put (i := 1) (v := .int .i64 ((q : Int) + 1)) HB.out rfl).c5.2.1, hmq.out]
                    omega
              · have hqe : q = m := by
                  have hqq := hq.out
                  rw [spn_end _ (show s.data.toList.length ≤ q by rw [Array.length_toList]; exact Nat.le_of_not_lt hlt)] at hqq
                  omega
                subst hqe
                have hlt2 : ¬ (q : Int) < (s.size : Int) := by omega
                go_wp2_with fail
                refine wp_region_ord [(0, 1), (1, 1), (2, 1), (3, 1), (4, 1), (5, 1), (6, 1), (7, 1), (8, 1), (9, 1), (10, 1), (11, 1), (12, 1), (13, 1), (14, 1), (15, 1), (16, 1), (17, 1), (18, 1), (19, 1), (20, 1), (21, 1)] [] 5 (by kernel_rfl) (by decide +kernel) ?_
                simp only [pickO, List.append_eq, List.cons_append, List.nil_append, List.getElem?_cons_succ, List.getElem?_cons_zero]
                intro w0 hG
                (repeat ((first | (with_reducible refine ord_q1 ?_) | (with_reducible refine ord_q0 ?_)); intro K hK; first | (refine Or.inr ⟨?_, ?_⟩; (focus (go_simp; first | done | (simp [undef]; done))); go_simp; (with_reducible refine hK _ ?_); clear hK K) | (refine Or.inl ⟨?_, ?_⟩; (focus (go_simp; done)); apply Exists.intro; refine And.intro ?_ ?_; (focus (first | (intro wq hq; obtain ⟨hcq, hfq⟩ := G.old hq; go_simp; (first | done | exact rfl); done) | (intro wq; go_simp; (first | done | exact rfl); done))); go_simp; (with_reducible refine hK _ ?_); clear hK K) | fail))
                (with_reducible refine ord_nil ?_)
                have hbx := hG.b; replace HB := Lib.hid (HB.out.grow hbx); replace HC := Lib.hid (HC.out.grow hbx); clear hG hbx; clear c0 c1 c2 c3 c4 f0 f1 f2 f3 f4 lt; (obtain ⟨c0, c1, c2, c3, c4⟩ := HB.out.c5; obtain ⟨f0, f1, f2, f3, f4⟩ := HB.out.f5; have lt := HB.out.lt)
                go_wp2_with fail
                go_roundw
                case rel => exact ⟨q, by omega, hle, hj1, HB, HC⟩
                case measure =>
                  rw [rdI_of HB.out.c5.2.1, hm0.out]
                  omega
    · have hjs : j = n := by
        have := hj.out
        rw [blk_end (show s.data.toList.length ≤ j by rw [Array.length_toList]; exact Nat.le_of_not_lt hlt)] at this
        omega
      subst hjs
      have hlt2 : ¬ (j : Int) < (s.size : Int) := by omega
      go_wp2_with fail
      refine wp_region_ord [(0, 1), (1, 1), (2, 1), (3, 1), (4, 1), (5, 1), (6, 1), (7, 1), (8, 1), (9, 1)] [] 5 (by kernel_rfl) (by decide +kernel) ?_
      simp only [pickO, List.append_eq, List.cons_append, List.nil_append, List.getElem?_cons_succ, List.getElem?_cons_zero]
      intro w0 hG
      (repeat ((first | (with_reducible refine ord_q1 ?_) | (with_reducible refine ord_q0 ?_)); intro K hK; first | (refine Or.inr ⟨?_, ?_⟩; (focus (go_simp; first | done | (simp [undef]; done))); go_simp; (with_reducible refine hK _ ?_); clear hK K) | (refine Or.inl ⟨?_, ?_⟩; (focus (go_simp; done)); apply Exists.intro; refine And.intro ?_ ?_; (focus (first | (intro wq hq; obtain ⟨hcq, hfq⟩ := G.old hq; go_simp; (first | done | exact rfl); done) | (intro wq; go_simp; (first | done | exact rfl); done))); go_simp; (with_reducible refine hK _ ?_); clear hK K) | fail))
      (with_reducible refine ord_nil ?_)
      have hbx := hG.b; replace HB := Lib.hid (HB.out.grow hbx); replace HC := Lib.hid (HC.out.grow hbx); clear hG hbx; clear c0 c1 c2 c3 c4 f0 f1 f2 f3 f4 lt; (obtain ⟨c0, c1, c2, c3, c4⟩ := HB.out.c5; obtain ⟨f0, f1, f2, f3, f4⟩ := HB.out.f5; have lt := HB.out.lt)
      go_wp2_with fail
      (first | go_end0 | refine bodyPost_ret (results_none rfl _ _ _) rfl ?_)
      exact ⟨rfl, HB.out, HC.out⟩
end
end Go.Proofs.YtmchiibbodllaaaGreatDoor
