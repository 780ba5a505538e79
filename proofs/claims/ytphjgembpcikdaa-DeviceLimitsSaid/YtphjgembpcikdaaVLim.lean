/- The law DeviceLimits returns true: the walk. -/
import Derived.Test.YtphjgembpcikdaaVLim0
import Derived.Test.YtphjgembpcikdaaOrdD
namespace Go.Proofs.Ytphjgembpcikdaa
set_option linter.unusedVariables false
set_option linter.unnecessarySimpa false
set_option linter.unusedSimpArgs false
open Go.RowKit

section
variable {w : World}
set_option maxRecDepth 20000 in set_option maxHeartbeats 2000000 in
theorem deviceLimits_any {A : Option Addr} {n c : Nat} {l : List LOp} (L : Int) (hl : OpsW w A n c l) (hL : (Lit.int .u8 L).wf = true) :
    Calls Try.prog 6 #[.slice A n c, .int .u8 L] w fun e w' => e = .returned (.bool true) ∧ Below w.heap.size w w' := by
  have hr0 : 0 ≤ L ∧ L ≤ 255 := by
    have e2 : IntKind.u8.min = 0 := rfl
    have e3 : IntKind.u8.max = 255 := rfl
    simp [Lit.wf, e2, e3] at hL
    exact hL
  obtain ⟨m, hm⟩ : ∃ m : Nat, min n 40 = m := ⟨_, rfl⟩
  have hmn : m ≤ n := by omega
  have hm40 : m ≤ 40 := by omega
  obtain ⟨hln, hnc, hcm⟩ := hl.len
  have hmi : min (n : Int) 40 = (m : Int) := by omega
  have hmc : m ≤ c := by omega
  unfold maxLen at hcm
  have HL := Lib.hid (hl.take hmn)
  obtain ⟨q, hq⟩ : ∃ q, l.take m = q := ⟨_, rfl⟩
  rw [hq] at HL
  have hql : Hid (q.length = m) := HL.out.len.1
  have hwr : IntKind.i64.wrap L = L := by rw [IntWalk.i64_in _ (by omega)]
  clear hL hl hq hm hln
  go_enter Try.func6, Try.ntmps6
  go_wp2_with fail
  refine (new_any 500 (by decide) (by decide)).mono ?_
  intro e w1 hr
  obtain ⟨a, rfl, F0⟩ := (FDs.nil (w0 := w) (G.refl w)).new hr
  replace F0 := Lib.hid F0
  clear hr
  go_wp2_with fail
  refine (new_any 500 (by decide) (by decide)).mono ?_
  intro e w2 hr
  obtain ⟨b, rfl, F1⟩ := F0.out.new hr
  replace F1 := Lib.hid F1
  clear hr F0
  go_wp2_with fail
  refine (known_any _).mono ?_
  rintro e w3 ⟨rfl, hb3⟩
  replace F1 := Lib.hid (F1.out.grow hb3)
  clear hb3
  go_wp2_with fail
  refine (F1.out.runV (i := 0) rfl fun S hS => limit_any hS L).mono ?_
  rintro e w4 ⟨rfl, F2⟩
  replace F2 : Hid (FDs w w4 [(b, limitD (newD 500) L), (a, newD 500)]) := F2
  clear F1
  go_wp2_with fail
  go_loopw [9, 10] (fun dv iv wr => ∃ (i : Nat) (k : Int) (s t : Ds), i ≤ m ∧ iv = .int .i64 i ∧ dv = .int .i64 k ∧ 0 ≤ k ∧ k ≤ L ∧ FDs w wr [(b, t), (a, s)] ∧ s.Good ∧ t.Good ∧ LimR s t (L - k)) (fun _ iv _ => m - (intOf iv).toNat)
  case atStart => exact ⟨0, 0, newD 500, limitD (newD 500) L, Nat.zero_le _, rfl, rfl, by omega, hr0.1, F2.out, new_good (by decide) (by decide), limit_good (new_good (by decide) (by decide)) L, ⟨rfl, rfl, rfl, rfl, rfl, rfl, by show max 0 L = L - 0; omega⟩⟩
  case round =>
    obtain ⟨i, k, s, t, hi, rfl, rfl, hk0, hk1, hF, hgs, hgt, hR⟩ := hrel
    replace hF := Lib.hid hF
    replace hR := Lib.hid hR
    replace hgs := Lib.hid hgs
    replace hgt := Lib.hid hgt
    by_cases hlt : i < m
    · obtain ⟨o, ho⟩ : ∃ o, q[i]? = some o := ⟨_, List.getElem?_eq_getElem (by rw [hql.out]; exact hlt)⟩
      obtain ⟨b', off, rfl, hbl, e0, e1, e2, e3, e4, hfit⟩ := HL.out.at_ ho
      have hO := Lib.hid (oper_lim hR.out o i)
      have hgs' := Lib.hid (oper_good hgs.out o i)
      have hgt' := Lib.hid (oper_good hgt.out o i)
      have hfit := Lib.hid hfit
      have hGF := Lib.hid hF.out.below
      go_wp2_with fail
      refine wp_region_ordD [(0, 0), (1, 0), (2, 0), (3, 0), (4, 0), (5, 0), (7, 0), (8, 0), (9, 0), (10, 0), (11, 0), (12, 0), (6, 3), (13, 3), (14, 0), (15, 0)] [6, 13] 5 (Grew w) (by kernel_rfl) (by decide +kernel) ?_
      simp only [pickO, List.append_eq, List.cons_append, List.nil_append, List.getElem?_cons_succ, List.getElem?_cons_zero]
      intro w0 hG
      have hD := (show Grew w w0 from G.trans hGF.out hG.b)
      refine ⟨hD, ?_⟩
      (repeat ((first | (with_reducible refine ord_q1D ?_) | (with_reducible refine ord_q0D ?_)); intro K hK; first | (refine Or.inr ⟨?_, ?_⟩; (focus (go_simp; first | done | (simp [undef]; done))); go_simp; (with_reducible refine hK _ ?_); clear hK K) | (refine Or.inl ⟨?_, ?_⟩; (focus (go_simp; done)); apply Exists.intro; refine And.intro ?_ ?_; (focus (first | (intro wq hq; have hcf := G.old hq; obtain ⟨hcq, hfq⟩ := hcf; go_simp; (first | done | exact rfl); done) | (intro wq hq; skip; go_simp; (first | done | exact rfl); done))); go_simp; (with_reducible refine hK _ ?_); clear hK K) | fail))
      have hF := Lib.hid (hF.out.grow hG.b)
      (with_reducible refine ord_tailD hD ?_)
      intro K hK
      go_simp
      go_at_call 24; (refine (hF.out.oper (i := 1) rfl hgs.out o hfit.out i (by omega)).mono ?_); rintro e w5 ⟨rfl, hF5⟩; replace hF5 := Lib.hid hF5; have hD' : Grew w w5 := hF5.out.below
      replace hD := hD'
      clear hD'
      (try dsimp only)
      (with_reducible refine hK _ _ hD ?_)
      clear hK K
      (repeat ((first | (with_reducible refine ord_q1D ?_) | (with_reducible refine ord_q0D ?_)); intro K hK; first | (refine Or.inr ⟨?_, ?_⟩; (focus (go_simp; first | done | (simp [undef]; done))); go_simp; (with_reducible refine hK _ ?_); clear hK K) | (refine Or.inl ⟨?_, ?_⟩; (focus (go_simp; done)); apply Exists.intro; refine And.intro ?_ ?_; (focus (first | (intro wq hq; have hcf := G.old hq; obtain ⟨hcq, hfq⟩ := hcf; go_simp; (first | done | exact rfl); done) | (intro wq hq; skip; go_simp; (first | done | exact rfl); done))); go_simp; (with_reducible refine hK _ ?_); clear hK K) | fail))
      (with_reducible refine ord_tailD hD ?_)
      intro K hK
      go_simp
      go_at_call 24; (refine (hF5.out.oper (i := 0) rfl hgt.out o hfit.out i (by omega)).mono ?_); rintro e w6 ⟨rfl, hF6⟩; replace hF6 := Lib.hid hF6; have hD' : Grew w w6 := hF6.out.below
      replace hD := hD'
      clear hD'
      (try dsimp only)
      (with_reducible refine hK _ _ hD ?_)
      clear hK K
      (repeat ((first | (with_reducible refine ord_q1D ?_) | (with_reducible refine ord_q0D ?_)); intro K hK; first | (refine Or.inr ⟨?_, ?_⟩; (focus (go_simp; first | done | (simp [undef]; done))); go_simp; (with_reducible refine hK _ ?_); clear hK K) | (refine Or.inl ⟨?_, ?_⟩; (focus (go_simp; done)); apply Exists.intro; refine And.intro ?_ ?_; (focus (first | (intro wq hq; have hcf := G.old hq; obtain ⟨hcq, hfq⟩ := hcf; go_simp; (first | done | exact rfl); done) | (intro wq hq; skip; go_simp; (first | done | exact rfl); done))); go_simp; (with_reducible refine hK _ ?_); clear hK K) | fail))
      (with_reducible refine ord_nilD ?_)
      have hR' := hR
      clear hD hF5 hF hR hgs hgt hGF hG
      obtain ⟨⟨x, s'⟩, hx⟩ : ∃ p, operD s o i = p := ⟨_, rfl⟩
      obtain ⟨⟨y, t'⟩, hy⟩ : ∃ p, operD t o i = p := ⟨_, rfl⟩
      rw [hx] at hO hgs' hF6 ⊢
      rw [hy] at hO hgt' hF6 ⊢
      dsimp only at hgs' hgt' ⊢
      replace hF6 : Hid (FDs w w6 [(b, t'), (a, s')]) := hF6
      clear hx hy
      have hw1 : IntKind.i64.wrap (k + 1) = k + 1 := by rw [IntWalk.i64_in _ (by omega)]
      rcases hO.out with ⟨h1, h2, h3⟩ | ⟨h1, ⟨h2, h3, h4⟩ | ⟨h2, h3, h4⟩⟩
      · dsimp only at h1 h2
        cases h3
        subst h2
        have hkl : ¬ L < k := by omega
        have hu := Lib.hid (hR'.out.tu)
        go_wp2_with fail
        obtain ⟨S, D, hS⟩ := hF6.out.at_ (i := 0) rfl
        refine (down_any D).mono ?_
        rintro e w7 ⟨he, hw⟩
        subst hw
        rw [hu.out] at he
        subst he
        clear D hS
        go_wp2_with fail
        go_roundw
        case rel => exact ⟨i + 1, k, _, _, by omega, by go_num, rfl, hk0, hk1, hF6.out, hgs'.out, hgt'.out, hR'.out⟩
        case measure => simp [intOf]; omega
      · dsimp only at h1 h3 h4
        subst h1 h3
        have hkl : ¬ L < k + 1 := by omega
        have hR' : Hid (LimR s' t' (L - (k + 1))) := by
          have e : IntKind.i64.wrap (L - k - 1) = L - (k + 1) := by rw [IntWalk.i64_in _ (by omega)]; omega
          rw [e] at h4
          exact h4
        have hu := Lib.hid (hR'.out.tu)
        clear h4
        go_wp2_with fail
        obtain ⟨S, D, hS⟩ := hF6.out.at_ (i := 0) rfl
        refine (down_any D).mono ?_
        rintro e w7 ⟨he, hw⟩
        subst hw
        rw [hu.out] at he
        subst he
        clear D hS
        go_wp2_with fail
        go_roundw
        case rel => exact ⟨i + 1, k + 1, s', t', by omega, by go_num, by go_num, by omega, by omega, hF6.out, hgs'.out, hgt'.out, hR'.out⟩
        case measure => simp [intOf]; omega
      · dsimp only at h1 h3 h4
        subst h1 h3
        have hkl : L < k + 1 := by omega
        have hu := Lib.hid h4
        have hod := Lib.hid (oper_down h4 o i)
        clear h4
        go_wp2_with fail
        obtain ⟨S, D, hS⟩ := hF6.out.at_ (i := 0) rfl
        refine (down_any D).mono ?_
        rintro e w7 ⟨he, hw⟩
        subst hw
        rw [hu.out] at he
        subst he
        clear D hS
        have hb6 := hF6.out.below
        have f0 := G.cell e0 hb6
        have f1 := G.cell e1 hb6
        have f2 := G.cell e2 hb6
        have f3 := G.cell e3 hb6
        have f4 := G.cell e4 hb6
        clear e0 e1 e2 e3 e4 hb6
        go_wp2_with fail
        refine (hF6.out.oper (i := 0) rfl hgt'.out o hfit.out i (by omega)).mono ?_
        rintro e w8 ⟨he, hF8⟩
        rw [show operD (b, t').2 o i = (31, t') from hod.out] at he
        subst he
        replace hF8 := Lib.hid hF8
        go_wp2_with fail
        go_ret
        exact ⟨rfl, hF8.out.below⟩
    · obtain rfl : i = m := by omega
      go_wp2_with fail
      go_ret
      exact ⟨rfl, hF.out.below⟩
end
end Go.Proofs.Ytphjgembpcikdaa
