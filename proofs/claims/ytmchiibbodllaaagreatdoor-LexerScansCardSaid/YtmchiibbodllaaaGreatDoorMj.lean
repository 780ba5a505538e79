/- The law's model: token, numbers and words. -/
import Derived.Test.YtmchiibbodllaaaGreatDoorMi
namespace Go.Proofs.YtmchiibbodllaaaGreatDoor
set_option linter.unusedVariables false
set_option linter.unnecessarySimpa false
set_option linter.unusedSimpArgs false
open Go.RowKit

section
variable {w : World} {b i : Nat} {s : ByteArray} {ts : List Pl} {A : Option Addr} {c : Nat} {tb : Int}
set_option maxRecDepth 20000 in set_option maxHeartbeats 4000000 in
theorem token_n (hE : Env w) (hgb : ¬ GB b) (h : Bx w b (mC s (i : Int) (.slice A ts.length c) 0 tb)) (hr : MRow w b s ts A c) (hs : s.size ≤ 100000) (hi : i < s.size) (hn : ts.length ≤ 20000)
    (h0 : isDig (nth s.data.toList i) = true) :
    Calls Tryz.prog 56 #[.pointer (some ⟨b, 0, none⟩)] w (RetTk w b s i ts tb (lexN (s.data.toList.drop i))) := by
  have NM := Lib.hid (number_m hE hgb h hr hs hi hn)
  obtain ⟨c0, c1, c2, c3, c4⟩ := h.c5
  have lt := h.lt
  rw [nth_idx s hi] at h0
  obtain ⟨x, hx⟩ : ∃ x, s[i] = x := ⟨_, rfl⟩
  rw [hx] at h0
  have h9 : 48 ≤ x.toNat ∧ x.toNat ≤ 57 := by unfold isDig at h0; simpa using h0
  have hl : isLet x = false := by unfold isLet; simp; omega
  have L1 := Lib.hid (fun wx => letter_m x wx)
  have D1 := Lib.hid (fun wx => digit_m x wx)
  rw [hl] at L1
  rw [h0] at D1
  have k120 : ((x.toNat : Int) == 120) = false := by simp; omega
  have k34 : ((x.toNat : Int) == 34) = false := by simp; omega
  have hi1 : (i : Int) < (s.size : Int) := by omega
  clear h0 h9 hl h hr hE
  go_enter Tryz.func56, Tryz.ntmps56
  go_wp2_with fail
  go_at_call 90
  (with_reducible refine (L1.out _).mono ?_)
  rintro e1 w6 ⟨rfl, rfl⟩
  go_wp2_with fail
  go_at_call 91
  (with_reducible refine (D1.out _).mono ?_)
  rintro e1 w7 ⟨rfl, rfl⟩
  go_wp2_with fail
  go_at_call 93
  (with_reducible refine NM.out.mono ?_)
  rintro e1 w8 ⟨rfl, h2⟩
  replace h2 := Lib.hid h2
  go_wp2_with fail
  (first | go_end0 | refine bodyPost_ret (results_none rfl _ _ _) rfl ?_)
  exact ⟨rfl, h2.out⟩
set_option maxRecDepth 20000 in set_option maxHeartbeats 8000000 in
theorem token_w (h : Bx w b (mC s (i : Int) (.slice A ts.length c) 0 tb)) (hr : MRow w b s ts A c) (hs : s.size ≤ 100000) (hi : i < s.size) (hn : ts.length ≤ 20000)
    (h0 : isLet (nth s.data.toList i) = true) (h1 : ¬ ((nth s.data.toList i).toNat = 120 ∧ (nth s.data.toList (i + 1)).toNat = 34)) :
    Calls Tryz.prog 56 #[.pointer (some ⟨b, 0, none⟩)] w (RetTk w b s i ts tb (lexW (s.data.toList.drop i))) := by
  have HB := Lib.hid h
  have HR := Lib.hid hr
  have hbw : b < w.heap.size := h.lt
  have HH := Lib.hid (fun (wx : World) (p e : Int) (lv : Value) (tb a : Int) (k : Nat) (ha : a = (k : Int)) (hk : k ≤ 1000000) (hb : Bx wx b (mC s p lv e tb)) => here_a hb hs a k ha hk)
  have DG := Lib.hid digit_m
  have LT := Lib.hid letter_m
  have FL := Lib.hid (fun (wx : World) (i k e : Int) (lv : Value) (tb : Int) (hb : Bx wx b (mC s i lv 0 tb)) => fail_m hb k e)
  have hlx := lexW.eq_1 (s.data.toList.drop i)
  obtain ⟨n0, hn0⟩ : ∃ n, spn isPart (s.data.toList.drop i) = n := ⟨_, rfl⟩
  rw [hn0] at hlx
  have hbd := spn_bd isPart s.data.toList (Nat.le_of_lt hi)
  rw [hn0] at hbd
  have hnds : i + n0 ≤ s.size := hbd
  obtain ⟨d0, hd0⟩ : ∃ d, i + n0 = d := ⟨_, rfl⟩
  have HN0 : Hid (i + spn isPart (s.data.toList.drop i) = d0) := by unfold Hid; rw [hn0, hd0]
  have hd0s : d0 ≤ s.size := by omega
  have hid0 : i ≤ d0 := by omega
  have ex2 := ext_take s i n0
  rw [hd0] at ex2
  have HD0 := Lib.hid hd0
  have HLX := Lib.hid hlx
  rw [nth_idx s hi] at h0 h1
  obtain ⟨x, hx⟩ : ∃ x, s[i] = x := ⟨_, rfl⟩
  rw [hx] at h0 h1
  obtain ⟨y, hy⟩ : ∃ y, nth s.data.toList (i + 1) = y := ⟨_, rfl⟩
  rw [hy] at h1
  have HY := Lib.hid hy
  have h9 : (97 ≤ x.toNat ∧ x.toNat ≤ 122) ∨ (65 ≤ x.toNat ∧ x.toNat ≤ 90) := by unfold isLet at h0; simpa using h0
  have L1 := Lib.hid (fun wx => letter_m x wx)
  rw [h0] at L1
  have k34 : ((x.toNat : Int) == 34) = false := by simp; omega
  have hi1 : (i : Int) < (s.size : Int) := by omega
  have hx1 : IntKind.i64.wrap ((i : Int) + 1) = (i : Int) + 1 := IntWalk.i64_in _ (by omega)
  have hcase : ((x.toNat : Int) == 120) = false ∨ (((x.toNat : Int) == 120) = true ∧ ((y.toNat : Int) == 34) = false) := by
    by_cases h120 : x.toNat = 120
    · exact .inr ⟨by simp [h120], by have : y.toNat ≠ 34 := fun e => h1 ⟨h120, e⟩; simp; omega⟩
    · exact .inl (by simp; omega)
  have HC0 := Lib.hid (Chg.refl b b w)
  clear h0 h1 h9 h hr hy hn0 hd0 hlx hbd hnds
  (obtain ⟨c0, c1, c2, c3, c4⟩ := HB.out.c5; obtain ⟨f0, f1, f2, f3, f4⟩ := HB.out.f5; have lt := HB.out.lt)
  rcases hcase with k120 | ⟨k120, ky⟩
  · go_enter Tryz.func56, Tryz.ntmps56
    go_wp2_with fail
    go_at_call 90
    (with_reducible refine (L1.out _).mono ?_)
    rintro e1 w6 ⟨rfl, rfl⟩
    go_wp2_with fail
    clear c0 c1 c2 c3 c4 f0 f1 f2 f3 f4 lt
    go_loopw [] (fun wx => ∃ q : Nat, i ≤ q ∧ q ≤ d0 ∧ Hid (q + spn isPart (s.data.toList.drop q) = d0) ∧ Hid (Bx wx b (mC s (q : Int) (.slice A ts.length c) 0 tb)) ∧ Hid (Chg b b w6 wx)) (fun wx => d0 + 1 - (rdI wx ⟨b, 1, none⟩).toNat)
    case atStart => exact ⟨i, Nat.le_refl _, hid0, HN0, HB, HC0⟩
    case round =>
      clear HB HC0 L1 hx1
      obtain ⟨q, hiq, hqd, HQ, HB, HC⟩ := hrel
      have hm0 := Lib.hid (rdI_of HB.out.c5.2.1)
      obtain ⟨xq, hx9⟩ : ∃ x, nth s.data.toList q = x := ⟨_, rfl⟩
      have HX := Lib.hid hx9
      have hx1q : IntKind.i64.wrap ((q : Int) + 1) = (q : Int) + 1 := IntWalk.i64_in _ (by omega)
      obtain ⟨vl, hl9⟩ : ∃ v, isLet xq = v := ⟨_, rfl⟩
      obtain ⟨vd, hv⟩ : ∃ v, isDig xq = v := ⟨_, rfl⟩
      have hpp : isPart xq = (vl || vd || decide (xq.toNat = 95)) := by unfold isPart; rw [hl9, hv]
      have DG1 := Lib.hid (DG.out xq)
      rw [hv] at DG1
      have LT1 := Lib.hid (LT.out xq)
      rw [hl9] at LT1
      (obtain ⟨c0, c1, c2, c3, c4⟩ := HB.out.c5; obtain ⟨f0, f1, f2, f3, f4⟩ := HB.out.f5; have lt := HB.out.lt)
      cases vl
      · cases vd
        · by_cases h95 : xq.toNat = 95
          · have k95 : ((xq.toNat : Int) == 95) = true := by simp [h95]
            have hp : isPart xq = true := by rw [hpp]; simp [h95]
            clear hpp h95
            have hq1 : Hid (q + 1 + spn isPart (s.data.toList.drop (q + 1)) = d0 ∧ q < s.size) := by
              have hps : q < s.size := by
                rcases Nat.lt_or_ge q s.size with h | h
                · exact h
                · rw [nth_end (by exact h)] at hx9
                  rw [← hx9] at hp
                  exact absurd hp (by decide)
              have := HQ.out
              rw [spn_yes hps (by rw [hx9]; exact hp)] at this
              unfold Hid
              omega
            have hq2 : q + 1 ≤ d0 := by have := hq1.out; omega
            clear hx9 hp hv hl9
            go_wp2_with fail
            go_at_call 86
            (with_reducible refine (HH.out _ _ _ _ _ _ q rfl (by omega) HB.out).mono ?_)
            rw [HX.out]
            rintro e1 w8 ⟨rfl, rfl⟩
            go_wp2_with fail
            go_at_call 90
            (with_reducible refine (LT1.out _).mono ?_)
            rintro e1 w8 ⟨rfl, rfl⟩
            go_wp2_with fail
            go_at_call 86
            (with_reducible refine (HH.out _ _ _ _ _ _ q rfl (by omega) HB.out).mono ?_)
            rw [HX.out]
            rintro e1 w8 ⟨rfl, rfl⟩
            go_wp2_with fail
            go_at_call 91
            (with_reducible refine (DG1.out _).mono ?_)
            rintro e1 w8 ⟨rfl, rfl⟩
            go_wp2_with fail
            go_at_call 86
            (with_reducible refine (HH.out _ _ _ _ _ _ q rfl (by omega) HB.out).mono ?_)
            rw [HX.out]
            rintro e1 w8 ⟨rfl, rfl⟩
            go_wp2_with fail
            go_roundw
            case rel => exact ⟨q + 1, by omega, hq2, hq1.out.1, Lib.hid (HB.out.put rfl), Lib.hid (HC.out.set1 _ _)⟩
            case measure =>
              rw [rdI_of (Bx.put (i := 1) (v := .int .i64 ((q : Int) + 1)) HB.out rfl).c5.2.1, hm0.out]
              omega
          · have k95 : ((xq.toNat : Int) == 95) = false := by simp; omega
            have hp : isPart xq = false := by rw [hpp]; simp [h95]
            clear hpp h95
            have hqe : q = d0 := by
              have := HQ.out
              rw [spn_no (by rw [hx9]; exact hp)] at this
              omega
            subst hqe
            have w1 : IntKind.i64.wrap ((q : Int) - (i : Int)) = (n0 : Int) := by have := HD0.out; rw [IntWalk.i64_in _ (by omega)]; omega
            have i1 : (i : Int) ≤ (q : Int) := by omega
            have i2 : (q : Int) ≤ (s.size : Int) := by omega
            clear hx9 hp hv hl9 hx1q
            by_cases h64 : 64 < n0
            · have l64 : (64 : Int) < (n0 : Int) := by omega
              have HL2 : Hid (lexW (s.data.toList.drop i) = .bad 0 5) := by unfold Hid; rw [HLX.out, if_pos h64]
              go_wp2_with fail
              go_at_call 86
              (with_reducible refine (HH.out _ _ _ _ _ _ q rfl (by omega) HB.out).mono ?_)
              rw [HX.out]
              rintro e1 w8 ⟨rfl, rfl⟩
              go_wp2_with fail
              go_at_call 90
              (with_reducible refine (LT1.out _).mono ?_)
              rintro e1 w8 ⟨rfl, rfl⟩
              go_wp2_with fail
              go_at_call 86
              (with_reducible refine (HH.out _ _ _ _ _ _ q rfl (by omega) HB.out).mono ?_)
              rw [HX.out]
              rintro e1 w8 ⟨rfl, rfl⟩
              go_wp2_with fail
              go_at_call 91
              (with_reducible refine (DG1.out _).mono ?_)
              rintro e1 w8 ⟨rfl, rfl⟩
              go_wp2_with fail
              go_at_call 86
              (with_reducible refine (HH.out _ _ _ _ _ _ q rfl (by omega) HB.out).mono ?_)
              rw [HX.out]
              rintro e1 w8 ⟨rfl, rfl⟩
              go_wp2_with fail
              go_at_call 55
              (with_reducible refine (FL.out _ _ _ _ _ _ HB.out).mono ?_)
              rintro e1 w9 ⟨rfl, hb9, hc9⟩
              go_wp2_with fail
              (first | go_end0 | refine bodyPost_ret (results_none rfl _ _ _) rfl ?_)
              rw [HL2.out]
              exact ⟨rfl, (HC.out.trans hc9).bel (Nat.le_of_lt hbw), _, _, by rw [Nat.add_zero]; exact hb9⟩
            · have l64 : ¬ (64 : Int) < (n0 : Int) := by omega
              have HL2 : Hid (lexW (s.data.toList.drop i) = .ok n0 ⟨1, (s.data.toList.drop i).take n0, [], 0, 0⟩) := by unfold Hid; rw [HLX.out, if_neg h64]
              have AD := Lib.hid (fun (wx : World) (hb : Bx wx b (mC s (q : Int) (.slice A ts.length c) 0 tb)) (hr : MRow wx b s ts A c) => add_m hb hr hs (Nat.le_of_lt hi) hn ⟨1, (s.data.toList.drop i).take n0, [], 0, 0⟩)
              dsimp only [tnL] at AD
              rw [show B [] = (⟨#[]⟩ : ByteArray) from rfl] at AD
              go_wp2_with fail
              go_at_call 86
              (with_reducible refine (HH.out _ _ _ _ _ _ q rfl (by omega) HB.out).mono ?_)
              rw [HX.out]
              rintro e1 w8 ⟨rfl, rfl⟩
              go_wp2_with fail
              go_at_call 90
              (with_reducible refine (LT1.out _).mono ?_)
              rintro e1 w8 ⟨rfl, rfl⟩
              go_wp2_with fail
              go_at_call 86
              (with_reducible refine (HH.out _ _ _ _ _ _ q rfl (by omega) HB.out).mono ?_)
              rw [HX.out]
              rintro e1 w8 ⟨rfl, rfl⟩
              go_wp2_with fail
              go_at_call 91
              (with_reducible refine (DG1.out _).mono ?_)
              rintro e1 w8 ⟨rfl, rfl⟩
              go_wp2_with fail
              go_at_call 86
              (with_reducible refine (HH.out _ _ _ _ _ _ q rfl (by omega) HB.out).mono ?_)
              rw [HX.out]
              rintro e1 w8 ⟨rfl, rfl⟩
              go_wp2_with fail
              have HR2 := Lib.hid (HR.out.chg HC.out)
              refine wp_region_ord [(0, 1), (1, 1), (2, 1), (3, 1), (4, 1), (5, 1), (6, 1), (7, 1), (8, 1), (9, 1), (10, 1), (11, 1), (12, 1), (13, 3)] [13] 5 (by kernel_rfl) (by decide +kernel) ?_
              simp only [pickO, List.append_eq, List.cons_append, List.nil_append, List.getElem?_cons_succ, List.getElem?_cons_zero]
              intro w0 hG
              (repeat ((first | (with_reducible refine ord_q1 ?_) | (with_reducible refine ord_q0 ?_)); intro K hK; first | (refine Or.inr ⟨?_, ?_⟩; (focus (go_simp; first | done | (simp [undef]; done))); go_simp; (with_reducible refine hK _ ?_); clear hK K) | (refine Or.inl ⟨?_, ?_⟩; (focus (go_simp; done)); apply Exists.intro; refine And.intro ?_ ?_; (focus (first | (intro wq hq; obtain ⟨hcq, hfq⟩ := G.old hq; go_simp; (first | done | exact rfl); done) | (intro wq; go_simp; (first | done | exact rfl); done))); go_simp; (with_reducible refine hK _ ?_); clear hK K) | fail))
              (with_reducible refine ord_tail ?_)
              intro K hK
              go_simp
              have hb9 := hG.b
              go_at_call 92
              (with_reducible refine (AD.out _ (HB.out.grow hb9) (HR2.out.grow hb9)).mono ?_)
              rintro e1 w9 ⟨rfl, hb6, A6, c6, hbx6, hr6⟩
              (try dsimp only)
              (with_reducible refine hK _ _ ?_)
              clear hK K
              (with_reducible refine ord_nil ?_)
              go_wp2_with fail
              (first | go_end0 | refine bodyPost_ret (results_none rfl _ _ _) rfl ?_)
              rw [HL2.out]
              exact ⟨rfl, ((HC.out.grow hb9).bel (Nat.le_of_lt hbw)).trans hb6, A6, c6, by rw [HD0.out]; exact hbx6, hr6⟩
        · have hp : isPart xq = true := by rw [hpp]; simp
          clear hpp
          have hq1 : Hid (q + 1 + spn isPart (s.data.toList.drop (q + 1)) = d0 ∧ q < s.size) := by
            have hps : q < s.size := by
              rcases Nat.lt_or_ge q s.size with h | h
              · exact h
              · rw [nth_end (by exact h)] at hx9
                rw [← hx9] at hp
                exact absurd hp (by decide)
            have := HQ.out
            rw [spn_yes hps (by rw [hx9]; exact hp)] at this
            unfold Hid
            omega
          have hq2 : q + 1 ≤ d0 := by have := hq1.out; omega
          clear hx9 hp hv hl9
          go_wp2_with fail
          go_at_call 86
          (with_reducible refine (HH.out _ _ _ _ _ _ q rfl (by omega) HB.out).mono ?_)
          rw [HX.out]
          rintro e1 w8 ⟨rfl, rfl⟩
          go_wp2_with fail
          go_at_call 90
          (with_reducible refine (LT1.out _).mono ?_)
          rintro e1 w8 ⟨rfl, rfl⟩
          go_wp2_with fail
          go_at_call 86
          (with_reducible refine (HH.out _ _ _ _ _ _ q rfl (by omega) HB.out).mono ?_)
          rw [HX.out]
          rintro e1 w8 ⟨rfl, rfl⟩
          go_wp2_with fail
          go_at_call 91
          (with_reducible refine (DG1.out _).mono ?_)
          rintro e1 w8 ⟨rfl, rfl⟩
          go_wp2_with fail
          go_roundw
          case rel => exact ⟨q + 1, by omega, hq2, hq1.out.1, Lib.hid (HB.out.put rfl), Lib.hid (HC.out.set1 _ _)⟩
          case measure =>
            rw [rdI_of (Bx.put (i := 1) (v := .int .i64 ((q : Int) + 1)) HB.out rfl).c5.2.1, hm0.out]
            omega
      · have hp : isPart xq = true := by rw [hpp]; simp
        clear hpp
        have hq1 : Hid (q + 1 + spn isPart (s.data.toList.drop (q + 1)) = d0 ∧ q < s.size) := by
          have hps : q < s.size := by
            rcases Nat.lt_or_ge q s.size with h | h
            · exact h
            · rw [nth_end (by exact h)] at hx9
              rw [← hx9] at hp
              exact absurd hp (by decide)
          have := HQ.out
          rw [spn_yes hps (by rw [hx9]; exact hp)] at this
          unfold Hid
          omega
        have hq2 : q + 1 ≤ d0 := by have := hq1.out; omega
        clear hx9 hp hv hl9
        go_wp2_with fail
        go_at_call 86
        (with_reducible refine (HH.out _ _ _ _ _ _ q rfl (by omega) HB.out).mono ?_)
        rw [HX.out]
        rintro e1 w8 ⟨rfl, rfl⟩
        go_wp2_with fail
        go_at_call 90
        (with_reducible refine (LT1.out _).mono ?_)
        rintro e1 w8 ⟨rfl, rfl⟩
        go_wp2_with fail
        go_roundw
        case rel => exact ⟨q + 1, by omega, hq2, hq1.out.1, Lib.hid (HB.out.put rfl), Lib.hid (HC.out.set1 _ _)⟩
        case measure =>
          rw [rdI_of (Bx.put (i := 1) (v := .int .i64 ((q : Int) + 1)) HB.out rfl).c5.2.1, hm0.out]
          omega
  · go_enter Tryz.func56, Tryz.ntmps56
    go_wp2_with fail
    go_at_call 86
    (with_reducible refine (HH.out _ _ _ _ _ _ (i + 1) (by omega) (by omega) HB.out).mono ?_)
    rw [HY.out]
    rintro e1 w5 ⟨rfl, rfl⟩
    go_wp2_with fail
    go_at_call 90
    (with_reducible refine (L1.out _).mono ?_)
    rintro e1 w6 ⟨rfl, rfl⟩
    go_wp2_with fail
    clear c0 c1 c2 c3 c4 f0 f1 f2 f3 f4 lt
    go_loopw [] (fun wx => ∃ q : Nat, i ≤ q ∧ q ≤ d0 ∧ Hid (q + spn isPart (s.data.toList.drop q) = d0) ∧ Hid (Bx wx b (mC s (q : Int) (.slice A ts.length c) 0 tb)) ∧ Hid (Chg b b w6 wx)) (fun wx => d0 + 1 - (rdI wx ⟨b, 1, none⟩).toNat)
    case atStart => exact ⟨i, Nat.le_refl _, hid0, HN0, HB, HC0⟩
    case round =>
      clear HB HC0 L1 hx1
      obtain ⟨q, hiq, hqd, HQ, HB, HC⟩ := hrel
      have hm0 := Lib.hid (rdI_of HB.out.c5.2.1)
      obtain ⟨xq, hx9⟩ : ∃ x, nth s.data.toList q = x := ⟨_, rfl⟩
      have HX := Lib.hid hx9
      have hx1q : IntKind.i64.wrap ((q : Int) + 1) = (q : Int) + 1 := IntWalk.i64_in _ (by omega)
      obtain ⟨vl, hl9⟩ : ∃ v, isLet xq = v := ⟨_, rfl⟩
      obtain ⟨vd, hv⟩ : ∃ v, isDig xq = v := ⟨_, rfl⟩
      have hpp : isPart xq = (vl || vd || decide (xq.toNat = 95)) := by unfold isPart; rw [hl9, hv]
      have DG1 := Lib.hid (DG.out xq)
      rw [hv] at DG1
      have LT1 := Lib.hid (LT.out xq)
      rw [hl9] at LT1
      (obtain ⟨c0, c1, c2, c3, c4⟩ := HB.out.c5; obtain ⟨f0, f1, f2, f3, f4⟩ := HB.out.f5; have lt := HB.out.lt)
      cases vl
      · cases vd
        · by_cases h95 : xq.toNat = 95
          · have k95 : ((xq.toNat : Int) == 95) = true := by simp [h95]
            have hp : isPart xq = true := by rw [hpp]; simp [h95]
            clear hpp h95
            have hq1 : Hid (q + 1 + spn isPart (s.data.toList.drop (q + 1)) = d0 ∧ q < s.size) := by
              have hps : q < s.size := by
                rcases Nat.lt_or_ge q s.size with h | h
                · exact h
                · rw [nth_end (by exact h)] at hx9
                  rw [← hx9] at hp
                  exact absurd hp (by decide)
              have := HQ.out
              rw [spn_yes hps (by rw [hx9]; exact hp)] at this
              unfold Hid
              omega
            have hq2 : q + 1 ≤ d0 := by have := hq1.out; omega
            clear hx9 hp hv hl9
            go_wp2_with fail
            go_at_call 86
            (with_reducible refine (HH.out _ _ _ _ _ _ q rfl (by omega) HB.out).mono ?_)
            rw [HX.out]
            rintro e1 w8 ⟨rfl, rfl⟩
            go_wp2_with fail
            go_at_call 90
            (with_reducible refine (LT1.out _).mono ?_)
            rintro e1 w8 ⟨rfl, rfl⟩
            go_wp2_with fail
            go_at_call 86
            (with_reducible refine (HH.out _ _ _ _ _ _ q rfl (by omega) HB.out).mono ?_)
            rw [HX.out]
            rintro e1 w8 ⟨rfl, rfl⟩
            go_wp2_with fail
            go_at_call 91
            (with_reducible refine (DG1.out _).mono ?_)
            rintro e1 w8 ⟨rfl, rfl⟩
            go_wp2_with fail
            go_at_call 86
            (with_reducible refine (HH.out _ _ _ _ _ _ q rfl (by omega) HB.out).mono ?_)
            rw [HX.out]
            rintro e1 w8 ⟨rfl, rfl⟩
            go_wp2_with fail
            go_roundw
            case rel => exact ⟨q + 1, by omega, hq2, hq1.out.1, Lib.hid (HB.out.put rfl), Lib.hid (HC.out.set1 _ _)⟩
            case measure =>
              rw [rdI_of (Bx.put (i := 1) (v := .int .i64 ((q : Int) + 1)) HB.out rfl).c5.2.1, hm0.out]
              omega
          · have k95 : ((xq.toNat : Int) == 95) = false := by simp; omega
            have hp : isPart xq = false := by rw [hpp]; simp [h95]
            clear hpp h95
            have hqe : q = d0 := by
              have := HQ.out
              rw [spn_no (by rw [hx9]; exact hp)] at this
              omega
            subst hqe
            have w1 : IntKind.i64.wrap ((q : Int) - (i : Int)) = (n0 : Int) := by have := HD0.out; rw [IntWalk.i64_in _ (by omega)]; omega
            have i1 : (i : Int) ≤ (q : Int) := by omega
            have i2 : (q : Int) ≤ (s.size : Int) := by omega
            clear hx9 hp hv hl9 hx1q
            by_cases h64 : 64 < n0
            · have l64 : (64 : Int) < (n0 : Int) := by omega
              have HL2 : Hid (lexW (s.data.toList.drop i) = .bad 0 5) := by unfold Hid; rw [HLX.out, if_pos h64]
              go_wp2_with fail
              go_at_call 86
              (with_reducible refine (HH.out _ _ _ _ _ _ q rfl (by omega) HB.out).mono ?_)
              rw [HX.out]
              rintro e1 w8 ⟨rfl, rfl⟩
              go_wp2_with fail
              go_at_call 90
              (with_reducible refine (LT1.out _).mono ?_)
              rintro e1 w8 ⟨rfl, rfl⟩
              go_wp2_with fail
              go_at_call 86
              (with_reducible refine (HH.out _ _ _ _ _ _ q rfl (by omega) HB.out).mono ?_)
              rw [HX.out]
              rintro e1 w8 ⟨rfl, rfl⟩
              go_wp2_with fail
              go_at_call 91
              (with_reducible refine (DG1.out _).mono ?_)
              rintro e1 w8 ⟨rfl, rfl⟩
              go_wp2_with fail
              go_at_call 86
              (with_reducible refine (HH.out _ _ _ _ _ _ q rfl (by omega) HB.out).mono ?_)
              rw [HX.out]
              rintro e1 w8 ⟨rfl, rfl⟩
              go_wp2_with fail
              go_at_call 55
              (with_reducible refine (FL.out _ _ _ _ _ _ HB.out).mono ?_)
              rintro e1 w9 ⟨rfl, hb9, hc9⟩
              go_wp2_with fail
              (first | go_end0 | refine bodyPost_ret (results_none rfl _ _ _) rfl ?_)
              rw [HL2.out]
              exact ⟨rfl, (HC.out.trans hc9).bel (Nat.le_of_lt hbw), _, _, by rw [Nat.add_zero]; exact hb9⟩
            · have l64 : ¬ (64 : Int) < (n0 : Int) := by omega
              have HL2 : Hid (lexW (s.data.toList.drop i) = .ok n0 ⟨1, (s.data.toList.drop i).take n0, [], 0, 0⟩) := by unfold Hid; rw [HLX.out, if_neg h64]
              have AD := Lib.hid (fun (wx : World) (hb : Bx wx b (mC s (q : Int) (.slice A ts.length c) 0 tb)) (hr : MRow wx b s ts A c) => add_m hb hr hs (Nat.le_of_lt hi) hn ⟨1, (s.data.toList.drop i).take n0, [], 0, 0⟩)
              dsimp only [tnL] at AD
              rw [show B [] = (⟨#[]⟩ : ByteArray) from rfl] at AD
              go_wp2_with fail
              go_at_call 86
              (with_reducible refine (HH.out _ _ _ _ _ _ q rfl (by omega) HB.out).mono ?_)
              rw [HX.out]
              rintro e1 w8 ⟨rfl, rfl⟩
              go_wp2_with fail
              go_at_call 90
              (with_reducible refine (LT1.out _).mono ?_)
              rintro e1 w8 ⟨rfl, rfl⟩
              go_wp2_with fail
              go_at_call 86
              (with_reducible refine (HH.out _ _ _ _ _ _ q rfl (by omega) HB.out).mono ?_)
              rw [HX.out]
              rintro e1 w8 ⟨rfl, rfl⟩
              go_wp2_with fail
              go_at_call 91
              (with_reducible refine (DG1.out _).mono ?_)
              rintro e1 w8 ⟨rfl, rfl⟩
              go_wp2_with fail
              go_at_call 86
              (with_reducible refine (HH.out _ _ _ _ _ _ q rfl (by omega) HB.out).mono ?_)
              rw [HX.out]
              rintro e1 w8 ⟨rfl, rfl⟩
              go_wp2_with fail
              have HR2 := Lib.hid (HR.out.chg HC.out)
              refine wp_region_ord [(0, 1), (1, 1), (2, 1), (3, 1), (4, 1), (5, 1), (6, 1), (7, 1), (8, 1), (9, 1), (10, 1), (11, 1), (12, 1), (13, 3)] [13] 5 (by kernel_rfl) (by decide +kernel) ?_
              simp only [pickO, List.append_eq, List.cons_append, List.nil_append, List.getElem?_cons_succ, List.getElem?_cons_zero]
              intro w0 hG
              (repeat ((first | (with_reducible refine ord_q1 ?_) | (with_reducible refine ord_q0 ?_)); intro K hK; first | (refine Or.inr ⟨?_, ?_⟩; (focus (go_simp; first | done | (simp [undef]; done))); go_simp; (with_reducible refine hK _ ?_); clear hK K) | (refine Or.inl ⟨?_, ?_⟩; (focus (go_simp; done)); apply Exists.intro; refine And.intro ?_ ?_; (focus (first | (intro wq hq; obtain ⟨hcq, hfq⟩ := G.old hq; go_simp; (first | done | exact rfl); done) | (intro wq; go_simp; (first | done | exact rfl); done))); go_simp; (with_reducible refine hK _ ?_); clear hK K) | fail))
              (with_reducible refine ord_tail ?_)
              intro K hK
              go_simp
              have hb9 := hG.b
              go_at_call 92
              (with_reducible refine (AD.out _ (HB.out.grow hb9) (HR2.out.grow hb9)).mono ?_)
              rintro e1 w9 ⟨rfl, hb6, A6, c6, hbx6, hr6⟩
              (try dsimp only)
              (with_reducible refine hK _ _ ?_)
              clear hK K
              (with_reducible refine ord_nil ?_)
              go_wp2_with fail
              (first | go_end0 | refine bodyPost_ret (results_none rfl _ _ _) rfl ?_)
              rw [HL2.out]
              exact ⟨rfl, ((HC.out.grow hb9).bel (Nat.le_of_lt hbw)).trans hb6, A6, c6, by rw [HD0.out]; exact hbx6, hr6⟩
        · have hp : isPart xq = true := by rw [hpp]; simp
          clear hpp
          have hq1 : Hid (q + 1 + spn isPart (s.data.toList.drop (q + 1)) = d0 ∧ q < s.size) := by
            have hps : q < s.size := by
              rcases Nat.lt_or_ge q s.size with h | h
              · exact h
              · rw [nth_end (by exact h)] at hx9
                rw [← hx9] at hp
                exact absurd hp (by decide)
            have := HQ.out
            rw [spn_yes hps (by rw [hx9]; exact hp)] at this
            unfold Hid
            omega
          have hq2 : q + 1 ≤ d0 := by have := hq1.out; omega
          clear hx9 hp hv hl9
          go_wp2_with fail
          go_at_call 86
          (with_reducible refine (HH.out _ _ _ _ _ _ q rfl (by omega) HB.out).mono ?_)
          rw [HX.out]
          rintro e1 w8 ⟨rfl, rfl⟩
          go_wp2_with fail
          go_at_call 90
          (with_reducible refine (LT1.out _).mono ?_)
          rintro e1 w8 ⟨rfl, rfl⟩
          go_wp2_with fail
          go_at_call 86
          (with_reducible refine (HH.out _ _ _ _ _ _ q rfl (by omega) HB.out).mono ?_)
          rw [HX.out]
          rintro e1 w8 ⟨rfl, rfl⟩
          go_wp2_with fail
          go_at_call 91
          (with_reducible refine (DG1.out _).mono ?_)
          rintro e1 w8 ⟨rfl, rfl⟩
          go_wp2_with fail
          go_roundw
          case rel => exact ⟨q + 1, by omega, hq2, hq1.out.1, Lib.hid (HB.out.put rfl), Lib.hid (HC.out.set1 _ _)⟩
          case measure =>
            rw [rdI_of (Bx.put (i := 1) (v := .int .i64 ((q : Int) + 1)) HB.out rfl).c5.2.1, hm0.out]
            omega
      · have hp : isPart xq = true := by rw [hpp]; simp
        clear hpp
        have hq1 : Hid (q + 1 + spn isPart (s.data.toList.drop (q + 1)) = d0 ∧ q < s.size) := by
          have hps : q < s.size := by
            rcases Nat.lt_or_ge q s.size with h | h
            · exact h
            · rw [nth_end (by exact h)] at hx9
              rw [← hx9] at hp
              exact absurd hp (by decide)
          have := HQ.out
          rw [spn_yes hps (by rw [hx9]; exact hp)] at this
          unfold Hid
          omega
        have hq2 : q + 1 ≤ d0 := by have := hq1.out; omega
        clear hx9 hp hv hl9
        go_wp2_with fail
        go_at_call 86
        (with_reducible refine (HH.out _ _ _ _ _ _ q rfl (by omega) HB.out).mono ?_)
        rw [HX.out]
        rintro e1 w8 ⟨rfl, rfl⟩
        go_wp2_with fail
        go_at_call 90
        (with_reducible refine (LT1.out _).mono ?_)
        rintro e1 w8 ⟨rfl, rfl⟩
        go_wp2_with fail
        go_roundw
        case rel => exact ⟨q + 1, by omega, hq2, hq1.out.1, Lib.hid (HB.out.put rfl), Lib.hid (HC.out.set1 _ _)⟩
        case measure =>
          rw [rdI_of (Bx.put (i := 1) (v := .int .i64 ((q : Int) + 1)) HB.out rfl).c5.2.1, hm0.out]
          omega
end
end Go.Proofs.YtmchiibbodllaaaGreatDoor
