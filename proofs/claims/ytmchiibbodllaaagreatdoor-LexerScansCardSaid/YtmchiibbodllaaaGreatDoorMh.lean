/- The law's model: number. -/
import Derived.Test.YtmchiibbodllaaaGreatDoorMg
import Derived.Test.YtmchiibbodllaaaGreatDoorLTx4
namespace Go.Proofs.YtmchiibbodllaaaGreatDoor
set_option linter.unusedVariables false
set_option linter.unnecessarySimpa false
set_option linter.unusedSimpArgs false
open Go.RowKit

section
variable {w : World} {b i : Nat} {s : ByteArray} {ts : List Pl} {A : Option Addr} {c : Nat} {tb : Int}
set_option maxRecDepth 20000 in set_option maxHeartbeats 8000000 in
theorem number_m (hE : Env w) (hgb : ¬ GB b) (h : Bx w b (mC s (i : Int) (.slice A ts.length c) 0 tb)) (hr : MRow w b s ts A c) (hs : s.size ≤ 100000) (hi : i < s.size) (hn : ts.length ≤ 20000) :
    Calls Tryz.prog 93 #[.pointer (some ⟨b, 0, none⟩), .int .i64 (i : Int)] w (RetTk w b s i ts tb (lexN (s.data.toList.drop i))) := by
  have HH := Lib.hid (fun (wx : World) (p e : Int) (lv : Value) (tb a : Int) (k : Nat) (ha : a = (k : Int)) (hk : k ≤ 1000000) (hb : Bx wx b (mC s p lv e tb)) => here_a hb hs a k ha hk)
  have DG := Lib.hid digit_m
  have LT := Lib.hid letter_m
  have FL := Lib.hid (fun (wx : World) (i k e : Int) (lv : Value) (tb : Int) (hb : Bx wx b (mC s i lv 0 tb)) => fail_m hb k e)
  have HB := Lib.hid h
  have HR := Lib.hid hr
  have HE := Lib.hid hE
  have hbw : b < w.heap.size := h.lt
  obtain ⟨d0, hd0⟩ : ∃ d, i + spn isDig (s.data.toList.drop i) = d := ⟨_, rfl⟩
  have hd0s : d0 ≤ s.size := by rw [← hd0]; exact spn_bd isDig s.data.toList (Nat.le_of_lt hi)
  have hid0 : i ≤ d0 := by omega
  have HD0 := Lib.hid hd0
  have HC := Lib.hid (Chg.refl b b w)
  clear h hr hd0 hE
  go_enter Tryz.func93, Tryz.ntmps93
  go_wp2_with fail
  go_loopw [] (fun wx => ∃ q : Nat, i ≤ q ∧ q ≤ d0 ∧ Hid (q + spn isDig (s.data.toList.drop q) = d0) ∧ Hid (Bx wx b (mC s (q : Int) (.slice A ts.length c) 0 tb)) ∧ Hid (Chg b b w wx)) (fun wx => d0 + 1 - (rdI wx ⟨b, 1, none⟩).toNat)
  case atStart => exact ⟨i, Nat.le_refl _, hid0, HD0, HB, HC⟩
  case round =>
    clear HB HC
    obtain ⟨q, hiq, hqd, HQ, HB, HC⟩ := hrel
    have hm0 := Lib.hid (rdI_of HB.out.c5.2.1)
    obtain ⟨x, hx⟩ : ∃ x, nth s.data.toList q = x := ⟨_, rfl⟩
    have HX := Lib.hid hx
    have hx1 : IntKind.i64.wrap ((q : Int) + 1) = (q : Int) + 1 := IntWalk.i64_in _ (by omega)
    obtain ⟨v, hv⟩ : ∃ v, isDig x = v := ⟨_, rfl⟩
    have DG1 := Lib.hid (DG.out x)
    rw [hv] at DG1
    (obtain ⟨c0, c1, c2, c3, c4⟩ := HB.out.c5; obtain ⟨f0, f1, f2, f3, f4⟩ := HB.out.f5; have lt := HB.out.lt)
    cases v
    · have hqe : q = d0 := by
        have := HQ.out
        rw [spn_no (by rw [hx]; exact hv)] at this
        omega
      subst hqe
      clear hx hv
      go_wp2_with fail
      go_at_call 86
      (with_reducible refine (HH.out _ _ _ _ _ _ q rfl (by omega) HB.out).mono ?_)
      rw [HX.out]
      rintro e1 w6 ⟨rfl, rfl⟩
      go_wp2_with fail
      go_at_call 91
      (with_reducible refine (DG1.out _).mono ?_)
      rintro e1 w7 ⟨rfl, rfl⟩
      obtain ⟨sd, hsd⟩ : ∃ sd, q - i = sd := ⟨_, rfl⟩
      have hw1 : IntKind.i64.wrap ((q : Int) - (i : Int)) = (sd : Int) := by rw [IntWalk.i64_in _ (by omega)]; omega
      have HSD : Hid (i + sd = q ∧ sd = spn isDig (s.data.toList.drop i)) := by unfold Hid; have := HD0.out; omega
      clear hsd
      go_upto_region 4 with fail
      obtain ⟨g, hg⟩ : ∃ g, nth s.data.toList (q + 1) = g := ⟨_, rfl⟩
      have HGg := Lib.hid hg
      have DG2 := Lib.hid (DG.out g)
      have LT2 := Lib.hid (LT.out g)
      have hnum := numN.eq_1 (s.data.toList.drop i)
      rw [← HSD.out.2] at hnum
      rw [nth_drop, nth_drop, List.drop_drop, ← Nat.add_assoc, HSD.out.1, HX.out, hg] at hnum
      have hpg : isPart g = (isDig g || (isLet g || decide (g.toNat = 95))) := by unfold isPart; cases isDig g <;> cases isLet g <;> simp
      obtain ⟨vd, hvd⟩ : ∃ v, isDig g = v := ⟨_, rfl⟩
      obtain ⟨vl, hvl⟩ : ∃ v, isLet g = v := ⟨_, rfl⟩
      rw [hpg, hvd, hvl] at hnum
      rw [hvd] at DG2
      rw [hvl] at LT2
      have hqs := hqd
      have HSZ : Hid (q ≤ s.size) := hd0s
      have hx2 : IntKind.i64.wrap ((q : Int) + 1) = (q : Int) + 1 := hx1
      obtain ⟨vb, hvb⟩ : ∃ v, (decide (x.toNat = 46) && vd) = v := ⟨_, rfl⟩
      have HVB := Lib.hid hvb
      have HVD := Lib.hid hvd
      clear hpg hvl hg hx1 DG1 hvd hvb
      go_upto_region 5 with (go_at_call 86; (with_reducible refine (HH.out _ _ _ _ _ _ (q + 1) (by omega) (by omega) HB.out).mono ?_); rw [HGg.out]; rintro e1 w8 ⟨rfl, rfl⟩)
      rename_i w9
      go_cut [50] (fun bv wx => bv = .bool vb ∧ w8 = wx)
      case first =>
        by_cases h46 : x.toNat = 46
        · have k46 : ((x.toNat : Int) == 46) = true := by simp [h46]
          have hvb2 : vd = vb := by have := HVB.out; simpa [h46] using this
          subst hvb2
          clear hnum h46 HVB
          go_wp2_with fail
          go_at_call 86
          (with_reducible refine (HH.out _ _ _ _ _ _ q (by omega) (by omega) HB.out).mono ?_)
          rw [HX.out]
          rintro e1 w8 ⟨rfl, rfl⟩
          go_wp2_with fail
          go_at_call 91
          (with_reducible refine (DG2.out _).mono ?_)
          rintro e1 w8 ⟨rfl, rfl⟩
          go_wp2_with fail
          go_meet
          exact ⟨rfl, rfl⟩
        · have k46 : ((x.toNat : Int) == 46) = false := by simp; omega
          have hvb2 : vb = false := by have := HVB.out; simpa [h46] using this.symm
          subst hvb2
          clear hnum h46 HVB
          go_wp2_with fail
          go_at_call 86
          (with_reducible refine (HH.out _ _ _ _ _ _ q (by omega) (by omega) HB.out).mono ?_)
          rw [HX.out]
          rintro e1 w8 ⟨rfl, rfl⟩
          go_wp2_with fail
          go_meet
          exact ⟨rfl, rfl⟩
      case rest =>
        obtain ⟨rfl, rfl⟩ := hcut
        go_upto_if 50 with fail
        go_cut [5] (fun ev wx => ∃ (z en zl el : Nat), ev = .int .i64 (en : Int) ∧ Hid (numN (s.data.toList.drop i) = (zl, el)) ∧ Hid (i + zl = z ∧ i + el = en ∧ z ≤ s.size ∧ en ≤ z ∧ q ≤ en) ∧ Hid (Bx wx b (mC s (z : Int) (.slice A ts.length c) 0 tb)) ∧ Hid (Chg b b w wx))
        case first =>
          cases vb
          · have hv9 : ¬ (x.toNat = 46 ∧ vd = true) := by have := HVB.out; simpa using this
            rw [if_neg hv9] at hnum
            clear hv9
            by_cases h100 : x.toNat = 100
            · have k100 : ((x.toNat : Int) == 100) = true := by simp [h100]
              have hqs1 : q < s.size := by
                rcases Nat.lt_or_ge q s.size with h | h
                · exact h
                · have h8 := HX.out
                  rw [nth_end (by exact h)] at h8
                  rw [← h8] at h100
                  exact absurd h100 (by decide)
              cases vl
              · cases vd
                · by_cases h95 : g.toNat = 95
                  · have k95 : ((g.toNat : Int) != 95) = false := by simp [h95]
                    have HNU : Hid (numN (s.data.toList.drop i) = (sd, sd)) := by unfold Hid; rw [hnum, if_neg (by simp [h95])]
                    clear hnum h100 h95 HVB HVD
                    go_wp2_with fail
                    go_at_call 86
                    (with_reducible refine (HH.out _ _ _ _ _ _ q (by omega) (by omega) HB.out).mono ?_)
                    rw [HX.out]
                    rintro e1 w8 ⟨rfl, rfl⟩
                    go_wp2_with fail
                    go_at_call 90
                    (with_reducible refine (LT2.out _).mono ?_)
                    rintro e1 w8 ⟨rfl, rfl⟩
                    go_wp2_with fail
                    go_at_call 91
                    (with_reducible refine (DG2.out _).mono ?_)
                    rintro e1 w8 ⟨rfl, rfl⟩
                    go_wp2_with fail
                    go_meet
                    exact ⟨q, q, sd, sd, rfl, HNU, by have := HSD.out; have := HSZ.out; unfold Hid; omega, HB, HC⟩
                  · have k95 : ((g.toNat : Int) != 95) = true := by simp; omega
                    have HNU : Hid (numN (s.data.toList.drop i) = (sd + 1, sd)) := by unfold Hid; rw [hnum, if_pos (by simp [h100, h95])]
                    have hqs2 : Hid (q < s.size) := hqs1
                    clear hnum h100 h95 HVB HVD
                    go_wp2_with fail
                    go_at_call 86
                    (with_reducible refine (HH.out _ _ _ _ _ _ q (by omega) (by omega) HB.out).mono ?_)
                    rw [HX.out]
                    rintro e1 w8 ⟨rfl, rfl⟩
                    go_wp2_with fail
                    go_at_call 90
                    (with_reducible refine (LT2.out _).mono ?_)
                    rintro e1 w8 ⟨rfl, rfl⟩
                    go_wp2_with fail
                    go_at_call 91
                    (with_reducible refine (DG2.out _).mono ?_)
                    rintro e1 w8 ⟨rfl, rfl⟩
                    go_wp2_with fail
                    go_meet
                    exact ⟨q + 1, q, sd + 1, sd, rfl, HNU, by have := HSD.out; have := hqs2.out; unfold Hid; omega, Lib.hid (HB.out.put rfl), Lib.hid (HC.out.set1 _ _)⟩
                · have HNU : Hid (numN (s.data.toList.drop i) = (sd, sd)) := by unfold Hid; rw [hnum, if_neg (by simp)]
                  clear hnum h100 HVB HVD
                  go_wp2_with fail
                  go_at_call 86
                  (with_reducible refine (HH.out _ _ _ _ _ _ q (by omega) (by omega) HB.out).mono ?_)
                  rw [HX.out]
                  rintro e1 w8 ⟨rfl, rfl⟩
                  go_wp2_with fail
                  go_at_call 90
                  (with_reducible refine (LT2.out _).mono ?_)
                  rintro e1 w8 ⟨rfl, rfl⟩
                  go_wp2_with fail
                  go_at_call 91
                  (with_reducible refine (DG2.out _).mono ?_)
                  rintro e1 w8 ⟨rfl, rfl⟩
                  go_wp2_with fail
                  go_meet
                  exact ⟨q, q, sd, sd, rfl, HNU, by have := HSD.out; have := HSZ.out; unfold Hid; omega, HB, HC⟩
              · have HNU : Hid (numN (s.data.toList.drop i) = (sd, sd)) := by unfold Hid; rw [hnum, if_neg (by simp)]
                clear hnum h100 HVB HVD
                go_wp2_with fail
                go_at_call 86
                (with_reducible refine (HH.out _ _ _ _ _ _ q (by omega) (by omega) HB.out).mono ?_)
                rw [HX.out]
                rintro e1 w8 ⟨rfl, rfl⟩
                go_wp2_with fail
                go_at_call 90
                (with_reducible refine (LT2.out _).mono ?_)
                rintro e1 w8 ⟨rfl, rfl⟩
                go_wp2_with fail
                go_meet
                exact ⟨q, q, sd, sd, rfl, HNU, by have := HSD.out; have := HSZ.out; unfold Hid; omega, HB, HC⟩
            · have k100 : ((x.toNat : Int) == 100) = false := by simp; omega
              have HNU : Hid (numN (s.data.toList.drop i) = (sd, sd)) := by unfold Hid; rw [hnum, if_neg (by simp [h100])]
              clear hnum h100 HVB HVD
              go_wp2_with fail
              go_at_call 86
              (with_reducible refine (HH.out _ _ _ _ _ _ q (by omega) (by omega) HB.out).mono ?_)
              rw [HX.out]
              rintro e1 w8 ⟨rfl, rfl⟩
              go_wp2_with fail
              go_meet
              exact ⟨q, q, sd, sd, rfl, HNU, by have := HSD.out; have := HSZ.out; unfold Hid; omega, HB, HC⟩
          · have hv9 : x.toNat = 46 ∧ vd = true := by have := HVB.out; simpa using this
            obtain ⟨h46, rfl⟩ := hv9
            have hq1s : q + 1 < s.size := by
              rcases Nat.lt_or_ge (q + 1) s.size with h | h
              · exact h
              · have h8 := HGg.out
                rw [nth_end (by exact h)] at h8
                have h9 := HVD.out
                rw [← h8] at h9
                exact absurd h9 (by decide)
            have hspn := spn_bd isDig s.data.toList (i := q + 1) (Nat.le_of_lt hq1s)
            obtain ⟨d1, hd1⟩ : ∃ d, q + 1 + spn isDig (s.data.toList.drop (q + 1)) = d := ⟨_, rfl⟩
            rw [hd1] at hspn
            have hd1s : d1 ≤ s.size := hspn
            have hqd1 : q + 1 ≤ d1 := by omega
            have HD1 := Lib.hid hd1
            have HNU : Hid (numN (s.data.toList.drop i) = (d1 - i, d1 - i)) := by
              unfold Hid
              rw [hnum, if_pos ⟨h46, rfl⟩]
              have h1 := HSD.out.1
              have e : sd + 1 + spn isDig (s.data.toList.drop (q + 1)) = d1 - i := by omega
              rw [e]
            have hB0 : Hid (Bx (w8.setCell ⟨b, 1, none⟩ (.int .i64 ((q : Int) + 1))) b (mC s ((q : Int) + 1) (.slice A ts.length c) 0 tb)) := HB.out.put rfl
            have hC0 : Hid (Chg b b w (w8.setCell ⟨b, 1, none⟩ (.int .i64 ((q : Int) + 1)))) := HC.out.set1 _ _
            clear hnum h46 hspn hd1 HVB HVD
            go_wp2_with fail
            clear c0 c1 c2 c3 c4 f0 f1 f2 f3 f4 lt
            go_loopw [] (fun wx => ∃ p : Nat, q + 1 ≤ p ∧ p ≤ d1 ∧ Hid (p + spn isDig (s.data.toList.drop p) = d1) ∧ Hid (Bx wx b (mC s (p : Int) (.slice A ts.length c) 0 tb)) ∧ Hid (Chg b b w wx)) (fun wx => d1 + 1 - (rdI wx ⟨b, 1, none⟩).toNat)
            case atStart => exact ⟨q + 1, Nat.le_refl _, hqd1, HD1, hB0, hC0⟩
            case round =>
              clear HB HC hB0 hC0
              obtain ⟨p, hqp, hpd, HP, HB, HC⟩ := hrel
              have hm1 := Lib.hid (rdI_of HB.out.c5.2.1)
              obtain ⟨y, hy⟩ : ∃ y, nth s.data.toList p = y := ⟨_, rfl⟩
              have HY := Lib.hid hy
              have hx1 : IntKind.i64.wrap ((p : Int) + 1) = (p : Int) + 1 := IntWalk.i64_in _ (by omega)
              obtain ⟨v, hv⟩ : ∃ v, isDig y = v := ⟨_, rfl⟩
              have DG3 := Lib.hid (DG.out y)
              rw [hv] at DG3
              (obtain ⟨c0, c1, c2, c3, c4⟩ := HB.out.c5; obtain ⟨f0, f1, f2, f3, f4⟩ := HB.out.f5; have lt := HB.out.lt)
              cases v
              · have hpe : p = d1 := by
                  have := HP.out
                  rw [spn_no (by rw [hy]; exact hv)] at this
                  omega
                subst hpe
                clear hy hv hx2
                go_wp2_with fail
                go_at_call 86
                (with_reducible refine (HH.out _ _ _ _ _ _ p (by omega) (by omega) HB.out).mono ?_)
                rw [HY.out]
                rintro e1 w8 ⟨rfl, rfl⟩
                go_wp2_with fail
                go_at_call 91
                (with_reducible refine (DG3.out _).mono ?_)
                rintro e1 w9 ⟨rfl, rfl⟩
                go_wp2_with fail
                go_meet
                exact ⟨p, p, p - i, p - i, rfl, HNU, by have := HSD.out; unfold Hid; omega, HB, HC⟩
              · have hp1 : Hid (p + 1 + spn isDig (s.data.toList.drop (p + 1)) = d1 ∧ p < s.size) := by
                  have hps : p < s.size := by
                    rcases Nat.lt_or_ge p s.size with h | h
                    · exact h
                    · rw [nth_end (by exact h)] at hy
                      rw [← hy] at hv
                      exact absurd hv (by decide)
                  have := HP.out
                  rw [spn_yes hps (by rw [hy]; exact hv)] at this
                  unfold Hid
                  omega
                have hp2 : p + 1 ≤ d1 := by have := hp1.out; omega
                clear hy hv hx2
                go_wp2_with fail
                go_at_call 86
                (with_reducible refine (HH.out _ _ _ _ _ _ p (by omega) (by omega) HB.out).mono ?_)
                rw [HY.out]
                rintro e1 w8 ⟨rfl, rfl⟩
                go_wp2_with fail
                go_at_call 91
                (with_reducible refine (DG3.out _).mono ?_)
                rintro e1 w9 ⟨rfl, rfl⟩
                go_wp2_with fail
                go_roundw
                case rel => exact ⟨p + 1, by omega, hp2, hp1.out.1, Lib.hid (HB.out.put rfl), Lib.hid (HC.out.set1 _ _)⟩
                case measure =>
                  rw [rdI_of (Bx.put (i := 1) (v := .int .i64 ((p : Int) + 1)) HB.out rfl).c5.2.1, hm1.out]
                  omega
        case rest =>
          clear hnum HB HC hm0 DG2 LT2 HH DG LT HVB HVD hx2
          clear c0 c1 c2 c3 c4 f0 f1 f2 f3 f4 lt
          obtain ⟨z, en, zl, el, rfl, HNU, HZ, HB, HC⟩ := hcut
          have hlx := lexN.eq_1 (s.data.toList.drop i)
          rw [HNU.out, ← HSD.out.2, nth_drop, Nat.add_zero, nth_idx s hi] at hlx
          obtain ⟨y, hy⟩ : ∃ c, s[i] = c := ⟨_, rfl⟩
          rw [hy] at hlx
          dsimp only at hlx
          obtain ⟨r, hr⟩ : ∃ r, s.data.toList.drop i = r := ⟨_, rfl⟩
          rw [hr] at hlx
          have ex1 := ext_take s i el
          have ex2 := ext_take s i zl
          obtain ⟨hz1, hz2, hz3, hz4, hz5⟩ := HZ.out
          rw [hz2, hr] at ex1
          rw [hz1, hr] at ex2
          have hin1 : (i : Int) < (s.size : Int) := by omega
          have i1 : (i : Int) ≤ (en : Int) := by omega
          have i2 : (en : Int) ≤ (s.size : Int) := by omega
          have i3 : (i : Int) ≤ (z : Int) := by omega
          have i4 : (z : Int) ≤ (s.size : Int) := by omega
          clear hz1 hz2 hz3 hz4 hz5
          have HRR := Lib.hid hr
          obtain ⟨X, hX⟩ : ∃ X, lexN r = X := ⟨_, rfl⟩
          rw [hX] at hlx
          have HXX : Hid (lexN (s.data.toList.drop i) = X) := by unfold Hid; rw [hr, hX]
          have HR2 := Lib.hid (HR.out.chg HC.out)
          have HE2 := Lib.hid (HE.out.chg HC.out hgb hgb)
          clear hr hX
          (obtain ⟨c0, c1, c2, c3, c4⟩ := HB.out.c5; obtain ⟨f0, f1, f2, f3, f4⟩ := HB.out.f5; have lt := HB.out.lt)
          by_cases hz : 1 < sd ∧ y.toNat = 48
          · have k1 : (1 : Int) < (sd : Int) := by omega
            have k48 : ((y.toNat : Int) == 48) = true := by simp [hz.2]
            rw [if_pos hz] at hlx
            have HLX := Lib.hid hlx
            clear hlx hz
            go_wp2_with fail
            go_at_call 55
            (with_reducible refine (FL.out _ _ _ _ _ _ HB.out).mono ?_)
            rintro e1 w4 ⟨rfl, hb4, hc4⟩
            go_wp2_with fail
            (first | go_end0 | refine bodyPost_ret (results_none rfl _ _ _) rfl ?_)
            rw [HXX.out, HLX.out]
            exact ⟨rfl, (HC.out.trans hc4).bel (Nat.le_of_lt hbw), _, _, by rw [Nat.add_zero]; exact hb4⟩
          · rw [if_neg hz] at hlx
            obtain ⟨⟨pn, ps, pe⟩, hpp⟩ : ∃ p, parseN (r.take el) = p := ⟨_, rfl⟩
            have hrl : (r.take el).length ≤ 100000 := by rw [List.length_take, ← HRR.out, List.length_drop]; show min el (s.size - i) ≤ _; omega
            have PP := Lib.hid (fun (wx : World) (he : Env wx) => parse_any (r.take el) wx hrl (Env.vars he) (Env.pow he))
            rw [hpp] at PP hlx
            dsimp only at hlx
            have hcase : ¬ (1 : Int) < (sd : Int) ∨ ((1 : Int) < (sd : Int) ∧ ((y.toNat : Int) == 48) = false) := by
              by_cases h1 : 1 < sd
              · exact .inr ⟨by omega, by have : y.toNat ≠ 48 := fun e => hz ⟨h1, e⟩; simp; omega⟩
              · exact .inl (by omega)
            clear hz hpp hrl
            by_cases hpe : pe = 0
            · subst hpe
              rw [if_neg (by simp)] at hlx
              have HLX := Lib.hid hlx
              clear hlx
              rcases hcase with k1 | ⟨k1, k48⟩
              all_goals
                go_wp2_with fail
                go_at_call 79
                (with_reducible refine (PP.out _ HE2.out).mono ?_)
                rintro e1 w4 ⟨rfl, hb4⟩
                dsimp only
                replace HB := Lib.hid (HB.out.grow hb4)
                replace HC := Lib.hid (HC.out.grow hb4)
                replace HR2 := Lib.hid (HR2.out.grow hb4)
                clear hb4
                clear c0 c1 c2 c3 c4 f0 f1 f2 f3 f4 lt
                (obtain ⟨c0, c1, c2, c3, c4⟩ := HB.out.c5; obtain ⟨f0, f1, f2, f3, f4⟩ := HB.out.f5; have lt := HB.out.lt)
                go_upto_region 15 with fail
                obtain ⟨rr, hrr⟩ : ∃ r, w4.heap.size = r := ⟨_, rfl⟩
                rw [hrr]
                have AD := Lib.hid (fun (wx : World) (lv : Nat) (hb : Bx wx b (mC s (z : Int) (.slice A ts.length c) 0 tb)) (hr : MRow wx b s ts A c) => add_m hb hr hs (Nat.le_of_lt hi) hn ⟨2, r.take zl, [], pn, ps⟩)
                dsimp only [tnL] at AD
                rw [show B [] = (⟨#[]⟩ : ByteArray) from rfl] at AD
                refine wp_name (fun wx => Hid (Bx wx b (mC s (z : Int) (.slice A ts.length c) 0 tb)) ∧ Hid (Chg b b w wx) ∧ Hid (MRow wx b s ts A c) ∧ Hid (wx.cell? ⟨rr, 0, none⟩ = some (.int .i64 pn) ∧ wx.cell? ⟨rr, 1, none⟩ = some (.int .i64 ps) ∧ rr < wx.heap.size)) ⟨HB.out.alloc _, HC.out.alloc _, HR2.out.grow (G.alloc (G.refl _) _), by rw [← hrr]; exact ⟨by simp, by simp, by simp⟩⟩ ?_
                clear HB HC HR2 hrr
                clear c0 c1 c2 c3 c4 f0 f1 f2 f3 f4 lt
                rintro w5 ⟨HB, HC, HR2, HRC⟩
                obtain ⟨rc0, rc1, rlt⟩ := HRC.out
                (obtain ⟨c0, c1, c2, c3, c4⟩ := HB.out.c5; obtain ⟨f0, f1, f2, f3, f4⟩ := HB.out.f5; have lt := HB.out.lt)
                go_wp2_with fail
                refine wp_region_ord [(0, 1), (1, 1), (2, 1), (3, 1), (4, 1), (5, 1), (6, 1), (7, 1), (8, 1), (9, 1), (10, 1), (11, 1), (12, 1), (13, 1), (14, 3)] [14] 5 (by kernel_rfl) (by decide +kernel) ?_
                simp only [pickO, List.append_eq, List.cons_append, List.nil_append, List.getElem?_cons_succ, List.getElem?_cons_zero]
                intro w0 hG
                (repeat ((first | (with_reducible refine ord_q1 ?_) | (with_reducible refine ord_q0 ?_)); intro K hK; first | (refine Or.inr ⟨?_, ?_⟩; (focus (go_simp; first | done | (simp [undef]; done))); go_simp; (with_reducible refine hK _ ?_); clear hK K) | (refine Or.inl ⟨?_, ?_⟩; (focus (go_simp; done)); apply Exists.intro; refine And.intro ?_ ?_; (focus (first | (intro wq hq; obtain ⟨hcq, hfq⟩ := G.old hq; go_simp; (first | done | exact rfl); done) | (intro wq; go_simp; (first | done | exact rfl); done))); go_simp; (with_reducible refine hK _ ?_); clear hK K) | fail))
                (with_reducible refine ord_tail ?_)
                intro K hK
                go_simp
                have hb9 := hG.b
                go_at_call 92
                (with_reducible refine (AD.out _ 0 (HB.out.grow hb9) (HR2.out.grow hb9)).mono ?_)
                rintro e1 w6 ⟨rfl, hb6, A6, c6, hbx6, hr6⟩
                (try dsimp only)
                (with_reducible refine hK _ _ ?_)
                clear hK K
                (with_reducible refine ord_nil ?_)
                go_wp2_with fail
                (first | go_end0 | refine bodyPost_ret (results_none rfl _ _ _) rfl ?_)
                rw [HXX.out, HLX.out]
                have hz1 := HZ.out.1
                exact ⟨rfl, ((HC.out.grow hb9).bel (Nat.le_of_lt hbw)).trans hb6, A6, c6, by rw [hz1]; exact hbx6, hr6⟩
            · rw [if_pos hpe] at hlx
              have HLX := Lib.hid hlx
              have kpe : (pe != 0) = true := by simp [hpe]
              clear hlx hpe
              rcases hcase with k1 | ⟨k1, k48⟩
              all_goals
                go_wp2_with fail
                go_at_call 79
                (with_reducible refine (PP.out _ HE2.out).mono ?_)
                rintro e1 w4 ⟨rfl, hb4⟩
                dsimp only
                replace HB := Lib.hid (HB.out.grow hb4)
                replace HC := Lib.hid (HC.out.grow hb4)
                clear hb4
                clear c0 c1 c2 c3 c4 f0 f1 f2 f3 f4 lt
                (obtain ⟨c0, c1, c2, c3, c4⟩ := HB.out.c5; obtain ⟨f0, f1, f2, f3, f4⟩ := HB.out.f5; have lt := HB.out.lt)
                go_wp2_with fail
                go_at_call 55
                (with_reducible refine (FL.out _ _ _ _ _ _ (HB.out.alloc _)).mono ?_)
                rintro e1 w5 ⟨rfl, hb5, hc5⟩
                go_wp2_with fail
                (first | go_end0 | refine bodyPost_ret (results_none rfl _ _ _) rfl ?_)
                rw [HXX.out, HLX.out]
                exact ⟨rfl, ((HC.out.alloc _).trans hc5).bel (Nat.le_of_lt hbw), _, _, by rw [Nat.add_zero]; exact hb5⟩
    · have hq1 : Hid (q + 1 + spn isDig (s.data.toList.drop (q + 1)) = d0 ∧ q < s.size) := by
        have hps : q < s.size := by
          rcases Nat.lt_or_ge q s.size with h | h
          · exact h
          · rw [nth_end (by exact h)] at hx
            rw [← hx] at hv
            exact absurd hv (by decide)
        have := HQ.out
        rw [spn_yes hps (by rw [hx]; exact hv)] at this
        unfold Hid
        omega
      have hq2 : q + 1 ≤ d0 := by have := hq1.out; omega
      clear hx hv
      go_wp2_with fail
      go_at_call 86
      (with_reducible refine (HH.out _ _ _ _ _ _ q (by omega) (by omega) HB.out).mono ?_)
      rw [HX.out]
      rintro e1 w8 ⟨rfl, rfl⟩
      go_wp2_with fail
      go_at_call 91
      (with_reducible refine (DG1.out _).mono ?_)
      rintro e1 w9 ⟨rfl, rfl⟩
      go_wp2_with fail
      go_roundw
      case rel => exact ⟨q + 1, by omega, hq2, hq1.out.1, Lib.hid (HB.out.put rfl), Lib.hid (HC.out.set1 _ _)⟩
      case measure =>
        rw [rdI_of (Bx.put (i := 1) (v := .int .i64 ((q : Int) + 1)) HB.out rfl).c5.2.1, hm0.out]
        omega
end
end Go.Proofs.YtmchiibbodllaaaGreatDoor
