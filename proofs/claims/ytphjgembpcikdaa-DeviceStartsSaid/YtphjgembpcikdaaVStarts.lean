/- The law DeviceStarts returns true: the walk. -/
import Derived.Test.YtphjgembpcikdaaVEq
import Derived.Test.YtphjgembpcikdaaVFr2
namespace Go.Proofs.Ytphjgembpcikdaa
set_option linter.unusedVariables false
set_option linter.unnecessarySimpa false
set_option linter.unusedSimpArgs false
open Go.RowKit

section
variable {w : World}
set_option maxRecDepth 20000 in set_option maxHeartbeats 2000000 in
theorem deviceStarts_any {A : Option Addr} {n c : Nat} {l : List LOp} (hl : OpsW w A n c l) {B1 : Option Addr} {n1 c1 : Nat} {ch1 : List UInt8} {B2 : Option Addr} {n2 c2 : Nat} {ch2 : List UInt8} (hch : BytesW w B1 n1 c1 ch1 ∧ BytesW w B2 n2 c2 ch2) :
    Calls Try.prog 10 #[.slice A n c, .agg #[.slice B1 n1 c1, .slice B2 n2 c2]] w fun e w' => e = .returned (.bool true) ∧ Below w.heap.size w w' := by
  obtain ⟨m, hm⟩ : ∃ m : Nat, min n 30 = m := ⟨_, rfl⟩
  have hmn : m ≤ n := by omega
  have hm40 : m ≤ 30 := by omega
  obtain ⟨hln, hnc, hcm⟩ := hl.len
  have hmi : min (n : Int) 30 = (m : Int) := by omega
  have hmc : m ≤ c := by omega
  unfold maxLen at hcm
  have HL := Lib.hid (hl.take hmn)
  obtain ⟨q, hq⟩ : ∃ q, l.take m = q := ⟨_, rfl⟩
  rw [hq] at HL
  have hql : Hid (q.length = m) := HL.out.len.1
  clear hl hq hm hln
  have HC := Lib.hid hch
  obtain ⟨⟨_, hbc1, hbm1, _⟩, ⟨_, hbc2, hbm2, _⟩⟩ := hch
  go_enter Try.func10, Try.ntmps10
  go_wp2_with fail
  refine calls_name (fun wx => Below w.heap.size w wx ∧ Bx wx w.heap.size [.slice B1 n1 c1, .slice B2 n2 c2]) ⟨by repeat (first | with_reducible assumption | with_reducible exact G.refl _ | with_reducible refine G.drew ?_ | with_reducible refine G.drewN ?_ _ | with_reducible refine G.alloc ?_ _ | with_reducible refine Below.setCell ?_ (by first | (simp; done) | (simp; omega)) _ | with_reducible refine G.trans ?_ hb12 | with_reducible refine G.trans ?_ hb11 | with_reducible refine G.trans ?_ hb10 | with_reducible refine G.trans ?_ hb9 | with_reducible refine G.trans ?_ hb8 | with_reducible refine G.trans ?_ hb7 | with_reducible refine G.trans ?_ hb6 | with_reducible refine G.trans ?_ hb5 | with_reducible refine G.trans ?_ hb4 | with_reducible refine G.trans ?_ hb3 | with_reducible refine G.trans ?_ hb2 | with_reducible refine G.trans ?_ hb1 | with_reducible refine G.trans ?_ hb | assumption), by repeat (first | with_reducible assumption | (with_reducible exact Bx.new (by simp; done) (by rfl)) | (with_reducible refine Bx.alloc ?_ _) | (with_reducible refine Bx.drewN ?_ _) | ((with_reducible apply Bx.put); rotate_right; (first | rfl | skip)) | (with_reducible refine Bx.other ?_ (by first | (simp; done) | (simp; omega)) _))⟩ ?_
  rintro w1 ⟨hb1, x1⟩
  replace x1 := Lib.hid x1
  have hBlt := x1.out.lt
  replace hb1 := Lib.hid hb1
  refine (new_any 500 (by decide) (by decide)).mono ?_
  intro e w2 hr
  obtain ⟨d, rfl, F0⟩ := (FDs.nil (w0 := w1) (G.refl w1)).new hr
  replace F0 := Lib.hid F0
  clear hr
  go_wp2_with fail
  refine (known_any _).mono ?_
  rintro e w3 ⟨rfl, hb3⟩
  replace F0 := Lib.hid (F0.out.grow hb3)
  clear hb3
  go_wp2_with fail
  go_loopw [7] (fun iv wr => ∃ i : Nat, i ≤ m ∧ iv = .int .i64 i ∧ FDs w1 wr [(d, runN (newD 500) q i)]) (fun iv _ => m - (intOf iv).toNat)
  case atStart => exact ⟨0, Nat.zero_le _, rfl, F0.out⟩
  case round =>
    obtain ⟨i, hi, rfl, hF⟩ := hrel
    replace hF := Lib.hid hF
    have hG := runN_good q (new_good (n := 500) (by decide) (by decide)) i
    by_cases hlt : i < m
    · obtain ⟨o, ho⟩ : ∃ o, q[i]? = some o := ⟨_, List.getElem?_eq_getElem (by rw [hql.out]; exact hlt)⟩
      obtain ⟨b, off, rfl, hbl, e0, e1, e2, e3, e4, hfit⟩ := (HL.out.grow (G.trans hb1.out hF.out.below)).at_ ho
      replace ho := Lib.hid ho
      replace hG := Lib.hid hG
      go_wp2_with fail
      refine (hF.out.oper (i := 0) rfl hG.out o hfit i (by omega)).mono ?_
      rintro e w4 ⟨rfl, hF'⟩
      replace hF' := Lib.hid hF'
      go_wp2_with fail
      go_roundw
      case rel => exact ⟨i + 1, by omega, by go_num, by rw [runN_step ho.out]; exact hF'.out⟩
      case measure => simp [intOf]; omega
    · obtain rfl : i = m := by omega
      have hU := runN_up q (s := newD 500) ⟨rfl, rfl⟩ i
      obtain ⟨t, ht⟩ : ∃ t, runN (newD 500) q i = t := ⟨_, rfl⟩
      rw [ht] at hG hU hF
      clear ht
      replace hG := Lib.hid hG
      replace hU := Lib.hid hU
      have hB1 := Lib.hid (show BytesW w1 B1 n1 c1 ch1 from ⟨HC.out.1.1.grow hb1.out, HC.out.1.2.1, HC.out.1.2.2.1, fun ad e => Nat.lt_of_lt_of_le (HC.out.1.2.2.2 ad e) hb1.out.size⟩)
      have hB2 := Lib.hid (show BytesW w1 B2 n2 c2 ch2 from ⟨HC.out.2.1.grow hb1.out, HC.out.2.2.1, HC.out.2.2.2.1, fun ad e => Nat.lt_of_lt_of_le (HC.out.2.2.2.2 ad e) hb1.out.size⟩)
      go_wp2_with fail
      refine (hF.out.clone (i := 0) rfl hG.out.ok).mono ?_
      rintro e w5 ⟨c', rfl, hF5⟩
      replace hF := Lib.hid hF5
      clear hF5
      have y := (x1.out.grow hF.out.below)
      have k0 := (y.2 0 _ rfl).1
      have k1 := (y.2 1 _ rfl).1
      have klt := y.lt
      clear y
      go_wp2_with fail
      refine (hF.out.start (i := 1) rfl hG.out.ok hB1.out).mono ?_
      rintro e w6 ⟨rfl, hF6⟩
      rw [start_up hU.out.1] at hF6
      replace hF : Hid (FDs w1 w6 [(c', t), (d, t)]) := hF6
      clear hF6 k0 k1 klt
      go_wp2_with fail
      refine (hF.out.equal (i := 1) (j := 0) rfl rfl).mono ?_
      rintro e w7 ⟨he, hF7⟩
      rw [eqD_refl hG.out] at he
      subst he
      replace hF := Lib.hid hF7
      clear hF7
      go_wp2_with fail
      refine (hF.out.crash (i := 1) rfl).mono ?_
      rintro e w8 ⟨rfl, hF8⟩
      replace hF : Hid (FDs w1 w8 [(c', t), (d, { t with down := true })]) := hF8
      clear hF8
      have y := (x1.out.grow hF.out.below)
      have k0 := (y.2 0 _ rfl).1
      have k1 := (y.2 1 _ rfl).1
      have klt := y.lt
      clear y
      go_wp2_with fail
      refine (hF.out.start (i := 1) rfl (crash_good hG.out).ok hB1.out).mono ?_
      rintro e w9 ⟨rfl, hF9⟩
      have hGv := start_good (crash_good hG.out) ch1
      have hdv : (startD { t with down := true } ch1).down = false := rfl
      replace hF9 : Hid (FDs w1 w9 [(c', t), (d, startD { t with down := true } ch1)]) := hF9
      obtain ⟨v, hv⟩ : ∃ v, startD { t with down := true } ch1 = v := ⟨_, rfl⟩
      rw [hv] at hF9 hGv hdv
      replace hF := hF9
      clear hF9 hv k0 k1 klt
      replace hGv := Lib.hid hGv
      replace hdv := Lib.hid hdv
      go_wp2_with fail
      refine (hF.out.clone (i := 1) rfl hGv.out.ok).mono ?_
      rintro e wA ⟨x', rfl, hFA⟩
      replace hF := Lib.hid hFA
      clear hFA
      have y := (x1.out.grow hF.out.below)
      have k0 := (y.2 0 _ rfl).1
      have k1 := (y.2 1 _ rfl).1
      have klt := y.lt
      clear y
      go_wp2_with fail
      refine (hF.out.start (i := 2) rfl hGv.out.ok hB2.out).mono ?_
      rintro e wB ⟨rfl, hFB⟩
      rw [start_up hdv.out] at hFB
      replace hF : Hid (FDs w1 wB [(x', v), (c', t), (d, v)]) := hFB
      clear hFB k0 k1 klt
      go_wp2_with fail
      refine (hF.out.equal (i := 2) (j := 0) rfl rfl).mono ?_
      rintro e wC ⟨he, hFC⟩
      rw [eqD_refl hGv.out] at he
      subst he
      go_wp2_with fail
      go_ret
      exact ⟨rfl, G.trans hb1.out hFC.below⟩
end
end Go.Proofs.Ytphjgembpcikdaa
