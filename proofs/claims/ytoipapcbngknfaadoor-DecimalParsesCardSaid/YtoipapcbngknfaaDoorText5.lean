/- What the reference's Parse computes. -/
import Derived.Test.YtoipapcbngknfaaDoorText4
namespace Go.Proofs.YtoipapcbngknfaaDoor
set_option linter.unusedVariables false
set_option linter.unnecessarySimpa false
set_option linter.unusedSimpArgs false
open Go.RowKit

set_option maxRecDepth 20000 in set_option maxHeartbeats 400000 in
theorem refparse_short (w : World) : Calls Tryd.prog 40 #[.string (B [])] w (RetF (parseN []) w) := by
  rw [show parseN [] = (0, 0, 4) from rfl, show B [] = ⟨#[]⟩ from rfl]
  go_enter Tryd.func40, Tryd.ntmps40
  go_wp2_with fail
  exact bodyPost_ret (v := .tuple #[.agg #[.int .i64 0, .int .i64 0], .int .i64 4]) (by simp only [results, Tryd.results40]; go_simp) rfl ⟨rfl, by repeat (first | with_reducible assumption | with_reducible exact G.refl _ | with_reducible refine G.drew ?_ | with_reducible refine G.drewN ?_ _ | with_reducible refine G.alloc ?_ _ | with_reducible refine Below.setCell ?_ (by first | (simp; done) | (simp; omega)) _ | with_reducible refine G.trans ?_ hb12 | with_reducible refine G.trans ?_ hb11 | with_reducible refine G.trans ?_ hb10 | with_reducible refine G.trans ?_ hb9 | with_reducible refine G.trans ?_ hb8 | with_reducible refine G.trans ?_ hb7 | with_reducible refine G.trans ?_ hb6 | with_reducible refine G.trans ?_ hb5 | with_reducible refine G.trans ?_ hb4 | with_reducible refine G.trans ?_ hb3 | with_reducible refine G.trans ?_ hb2 | with_reducible refine G.trans ?_ hb1 | with_reducible refine G.trans ?_ hb | assumption)⟩
set_option maxRecDepth 20000 in set_option maxHeartbeats 400000 in
theorem refparse_long (t : List UInt8) (w : World) (h17 : 17 < t.length) (hmax : t.length ≤ 1000) : Calls Tryd.prog 40 #[.string (B t)] w (RetF (parseN t) w) := by
  have hne : t ≠ [] := fun h => by rw [h] at h17; simp at h17
  have hr : Hid (parseN t = (0, 0, 5)) := by unfold Hid parseN; rw [if_neg hne, if_pos h17]
  have hsz : (B t).size = t.length := B_size t
  have hb : (B t).toList.isEmpty = false := by rw [B_toList]; exact ne_empty hne
  obtain ⟨L, hL⟩ : ∃ L, t.length = L := ⟨_, rfl⟩
  rw [hL] at hsz h17 hmax
  generalize B t = b at *
  clear hne
  go_enter Tryd.func40, Tryd.ntmps40
  go_wp2_with fail
  exact bodyPost_ret (v := .tuple #[.agg #[.int .i64 0, .int .i64 0], .int .i64 5]) (by simp only [results, Tryd.results40]; go_simp) rfl ⟨by rw [hr.out], by repeat (first | with_reducible assumption | with_reducible exact G.refl _ | with_reducible refine G.drew ?_ | with_reducible refine G.drewN ?_ _ | with_reducible refine G.alloc ?_ _ | with_reducible refine Below.setCell ?_ (by first | (simp; done) | (simp; omega)) _ | with_reducible refine G.trans ?_ hb12 | with_reducible refine G.trans ?_ hb11 | with_reducible refine G.trans ?_ hb10 | with_reducible refine G.trans ?_ hb9 | with_reducible refine G.trans ?_ hb8 | with_reducible refine G.trans ?_ hb7 | with_reducible refine G.trans ?_ hb6 | with_reducible refine G.trans ?_ hb5 | with_reducible refine G.trans ?_ hb4 | with_reducible refine G.trans ?_ hb3 | with_reducible refine G.trans ?_ hb2 | with_reducible refine G.trans ?_ hb1 | with_reducible refine G.trans ?_ hb | assumption)⟩
theorem Box2.set0 {w : World} {B : Nat} {u v x : Value} (h : Box2 w B u v) : Box2 (w.setCell ⟨B, 0, none⟩ x) B x v := by
  obtain ⟨h1, h2, h3, h4⟩ := h
  exact ⟨by go_simp, by go_simp, by go_simp, by go_simp⟩
theorem Box2.both5 {w : World} {B : Nat} {u v x y : Value} (h : Box2 w B u v) : Box2 ((w.setCell ⟨B, 0, none⟩ x).setCell ⟨B, 1, none⟩ y) B x y := by
  obtain ⟨h1, h2, h3, h4⟩ := h
  exact ⟨by go_simp, by go_simp, by go_simp, by go_simp⟩
/-- The fold over the first i bytes. -/
def rdAt (t : List UInt8) (i : Nat) : Bool × Int × Int := (t.take i).foldl rstep (false, 0, 0)
theorem rdAt_succ {t : List UInt8} {i : Nat} {c : UInt8} (h : t[i]? = some c) : rdAt t (i + 1) = rstep (rdAt t i) c := by
  unfold rdAt
  rw [List.take_add_one, h, List.foldl_append]
  rfl
theorem rdAt_bd (t : List UInt8) (i : Nat) : 0 ≤ (rdAt t i).2.1 ∧ (rdAt t i).2.1 < p10 i ∧ 0 ≤ (rdAt t i).2.2 ∧ (rdAt t i).2.2 ≤ i := by
  induction i with
  | zero => unfold rdAt; simp [p10_zero]
  | succ i ih =>
    have hp := p10_pos i
    cases hc : t[i]? with
    | none =>
      have : rdAt t (i + 1) = rdAt t i := by unfold rdAt; rw [List.take_add_one, hc]; simp
      rw [this, p10_succ]
      omega
    | some c =>
      rw [rdAt_succ hc, p10_succ]
      generalize rdAt t i = st at *
      obtain ⟨p, a, b⟩ := st
      unfold rstep
      simp only at ih ⊢
      split
      · simp only
        refine ⟨by omega, by omega, ?_, ?_⟩ <;> split <;> omega
      · simp only
        omega
set_option maxRecDepth 20000 in set_option maxHeartbeats 1000000 in
theorem refparse_mid (t : List UInt8) (w : World) (hne : t ≠ []) (h17 : t.length ≤ 17) : Calls Tryd.prog 40 #[.string (B t)] w (RetF (parseN t) w) := by
  have hsz : (B t).size = t.length := B_size t
  have hb : (B t).toList = t := B_toList t
  have hbe : t.isEmpty = false := ne_empty hne
  obtain ⟨L, hL⟩ : ∃ L, t.length = L := ⟨_, rfl⟩
  rw [hL] at hsz h17
  replace hL := Lib.hid hL
  go_enter Tryd.func40, Tryd.ntmps40
  go_wp2_with fail
  obtain ⟨X, hX⟩ : ∃ X, Hid (w.heap.size + 1 = X) := ⟨_, rfl⟩
  refine wp_name (fun w1 => Below w.heap.size w w1 ∧ w.heap.size < X ∧ Box2 w1 w.heap.size (.int .i64 0) (.int .i64 0) ∧ Box2 w1 X (.int .i64 0) (.int .i64 0)) ⟨by repeat (first | with_reducible assumption | with_reducible exact G.refl _ | with_reducible refine G.drew ?_ | with_reducible refine G.drewN ?_ _ | with_reducible refine G.alloc ?_ _ | with_reducible refine Below.setCell ?_ (by first | (simp; done) | (simp; omega)) _ | with_reducible refine G.trans ?_ hb12 | with_reducible refine G.trans ?_ hb11 | with_reducible refine G.trans ?_ hb10 | with_reducible refine G.trans ?_ hb9 | with_reducible refine G.trans ?_ hb8 | with_reducible refine G.trans ?_ hb7 | with_reducible refine G.trans ?_ hb6 | with_reducible refine G.trans ?_ hb5 | with_reducible refine G.trans ?_ hb4 | with_reducible refine G.trans ?_ hb3 | with_reducible refine G.trans ?_ hb2 | with_reducible refine G.trans ?_ hb1 | with_reducible refine G.trans ?_ hb | assumption), by have := hX.out; omega, ⟨by go_simp, by go_simp, by go_simp, by go_simp⟩, by rw [← hX.out]; exact ⟨by go_simp, by go_simp, by go_simp, by go_simp⟩⟩ ?_
  rintro w1 ⟨hb1, hXl, hBr, hBX⟩
  rw [hX.out]
  clear hX
  go_loopw [5, 6] (fun pv iv wr => ∃ i : Nat, i ≤ L ∧ iv = .int .i64 i ∧ pv = .bool (rdAt t i).1 ∧ Box2 wr X (.int .i64 (rdAt t i).2.1) (.int .i64 (rdAt t i).2.2) ∧ Box2 wr w.heap.size (.int .i64 0) (.int .i64 0) ∧ Below w.heap.size w wr) (fun _ iv _ => L - (intOf iv).toNat)
  case atStart => exact ⟨0, Nat.zero_le _, rfl, rfl, hBX, hBr, hb1⟩
  case round =>
    obtain ⟨i, hi, rfl, rfl, hBX', hBr', hbr⟩ := hrel
    have ltX := hBX'.lt
    obtain ⟨x0, x1, x2, x3⟩ := id hBX'
    clear hBX hBr hb1
    by_cases hlt : i < L
    · obtain ⟨c, hc⟩ : ∃ c, t[i]? = some c := ⟨t[i]'(by rw [hL.out]; exact hlt), List.getElem?_eq_getElem _⟩
      have hst := rdAt_succ hc
      obtain ⟨b0, b1, b2, b3⟩ := rdAt_bd t i
      have hp17 : p10 i ≤ 10000000000000000 := by have := p10_mono (show i ≤ 16 by omega); rwa [show p10 16 = 10000000000000000 by decide] at this
      generalize rdAt t i = st at *
      obtain ⟨p, a, b⟩ := st
      simp only at hst b0 b1 b2 b3 x0 x1 ⊢
      have hidx : (B t)[i]'(by rw [hsz]; exact hlt) = c := by
        have h1 : (B t).data.toList[i]? = some c := hc
        have h2 : (B t).data[i]? = some c := by rw [← Array.getElem?_toList]; exact h1
        exact (Array.getElem?_eq_some_iff.1 h2).2
      obtain ⟨k, hk⟩ : ∃ k, c.toNat = k := ⟨_, rfl⟩
      have hk256 : k < 256 := by rw [← hk]; exact c.toNat_lt
      unfold rstep at hst
      rw [hk] at hst
      simp only at hst
      replace hbr := Lib.hid hbr
      by_cases hdig : 48 ≤ k ∧ k ≤ 57
      · obtain ⟨hd0, hd9⟩ := hdig
        have hk46 : ((k : Int) == 46) = false := by rw [Bool.eq_false_iff]; intro h; have := eq_of_beq h; omega
        have hk46n : (k == 46) = false := by rw [Bool.eq_false_iff]; intro h; have := eq_of_beq h; omega
        rw [if_pos ⟨hd0, hd9⟩, hk46n, Bool.or_false] at hst
        have hge : (48 : Int) ≤ (k : Int) := by omega
        have hle : (k : Int) ≤ 57 := by omega
        have f1 : IntKind.u8.wrap ((k : Int) - 48) = (k : Int) - 48 := IntWalk.u8_in _ (by omega)
        have f2 : IntKind.i64.wrap ((k : Int) - 48) = (k : Int) - 48 := IntWalk.i64_in _ (by omega)
        have f3 : IntKind.i64.wrap (10 * a) = 10 * a := IntWalk.i64_in _ (by omega)
        have f4 : IntKind.i64.wrap (10 * a + ((k : Int) - 48)) = 10 * a + ((k : Int) - 48) := IntWalk.i64_in _ (by omega)
        have f5 : IntKind.i64.wrap (b + 1) = b + 1 := IntWalk.i64_in _ (by omega)
        have f6 : ((k - 48 : Nat) : Int) = (k : Int) - 48 := by omega
        rw [f6] at hst
        replace hst := Lib.hid hst
        clear f6 hc b1 hp17
        go_wp2_with fail
        refine wp_region_ord [(0, 1), (1, 1), (2, 1), (3, 1), (4, 1), (5, 1), (6, 1), (7, 1), (8, 1), (9, 1), (10, 3)] [10] 5 (by kernel_rfl) (by decide +kernel) ?_
        simp only [pickO, List.getElem?_cons_succ, List.getElem?_cons_zero]
        intro w0 hG
        (repeat ((first | (with_reducible refine ord_q1 ?_) | (with_reducible refine ord_q0 ?_)); intro K hK; first | (refine Or.inr ⟨?_, ?_⟩; (focus (go_simp; first | done | (simp [undef]; done))); go_simp; (with_reducible refine hK _ ?_); clear hK K) | (refine Or.inl ⟨?_, ?_⟩; (focus (go_simp; done)); apply Exists.intro; refine And.intro ?_ ?_; (focus (first | (intro wq hq; obtain ⟨hcq, hfq⟩ := G.old hq; go_simp; (first | done | exact rfl); done) | (intro wq; go_simp; (first | done | exact rfl); done))); go_simp; (with_reducible refine hK _ ?_); clear hK K) | fail))
        have hbg := hG.b
        have hBX4 := hBX'.grow hbg
        obtain ⟨y0, y1, y2, y3⟩ := id hBX4
        have lty := hBX4.lt
        ((with_reducible refine ord_tail ?_); intro K hK; go_simp; (with_reducible refine hK _ _ ?_); clear hK K)
        (repeat ((first | (with_reducible refine ord_q1 ?_) | (with_reducible refine ord_q0 ?_)); intro K hK; first | (refine Or.inr ⟨?_, ?_⟩; (focus (go_simp; first | done | (simp [undef]; done))); go_simp; (with_reducible refine hK _ ?_); clear hK K) | (refine Or.inl ⟨?_, ?_⟩; (focus (go_simp; done)); apply Exists.intro; refine And.intro ?_ ?_; (focus (first | (intro wq hq; obtain ⟨hcq, hfq⟩ := G.old hq; go_simp; (first | done | exact rfl); done) | (intro wq; go_simp; (first | done | exact rfl); done))); go_simp; (with_reducible refine hK _ ?_); clear hK K) | fail))
        (with_reducible refine ord_nil ?_)
        cases p
        · go_wp2_with fail
          go_roundw
          case rel => exact ⟨i + 1, by omega, by go_num, by rw [hst.out], by rw [hst.out]; exact hBX4.set0, (hBr'.grow hbg).other (by omega), (hbr.out.trans (hbg.mono (by have := hbr.out.size; omega))).setCell (by simp; omega) _⟩
          case measure => first | (simp [intOf]; done) | (simp [intOf]; omega)
        · go_wp2_with fail
          go_roundw
          case rel => exact ⟨i + 1, by omega, by go_num, by rw [hst.out], by rw [hst.out]; exact hBX4.both5, ((hBr'.grow hbg).other (by omega)).other (by omega), ((hbr.out.trans (hbg.mono (by have := hbr.out.size; omega))).setCell (by simp; omega) _).setCell (by simp; omega) _⟩
          case measure => first | (simp [intOf]; done) | (simp [intOf]; omega)
      · rw [if_neg hdig] at hst
        have hcase : k = 46 ∨ (k ≠ 46 ∧ k < 48) ∨ (k ≠ 46 ∧ 57 < k) := by omega
        rcases hcase with hk46 | ⟨hk46, hk48⟩ | ⟨hk46, hk57⟩
        · subst hk46
          have hst' : Hid (rdAt t (i + 1) = (true, a, b)) := by unfold Hid; rw [hst]; simp
          clear hst hc b1 hp17
          go_wp2_with fail
          go_roundw
          case rel => exact ⟨i + 1, by omega, by go_num, by rw [hst'.out], by rw [hst'.out]; exact hBX', hBr', hbr.out⟩
          case measure => first | (simp [intOf]; done) | (simp [intOf]; omega)
        · have hkb : ((k : Int) == 46) = false := by rw [Bool.eq_false_iff]; intro h; have := eq_of_beq h; omega
          have hkn : (k == 46) = false := by rw [Bool.eq_false_iff]; intro h; have := eq_of_beq h; omega
          rw [hkn, Bool.or_false] at hst
          replace hst := Lib.hid hst
          have hlt48 : ¬ (48 : Int) ≤ (k : Int) := by omega
          clear hc b1 hp17
          go_wp2_with fail
          go_roundw
          case rel => exact ⟨i + 1, by omega, by go_num, by rw [hst.out], by rw [hst.out]; exact hBX', hBr', hbr.out⟩
          case measure => first | (simp [intOf]; done) | (simp [intOf]; omega)
        · have hkb : ((k : Int) == 46) = false := by rw [Bool.eq_false_iff]; intro h; have := eq_of_beq h; omega
          have hkn : (k == 46) = false := by rw [Bool.eq_false_iff]; intro h; have := eq_of_beq h; omega
          rw [hkn, Bool.or_false] at hst
          replace hst := Lib.hid hst
          have hge : (48 : Int) ≤ (k : Int) := by omega
          have hgt : ¬ (k : Int) ≤ 57 := by omega
          clear hc b1 hp17
          go_wp2_with fail
          go_roundw
          case rel => exact ⟨i + 1, by omega, by go_num, by rw [hst.out], by rw [hst.out]; exact hBX', hBr', hbr.out⟩
          case measure => first | (simp [intOf]; done) | (simp [intOf]; omega)
    · have hiL : i = L := by omega
      subst hiL
      have hall : rdAt t i = t.foldl rstep (false, 0, 0) := by unfold rdAt; rw [List.take_of_length_le (by rw [hL.out]; omega)]
      obtain ⟨b0, b1, b2, b3⟩ := rdAt_bd t i
      have hp17 : p10 i ≤ 100000000000000000 := by have := p10_mono (show i ≤ 17 by omega); rwa [show p10 17 = 100000000000000000 by decide] at this
      obtain ⟨c, r, htc⟩ : ∃ c r, t = c :: r := by cases t; exact absurd rfl hne; exact ⟨_, _, rfl⟩
      have hi0 : 0 < i := by have := hL.out; rw [htc] at this; simp at this; omega
      have hidx : (B t)[0]'(by rw [hsz]; exact hi0) = c := by
        have h2 : (B t).data[0]? = some c := by rw [← Array.getElem?_toList]; show t[0]? = some c; rw [htc]; rfl
        exact (Array.getElem?_eq_some_iff.1 h2).2
      have hrd : rd t = ((if c = 45 then -(rdAt t i).2.1 else (rdAt t i).2.1), (rdAt t i).2.2) := by
        unfold rd
        rw [← hall, htc]
        simp
      generalize rdAt t i = st at *
      obtain ⟨p, a, b⟩ := st
      simp only at hrd b0 b1 b2 b3 x0 x1 hBX' ⊢
      obtain ⟨k, hk⟩ : ∃ k, c.toNat = k := ⟨_, rfl⟩
      have hc45 : c = 45 ↔ k = 45 := by
        rw [← hk]
        constructor
        · rintro rfl; rfl
        · intro h; exact UInt8.toNat_inj.1 h
      clear hall htc
      obtain ⟨j, rfl⟩ : ∃ j : Nat, b = j := ⟨b.toNat, by omega⟩
      by_cases hneg : k = 45
      · have hkb : ((k : Int) == 45) = true := by rw [hneg]; rfl
        rw [if_pos (hc45.2 hneg)] at hrd
        have f1 : IntKind.i64.wrap (-a) = -a := IntWalk.i64_in _ (by omega)
        clear hc45 hneg
        have hBXf : Box2 (wr.setCell ⟨X, 0, none⟩ (.int .i64 (-a))) X (.int .i64 (-a)) (.int .i64 j) := hBX'.set0
        have hBrf : Box2 (wr.setCell ⟨X, 0, none⟩ (.int .i64 (-a))) w.heap.size (.int .i64 0) (.int .i64 0) := hBr'.other (by omega)
        have hbf : Below w.heap.size w (wr.setCell ⟨X, 0, none⟩ (.int .i64 (-a))) := hbr.setCell (by simp; omega) _
        cases ho : okN (-a) j
        · have hr : Hid (parseN t = (0, 0, 13)) := by unfold Hid parseN; rw [if_neg hne, if_neg (by rw [hL.out]; omega), hrd, if_neg (fun h => by rw [ho] at h; cases h.1)]
          have IS := Lib.hid (fun w => is_any (-a) j w)
          rw [ho] at IS
          clear ho hrd
          go_wp2_with fail
          refine (IS.out _).mono ?_
          rintro e w5 ⟨rfl, hb5⟩
          replace hBrf := hBrf.grow hb5
          replace hbf := hbf.trans (hb5.mono (by have := hbf.size; omega))
          obtain ⟨r0, r1, r2, r3⟩ := id hBrf
          have ltr := hBrf.lt
          clear hBXf
          go_wp2_with fail
          exact bodyPost_ret (v := .tuple #[.agg #[.int .i64 0, .int .i64 0], .int .i64 13]) (by simp only [results, Tryd.results40]; go_simp) rfl ⟨by rw [hr.out], (hbf.setCell (by simp) _).setCell (by simp) _⟩
        · have IS := Lib.hid (fun w => is_any (-a) j w)
          rw [ho] at IS
          have TX := Lib.hid (fun w => reftext_any (-a) j w ho)
          have hX : (B (txt (-a) j)).toList = txt (-a) j := B_toList _
          have hacc : txt (-a) j = t → Hid (parseN t = ((-a), (j : Int), 0)) := fun h => by unfold Hid parseN; rw [if_neg hne, if_neg (by rw [hL.out]; omega), hrd, if_pos ⟨ho, by simpa using h⟩]
          have hrej : txt (-a) j ≠ t → Hid (parseN t = (0, 0, 13)) := fun h => by unfold Hid parseN; rw [if_neg hne, if_neg (by rw [hL.out]; omega), hrd, if_neg (fun h2 => h (by simpa using h2.2))]
          generalize hG1 : B (txt (-a) j) = bt at *
          clear hG1
          generalize txt (-a) j = xt at *
          clear ho hrd
          go_wp2_with fail
          refine (IS.out _).mono ?_
          rintro e w5 ⟨rfl, hb5⟩
          replace hBrf := hBrf.grow hb5
          replace hBXf := hBXf.grow hb5
          replace hbf := hbf.trans (hb5.mono (by have := hbf.size; omega))
          clear x0 x1 x2 x3 ltX hb5
          obtain ⟨x0, x1, x2, x3⟩ := id hBXf
          have ltX := hBXf.lt
          go_wp2_with fail
          refine (TX.out _).mono ?_
          rintro e w6 ⟨rfl, hb6⟩
          replace hBrf := hBrf.grow hb6
          replace hBXf := hBXf.grow hb6
          replace hbf := hbf.trans (hb6.mono (by have := hbf.size; omega))
          clear x0 x1 x2 x3 ltX hb6
          obtain ⟨x0, x1, x2, x3⟩ := id hBXf
          obtain ⟨r0, r1, r2, r3⟩ := id hBrf
          have ltX := hBXf.lt
          have ltr := hBrf.lt
          by_cases hx : xt = t
          · have hr := hacc hx
            subst hx
            clear hacc hrej
            go_wp2_with fail
            exact bodyPost_ret (v := .tuple #[.agg #[.int .i64 (-a), .int .i64 j], .int .i64 0]) (by simp only [results, Tryd.results40]; go_simp) rfl ⟨by rw [hr.out], (hbf.setCell (by simp) _).setCell (by simp) _⟩
          · have hr := hrej hx
            have hXb : (xt == t) = false := by simp [hx]
            have hXc : (xt != t) = true := by simp [hx]
            clear hacc hrej
            go_wp2_with fail
            exact bodyPost_ret (v := .tuple #[.agg #[.int .i64 0, .int .i64 0], .int .i64 13]) (by simp only [results, Tryd.results40]; go_simp) rfl ⟨by rw [hr.out], (hbf.setCell (by simp) _).setCell (by simp) _⟩
      · have hkb : ((k : Int) == 45) = false := by rw [Bool.eq_false_iff]; intro h; have := eq_of_beq h; omega
        rw [if_neg (fun h => hneg (hc45.1 h))] at hrd
        clear hc45 hneg
        have hBXf : Box2 (wr) X (.int .i64 a) (.int .i64 j) := hBX'
        have hBrf : Box2 (wr) w.heap.size (.int .i64 0) (.int .i64 0) := hBr'
        have hbf : Below w.heap.size w (wr) := hbr
        cases ho : okN a j
        · have hr : Hid (parseN t = (0, 0, 13)) := by unfold Hid parseN; rw [if_neg hne, if_neg (by rw [hL.out]; omega), hrd, if_neg (fun h => by rw [ho] at h; cases h.1)]
          have IS := Lib.hid (fun w => is_any a j w)
          rw [ho] at IS
          clear ho hrd
          go_wp2_with fail
          refine (IS.out _).mono ?_
          rintro e w5 ⟨rfl, hb5⟩
          replace hBrf := hBrf.grow hb5
          replace hbf := hbf.trans (hb5.mono (by have := hbf.size; omega))
          obtain ⟨r0, r1, r2, r3⟩ := id hBrf
          have ltr := hBrf.lt
          clear hBXf
          go_wp2_with fail
          exact bodyPost_ret (v := .tuple #[.agg #[.int .i64 0, .int .i64 0], .int .i64 13]) (by simp only [results, Tryd.results40]; go_simp) rfl ⟨by rw [hr.out], (hbf.setCell (by simp) _).setCell (by simp) _⟩
        · have IS := Lib.hid (fun w => is_any a j w)
          rw [ho] at IS
          have TX := Lib.hid (fun w => reftext_any a j w ho)
          have hX : (B (txt a j)).toList = txt a j := B_toList _
          have hacc : txt a j = t → Hid (parseN t = (a, (j : Int), 0)) := fun h => by unfold Hid parseN; rw [if_neg hne, if_neg (by rw [hL.out]; omega), hrd, if_pos ⟨ho, by simpa using h⟩]
          have hrej : txt a j ≠ t → Hid (parseN t = (0, 0, 13)) := fun h => by unfold Hid parseN; rw [if_neg hne, if_neg (by rw [hL.out]; omega), hrd, if_neg (fun h2 => h (by simpa using h2.2))]
          generalize hG1 : B (txt a j) = bt at *
          clear hG1
          generalize txt a j = xt at *
          clear ho hrd
          go_wp2_with fail
          refine (IS.out _).mono ?_
          rintro e w5 ⟨rfl, hb5⟩
          replace hBrf := hBrf.grow hb5
          replace hBXf := hBXf.grow hb5
          replace hbf := hbf.trans (hb5.mono (by have := hbf.size; omega))
          clear x0 x1 x2 x3 ltX hb5
          obtain ⟨x0, x1, x2, x3⟩ := id hBXf
          have ltX := hBXf.lt
          go_wp2_with fail
          refine (TX.out _).mono ?_
          rintro e w6 ⟨rfl, hb6⟩
          replace hBrf := hBrf.grow hb6
          replace hBXf := hBXf.grow hb6
          replace hbf := hbf.trans (hb6.mono (by have := hbf.size; omega))
          clear x0 x1 x2 x3 ltX hb6
          obtain ⟨x0, x1, x2, x3⟩ := id hBXf
          obtain ⟨r0, r1, r2, r3⟩ := id hBrf
          have ltX := hBXf.lt
          have ltr := hBrf.lt
          by_cases hx : xt = t
          · have hr := hacc hx
            subst hx
            clear hacc hrej
            go_wp2_with fail
            exact bodyPost_ret (v := .tuple #[.agg #[.int .i64 a, .int .i64 j], .int .i64 0]) (by simp only [results, Tryd.results40]; go_simp) rfl ⟨by rw [hr.out], (hbf.setCell (by simp) _).setCell (by simp) _⟩
          · have hr := hrej hx
            have hXb : (xt == t) = false := by simp [hx]
            have hXc : (xt != t) = true := by simp [hx]
            clear hacc hrej
            go_wp2_with fail
            exact bodyPost_ret (v := .tuple #[.agg #[.int .i64 0, .int .i64 0], .int .i64 13]) (by simp only [results, Tryd.results40]; go_simp) rfl ⟨by rw [hr.out], (hbf.setCell (by simp) _).setCell (by simp) _⟩
theorem refparse_any (t : List UInt8) (w : World) (hmax : t.length ≤ 1000) : Calls Tryd.prog 40 #[.string (B t)] w (RetF (parseN t) w) := by
  by_cases h0 : t = []
  · subst h0
    exact refparse_short w
  · by_cases h17 : 17 < t.length
    · exact refparse_long t w h17 hmax
    · exact refparse_mid t w h0 (by omega)
end Go.Proofs.YtoipapcbngknfaaDoor
