/- What the reference's Sum computes. -/
import Derived.Test.YtoipapcbngknfaaDoorSum1
import Derived.Test.YtoipapcbngknfaaDoorNearM
namespace Go.Proofs.YtoipapcbngknfaaDoor
set_option linter.unusedVariables false
set_option linter.unnecessarySimpa false
set_option linter.unusedSimpArgs false
open Go.RowKit

/-- The slice does not lie in the block X. -/
def Apt (A : Option Addr) (n X : Nat) : Prop := 0 < n → ∀ ad, A = some ad → ad.block ≠ X
theorem Apt.abv {A : Option Addr} {n X N : Nat} (h : Abv N A) (hX : X < N) : Apt A n X := fun _ ad e => by have := h ad e; omega
theorem Wd.apt {w : World} {A : Option Addr} {n c : Nat} {z : Int} (h : Wd w A n c z) {X i : Nat} (ho : Apt A n X) (u : Value) : Wd (w.setCell ⟨X, i, none⟩ u) A n c z := by
  refine ⟨⟨h.1.1, fun hn => ?_⟩, h.2⟩
  obtain ⟨b, off, e, hl, hc⟩ := h.1.2 hn
  have hne : b ≠ X := ho hn _ e
  refine ⟨b, off, e, by simpa [World.setCell] using hl, fun j v hv => ?_⟩
  rw [World.cell?_setCell_other _ _ _ _ (fun e' => hne (by injection e' with e'; exact e'.symm))]
  exact hc j v hv
theorem Wd.nil0 (w : World) : Wd w none 0 0 0 := by
  refine ⟨?_, Nat.le_refl _, Nat.zero_le _⟩
  rw [show (0 : Int).natAbs = 0 from rfl, digs_zero]
  exact Sl.nil _ _
theorem Box2.both {w : World} {B : Nat} {u v x y : Value} (h : Box2 w B u v) : Box2 ((w.setCell ⟨B, 0, none⟩ x).setCell ⟨B, 1, none⟩ y) B x y := by
  obtain ⟨h1, h2, h3, h4⟩ := h
  exact ⟨by go_simp, by go_simp, by go_simp, by go_simp⟩
theorem errL_of_bad {L : List (Int × Int)} {k : Nat} {x s : Int} (h : L[k]? = some (x, s)) (hb : okN x s = false) : errL L ≠ 0 := by
  unfold errL
  rw [if_neg]
  · decide
  · intro h'
    have := List.all_eq_true.1 h' (x, s) (List.mem_of_getElem? h)
    simp only [hb] at this
    cases this
set_option maxRecDepth 20000 in set_option maxHeartbeats 400000 in
theorem refsum_long (A : Option Addr) (n c : Nat) (L : List (Int × Int)) (w : World) (hx : NumsAt w A n L) (hbig : 256 < n) :
    Calls Tryd.prog 30 #[.slice A n c] w (RetF (sumN L) w) := by
  have hr : Hid (sumN L = (0, 0, 9)) := sumN_long (by rw [hx.2]; exact hbig)
  clear hx
  go_enter Tryd.func30, Tryd.ntmps30
  go_wp2_with fail
  exact bodyPost_ret (v := .tuple #[.agg #[.int .i64 0, .int .i64 0], .int .i64 9]) (by simp only [results, Tryd.results30]; go_simp) rfl ⟨by rw [hr.out], by repeat (first | with_reducible assumption | with_reducible exact G.refl _ | with_reducible refine G.drew ?_ | with_reducible refine G.drewN ?_ _ | with_reducible refine G.alloc ?_ _ | with_reducible refine Below.setCell ?_ (by first | (simp; done) | (simp; omega)) _ | with_reducible refine G.trans ?_ hb12 | with_reducible refine G.trans ?_ hb11 | with_reducible refine G.trans ?_ hb10 | with_reducible refine G.trans ?_ hb9 | with_reducible refine G.trans ?_ hb8 | with_reducible refine G.trans ?_ hb7 | with_reducible refine G.trans ?_ hb6 | with_reducible refine G.trans ?_ hb5 | with_reducible refine G.trans ?_ hb4 | with_reducible refine G.trans ?_ hb3 | with_reducible refine G.trans ?_ hb2 | with_reducible refine G.trans ?_ hb1 | with_reducible refine G.trans ?_ hb | assumption)⟩
set_option maxRecDepth 20000 in set_option maxHeartbeats 1000000 in
theorem refsum_short (A : Option Addr) (n c : Nat) (L : List (Int × Int)) (w : World) (hx : NumsAt w A n L) (hn : n ≤ 256) :
    Calls Tryd.prog 30 #[.slice A n c] w (RetF (sumN L) w) := by
  have hl := Lib.hid hx.2
  go_enter Tryd.func30, Tryd.ntmps30
  go_wp2_with fail
  refine wp_name (fun w1 => Below w.heap.size w w1 ∧ Box2 w1 w.heap.size (.int .i64 0) (.int .i64 0)) ⟨by repeat (first | with_reducible assumption | with_reducible exact G.refl _ | with_reducible refine G.drew ?_ | with_reducible refine G.drewN ?_ _ | with_reducible refine G.alloc ?_ _ | with_reducible refine Below.setCell ?_ (by first | (simp; done) | (simp; omega)) _ | with_reducible refine G.trans ?_ hb12 | with_reducible refine G.trans ?_ hb11 | with_reducible refine G.trans ?_ hb10 | with_reducible refine G.trans ?_ hb9 | with_reducible refine G.trans ?_ hb8 | with_reducible refine G.trans ?_ hb7 | with_reducible refine G.trans ?_ hb6 | with_reducible refine G.trans ?_ hb5 | with_reducible refine G.trans ?_ hb4 | with_reducible refine G.trans ?_ hb3 | with_reducible refine G.trans ?_ hb2 | with_reducible refine G.trans ?_ hb1 | with_reducible refine G.trans ?_ hb | assumption), ⟨by go_simp, by go_simp, by go_simp, by go_simp⟩⟩ ?_
  rintro w1 ⟨hbw, hbr⟩
  have hx1 := hx.grow hbw
  have ltr := hbr.lt
  clear hx
  go_loopw [4, 5] (fun sv iv wr => ∃ k : Nat, k ≤ n ∧ iv = .int .i64 k ∧ sv = .int .i64 (maxS (L.take k)) ∧ Hid (∀ p ∈ L.take k, okN p.1 p.2 = true) ∧ Below w1.heap.size w1 wr) (fun _ iv _ => n - (intOf iv).toNat)
  case atStart => exact ⟨0, Nat.zero_le _, rfl, rfl, fun p hp => (by simp at hp), G.refl _⟩
  case round =>
    obtain ⟨k, hk, rfl, rfl, hall, hbq⟩ := hrel
    have hbr2 := hbr.grow hbq
    by_cases hlt : k < n
    · obtain ⟨b, off, x, s, rfl, hbx, hxk, hc1, hc2⟩ := (hx1.grow hbq).at_ hlt
      have IS := fun w => is_any x s w
      cases ho : okN x s
      · rw [ho] at IS
        replace IS := Lib.hid IS
        have hr : Hid (sumN L = (0, 0, 2)) := sumN_bad (by rw [hl.out]; omega) (errL_of_bad hxk ho)
        clear ho hxk
        go_wp2_with fail
        refine (IS.out _).mono ?_
        rintro e w3 ⟨rfl, hb3⟩
        replace hbr2 := hbr2.grow hb3
        obtain ⟨r0, r1, r2, r3⟩ := id hbr2
        have ltr := hbr2.lt
        have hB := G.trans hbw (G.trans hbq hb3)
        go_wp2_with fail
        exact bodyPost_ret (v := .tuple #[.agg #[.int .i64 0, .int .i64 0], .int .i64 2]) (by simp only [results, Tryd.results30]; go_simp) rfl ⟨by rw [hr.out], (hB.setCell (by simp) _).setCell (by simp) _⟩
      · rw [ho] at IS
        replace IS := Lib.hid IS
        have hst : Hid (maxS (L.take (k + 1)) = max (maxS (L.take k)) s) := maxS_step hxk
        have hall2 : Hid (∀ p ∈ L.take (k + 1), okN p.1 p.2 = true) := fun p hp => by
          rw [List.take_add_one, hxk] at hp
          rcases List.mem_append.1 hp with hp | hp
          · exact hall.out p hp
          · simp at hp
            subst hp
            exact ho
        have hmb : 0 ≤ maxS (L.take k) ∧ maxS (L.take k) ≤ 12 := ⟨maxS_nonneg _, maxS_bd hall.out⟩
        obtain ⟨m, hm⟩ : ∃ m, maxS (L.take k) = m := ⟨_, rfl⟩
        rw [hm] at hst hmb
        rw [hm]
        have hsb := okN_iff.1 ho
        clear hm ho hxk
        have kc1 := Lib.hid hc1
        have kc2 := Lib.hid hc2
        by_cases hsm : s ≤ m
        · go_wp2_with fail
          refine (IS.out _).mono ?_
          rintro e w3 ⟨rfl, hb3⟩
          have hc3 := G.cell kc2.out hb3
          go_wp2_with fail
          go_roundw
          case rel => exact ⟨k + 1, by omega, by go_num, by rw [hst.out, Int.max_eq_left hsm], hall2, by repeat (first | with_reducible assumption | with_reducible exact G.refl _ | with_reducible refine G.drew ?_ | with_reducible refine G.drewN ?_ _ | with_reducible refine G.alloc ?_ _ | with_reducible refine Below.setCell ?_ (by first | (simp; done) | (simp; omega)) _ | with_reducible refine G.trans ?_ hb12 | with_reducible refine G.trans ?_ hb11 | with_reducible refine G.trans ?_ hb10 | with_reducible refine G.trans ?_ hb9 | with_reducible refine G.trans ?_ hb8 | with_reducible refine G.trans ?_ hb7 | with_reducible refine G.trans ?_ hb6 | with_reducible refine G.trans ?_ hb5 | with_reducible refine G.trans ?_ hb4 | with_reducible refine G.trans ?_ hb3 | with_reducible refine G.trans ?_ hb2 | with_reducible refine G.trans ?_ hb1 | with_reducible refine G.trans ?_ hb | assumption)⟩
          case measure => first | (simp [intOf]; done) | (simp [intOf]; omega)
        · go_wp2_with fail
          refine (IS.out _).mono ?_
          rintro e w3 ⟨rfl, hb3⟩
          have hc3 := G.cell kc2.out hb3
          go_wp2_with fail
          go_roundw
          case rel => exact ⟨k + 1, by omega, by go_num, by rw [hst.out, Int.max_eq_right (by omega)], hall2, by repeat (first | with_reducible assumption | with_reducible exact G.refl _ | with_reducible refine G.drew ?_ | with_reducible refine G.drewN ?_ _ | with_reducible refine G.alloc ?_ _ | with_reducible refine Below.setCell ?_ (by first | (simp; done) | (simp; omega)) _ | with_reducible refine G.trans ?_ hb12 | with_reducible refine G.trans ?_ hb11 | with_reducible refine G.trans ?_ hb10 | with_reducible refine G.trans ?_ hb9 | with_reducible refine G.trans ?_ hb8 | with_reducible refine G.trans ?_ hb7 | with_reducible refine G.trans ?_ hb6 | with_reducible refine G.trans ?_ hb5 | with_reducible refine G.trans ?_ hb4 | with_reducible refine G.trans ?_ hb3 | with_reducible refine G.trans ?_ hb2 | with_reducible refine G.trans ?_ hb1 | with_reducible refine G.trans ?_ hb | assumption)⟩
          case measure => first | (simp [intOf]; done) | (simp [intOf]; omega)
    · have hkn : k = n := by omega
      subst hkn
      have htk : L.take k = L := List.take_of_length_le (by have := hl.out; omega)
      rw [htk] at hall
      rw [htk]
      clear htk
      have hok := hall.out
      have hm1 := maxS_bd hok
      have hm0 := maxS_nonneg L
      have he : errL L = 0 := by unfold errL; rw [if_pos (List.all_eq_true.2 fun p hp => hok p hp)]
      have hr := sumN_ok (by rw [hl.out]; omega) he
      have hsc := fun p hp => maxS_le (L := L) (p := p) hp
      obtain ⟨S, hS⟩ : ∃ S : Nat, maxS L = (S : Int) := ⟨(maxS L).toNat, by omega⟩
      rw [hS] at hr hm1 hm0 hsc
      rw [Int.toNat_natCast] at hr
      rw [hS]
      have hS12 : S ≤ 12 := by omega
      have hbd := Lib.hid (fun k hk => sumAt_bd hok hS12 k hk)
      have FT := fun A' n' c' w h => fitW_any (sumAt L S) A' n' c' S w h (by omega)
      rw [show fitW (sumAt L S) S = sumN L by rw [hr]; exact if_pos hS12] at FT
      replace FT := Lib.hid FT
      have hst := Lib.hid (fun k p (h : L[k]? = some p) => sumAt_step S h)
      have hscH := Lib.hid hsc
      have hokH := Lib.hid hok
      generalize sumN L = p at *
      have hxq := hx1.grow hbq
      have hBw := G.trans hbw hbq
      clear hr he hok hsc hS hm0 hm1 hall hbq hx1 hbw hbr ltr
      go_wp2_with fail
      obtain ⟨wq, rfl⟩ : ∃ wq : World, wq = wr := ⟨_, rfl⟩
      have ltq := hbr2.lt
      go_loopw [7] (fun iv wr => ∃ (k' : Nat) (A9 : Option Addr) (n9 c9 : Nat), k' ≤ k ∧ iv = .int .i64 k' ∧ Box2 wr wq.heap.size (.int .i64 (sgn (sumAt (L.take k') S))) (.slice A9 n9 c9) ∧ Hid (Wd wr A9 n9 c9 (sumAt (L.take k') S) ∧ Apt A9 n9 wq.heap.size) ∧ Below wq.heap.size wq wr) (fun iv _ => k - (intOf iv).toNat)
      case atStart => exact ⟨0, none, 0, 0, Nat.zero_le _, rfl, Box2.new rfl, ⟨Wd.nil0 _, fun h => absurd h (by omega)⟩, by repeat (first | with_reducible assumption | with_reducible exact G.refl _ | with_reducible refine G.drew ?_ | with_reducible refine G.drewN ?_ _ | with_reducible refine G.alloc ?_ _ | with_reducible refine Below.setCell ?_ (by first | (simp; done) | (simp; omega)) _ | with_reducible refine G.trans ?_ hb12 | with_reducible refine G.trans ?_ hb11 | with_reducible refine G.trans ?_ hb10 | with_reducible refine G.trans ?_ hb9 | with_reducible refine G.trans ?_ hb8 | with_reducible refine G.trans ?_ hb7 | with_reducible refine G.trans ?_ hb6 | with_reducible refine G.trans ?_ hb5 | with_reducible refine G.trans ?_ hb4 | with_reducible refine G.trans ?_ hb3 | with_reducible refine G.trans ?_ hb2 | with_reducible refine G.trans ?_ hb1 | with_reducible refine G.trans ?_ hb | assumption)⟩
      case round =>
        obtain ⟨k', A9, n9, c9, hk', rfl, hBX, hW, hbq⟩ := hrel
        obtain ⟨x0, x1, _, _⟩ := id hBX
        have ltx := hBX.lt
        by_cases hlt2 : k' < k
        · obtain ⟨b, off, x, s, rfl, hbx, hxk, hc1, hc2⟩ := (hxq.grow hbq).at_ hlt2
          have hmem := List.mem_of_getElem? hxk
          obtain ⟨j, rfl, hj, hxa, hxb⟩ := okN_nat (hokH.out _ hmem)
          have hjS : j ≤ S := by have := hscH.out _ hmem; simp only at this; omega
          have P1 := Lib.hid (fun w => at_any x j S w hxa hxb hjS hS12)
          have l1 := Lib.hid (digs_27 (n := x) (q := S - j) hxa hxb (by omega))
          have l2 := Lib.hid (hbd.out k' (by omega))
          have hstep := hst.out k' _ hxk
          simp only [Int.toNat_natCast] at hstep
          obtain ⟨Z, hZ⟩ : ∃ Z, x * p10 (S - j) = Z := ⟨_, rfl⟩
          simp only [hZ] at P1 l1 hstep
          obtain ⟨Y, hY⟩ : ∃ Y, sumAt (L.take k') S = Y := ⟨_, rfl⟩
          rw [hY] at hstep l2 hW hBX x0
          replace hstep := Lib.hid hstep
          clear hZ hY hmem hxk hxa hxb
          go_wp2_with fail
          refine wp_region_ord [(0, 1), (1, 1), (2, 1), (3, 1), (4, 1), (5, 1), (6, 2), (7, 2), (8, 3)] [8] 5 (by kernel_rfl) (by decide +kernel) ?_
          simp only [pickO, List.getElem?_cons_succ, List.getElem?_cons_zero]
          intro w0 hG
          (repeat ((first | (with_reducible refine ord_q1 ?_) | (with_reducible refine ord_q0 ?_)); intro K hK; first | (refine Or.inr ⟨?_, ?_⟩; (focus (go_simp; first | done | (simp [undef]; done))); go_simp; (with_reducible refine hK _ ?_); clear hK K) | (refine Or.inl ⟨?_, ?_⟩; (focus (go_simp; done)); apply Exists.intro; refine And.intro ?_ ?_; (focus (first | (intro wq hq; obtain ⟨hcq, hfq⟩ := G.old hq; go_simp; (first | done | exact rfl); done) | (intro wq; go_simp; (first | done | exact rfl); done))); go_simp; (with_reducible refine hK _ ?_); clear hK K) | fail))
          (with_reducible refine ord_run ?_ hG)
          intro K hK
          go_simp
          go_at_call 20; have hsz0 := hG.b.size; (with_reducible refine (P1.out _).mono ?_); rintro e w3 ⟨A3, n3, c3, rfl, hw3, ha3, hb3⟩
          replace hG := Grew.trans hG hb3
          (try dsimp only)
          (with_reducible refine hK _ _ hG ?_)
          clear hK K
          (repeat ((first | (with_reducible refine ord_q1 ?_) | (with_reducible refine ord_q0 ?_)); intro K hK; first | (refine Or.inr ⟨?_, ?_⟩; (focus (go_simp; first | done | (simp [undef]; done))); go_simp; (with_reducible refine hK _ ?_); clear hK K) | (refine Or.inl ⟨?_, ?_⟩; (focus (go_simp; done)); apply Exists.intro; refine And.intro ?_ ?_; (focus (first | (intro wq hq; obtain ⟨hcq, hfq⟩ := G.old hq; go_simp; (first | done | exact rfl); done) | (intro wq; go_simp; (first | done | exact rfl); done))); go_simp; (with_reducible refine hK _ ?_); clear hK K) | fail))
          (with_reducible refine ord_run ?_ hG)
          intro K hK
          go_simp
          go_at_call 19; have hW3 := (hW.out.1.grow hG.b); have hsz3 := hG.b.size; (with_reducible refine (plus_from Y Z A9 A3 n9 n3 c9 c3 _ hW3 hw3 (by rw [← hW3.len]; exact l2.out) (by rw [← hw3.len]; exact l1.out)).mono ?_); rintro e w4 ⟨A8, n8, c8, rfl, hw8, hfr, hb4⟩
          replace hG := Grew.trans hG hb4
          (try dsimp only)
          (with_reducible refine hK _ _ hG ?_)
          clear hK K
          (repeat ((first | (with_reducible refine ord_q1 ?_) | (with_reducible refine ord_q0 ?_)); intro K hK; first | (refine Or.inr ⟨?_, ?_⟩; (focus (go_simp; first | done | (simp [undef]; done))); go_simp; (with_reducible refine hK _ ?_); clear hK K) | (refine Or.inl ⟨?_, ?_⟩; (focus (go_simp; done)); apply Exists.intro; refine And.intro ?_ ?_; (focus (first | (intro wq hq; obtain ⟨hcq, hfq⟩ := G.old hq; go_simp; (first | done | exact rfl); done) | (intro wq; go_simp; (first | done | exact rfl); done))); go_simp; (with_reducible refine hK _ ?_); clear hK K) | fail))
          have hbg := hG.b
          have hBX4 := hBX.grow hbg
          obtain ⟨y0, y1, y2, y3⟩ := id hBX4
          have lty := hBX4.lt
          have hap : Apt A8 n8 wq.heap.size := by
            rcases hfr with ⟨rfl, rfl⟩ | ⟨rfl, rfl⟩ | hfr
            · exact hW.out.2
            · exact Apt.abv ha3 (by have := hb3.size; have := hbq.size; omega)
            · exact Apt.abv hfr (by have := hbq.size; omega)
          ((with_reducible refine ord_tail ?_); intro K hK; go_simp; (with_reducible refine hK _ _ ?_); clear hK K)
          (repeat ((first | (with_reducible refine ord_q1 ?_) | (with_reducible refine ord_q0 ?_)); intro K hK; first | (refine Or.inr ⟨?_, ?_⟩; (focus (go_simp; first | done | (simp [undef]; done))); go_simp; (with_reducible refine hK _ ?_); clear hK K) | (refine Or.inl ⟨?_, ?_⟩; (focus (go_simp; done)); apply Exists.intro; refine And.intro ?_ ?_; (focus (first | (intro wq hq; obtain ⟨hcq, hfq⟩ := G.old hq; go_simp; (first | done | exact rfl); done) | (intro wq; go_simp; (first | done | exact rfl); done))); go_simp; (with_reducible refine hK _ ?_); clear hK K) | fail))
          (with_reducible refine ord_nil ?_)
          go_wp2_with fail
          go_roundw
          case rel => exact ⟨k' + 1, A8, n8, c8, by omega, by go_num, by rw [hstep.out]; exact hBX4.both, by rw [hstep.out]; exact ⟨Wd.apt (Wd.apt hw8 hap _) hap _, hap⟩, ((hbq.trans (hbg.mono (by have := hbq.size; omega))).setCell (by simp) _).setCell (by simp) _⟩
          case measure => first | (simp [intOf]; done) | (simp [intOf]; omega)
        · have hkk : k' = k := by omega
          subst hkk
          have htk : L.take k' = L := List.take_of_length_le (by have := hl.out; omega)
          rw [htk] at hBX hW x0
          have hbr3 := hbr2.grow hbq
          clear htk
          go_wp2_with fail
          refine (FT.out A9 n9 c9 _ hW.out.1).mono ?_
          rintro e w5 ⟨rfl, hb5⟩
          replace hbr3 := hbr3.grow hb5
          obtain ⟨r0, r1, r2, r3⟩ := id hbr3
          have ltr := hbr3.lt
          have hB := G.trans hBw (hbq.trans (hb5.mono (by have := hbq.size; omega)))
          go_wp2_with fail
          exact bodyPost_ret (v := .tuple #[.agg #[.int .i64 p.1, .int .i64 p.2.1], .int .i64 p.2.2]) (by simp only [results, Tryd.results30]; go_simp) rfl ⟨rfl, (hB.setCell (by simp) _).setCell (by simp) _⟩
theorem refsum_any (A : Option Addr) (n c : Nat) (L : List (Int × Int)) (w : World) (hx : NumsAt w A n L) :
    Calls Tryd.prog 30 #[.slice A n c] w (RetF (sumN L) w) := by
  by_cases h : 256 < n
  · exact refsum_long A n c L w hx h
  · exact refsum_short A n c L w hx (by omega)
end Go.Proofs.YtoipapcbngknfaaDoor
