/- stamp.Sort's comparison, and slices.insertionSortCmpFunc: a part of a row in order. -/
import Derived.Test.YtjldpodehffbnaaSo2
namespace Go.Proofs.Ytjldpodehffbnaa
set_option linter.unusedVariables false
set_option linter.unnecessarySimpa false
set_option linter.unusedSimpArgs false
open Go.RowKit

theorem ord_skipS {P : Program} {ops : Array Oper} {Q : Exit → Act → World → Prop} {C : World → Prop} {o : Oper} {l : List (Nat × Oper)} {a : Act} {w : World} (hw : Region.wanted o (yielded ops a.tmps) = false) (hc : C w)
    (h : ∀ K : Act → Prop, (∀ a', wpOrd P ops Q C l a' w → K a') → K (a.put o.dst undef)) : wpOrd P ops Q C ((2, o) :: l) a w := by
  simp only [wpOrd, hw, Bool.false_eq_true, if_false]
  exact h (fun a' => wpOrd P ops Q C l a' w) (fun _ h => h)
/-- stamp.Sort's function value. -/
abbrev cmpF : Value := .func (.func 65) #[] #[]
set_option maxRecDepth 20000 in set_option maxHeartbeats 1000000 in
theorem cmpF_any {w : World} {B : Nat} (x y : El) (hx : ElOk B w x) (hy : ElOk B w y) :
    Calls Try.prog 65 #[.agg #[.int .i64 x.e, .slice x.A x.m x.c], .agg #[.int .i64 y.e, .slice y.A y.m y.c]] w fun e w' => e = .returned (.int .i64 (cmpX x y)) ∧ Below w.heap.size w w' := by
  obtain ⟨hx1, hx2, _⟩ := hx
  obtain ⟨hy1, hy2, _⟩ := hy
  go_enter Try.func65, Try.ntmps65
  go_wp2_with (go_at_call 25; refine (compare_any _ _ _ _ _ _ _ _ x.p y.p _ ?g1 ?g2 hx2).mono ?_; (case g1 => (repeat (first | with_reducible assumption | with_reducible exact Sl.new' (by simp; done) (by simp; done) (by simp; done) | with_reducible refine Sl.drew ?_ | with_reducible refine Sl.drewN ?_ _ | with_reducible refine Sl.alloc ?_ _ | with_reducible refine Sl.grow ?_ hb12 | with_reducible refine Sl.grow ?_ hb11 | with_reducible refine Sl.grow ?_ hb10 | with_reducible refine Sl.grow ?_ hb9 | with_reducible refine Sl.grow ?_ hb8 | with_reducible refine Sl.grow ?_ hb7 | with_reducible refine Sl.grow ?_ hb6 | with_reducible refine Sl.grow ?_ hb5 | with_reducible refine Sl.grow ?_ hb4 | with_reducible refine Sl.grow ?_ hb3 | with_reducible refine Sl.grow ?_ hb2 | with_reducible refine Sl.grow ?_ hb1 | with_reducible refine Sl.grow ?_ hb | assumption))); (case g2 => (repeat (first | with_reducible assumption | with_reducible exact Sl.new' (by simp; done) (by simp; done) (by simp; done) | with_reducible refine Sl.drew ?_ | with_reducible refine Sl.drewN ?_ _ | with_reducible refine Sl.alloc ?_ _ | with_reducible refine Sl.grow ?_ hb12 | with_reducible refine Sl.grow ?_ hb11 | with_reducible refine Sl.grow ?_ hb10 | with_reducible refine Sl.grow ?_ hb9 | with_reducible refine Sl.grow ?_ hb8 | with_reducible refine Sl.grow ?_ hb7 | with_reducible refine Sl.grow ?_ hb6 | with_reducible refine Sl.grow ?_ hb5 | with_reducible refine Sl.grow ?_ hb4 | with_reducible refine Sl.grow ?_ hb3 | with_reducible refine Sl.grow ?_ hb2 | with_reducible refine Sl.grow ?_ hb1 | with_reducible refine Sl.grow ?_ hb | assumption))); rintro e w1 ⟨rfl, hb⟩)
  go_ret
  refine ⟨rfl, G.trans ?_ hb⟩
  repeat (first | with_reducible assumption | with_reducible exact G.refl _ | with_reducible refine G.drew ?_ | with_reducible refine G.drewN ?_ _ | with_reducible refine G.alloc ?_ _ | with_reducible refine Below.setCell ?_ (by first | (simp; done) | (simp; omega)) _ | with_reducible refine G.trans ?_ hb12 | with_reducible refine G.trans ?_ hb11 | with_reducible refine G.trans ?_ hb10 | with_reducible refine G.trans ?_ hb9 | with_reducible refine G.trans ?_ hb8 | with_reducible refine G.trans ?_ hb7 | with_reducible refine G.trans ?_ hb6 | with_reducible refine G.trans ?_ hb5 | with_reducible refine G.trans ?_ hb4 | with_reducible refine G.trans ?_ hb3 | with_reducible refine G.trans ?_ hb2 | with_reducible refine G.trans ?_ hb1 | with_reducible refine G.trans ?_ hb | assumption)
set_option maxRecDepth 20000 in set_option maxHeartbeats 1000000 in
theorem insertion_any {w : World} {P : Option Addr} {B n c : Nat} {f : Sq} {a b : Nat} (h : RowS w P B n f) (hab : a ≤ b) (hb : b ≤ n) (hn : n ≤ 100000) (hc : n ≤ c) :
    Calls Try.prog 76 #[.slice P n c, .int .i64 (a : Nat), .int .i64 (b : Nat), cmpF] w fun e w' => e = .returned (.tuple #[]) ∧ ∃ g, RowS w' P B n g ∧ Kp B w w' ∧ Re a b f g ∧ Srt g a b := by
  have ha : a < 1000000 := by omega
  have f1 : IntKind.i64.wrap ((a : Int) + 1) = ((a + 1 : Nat) : Int) := by rw [IntWalk.i64_in _ (by omega)]; omega
  obtain ⟨a1, ha1⟩ : ∃ x, a + 1 = x := ⟨_, rfl⟩
  rw [ha1] at f1
  replace h := Lib.hid h
  go_enter Try.func76, Try.ntmps76
  go_wp2_with fail
  go_loopw [8] (fun iv wr => ∃ (i : Nat) (F : Sq), a < i ∧ i ≤ b + 1 ∧ iv = .int .i64 i ∧ RowS wr P B n F ∧ Kp B w wr ∧ Re a b f F ∧ Srt F a i) (fun iv _ => b + 1 - (intOf iv).toNat)
  case atStart => exact ⟨a1, f, by omega, by omega, rfl, h.out, Kp.refl _ _, Re.refl _ _ _, Srt.short f (by omega)⟩
  case round =>
    obtain ⟨i, F, hi, hib, rfl, hr, hk, hre, hs⟩ := hrel
    clear h f1 ha1
    by_cases hlt : i < b
    · have f2 : IntKind.i64.wrap ((i : Int) + 1) = ((i + 1 : Nat) : Int) := by rw [IntWalk.i64_in _ (by omega)]; omega
      replace hr := Lib.hid hr
      replace hk := Lib.hid hk
      replace hre := Lib.hid hre
      replace hs := Lib.hid hs
      go_wp2_with fail
      go_loopw [9] (fun jv wr => ∃ (j : Nat) (G : Sq), a ≤ j ∧ j ≤ i ∧ jv = .int .i64 j ∧ RowS wr P B n G ∧ Kp B w wr ∧ Re a b f G ∧ Ins G a i j) (fun jv _ => (intOf jv).toNat)
      case atStart => exact ⟨i, F, by omega, Nat.le_refl _, rfl, hr.out, hk.out, hre.out, Ins.start hs.out⟩
      case round =>
        clear hr hk hre hs
        obtain ⟨j, D, haj, hji, rfl, hr, hk, hre, hin⟩ := hrel
        by_cases hja : a < j
        · obtain rfl := hr.at_ (by omega)
          have f3 : IntKind.i64.wrap ((j : Int) - 1) = ((j - 1 : Nat) : Int) := by rw [IntWalk.i64_in _ (by omega)]; omega
          obtain ⟨q, hq⟩ : ∃ q, j - 1 = q := ⟨_, rfl⟩
          obtain ⟨v, hv⟩ : ∃ v, cmpX (D j) (D q) = v := ⟨_, rfl⟩
          rw [hq] at f3
          have hjn : j < n := by omega
          have hqn : q < n := by omega
          have hqj : (q : Int) + 1 = j := by omega
          have hjaz : (a : Int) < (j : Int) := by omega
          obtain ⟨x0, x1, x2, x3⟩ := hr.one hjn
          obtain ⟨y0, y1, y2, y3⟩ := hr.one hqn
          have hBl := hr.lt (by omega)
          have ex := Lib.hid (hr.el j hjn)
          have ey := Lib.hid (hr.el q hqn)
          replace hr := Lib.hid hr
          replace hk := Lib.hid hk
          replace hre := Lib.hid hre
          replace hin := Lib.hid hin
          replace hq := Lib.hid hq
          replace hv := Lib.hid hv
          by_cases hvl : v < 0
          · go_wp2_with fail
            refine wp_region_ord [(0, 1), (1, 1), (2, 1), (3, 1), (4, 1), (5, 1), (6, 1), (7, 1), (8, 1), (9, 1), (10, 1), (11, 1), (12, 1), (13, 1), (14, 2), (15, 1), (16, 1)] [] 5 (by kernel_rfl) (by decide +kernel) ?_
            simp only [pickO, List.append_eq, List.cons_append, List.nil_append, List.getElem?_cons_succ, List.getElem?_cons_zero]
            intro w0 hG
            (repeat ((first | (with_reducible refine ord_q1 ?_) | (with_reducible refine ord_q0 ?_)); intro K hK; first | (refine Or.inr ⟨?_, ?_⟩; (focus (go_simp; first | done | (simp [undef]; done))); go_simp; (with_reducible refine hK _ ?_); clear hK K) | (refine Or.inl ⟨?_, ?_⟩; (focus (go_simp; done)); apply Exists.intro; refine And.intro ?_ ?_; (focus (first | (intro wq hq; obtain ⟨hcq, hfq⟩ := G.old hq; go_simp; (first | done | exact rfl); done) | (intro wq; go_simp; (first | done | exact rfl); done))); go_simp; (with_reducible refine hK _ ?_); clear hK K) | fail))
            (with_reducible refine ord_run ?_ hG)
            intro K hK
            go_simp
            go_at_call 65; (with_reducible refine (cmpF_any (D j) (D q) (ex.out.keep (Kp.of_below hG.b)) (ey.out.keep (Kp.of_below hG.b))).mono ?_); rintro e' w5 ⟨rfl, hb5⟩; rw [hv.out]
            replace hG := Grew.trans hG hb5
            (try dsimp only)
            (with_reducible refine hK _ _ hG ?_)
            clear hK K
            (repeat ((first | (with_reducible refine ord_q1 ?_) | (with_reducible refine ord_q0 ?_)); intro K hK; first | (refine Or.inr ⟨?_, ?_⟩; (focus (go_simp; first | done | (simp [undef]; done))); go_simp; (with_reducible refine hK _ ?_); clear hK K) | (refine Or.inl ⟨?_, ?_⟩; (focus (go_simp; done)); apply Exists.intro; refine And.intro ?_ ?_; (focus (first | (intro wq hq; obtain ⟨hcq, hfq⟩ := G.old hq; go_simp; (first | done | exact rfl); done) | (intro wq; go_simp; (first | done | exact rfl); done))); go_simp; (with_reducible refine hK _ ?_); clear hK K) | fail))
            (with_reducible refine ord_nil ?_)
            have hg := hG.b
            replace hr := hr.out.grow hg
            replace hk := hk.out.trans (Kp.of_below hg)
            clear hG x0 x1 x2 x3 y0 y1 y2 y3 hBl ex ey
            obtain ⟨x0, x1, x2, x3⟩ := hr.one hjn
            obtain ⟨y0, y1, y2, y3⟩ := hr.one hqn
            have hBl := hr.lt (by omega)
            have hst : Ins (swp D j q) a i q := by have := hin.out.step ⟨hja, hji⟩ (by rw [hq.out, hv.out]; exact hvl); rwa [hq.out] at this
            replace hst := Lib.hid hst
            replace hr := Lib.hid hr
            replace hk := Lib.hid hk
            clear hb5 hg
            go_wp2_with fail
            refine wp_region_ord [(0, 1), (1, 1), (2, 0), (3, 0), (4, 0), (5, 1), (6, 1), (7, 1), (8, 1), (9, 1), (10, 1), (11, 1), (12, 1), (13, 1), (14, 1), (15, 3), (16, 0), (17, 3)] [15, 17] 5 (by kernel_rfl) (by decide +kernel) ?_
            simp only [pickO, List.append_eq, List.cons_append, List.nil_append, List.getElem?_cons_succ, List.getElem?_cons_zero]
            intro w0 hG
            (repeat ((first | (with_reducible refine ord_q1 ?_) | (with_reducible refine ord_q0 ?_)); intro K hK; first | (refine Or.inr ⟨?_, ?_⟩; (focus (go_simp; first | done | (simp [undef]; done))); go_simp; (with_reducible refine hK _ ?_); clear hK K) | (refine Or.inl ⟨?_, ?_⟩; (focus (go_simp; done)); apply Exists.intro; refine And.intro ?_ ?_; (focus (first | (intro wq hq; obtain ⟨hcq, hfq⟩ := G.old hq; go_simp; (first | done | exact rfl); done) | (intro wq; go_simp; (first | done | exact rfl); done))); go_simp; (with_reducible refine hK _ ?_); clear hK K) | fail))
            have hg := hG.b
            replace hr := hr.out.grow hg
            replace hk := hk.out.trans (Kp.of_below hg)
            obtain ⟨x0, x1, x2, x3⟩ := hr.one hjn
            obtain ⟨y0, y1, y2, y3⟩ := hr.one hqn
            have hBl := hr.lt (by omega)
            have hs := Lib.hid (hr.swap hjn hqn)
            have hkk := Lib.hid (hk.trans (kp_swap B w0 (j * 2) (q * 2) (.int .i64 (D q).e) (.slice (D q).A (D q).m (D q).c) (.int .i64 (D j).e) (.slice (D j).A (D j).m (D j).c)))
            clear hr hk
            clear hG hg
            ((with_reducible refine ord_tail ?_); intro K hK; go_simp; (with_reducible refine hK _ _ ?_); clear hK K)
            (repeat ((first | (with_reducible refine ord_q1 ?_) | (with_reducible refine ord_q0 ?_)); intro K hK; first | (refine Or.inr ⟨?_, ?_⟩; (focus (go_simp; first | done | (simp [undef]; done))); go_simp; (with_reducible refine hK _ ?_); clear hK K) | (refine Or.inl ⟨?_, ?_⟩; (focus (go_simp; done)); apply Exists.intro; refine And.intro ?_ ?_; (focus (first | (intro wq hq; obtain ⟨hcq, hfq⟩ := G.old hq; go_simp; (first | done | exact rfl); done) | (intro wq; go_simp; (first | done | exact rfl); done))); go_simp; (with_reducible refine hK _ ?_); clear hK K) | fail))
            ((with_reducible refine ord_tail ?_); intro K hK; go_simp; (with_reducible refine hK _ _ ?_); clear hK K)
            (with_reducible refine ord_nil ?_)
            go_wp2_with fail
            go_roundw
            case rel => exact ⟨q, _, by have := hq.out; omega, by have := hq.out; omega, rfl, hs.out, hkk.out, hre.out.trans (swp_re (by omega) (by have := hq.out; omega)), hst.out⟩
            case measure => simp [intOf]; omega
          · have hfin := Lib.hid (hin.out.stop ⟨haj, hji⟩ (.inr (by rw [hq.out, hv.out]; omega)))
            go_wp2_with fail
            refine wp_region_ord [(0, 1), (1, 1), (2, 1), (3, 1), (4, 1), (5, 1), (6, 1), (7, 1), (8, 1), (9, 1), (10, 1), (11, 1), (12, 1), (13, 1), (14, 2), (15, 1), (16, 1)] [] 5 (by kernel_rfl) (by decide +kernel) ?_
            simp only [pickO, List.append_eq, List.cons_append, List.nil_append, List.getElem?_cons_succ, List.getElem?_cons_zero]
            intro w0 hG
            (repeat ((first | (with_reducible refine ord_q1 ?_) | (with_reducible refine ord_q0 ?_)); intro K hK; first | (refine Or.inr ⟨?_, ?_⟩; (focus (go_simp; first | done | (simp [undef]; done))); go_simp; (with_reducible refine hK _ ?_); clear hK K) | (refine Or.inl ⟨?_, ?_⟩; (focus (go_simp; done)); apply Exists.intro; refine And.intro ?_ ?_; (focus (first | (intro wq hq; obtain ⟨hcq, hfq⟩ := G.old hq; go_simp; (first | done | exact rfl); done) | (intro wq; go_simp; (first | done | exact rfl); done))); go_simp; (with_reducible refine hK _ ?_); clear hK K) | fail))
            (with_reducible refine ord_run ?_ hG)
            intro K hK
            go_simp
            go_at_call 65; (with_reducible refine (cmpF_any (D j) (D q) (ex.out.keep (Kp.of_below hG.b)) (ey.out.keep (Kp.of_below hG.b))).mono ?_); rintro e' w5 ⟨rfl, hb5⟩; rw [hv.out]
            replace hG := Grew.trans hG hb5
            (try dsimp only)
            (with_reducible refine hK _ _ hG ?_)
            clear hK K
            (repeat ((first | (with_reducible refine ord_q1 ?_) | (with_reducible refine ord_q0 ?_)); intro K hK; first | (refine Or.inr ⟨?_, ?_⟩; (focus (go_simp; first | done | (simp [undef]; done))); go_simp; (with_reducible refine hK _ ?_); clear hK K) | (refine Or.inl ⟨?_, ?_⟩; (focus (go_simp; done)); apply Exists.intro; refine And.intro ?_ ?_; (focus (first | (intro wq hq; obtain ⟨hcq, hfq⟩ := G.old hq; go_simp; (first | done | exact rfl); done) | (intro wq; go_simp; (first | done | exact rfl); done))); go_simp; (with_reducible refine hK _ ?_); clear hK K) | fail))
            (with_reducible refine ord_nil ?_)
            have hg := hG.b
            go_wp2_with fail
            go_roundw
            case rel => exact ⟨i + 1, D, by omega, by omega, by go_num, hr.out.grow hg, hk.out.trans (Kp.of_below hg), hre.out, hfin.out⟩
            case measure => simp [intOf]; omega
        · have hfin := Lib.hid (hin.stop ⟨haj, hji⟩ (.inl (by omega)))
          have hjaz : ¬ (a : Int) < (j : Int) := by omega
          replace hr := Lib.hid hr
          replace hk := Lib.hid hk
          replace hre := Lib.hid hre
          replace hin := Lib.hid hin
          go_wp2_with fail
          refine wp_region_ord [(0, 1), (1, 1), (2, 1), (3, 1), (4, 1), (5, 1), (6, 1), (7, 1), (8, 1), (9, 1), (10, 1), (11, 1), (12, 1), (13, 1), (14, 2), (15, 1), (16, 1)] [] 5 (by kernel_rfl) (by decide +kernel) ?_
          simp only [pickO, List.append_eq, List.cons_append, List.nil_append, List.getElem?_cons_succ, List.getElem?_cons_zero]
          intro w0 hG
          (repeat ((first | (with_reducible refine ord_q1 ?_) | (with_reducible refine ord_q0 ?_)); intro K hK; first | (refine Or.inr ⟨?_, ?_⟩; (focus (go_simp; first | done | (simp [undef]; done))); go_simp; (with_reducible refine hK _ ?_); clear hK K) | (refine Or.inl ⟨?_, ?_⟩; (focus (go_simp; done)); apply Exists.intro; refine And.intro ?_ ?_; (focus (first | (intro wq hq; obtain ⟨hcq, hfq⟩ := G.old hq; go_simp; (first | done | exact rfl); done) | (intro wq; go_simp; (first | done | exact rfl); done))); go_simp; (with_reducible refine hK _ ?_); clear hK K) | fail))
          (with_reducible refine ord_skipS ?_ hG ?_); (focus (go_simp; first | done | (simp [undef]; done))); intro K hK; go_simp; (with_reducible refine hK _ ?_); clear hK K; (repeat ((first | (with_reducible refine ord_q1 ?_) | (with_reducible refine ord_q0 ?_)); intro K hK; first | (refine Or.inr ⟨?_, ?_⟩; (focus (go_simp; first | done | (simp [undef]; done))); go_simp; (with_reducible refine hK _ ?_); clear hK K) | (refine Or.inl ⟨?_, ?_⟩; (focus (go_simp; done)); apply Exists.intro; refine And.intro ?_ ?_; (focus (first | (intro wq hq; obtain ⟨hcq, hfq⟩ := G.old hq; go_simp; (first | done | exact rfl); done) | (intro wq; go_simp; (first | done | exact rfl); done))); go_simp; (with_reducible refine hK _ ?_); clear hK K) | fail))
          (with_reducible refine ord_nil ?_)
          have hg := hG.b
          go_wp2_with fail
          go_roundw
          case rel => exact ⟨i + 1, D, by omega, by omega, by go_num, hr.out.grow hg, hk.out.trans (Kp.of_below hg), hre.out, hfin.out⟩
          case measure => simp [intOf]; omega
    · have hltz : ¬ (i : Int) < (b : Int) := by omega
      go_wp2_with fail
      go_end0
      exact ⟨rfl, F, hr, hk, hre, hs.part (Nat.le_refl _) (by omega)⟩
end Go.Proofs.Ytjldpodehffbnaa
