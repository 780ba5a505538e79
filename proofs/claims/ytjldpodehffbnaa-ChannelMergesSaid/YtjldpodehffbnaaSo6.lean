/- slices.symMergeCmpFunc: the general case, and the whole. -/
import Derived.Test.YtjldpodehffbnaaSo5
import Derived.Deep.DeepCutAuto
import Derived.Deep.CutBlock
namespace Go.Proofs.Ytjldpodehffbnaa
set_option linter.unusedVariables false
set_option linter.unnecessarySimpa false
set_option linter.unusedSimpArgs false
open Go.RowKit

set_option maxRecDepth 20000 in set_option maxHeartbeats 2000000 in
theorem symMerge_gen {w : World} {P : Option Addr} {B n c : Nat} {f : Sq} {a m b : Nat} (h : RowS w P B n f) (ham : a + 1 < m) (hmb : m + 1 < b) (hb : b ≤ n) (hn : n ≤ 100000) (hc : n ≤ c) (hs1 : Srt f a m) (hs2 : Srt f m b)
    (ih : ∀ (w : World) (f : Sq) (a' m' b' : Nat), b' - a' < b - a → RowS w P B n f → a' < m' → m' < b' → b' ≤ n → Srt f a' m' → Srt f m' b' →
      Calls Try.prog 77 #[.slice P n c, .int .i64 (a' : Nat), .int .i64 (m' : Nat), .int .i64 (b' : Nat), cmpF] w (Merged w P B n a' b' f)) :
    Calls Try.prog 77 #[.slice P n c, .int .i64 (a : Nat), .int .i64 (m : Nat), .int .i64 (b : Nat), cmpF] w (Merged w P B n a b f) := by
  have f1 : IntKind.i64.wrap ((m : Int) - (a : Int)) = ((m - a : Nat) : Int) := by rw [IntWalk.i64_in _ (by omega)]; omega
  have f2 : IntKind.i64.wrap ((b : Int) - (m : Int)) = ((b - m : Nat) : Int) := by rw [IntWalk.i64_in _ (by omega)]; omega
  have f3 : IntKind.i64.wrap ((a : Int) + (b : Int)) = ((a + b : Nat) : Int) := by rw [IntWalk.i64_in _ (by omega)]; omega
  obtain ⟨D1, hD1⟩ : ∃ D, m - a = D := ⟨_, rfl⟩
  obtain ⟨D2, hD2⟩ : ∃ D, b - m = D := ⟨_, rfl⟩
  obtain ⟨s0, hs0⟩ : ∃ D, a + b = D := ⟨_, rfl⟩
  obtain ⟨d, hd⟩ : ∃ D, (a + b) / 2 = D := ⟨_, rfl⟩
  have hlh := lohi (show a < m ∧ m < b by omega)
  obtain ⟨S, hS⟩ : ∃ x, loS a m b = x := ⟨_, rfl⟩
  obtain ⟨R, hR⟩ : ∃ x, hiS a m b = x := ⟨_, rfl⟩
  have hmir := mir_of (show a < m ∧ m < b by omega) hs1 hs2
  obtain ⟨p, hp⟩ : ∃ x, d + m - 1 = x := ⟨_, rfl⟩
  obtain ⟨N, hN⟩ : ∃ x, d + m = x := ⟨_, rfl⟩
  have f4 : IntKind.i64.wrap ((d : Int) + (m : Int)) = ((d + m : Nat) : Int) := by rw [IntWalk.i64_in _ (by omega)]; omega
  have f5 : IntKind.i64.wrap ((N : Int) - 1) = (p : Int) := by rw [IntWalk.i64_in _ (by omega)]; omega
  rw [hN] at f4
  rw [hD1] at f1
  rw [hD2] at f2
  rw [hs0] at f3
  have f6 : (s0 : Int) / 2 = (d : Int) := by omega
  have hD1' : ((D1 : Int) == 1) = false := by simp; omega
  have hD2' : ((D2 : Int) == 1) = false := by simp; omega
  have hSR : (m > d → S = N - b ∧ R = d) ∧ (¬ m > d → S = a ∧ R = m) := by
    unfold loS at hS
    unfold hiS at hR
    rw [hd] at hS hR
    constructor
    · intro hx; rw [if_pos hx] at hS hR; exact ⟨by omega, by omega⟩
    · intro hx; rw [if_neg hx] at hS hR; exact ⟨by omega, by omega⟩
  rw [hS, hR, hd, hp] at hmir
  have hend := fun s hx => srch_end (s := s) (show a < m ∧ m < b by omega) hs1 hs2 hx
  rw [hS, hR, hd, hp, hN] at hend
  have hfin := fun (s : Nat) (hx : Srch f S R p s s) => merge_rot (s := s) (e := N - s) hs1 hs2 ⟨(hend s hx).1.1, (hend s hx).1.2.1⟩ ⟨(hend s hx).2.1.1, (hend s hx).2.1.2.1⟩ (hend s hx).2.2.2.1 (hend s hx).2.2.2.2
  rw [hS, hR] at hlh
  have hRb : R ≤ m ∧ R ≤ d := by
    by_cases hx : m > d
    · have := hSR.1 hx; omega
    · have := hSR.2 hx; omega
  have b1 : d < n := by omega
  have b2 : m < n := by omega
  have b3 : p < 200000 := by omega
  have b4 : N < 200000 := by omega
  have b5 : s0 < 200000 := by omega
  have b6 : R ≤ m := hRb.1
  have b9 : a < d := by omega
  have b10 : d < b := by omega
  have b8 : p < b + S := by
    by_cases hx : m > d
    · have := hSR.1 hx; omega
    · have := hSR.2 hx; omega
  have b7 : R ≤ d := hRb.2
  replace hmir := Lib.hid hmir
  replace hend := Lib.hid hend
  replace hfin := Lib.hid hfin
  replace h := Lib.hid h
  replace ih := Lib.hid ih
  replace hs1 := Lib.hid hs1
  replace hs2 := Lib.hid hs2
  replace hD1 := Lib.hid hD1
  replace hD2 := Lib.hid hD2
  replace hs0 := Lib.hid hs0
  replace hd := Lib.hid hd
  replace hS := Lib.hid hS
  replace hR := Lib.hid hR
  replace hp := Lib.hid hp
  replace hN := Lib.hid hN
  replace hSR := Lib.hid hSR
  clear hRb
  go_enter Try.func77, Try.ntmps77
  go_upto_if 140 with (fail)
  go_cut [20, 21] (fun sv rv wx => sv = .int .i64 S ∧ rv = .int .i64 R ∧ wx = w)
  case first =>
    by_cases hx : m > d
    · obtain ⟨h1, h2⟩ := hSR.out.1 hx
      have hbm := hN.out
      have hdd := hd.out
      have g1 : IntKind.i64.wrap ((N : Int) - (b : Int)) = (S : Int) := by rw [IntWalk.i64_in _ (by omega)]; omega
      have hxz : (d : Int) < (m : Int) := by omega
      replace hbm := Lib.hid hbm
      replace hdd := Lib.hid hdd
      go_wp2_with fail
      go_meet
      exact ⟨by first | rw [g1] | rw [h1], by rw [h2], rfl⟩
    · obtain ⟨h1, h2⟩ := hSR.out.2 hx
      have hxz : ¬ (d : Int) < (m : Int) := by omega
      go_wp2_with fail
      go_meet
      exact ⟨by rw [h1], by rw [h2], rfl⟩
  case rest =>
    obtain ⟨rfl, rfl, rfl⟩ := hcut
    obtain ⟨W, rfl⟩ : ∃ W, W = wc := ⟨_, rfl⟩
    clear hSR hS hR hd hs0 hD1 hD2 hD1' hD2' f1 f2 f3 f4 f6
    have hNp := hN.out
    have hpp := hp.out
    have hNp1 : N = p + 1 := by omega
    replace hNp1 := Lib.hid hNp1
    replace hNp := Lib.hid hNp
    replace hpp := Lib.hid hpp
    go_wp2_with fail
    go_loopw [20, 21] (fun sv rv wr => ∃ s r : Nat, sv = .int .i64 s ∧ rv = .int .i64 r ∧ Srch f S R p s r ∧ Below W.heap.size W wr) (fun sv rv _ => (intOf rv).toNat - (intOf sv).toNat)
    case atStart => exact ⟨S, R, rfl, rfl, Srch.start f hlh, Below.refl _ _⟩
    case round =>
      obtain ⟨s, r, rfl, rfl, hF, hbr⟩ := hrel
      clear f5
      have i1 := hF.s1
      have i2 := hF.s2
      have i3 := hF.s3
      replace hF := Lib.hid hF
      replace hbr := Lib.hid hbr
      by_cases hsr : s < r
      · have f2 : IntKind.i64.wrap ((s : Int) + (r : Int)) = ((s + r : Nat) : Int) := by rw [IntWalk.i64_in _ (by omega)]; omega
        obtain ⟨q, hsum⟩ : ∃ q, s + r = q := ⟨_, rfl⟩
        rw [hsum] at f2
        obtain ⟨x, hx⟩ : ∃ x, q / 2 = x := ⟨_, rfl⟩
        have f3 : (q : Int) / 2 = (x : Int) := by omega
        have hxi : s ≤ x ∧ x < r := by omega
        have hxp : x ≤ p := by have := hNp1.out; have := hN.out; omega
        have f4 : IntKind.i64.wrap ((x : Int) + 1) = ((x + 1 : Nat) : Int) := by rw [IntWalk.i64_in _ (by omega)]; omega
        have f7 : IntKind.i64.wrap ((p : Int) - (x : Int)) = ((p - x : Nat) : Int) := by rw [IntWalk.i64_in _ (by omega)]; omega
        have hyn : p - x < n := by omega
        obtain ⟨y, hy⟩ : ∃ y, p - x = y := ⟨_, rfl⟩
        rw [hy] at f7 hyn
        obtain ⟨v, hv⟩ : ∃ v, cmpX (f y) (f x) = v := ⟨_, rfl⟩
        obtain rfl := h.out.at_ (by omega)
        have hr := h.out.grow hbr.out
        have hxn : x < n := by omega
        obtain ⟨x0, x1, x2, x3⟩ := hr.one hxn
        obtain ⟨y0, y1, y2, y3⟩ := hr.one hyn
        have hBl := hr.lt (by omega)
        have ex := Lib.hid (hr.el x hxn)
        have ey := Lib.hid (hr.el y hyn)
        replace hv := Lib.hid hv
        replace hx := Lib.hid hx
        replace hy := Lib.hid hy
        replace hsum := Lib.hid hsum
        clear hr
        by_cases hvl : v < 0
        · have hvd : decide (v < 0) = true := by simp; omega
          go_wp2_with fail
          refine wp_region_ord [(0, 1), (1, 1), (2, 1), (3, 1), (4, 1), (5, 1), (6, 1), (7, 1), (8, 1), (9, 1), (10, 1), (11, 2), (12, 1), (13, 1)] [] 5 (by kernel_rfl) (by decide +kernel) ?_
          simp only [pickO, List.append_eq, List.cons_append, List.nil_append, List.getElem?_cons_succ, List.getElem?_cons_zero]
          intro w0 hG
          (repeat ((first | (with_reducible refine ord_q1 ?_) | (with_reducible refine ord_q0 ?_)); intro K hK; first | (refine Or.inr ⟨?_, ?_⟩; (focus (go_simp; first | done | (simp [undef]; done))); go_simp; (with_reducible refine hK _ ?_); clear hK K) | (refine Or.inl ⟨?_, ?_⟩; (focus (go_simp; done)); apply Exists.intro; refine And.intro ?_ ?_; (focus (first | (intro wq hq; obtain ⟨hcq, hfq⟩ := G.old hq; go_simp; (first | done | exact rfl); done) | (intro wq; go_simp; (first | done | exact rfl); done))); go_simp; (with_reducible refine hK _ ?_); clear hK K) | fail))
          (with_reducible refine ord_run ?_ hG)
          intro K hK
          go_simp
          go_at_call 65; (with_reducible refine (cmpF_any (f y) (f x) (ey.out.keep (Kp.of_below hG.b)) (ex.out.keep (Kp.of_below hG.b))).mono ?_); rintro e' w5 ⟨rfl, hb5⟩; rw [hv.out]
          replace hG := Grew.trans hG hb5
          (try dsimp only)
          (with_reducible refine hK _ _ hG ?_)
          clear hK K
          (repeat ((first | (with_reducible refine ord_q1 ?_) | (with_reducible refine ord_q0 ?_)); intro K hK; first | (refine Or.inr ⟨?_, ?_⟩; (focus (go_simp; first | done | (simp [undef]; done))); go_simp; (with_reducible refine hK _ ?_); clear hK K) | (refine Or.inl ⟨?_, ?_⟩; (focus (go_simp; done)); apply Exists.intro; refine And.intro ?_ ?_; (focus (first | (intro wq hq; obtain ⟨hcq, hfq⟩ := G.old hq; go_simp; (first | done | exact rfl); done) | (intro wq; go_simp; (first | done | exact rfl); done))); go_simp; (with_reducible refine hK _ ?_); clear hK K) | fail))
          (with_reducible refine ord_nil ?_)
          have hg := hG.b
          go_wp2_with fail
          go_roundw
          case rel => exact ⟨s, x, rfl, rfl, hF.out.down hmir.out hxi (by rw [hy.out, hv.out]; exact hvl), G.trans hbr.out hg⟩
          case measure => simp [intOf]; omega
        · have hvd : decide (v < 0) = false := by simp; omega
          go_wp2_with fail
          refine wp_region_ord [(0, 1), (1, 1), (2, 1), (3, 1), (4, 1), (5, 1), (6, 1), (7, 1), (8, 1), (9, 1), (10, 1), (11, 2), (12, 1), (13, 1)] [] 5 (by kernel_rfl) (by decide +kernel) ?_
          simp only [pickO, List.append_eq, List.cons_append, List.nil_append, List.getElem?_cons_succ, List.getElem?_cons_zero]
          intro w0 hG
          (repeat ((first | (with_reducible refine ord_q1 ?_) | (with_reducible refine ord_q0 ?_)); intro K hK; first | (refine Or.inr ⟨?_, ?_⟩; (focus (go_simp; first | done | (simp [undef]; done))); go_simp; (with_reducible refine hK _ ?_); clear hK K) | (refine Or.inl ⟨?_, ?_⟩; (focus (go_simp; done)); apply Exists.intro; refine And.intro ?_ ?_; (focus (first | (intro wq hq; obtain ⟨hcq, hfq⟩ := G.old hq; go_simp; (first | done | exact rfl); done) | (intro wq; go_simp; (first | done | exact rfl); done))); go_simp; (with_reducible refine hK _ ?_); clear hK K) | fail))
          (with_reducible refine ord_run ?_ hG)
          intro K hK
          go_simp
          go_at_call 65; (with_reducible refine (cmpF_any (f y) (f x) (ey.out.keep (Kp.of_below hG.b)) (ex.out.keep (Kp.of_below hG.b))).mono ?_); rintro e' w5 ⟨rfl, hb5⟩; rw [hv.out]
          replace hG := Grew.trans hG hb5
          (try dsimp only)
          (with_reducible refine hK _ _ hG ?_)
          clear hK K
          (repeat ((first | (with_reducible refine ord_q1 ?_) | (with_reducible refine ord_q0 ?_)); intro K hK; first | (refine Or.inr ⟨?_, ?_⟩; (focus (go_simp; first | done | (simp [undef]; done))); go_simp; (with_reducible refine hK _ ?_); clear hK K) | (refine Or.inl ⟨?_, ?_⟩; (focus (go_simp; done)); apply Exists.intro; refine And.intro ?_ ?_; (focus (first | (intro wq hq; obtain ⟨hcq, hfq⟩ := G.old hq; go_simp; (first | done | exact rfl); done) | (intro wq; go_simp; (first | done | exact rfl); done))); go_simp; (with_reducible refine hK _ ?_); clear hK K) | fail))
          (with_reducible refine ord_nil ?_)
          have hg := hG.b
          go_wp2_with fail
          go_roundw
          case rel => exact ⟨x + 1, r, by go_num, rfl, hF.out.high hmir.out hxi (by rw [hy.out, hv.out]; omega), G.trans hbr.out hg⟩
          case measure => simp [intOf]; omega
      · obtain rfl : s = r := by omega
        obtain ⟨q1, q2, q3, _, _⟩ := hend.out s hF.out
        obtain ⟨m1, m2, m3, m4, m5⟩ := hfin.out s hF.out
        rw [q3] at m2 m3 m5
        have hr := h.out.grow hbr.out
        have hk := Kp.of_below (B := B) hbr.out
        have f6 : IntKind.i64.wrap ((N : Int) - (s : Int)) = ((N - s : Nat) : Int) := by rw [IntWalk.i64_in _ (by have := hNp1.out; omega)]; have := hNp1.out; omega
        obtain ⟨e, he⟩ : ∃ e, N - s = e := ⟨_, rfl⟩
        rw [he] at f6 q2 q3 m1 m2 m3 m4 m5
        obtain ⟨q4, q5, q6⟩ := q1
        obtain ⟨q7, q8, q9⟩ := q2
        have hre : Re a b f (rotf f s m e) := (rotf_re q5 q7).wide q4 q8
        have hloM : ∀ {u : Sq}, True := fun {_} => trivial
        replace he := Lib.hid he
        replace q3 := Lib.hid q3
        replace m1 := Lib.hid m1
        replace m2 := Lib.hid m2
        replace m3 := Lib.hid m3
        replace m4 := Lib.hid m4
        replace m5 := Lib.hid m5
        replace hr := Lib.hid hr
        replace hk := Lib.hid hk
        replace hre := Lib.hid hre
        clear h hF hbr hend hfin hmir hloM
        have asm : ∀ (g : Sq), rotf f s m e = g → ∀ u : Sq, Re a d g u → Srt u a d → ∀ v, Re d b u v → Srt v d b → Re a b f v ∧ Srt v a b := by
          rintro g rfl u re1 st1 v re2 st2
          exact ⟨hre.out.trans ((re1.wide (Nat.le_refl _) (by omega)).trans (re2.wide (by omega) (Nat.le_refl _))), halves ⟨by omega, by omega⟩ m5.out re1 st1 re2 st2⟩
        replace asm := Lib.hid asm
        have hq3 := q3.out
        clear m5 hre q3
        rcases Nat.lt_or_ge s m with k1 | k1
        · rcases Nat.lt_or_ge m e with k2 | k2
          · have k3 : s < d := by omega
            have k4 : d < e := by omega
            clear hq3
            go_wp2_with fail
            refine (rotate_any cmpF hr.out k1 k2 (by omega) hn hc).mono ?_
            rintro e' w1 ⟨rfl, hr1, hk1⟩
            replace hk1 := hk.out.trans hk1
            obtain ⟨g, hg⟩ : ∃ g, rotf f s m e = g := ⟨_, rfl⟩
            rw [hg] at hr1 m1 m2 m3 m4
            replace hg := Lib.hid hg
            replace hr1 := Lib.hid hr1
            replace hk1 := Lib.hid hk1
            clear hr hk
            rcases Nat.lt_or_ge a s with k5 | k5
            · go_wp2_with fail
              refine (ih.out _ g a s d (by omega) hr1.out k5 k3 (by omega) m1.out m2.out).mono ?_
              rintro e2 w2 ⟨rfl, u, hr2, hk2, re1, st1⟩
              replace hk2 := hk1.out.trans hk2
              have fin := asm.out g hg.out u re1 st1
              have m3' : Srt u d e := m3.out.congr fun x hx _ => re1.out (.inr hx)
              have m4' : Srt u e b := m4.out.congr fun x hx _ => re1.out (.inr (by omega))
              replace fin := Lib.hid fin
              replace m3' := Lib.hid m3'
              replace m4' := Lib.hid m4'
              replace hr2 := Lib.hid hr2
              replace hk2 := Lib.hid hk2
              clear re1 st1
              rcases Nat.lt_or_ge e b with k6 | k6
              · go_wp2_with fail
                refine (ih.out _ u d e b (by omega) hr2.out k4 k6 hb m3'.out m4'.out).mono ?_
                rintro e3 w3 ⟨rfl, v, hr3, hk3, re2, st2⟩
                go_wp2_with fail
                go_end0
                exact ⟨rfl, v, hr3, hk2.out.trans hk3, fin.out v re2 st2⟩
              · have st2 : Srt u d b := by rw [show b = e by omega]; exact m3'.out
                replace st2 := Lib.hid st2
                go_wp2_with fail
                go_end0
                exact ⟨rfl, u, hr2.out, hk2.out, fin.out u (Re.refl _ _ _) st2.out⟩
            · have hr2 := hr1
              have hk2 := hk1
              have fin := asm.out g hg.out g (Re.refl _ _ _) (by rw [show s = a by omega] at m2; exact m2.out)
              have m3' : Srt g d e := m3.out
              have m4' : Srt g e b := m4.out
              replace fin := Lib.hid fin
              replace m3' := Lib.hid m3'
              replace m4' := Lib.hid m4'
              rcases Nat.lt_or_ge e b with k6 | k6
              · go_wp2_with fail
                refine (ih.out _ g d e b (by omega) hr2.out k4 k6 hb m3'.out m4'.out).mono ?_
                rintro e3 w3 ⟨rfl, v, hr3, hk3, re2, st2⟩
                go_wp2_with fail
                go_end0
                exact ⟨rfl, v, hr3, hk2.out.trans hk3, fin.out v re2 st2⟩
              · have st2 : Srt g d b := by rw [show b = e by omega]; exact m3'.out
                replace st2 := Lib.hid st2
                go_wp2_with fail
                go_end0
                exact ⟨rfl, g, hr2.out, hk2.out, fin.out g (Re.refl _ _ _) st2.out⟩
          · have k3 : d = s := by omega
            have k4 : e = m := by omega
            have k5 : a < s := by omega
            have k6 : d < e := by omega
            have k7 : e < b := by omega
            have hr1 := hr
            have hk1 := hk
            have hfg : rotf f s m e = f := by rw [k4, rotf_right (by omega)]
            obtain ⟨g, hg⟩ : ∃ g, rotf f s m e = g := ⟨_, rfl⟩
            rw [hg] at hfg m1 m2 m3 m4
            replace hg := Lib.hid hg
            subst hfg
            clear hr hk hq3
            have hr2 := hr1
            have hk2 := hk1
            have fin := asm.out g hg.out g (Re.refl _ _ _) (by rw [k3]; exact m1.out)
            have m3' : Srt g d e := m3.out
            have m4' : Srt g e b := m4.out
            replace fin := Lib.hid fin
            replace m3' := Lib.hid m3'
            replace m4' := Lib.hid m4'
            have k8 : ¬ s < d := by omega
            have k9 : ¬ m < e := by omega
            replace k3 := Lib.hid k3
            replace k4 := Lib.hid k4
            go_wp2_with fail
            refine (ih.out _ g d e b (by omega) hr2.out k6 k7 hb m3'.out m4'.out).mono ?_
            rintro e3 w3 ⟨rfl, v, hr3, hk3, re2, st2⟩
            go_wp2_with fail
            go_end0
            exact ⟨rfl, v, hr3, hk2.out.trans hk3, fin.out v re2 st2⟩
        · have k2 : s = m := by omega
          have k4 : ¬ d < e := by omega
          have k5 : a < s := by omega
          have hr1 := hr
          have hk1 := hk
          have k6 : d ≤ e ∧ e ≤ d := by omega
          have hfg : rotf f s m e = f := by rw [k2, rotf_left]
          obtain ⟨g, hg⟩ : ∃ g, rotf f s m e = g := ⟨_, rfl⟩
          rw [hg] at hfg m1 m2 m3 m4
          replace hg := Lib.hid hg
          subst hfg
          clear hr hk
          replace k2 := Lib.hid k2
          replace hq3 := Lib.hid hq3
          rcases Nat.lt_or_ge s d with k3 | k3
          · go_wp2_with fail
            refine (ih.out _ g a s d (by omega) hr1.out k5 k3 (by omega) m1.out m2.out).mono ?_
            rintro e2 w2 ⟨rfl, u, hr2, hk2, re1, st1⟩
            replace hk2 := hk1.out.trans hk2
            have fin := asm.out g hg.out u re1 st1
            have m3' : Srt u d e := m3.out.congr fun x hx _ => re1.out (.inr hx)
            have m4' : Srt u e b := m4.out.congr fun x hx _ => re1.out (.inr (by omega))
            replace fin := Lib.hid fin
            replace m3' := Lib.hid m3'
            replace m4' := Lib.hid m4'
            replace hr2 := Lib.hid hr2
            replace hk2 := Lib.hid hk2
            clear re1 st1
            have st2 : Srt u d b := by rw [show d = e by omega]; exact m4'.out
            replace st2 := Lib.hid st2
            go_wp2_with fail
            go_end0
            exact ⟨rfl, u, hr2.out, hk2.out, fin.out u (Re.refl _ _ _) st2.out⟩
          · have hr2 := hr1
            have hk2 := hk1
            have fin := asm.out g hg.out g (Re.refl _ _ _) (by rw [show d = s by omega]; exact m1.out)
            have m3' : Srt g d e := m3.out
            have m4' : Srt g e b := m4.out
            replace fin := Lib.hid fin
            replace m3' := Lib.hid m3'
            replace m4' := Lib.hid m4'
            have st2 : Srt g d b := by rw [show d = e by omega]; exact m4'.out
            replace st2 := Lib.hid st2
            go_wp2_with fail
            go_end0
            exact ⟨rfl, g, hr2.out, hk2.out, fin.out g (Re.refl _ _ _) st2.out⟩

theorem symMerge_any {P : Option Addr} {B n c : Nat} (hn : n ≤ 100000) (hc : n ≤ c) : ∀ (N : Nat) (w : World) (f : Sq) (a m b : Nat), b - a < N → RowS w P B n f → a < m → m < b → b ≤ n → Srt f a m → Srt f m b →
    Calls Try.prog 77 #[.slice P n c, .int .i64 (a : Nat), .int .i64 (m : Nat), .int .i64 (b : Nat), cmpF] w (Merged w P B n a b f)
  | 0, w, f, a, m, b, h, _, _, _, _, _, _ => by omega
  | N + 1, w, f, a, m, b, hN, hr, h1, h2, h3, s1, s2 => by
    by_cases c1 : m = a + 1
    · exact symMerge_first hr c1 h2 h3 hn hc s2
    · by_cases c2 : b = m + 1
      · exact symMerge_last hr (by omega) c2 h3 hn hc s1
      · exact symMerge_gen hr (by omega) (by omega) h3 hn hc s1 s2 fun w f a' m' b' hlt hr' k1 k2 k3 k4 k5 => symMerge_any hn hc N w f a' m' b' (by omega) hr' k1 k2 k3 k4 k5
end Go.Proofs.Ytjldpodehffbnaa
