/- slices.symMergeCmpFunc: two parts of a row that are in order become one. -/
import Derived.Test.YtjldpodehffbnaaSo3
namespace Go.Proofs.Ytjldpodehffbnaa
set_option linter.unusedVariables false
set_option linter.unnecessarySimpa false
set_option linter.unusedSimpArgs false
open Go.RowKit

/-- What the merge of [a, m) and [m, b) leaves. -/
def Merged (w : World) (P : Option Addr) (B n a b : Nat) (f : Sq) (e : Ending) (w' : World) : Prop := e = .returned (.tuple #[]) ∧ ∃ g, RowS w' P B n g ∧ Kp B w w' ∧ Re a b f g ∧ Srt g a b
set_option maxRecDepth 20000 in set_option maxHeartbeats 1000000 in
theorem symMerge_first {w : World} {P : Option Addr} {B n c : Nat} {f : Sq} {a m b : Nat} (h : RowS w P B n f) (ham : m = a + 1) (hmb : m < b) (hb : b ≤ n) (hn : n ≤ 100000) (hc : n ≤ c) (hs : Srt f m b) :
    Calls Try.prog 77 #[.slice P n c, .int .i64 (a : Nat), .int .i64 (m : Nat), .int .i64 (b : Nat), cmpF] w (Merged w P B n a b f) := by
  have f1 : IntKind.i64.wrap ((m : Int) - (a : Int)) = 1 := by rw [IntWalk.i64_in _ (by omega)]; omega
  have hma : a < m := by omega
  have hs' : Srt f (a + 1) b := by rw [← ham]; exact hs
  replace ham := Lib.hid ham
  replace h := Lib.hid h
  replace hs := Lib.hid hs'
  clear hs'
  go_enter Try.func77, Try.ntmps77
  go_wp2_with fail
  go_loopw [10, 11] (fun iv jv wr => ∃ i j : Nat, iv = .int .i64 i ∧ jv = .int .i64 j ∧ Fst f a b i j ∧ Below w.heap.size w wr) (fun iv jv _ => (intOf jv).toNat - (intOf iv).toNat)
  case atStart => exact ⟨m, b, rfl, rfl, by rw [ham.out]; exact Fst.start f (by omega), Below.refl _ _⟩
  case round =>
    obtain ⟨i, j, rfl, rfl, hF, hbr⟩ := hrel
    clear f1
    have i1 := hF.i1
    have i2 := hF.i2
    have i3 := hF.i3
    replace hF := Lib.hid hF
    replace hbr := Lib.hid hbr
    by_cases hij : i < j
    · have f2 : IntKind.i64.wrap ((i : Int) + (j : Int)) = ((i + j : Nat) : Int) := by rw [IntWalk.i64_in _ (by omega)]; omega
      obtain ⟨s, hsum⟩ : ∃ s, i + j = s := ⟨_, rfl⟩
      rw [hsum] at f2
      obtain ⟨d, hd⟩ : ∃ d, s / 2 = d := ⟨_, rfl⟩
      have f3 : (s : Int) / 2 = (d : Int) := by omega
      have hdi : i ≤ d ∧ d < j := by omega
      have f4 : IntKind.i64.wrap ((d : Int) + 1) = ((d + 1 : Nat) : Int) := by rw [IntWalk.i64_in _ (by omega)]; omega
      obtain ⟨v, hv⟩ : ∃ v, cmpX (f d) (f a) = v := ⟨_, rfl⟩
      obtain rfl := h.out.at_ (by omega)
      have hr := h.out.grow hbr.out
      have hdn : d < n := by omega
      have han : a < n := by omega
      obtain ⟨x0, x1, x2, x3⟩ := hr.one hdn
      obtain ⟨y0, y1, y2, y3⟩ := hr.one han
      have hBl := hr.lt (by omega)
      have ex := Lib.hid (hr.el d hdn)
      have ey := Lib.hid (hr.el a han)
      replace hv := Lib.hid hv
      replace hd := Lib.hid hd
      replace hsum := Lib.hid hsum
      clear hr
      by_cases hvl : v < 0
      · go_wp2_with fail
        refine wp_region_ord [(0, 1), (1, 1), (2, 1), (3, 1), (4, 1), (5, 1), (6, 1), (7, 1), (8, 1), (9, 2), (10, 1)] [] 5 (by kernel_rfl) (by decide +kernel) ?_
        simp only [pickO, List.append_eq, List.cons_append, List.nil_append, List.getElem?_cons_succ, List.getElem?_cons_zero]
        intro w0 hG
        (repeat ((first | (with_reducible refine ord_q1 ?_) | (with_reducible refine ord_q0 ?_)); intro K hK; first | (refine Or.inr ⟨?_, ?_⟩; (focus (go_simp; first | done | (simp [undef]; done))); go_simp; (with_reducible refine hK _ ?_); clear hK K) | (refine Or.inl ⟨?_, ?_⟩; (focus (go_simp; done)); apply Exists.intro; refine And.intro ?_ ?_; (focus (first | (intro wq hq; obtain ⟨hcq, hfq⟩ := G.old hq; go_simp; (first | done | exact rfl); done) | (intro wq; go_simp; (first | done | exact rfl); done))); go_simp; (with_reducible refine hK _ ?_); clear hK K) | fail))
        (with_reducible refine ord_run ?_ hG)
        intro K hK
        go_simp
        go_at_call 65; (with_reducible refine (cmpF_any (f d) (f a) (ex.out.keep (Kp.of_below hG.b)) (ey.out.keep (Kp.of_below hG.b))).mono ?_); rintro e' w5 ⟨rfl, hb5⟩; rw [hv.out]
        replace hG := Grew.trans hG hb5
        (try dsimp only)
        (with_reducible refine hK _ _ hG ?_)
        clear hK K
        (repeat ((first | (with_reducible refine ord_q1 ?_) | (with_reducible refine ord_q0 ?_)); intro K hK; first | (refine Or.inr ⟨?_, ?_⟩; (focus (go_simp; first | done | (simp [undef]; done))); go_simp; (with_reducible refine hK _ ?_); clear hK K) | (refine Or.inl ⟨?_, ?_⟩; (focus (go_simp; done)); apply Exists.intro; refine And.intro ?_ ?_; (focus (first | (intro wq hq; obtain ⟨hcq, hfq⟩ := G.old hq; go_simp; (first | done | exact rfl); done) | (intro wq; go_simp; (first | done | exact rfl); done))); go_simp; (with_reducible refine hK _ ?_); clear hK K) | fail))
        (with_reducible refine ord_nil ?_)
        have hg := hG.b
        go_wp2_with fail
        go_roundw
        case rel => exact ⟨d + 1, j, by go_num, rfl, hF.out.high hs.out hdi (by rw [hv.out]; exact hvl), G.trans hbr.out hg⟩
        case measure => simp [intOf]; omega
      · go_wp2_with fail
        refine wp_region_ord [(0, 1), (1, 1), (2, 1), (3, 1), (4, 1), (5, 1), (6, 1), (7, 1), (8, 1), (9, 2), (10, 1)] [] 5 (by kernel_rfl) (by decide +kernel) ?_
        simp only [pickO, List.append_eq, List.cons_append, List.nil_append, List.getElem?_cons_succ, List.getElem?_cons_zero]
        intro w0 hG
        (repeat ((first | (with_reducible refine ord_q1 ?_) | (with_reducible refine ord_q0 ?_)); intro K hK; first | (refine Or.inr ⟨?_, ?_⟩; (focus (go_simp; first | done | (simp [undef]; done))); go_simp; (with_reducible refine hK _ ?_); clear hK K) | (refine Or.inl ⟨?_, ?_⟩; (focus (go_simp; done)); apply Exists.intro; refine And.intro ?_ ?_; (focus (first | (intro wq hq; obtain ⟨hcq, hfq⟩ := G.old hq; go_simp; (first | done | exact rfl); done) | (intro wq; go_simp; (first | done | exact rfl); done))); go_simp; (with_reducible refine hK _ ?_); clear hK K) | fail))
        (with_reducible refine ord_run ?_ hG)
        intro K hK
        go_simp
        go_at_call 65; (with_reducible refine (cmpF_any (f d) (f a) (ex.out.keep (Kp.of_below hG.b)) (ey.out.keep (Kp.of_below hG.b))).mono ?_); rintro e' w5 ⟨rfl, hb5⟩; rw [hv.out]
        replace hG := Grew.trans hG hb5
        (try dsimp only)
        (with_reducible refine hK _ _ hG ?_)
        clear hK K
        (repeat ((first | (with_reducible refine ord_q1 ?_) | (with_reducible refine ord_q0 ?_)); intro K hK; first | (refine Or.inr ⟨?_, ?_⟩; (focus (go_simp; first | done | (simp [undef]; done))); go_simp; (with_reducible refine hK _ ?_); clear hK K) | (refine Or.inl ⟨?_, ?_⟩; (focus (go_simp; done)); apply Exists.intro; refine And.intro ?_ ?_; (focus (first | (intro wq hq; obtain ⟨hcq, hfq⟩ := G.old hq; go_simp; (first | done | exact rfl); done) | (intro wq; go_simp; (first | done | exact rfl); done))); go_simp; (with_reducible refine hK _ ?_); clear hK K) | fail))
        (with_reducible refine ord_nil ?_)
        have hg := hG.b
        go_wp2_with fail
        go_roundw
        case rel => exact ⟨i, d, rfl, rfl, hF.out.down hs.out hdi (by rw [hv.out]; omega), G.trans hbr.out hg⟩
        case measure => simp [intOf]; omega
    · obtain rfl : i = j := by omega
      have hfin := Lib.hid (hF.out.stop hs.out)
      have hr := h.out.grow hbr.out
      have hk := Kp.of_below (B := B) hbr.out
      have f5 : IntKind.i64.wrap ((i : Int) - 1) = ((i - 1 : Nat) : Int) := by rw [IntWalk.i64_in _ (by omega)]; omega
      obtain ⟨l, hl⟩ : ∃ l, i - 1 = l := ⟨_, rfl⟩
      rw [hl] at f5
      have hla : a ≤ l := by omega
      have hli : i = l + 1 := by omega
      have hln : l < n := by omega
      replace hli := Lib.hid hli
      replace hr := Lib.hid hr
      replace hk := Lib.hid hk
      replace hl := Lib.hid hl
      clear h hs hF hbr
      go_wp2_with fail
      go_loopw [13] (fun kv wr => ∃ (k : Nat), a ≤ k ∧ k ≤ l ∧ kv = .int .i64 k ∧ RowS wr P B n (rotf f a (a + 1) (k + 1)) ∧ Kp B w wr) (fun kv _ => l - (intOf kv).toNat)
      case atStart => exact ⟨a, Nat.le_refl _, hla, rfl, by rw [rotf_right (by omega)]; exact hr.out, hk.out⟩
      case round =>
        clear hr hk
        obtain ⟨k, hak, hkl, rfl, hr, hk⟩ := hrel
        by_cases hlt : k < l
        · obtain rfl := hr.at_ (by omega)
          have f6 : IntKind.i64.wrap ((k : Int) + 1) = ((k + 1 : Nat) : Int) := by rw [IntWalk.i64_in _ (by omega)]; omega
          obtain ⟨K1, hK1⟩ : ∃ K1, k + 1 = K1 := ⟨_, rfl⟩
          obtain ⟨F, hF⟩ : ∃ F, rotf f a (a + 1) (k + 1) = F := ⟨_, rfl⟩
          rw [hF] at hr
          rw [hK1] at f6
          have hkn : k < n := by have := hli.out; omega
          have hKn : K1 < n := by have := hli.out; omega
          have hIJ : k ≠ K1 := by omega
          obtain ⟨x0, x1, x2, x3⟩ := hr.one hkn
          obtain ⟨y0, y1, y2, y3⟩ := hr.one hKn
          have hBl := hr.lt (by omega)
          have hrot : Hid (rotf f a (a + 1) (K1 + 1) = swp F k K1) := by unfold Hid; rw [← hF, ← hK1, rot_up hak]
          replace hr := Lib.hid hr
          replace hk := Lib.hid hk
          replace hF := Lib.hid hF
          replace hK1 := Lib.hid hK1
          go_wp2_with fail
          refine wp_region_ord [(0, 1), (1, 1), (2, 0), (3, 0), (4, 0), (5, 1), (6, 1), (7, 1), (8, 1), (9, 1), (10, 1), (11, 1), (12, 1), (13, 1), (14, 1), (15, 3), (16, 0), (17, 3)] [15, 17] 5 (by kernel_rfl) (by decide +kernel) ?_
          simp only [pickO, List.append_eq, List.cons_append, List.nil_append, List.getElem?_cons_succ, List.getElem?_cons_zero]
          intro w0 hG
          (repeat ((first | (with_reducible refine ord_q1 ?_) | (with_reducible refine ord_q0 ?_)); intro K hK; first | (refine Or.inr ⟨?_, ?_⟩; (focus (go_simp; first | done | (simp [undef]; done))); go_simp; (with_reducible refine hK _ ?_); clear hK K) | (refine Or.inl ⟨?_, ?_⟩; (focus (go_simp; done)); apply Exists.intro; refine And.intro ?_ ?_; (focus (first | (intro wq hq; obtain ⟨hcq, hfq⟩ := G.old hq; go_simp; (first | done | exact rfl); done) | (intro wq; go_simp; (first | done | exact rfl); done))); go_simp; (with_reducible refine hK _ ?_); clear hK K) | fail))
          have hg := hG.b
          replace hr := hr.out.grow hg
          replace hk := hk.out.trans (Kp.of_below hg)
          obtain ⟨x0, x1, x2, x3⟩ := hr.one hkn
          obtain ⟨y0, y1, y2, y3⟩ := hr.one hKn
          have hBl := hr.lt (by omega)
          have hs := Lib.hid (hr.swap hkn hKn)
          have hkk := Lib.hid (hk.trans (kp_swap B w0 (k * 2) (K1 * 2) (.int .i64 (F K1).e) (.slice (F K1).A (F K1).m (F K1).c) (.int .i64 (F k).e) (.slice (F k).A (F k).m (F k).c)))
          clear hr hk
          clear hG hg
          ((with_reducible refine ord_tail ?_); intro K hK; go_simp; (with_reducible refine hK _ _ ?_); clear hK K)
          (repeat ((first | (with_reducible refine ord_q1 ?_) | (with_reducible refine ord_q0 ?_)); intro K hK; first | (refine Or.inr ⟨?_, ?_⟩; (focus (go_simp; first | done | (simp [undef]; done))); go_simp; (with_reducible refine hK _ ?_); clear hK K) | (refine Or.inl ⟨?_, ?_⟩; (focus (go_simp; done)); apply Exists.intro; refine And.intro ?_ ?_; (focus (first | (intro wq hq; obtain ⟨hcq, hfq⟩ := G.old hq; go_simp; (first | done | exact rfl); done) | (intro wq; go_simp; (first | done | exact rfl); done))); go_simp; (with_reducible refine hK _ ?_); clear hK K) | fail))
          ((with_reducible refine ord_tail ?_); intro K hK; go_simp; (with_reducible refine hK _ _ ?_); clear hK K)
          (with_reducible refine ord_nil ?_)
          go_wp2_with fail
          go_roundw
          case rel => exact ⟨K1, by have := hK1.out; omega, by have := hK1.out; omega, rfl, by rw [hrot.out]; exact hs.out, hkk.out⟩
          case measure => have := hK1.out; simp [intOf]; omega
        · obtain rfl : k = l := by omega
          go_wp2_with fail
          go_end0
          rw [← hli.out] at hr
          exact ⟨rfl, _, hr, hk, (rotf_re (by omega) (by have := hli.out; omega)).wide (Nat.le_refl _) i3, hfin.out⟩
end Go.Proofs.Ytjldpodehffbnaa
