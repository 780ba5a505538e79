/- The law's model: escape at the end of the text. -/
import Derived.Test.YtmchiibbodllaaaGreatDoorMd
namespace Go.Proofs.YtmchiibbodllaaaGreatDoor
set_option linter.unusedVariables false
set_option linter.unnecessarySimpa false
set_option linter.unusedSimpArgs false
open Go.RowKit

section
variable {w : World} {b p : Nat} {s : ByteArray} {lv : Value} {tb : Int}
set_option maxRecDepth 20000 in set_option maxHeartbeats 16000000 in
theorem escape_z (h : Bx w b (mC s (p : Int) lv 0 tb)) (hs : s.size ≤ 100000) (hp : p < s.size) (hlt : ¬ p + 1 < s.size) :
    Calls Tryz.prog 114 #[.pointer (some ⟨b, 0, none⟩)] w (RetEs w b s p lv tb (esc (s.data.toList.drop p))) := by
  have hd0 : nth s.data.toList (p + 1) = 0 := nth_end (by show s.size ≤ p + 1; omega)
  have hX : esc (s.data.toList.drop p) = .bad 13 := by
    have := esc_model (s.data.toList.drop p) (by rw [nth_drop, hd0]; rfl)
    rw [this, nth_drop, hd0, if_pos (.inl (by decide))]
  rw [hX]
  clear hX
  have FL := Lib.hid (fun (wx : World) (i k e : Int) (hb : Bx wx b (mC s i lv 0 tb)) => fail_m hb k e)
  have HH := Lib.hid (fun (wx : World) (i e : Int) (a : Int) (k : Nat) (ha : a = (k : Int)) (hk : k ≤ 1000000) (hb : Bx wx b (mC s i lv e tb)) => here_a hb hs a k ha hk)
  have hx1 : IntKind.i64.wrap ((p : Int) + 1) = (p : Int) + 1 := IntWalk.i64_in _ (by omega)
  have hx2 : IntKind.i64.wrap ((p : Int) + 2) = (p : Int) + 2 := IntWalk.i64_in _ (by omega)
  have hx3 : IntKind.i64.wrap ((p : Int) + 3) = (p : Int) + 3 := IntWalk.i64_in _ (by omega)
  have hx9 : IntKind.i64.wrap ((p : Int) + 9) = (p : Int) + 9 := IntWalk.i64_in _ (by omega)
  have hlt1 : ¬ (p : Int) + 1 < (s.size : Int) := by omega
  have hlt3 : ¬ (p : Int) + 3 < (s.size : Int) := by omega
  have HD := Lib.hid hd0
  have HB := Lib.hid h
  have HC := Lib.hid (Chg.refl b b w)
  clear h hd0
  (obtain ⟨c0, c1, c2, c3, c4⟩ := HB.out.c5; obtain ⟨f0, f1, f2, f3, f4⟩ := HB.out.f5; have lt := HB.out.lt)
  go_enter Tryz.func114, Tryz.ntmps114
  go_wp2_with fail
  refine wp_loop_rounds 6 ?_
  rw [rounds_succ]
  go_wp2_with fail
  refine wp_region_ord [(0, 1), (1, 1), (2, 1), (3, 1), (4, 1), (5, 1), (6, 1), (7, 1), (8, 1), (9, 1), (10, 1), (11, 1), (12, 1), (13, 1), (14, 1), (15, 1), (16, 1), (17, 1), (18, 1), (19, 1), (20, 1)] [] 5 (by kernel_rfl) (by decide +kernel) ?_
  simp only [pickO, List.append_eq, List.cons_append, List.nil_append, List.getElem?_cons_succ, List.getElem?_cons_zero]
  intro w0 hG
  (repeat ((first | (with_reducible refine ord_q1 ?_) | (with_reducible refine ord_q0 ?_)); intro K hK; first | (refine Or.inr ⟨?_, ?_⟩; (focus (go_simp; first | done | (simp [undef]; done))); go_simp; (with_reducible refine hK _ ?_); clear hK K) | (refine Or.inl ⟨?_, ?_⟩; (focus (go_simp; done)); apply Exists.intro; refine And.intro ?_ ?_; (focus (first | (intro wq hq; obtain ⟨hcq, hfq⟩ := G.old hq; go_simp; (first | done | exact rfl); done) | (intro wq; go_simp; (first | done | exact rfl); done))); go_simp; (with_reducible refine hK _ ?_); clear hK K) | fail))
  (with_reducible refine ord_nil ?_)
  have hbx := hG.b; replace HB := Lib.hid (HB.out.grow hbx); replace HC := Lib.hid (HC.out.grow hbx); clear hG hbx; clear c0 c1 c2 c3 c4 f0 f1 f2 f3 f4 lt; (obtain ⟨c0, c1, c2, c3, c4⟩ := HB.out.c5; obtain ⟨f0, f1, f2, f3, f4⟩ := HB.out.f5; have lt := HB.out.lt)
  go_wp2_with fail
  rw [rounds_succ]
  go_wp2_with fail
  refine wp_region_ord [(0, 1), (1, 1), (2, 1), (3, 1), (4, 1), (5, 1), (6, 1), (7, 1), (8, 1), (9, 1), (10, 1), (11, 1), (12, 1), (13, 1), (14, 1), (15, 1), (16, 1), (17, 1), (18, 1), (19, 1), (20, 1)] [] 5 (by kernel_rfl) (by decide +kernel) ?_
  simp only [pickO, List.append_eq, List.cons_append, List.nil_append, List.getElem?_cons_succ, List.getElem?_cons_zero]
  intro w0 hG
  (repeat ((first | (with_reducible refine ord_q1 ?_) | (with_reducible refine ord_q0 ?_)); intro K hK; first | (refine Or.inr ⟨?_, ?_⟩; (focus (go_simp; first | done | (simp [undef]; done))); go_simp; (with_reducible refine hK _ ?_); clear hK K) | (refine Or.inl ⟨?_, ?_⟩; (focus (go_simp; done)); apply Exists.intro; refine And.intro ?_ ?_; (focus (first | (intro wq hq; obtain ⟨hcq, hfq⟩ := G.old hq; go_simp; (first | done | exact rfl); done) | (intro wq; go_simp; (first | done | exact rfl); done))); go_simp; (with_reducible refine hK _ ?_); clear hK K) | fail))
  (with_reducible refine ord_nil ?_)
  have hbx := hG.b; replace HB := Lib.hid (HB.out.grow hbx); replace HC := Lib.hid (HC.out.grow hbx); clear hG hbx; clear c0 c1 c2 c3 c4 f0 f1 f2 f3 f4 lt; (obtain ⟨c0, c1, c2, c3, c4⟩ := HB.out.c5; obtain ⟨f0, f1, f2, f3, f4⟩ := HB.out.f5; have lt := HB.out.lt)
  go_wp2_with fail
  rw [rounds_succ]
  go_wp2_with fail
  refine wp_region_ord [(0, 1), (1, 1), (2, 1), (3, 1), (4, 1), (5, 1), (6, 1), (7, 1), (8, 1), (9, 1), (10, 1), (11, 1), (12, 1), (13, 1), (14, 1), (15, 1), (16, 1), (17, 1), (18, 1), (19, 1), (20, 1)] [] 5 (by kernel_rfl) (by decide +kernel) ?_
  simp only [pickO, List.append_eq, List.cons_append, List.nil_append, List.getElem?_cons_succ, List.getElem?_cons_zero]
  intro w0 hG
  (repeat ((first | (with_reducible refine ord_q1 ?_) | (with_reducible refine ord_q0 ?_)); intro K hK; first | (refine Or.inr ⟨?_, ?_⟩; (focus (go_simp; first | done | (simp [undef]; done))); go_simp; (with_reducible refine hK _ ?_); clear hK K) | (refine Or.inl ⟨?_, ?_⟩; (focus (go_simp; done)); apply Exists.intro; refine And.intro ?_ ?_; (focus (first | (intro wq hq; obtain ⟨hcq, hfq⟩ := G.old hq; go_simp; (first | done | exact rfl); done) | (intro wq; go_simp; (first | done | exact rfl); done))); go_simp; (with_reducible refine hK _ ?_); clear hK K) | fail))
  (with_reducible refine ord_nil ?_)
  have hbx := hG.b; replace HB := Lib.hid (HB.out.grow hbx); replace HC := Lib.hid (HC.out.grow hbx); clear hG hbx; clear c0 c1 c2 c3 c4 f0 f1 f2 f3 f4 lt; (obtain ⟨c0, c1, c2, c3, c4⟩ := HB.out.c5; obtain ⟨f0, f1, f2, f3, f4⟩ := HB.out.f5; have lt := HB.out.lt)
  go_wp2_with fail
  rw [rounds_succ]
  go_wp2_with fail
  refine wp_region_ord [(0, 1), (1, 1), (2, 1), (3, 1), (4, 1), (5, 1), (6, 1), (7, 1), (8, 1), (9, 1), (10, 1), (11, 1), (12, 1), (13, 1), (14, 1), (15, 1), (16, 1), (17, 1), (18, 1), (19, 1), (20, 1)] [] 5 (by kernel_rfl) (by decide +kernel) ?_
  simp only [pickO, List.append_eq, List.cons_append, List.nil_append, List.getElem?_cons_succ, List.getElem?_cons_zero]
  intro w0 hG
  (repeat ((first | (with_reducible refine ord_q1 ?_) | (with_reducible refine ord_q0 ?_)); intro K hK; first | (refine Or.inr ⟨?_, ?_⟩; (focus (go_simp; first | done | (simp [undef]; done))); go_simp; (with_reducible refine hK _ ?_); clear hK K) | (refine Or.inl ⟨?_, ?_⟩; (focus (go_simp; done)); apply Exists.intro; refine And.intro ?_ ?_; (focus (first | (intro wq hq; obtain ⟨hcq, hfq⟩ := G.old hq; go_simp; (first | done | exact rfl); done) | (intro wq; go_simp; (first | done | exact rfl); done))); go_simp; (with_reducible refine hK _ ?_); clear hK K) | fail))
  (with_reducible refine ord_nil ?_)
  have hbx := hG.b; replace HB := Lib.hid (HB.out.grow hbx); replace HC := Lib.hid (HC.out.grow hbx); clear hG hbx; clear c0 c1 c2 c3 c4 f0 f1 f2 f3 f4 lt; (obtain ⟨c0, c1, c2, c3, c4⟩ := HB.out.c5; obtain ⟨f0, f1, f2, f3, f4⟩ := HB.out.f5; have lt := HB.out.lt)
  go_wp2_with fail
  rw [rounds_succ]
  go_wp2_with fail
  refine wp_region_ord [(0, 1), (1, 1), (2, 1), (3, 1), (4, 1), (5, 1), (6, 1), (7, 1), (8, 1), (9, 1), (10, 1), (11, 1), (12, 1), (13, 1), (14, 1), (15, 1), (16, 1), (17, 1), (18, 1), (19, 1), (20, 1)] [] 5 (by kernel_rfl) (by decide +kernel) ?_
  simp only [pickO, List.append_eq, List.cons_append, List.nil_append, List.getElem?_cons_succ, List.getElem?_cons_zero]
  intro w0 hG
  (repeat ((first | (with_reducible refine ord_q1 ?_) | (with_reducible refine ord_q0 ?_)); intro K hK; first | (refine Or.inr ⟨?_, ?_⟩; (focus (go_simp; first | done | (simp [undef]; done))); go_simp; (with_reducible refine hK _ ?_); clear hK K) | (refine Or.inl ⟨?_, ?_⟩; (focus (go_simp; done)); apply Exists.intro; refine And.intro ?_ ?_; (focus (first | (intro wq hq; obtain ⟨hcq, hfq⟩ := G.old hq; go_simp; (first | done | exact rfl); done) | (intro wq; go_simp; (first | done | exact rfl); done))); go_simp; (with_reducible refine hK _ ?_); clear hK K) | fail))
  (with_reducible refine ord_nil ?_)
  have hbx := hG.b; replace HB := Lib.hid (HB.out.grow hbx); replace HC := Lib.hid (HC.out.grow hbx); clear hG hbx; clear c0 c1 c2 c3 c4 f0 f1 f2 f3 f4 lt; (obtain ⟨c0, c1, c2, c3, c4⟩ := HB.out.c5; obtain ⟨f0, f1, f2, f3, f4⟩ := HB.out.f5; have lt := HB.out.lt)
  go_wp2_with fail
  rw [rounds_succ]
  go_wp2_with fail
  refine wp_loop_rounds 1 ?_
  rw [rounds_succ]
  go_wp2_with fail
  go_at_call 86
  (with_reducible refine (HH.out _ _ _ _ (p + 1) (by omega) (by omega) HB.out).mono ?_)
  rw [HD.out]
  rintro e1 w6 ⟨rfl, rfl⟩
  go_wp2_with fail
  go_at_call 55
  (with_reducible refine (FL.out _ _ _ _ HB.out).mono ?_)
  rintro e1 w7 ⟨rfl, hb7, hc7⟩
  go_wp2_with fail
  go_ret
  exact RetEs.bad' rfl (HC.out.trans hc7) hb7
end
end Go.Proofs.YtmchiibbodllaaaGreatDoor
