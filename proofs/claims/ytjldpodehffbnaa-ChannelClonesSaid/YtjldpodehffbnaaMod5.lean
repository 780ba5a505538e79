/- The model's is: true of a channel in the same state. -/
import Derived.Test.YtjldpodehffbnaaMod4
import Derived.Test.YtjldpodehffbnaaCLaw3
namespace Go.Proofs.Ytjldpodehffbnaa
set_option linter.unusedVariables false
set_option linter.unnecessarySimpa false
set_option linter.unusedSimpArgs false
open Go.RowKit

/-- The j-th item of the model: its cells. -/
theorem ModR.item {ok : Nat → Prop} {base : Nat} {w : World} {mb : Nat} {c : Ch} {A : Option Addr} (h : ModR ok base w mb c A) {j : Nat} {it : It} (hj : c.items[j]? = some it) :
    ∃ g off z0 A5 n5 c5' z1 A6 n6 c6' z2 z3 z4 z5 A7 n7 c7' A8 n8 c8' A9 n9 c9', A = some ⟨g, off, none⟩ ∧ g < w.heap.size ∧
      ItemV (OkM ok A) w [.int .i64 z0, .slice A5 n5 c5', .int .i64 z1, .slice A6 n6 c6', .int .i64 z2, .int .i64 z3, .int .i64 z4, .string z5, .slice A7 n7 c7', .slice A8 n8 c8', .slice A9 n9 c9'] it ∧
      ∀ i u, [Value.int .i64 z0, .slice A5 n5 c5', .int .i64 z1, .slice A6 n6 c6', .int .i64 z2, .int .i64 z3, .int .i64 z4, .string z5, .slice A7 n7 c7', .slice A8 n8 c8', .slice A9 n9 c9'][i]? = some u → w.cell? ⟨g, off + j * 11 + i, none⟩ = some u := by
  obtain ⟨q, xs, P1, P2, n1, c1, n2, c2, h⟩ := h
  have hjl := (List.getElem?_eq_some_iff.1 hj).1
  obtain ⟨g, off, hA, hgl, hch⟩ := h.2.1.cells hjl (by decide)
  have hv := h.2.2.1 j it hj
  obtain ⟨z0, A5, n5, c5', z1, A6, n6, c6', z2, z3, z4, z5, A7, n7, c7', A8, n8, c8', A9, n9, c9', hce⟩ := item_cells hv
  rw [hce] at hv hch
  exact ⟨g, off, z0, A5, n5, c5', z1, A6, n6, c6', z2, z3, z4, z5, A7, n7, c7', A8, n8, c8', A9, n9, c9', hA, hgl, hv, hch⟩
/-- The struct's cells. -/
theorem ModR.box {ok : Nat → Prop} {base : Nat} {w : World} {mb : Nat} {c : Ch} {A : Option Addr} (h : ModR ok base w mb c A) :
    ∃ q P1 P2 n1 c1 n2 c2, Bx w mb [.int .i64 c.cap, .slice A c.items.length q, .int .i64 c.me, .slice P1 n1 c1, .int .i64 c.le, .slice P2 n2 c2] ∧ PathIs (OkM ok A) w P1 n1 c1 c.mp ∧ PathIs (OkM ok A) w P2 n2 c2 c.lp ∧ c.items.length ≤ q := by
  obtain ⟨q, xs, P1, P2, n1, c1, n2, c2, h⟩ := h
  exact ⟨q, P1, P2, n1, c1, n2, c2, h.1, h.2.2.2.1, h.2.2.2.2.1, h.2.1.1⟩
set_option maxRecDepth 20000 in set_option maxHeartbeats 2000000 in
theorem is_any {ok ok' : Nat → Prop} {base : Nat} {w : World} {mb b r : Nat} {c : Ch} {A : Option Addr} (hm : ModR ok' base w mb c A) (hc : ChanAt ok w b r c) :
    Calls Try.prog 36 #[.pointer (some ⟨mb, 0, none⟩), .pointer (some ⟨b, 0, none⟩)] w fun e w' => e = .returned (.bool true) ∧ Below w.heap.size w w' := by
  have HC := Lib.hid hc
  have HM := Lib.hid hm
  have hE : (cmpS c.me c.mp c.me c.mp == 0) = true := by simp [cmpS_zero]
  have hL : (cmpS (leE c) (leP c) (leE c) (leP c) == 0) = true := by simp [cmpS_zero]
  have hcap : c.items.length ≤ c.cap ∧ c.cap ≤ 1024 := by
    obtain ⟨_, _, _, _, _, _, _, _, h1⟩ := hc
    exact ⟨h1.2.2.2.2.2.2.1, h1.2.2.2.2.2.2.2.1⟩
  clear hm hc
  go_enter Try.func36, Try.ntmps36
  go_wp2_with fail
  refine (items_any (HC.out.grow (by repeat (first | with_reducible assumption | with_reducible exact G.refl _ | with_reducible refine G.drew ?_ | with_reducible refine G.drewN ?_ _ | with_reducible refine G.alloc ?_ _ | with_reducible refine Below.setCell ?_ (by first | (simp; done) | (simp; omega)) _ | with_reducible refine G.trans ?_ hb12 | with_reducible refine G.trans ?_ hb11 | with_reducible refine G.trans ?_ hb10 | with_reducible refine G.trans ?_ hb9 | with_reducible refine G.trans ?_ hb8 | with_reducible refine G.trans ?_ hb7 | with_reducible refine G.trans ?_ hb6 | with_reducible refine G.trans ?_ hb5 | with_reducible refine G.trans ?_ hb4 | with_reducible refine G.trans ?_ hb3 | with_reducible refine G.trans ?_ hb2 | with_reducible refine G.trans ?_ hb1 | with_reducible refine G.trans ?_ hb | assumption)))).mono ?_
  rintro e1 w1 ⟨A1, q1, xs1, rfl, hR1, hI1, hb1⟩
  have hbw1 : Below w.heap.size w w1 := G.trans (by repeat (first | with_reducible assumption | with_reducible exact G.refl _ | with_reducible refine G.drew ?_ | with_reducible refine G.drewN ?_ _ | with_reducible refine G.alloc ?_ _ | with_reducible refine Below.setCell ?_ (by first | (simp; done) | (simp; omega)) _ | with_reducible refine G.trans ?_ hb12 | with_reducible refine G.trans ?_ hb11 | with_reducible refine G.trans ?_ hb10 | with_reducible refine G.trans ?_ hb9 | with_reducible refine G.trans ?_ hb8 | with_reducible refine G.trans ?_ hb7 | with_reducible refine G.trans ?_ hb6 | with_reducible refine G.trans ?_ hb5 | with_reducible refine G.trans ?_ hb4 | with_reducible refine G.trans ?_ hb3 | with_reducible refine G.trans ?_ hb2 | with_reducible refine G.trans ?_ hb1 | with_reducible refine G.trans ?_ hb | assumption)) hb1
  replace hR1 := Lib.hid hR1
  replace hI1 := Lib.hid hI1
  go_wp2_with fail
  by_cases hn : c.items.length = 0
  · have hit : c.items = [] := List.eq_nil_of_length_eq_zero hn
    have hn' : ¬ (0 : Int) < (c.items.length : Int) := by omega
    refine (peek0_any (HC.out.grow hbw1) hit).mono ?_
    rintro e2 w2 ⟨rfl, hb2⟩
    have hbw2 := G.trans hbw1 hb2
    replace hit := Lib.hid hit
    clear hit
    go_wp2_with fail
    refine wp_name (fun wx => Below w.heap.size w wx) (by repeat (first | with_reducible assumption | with_reducible exact G.refl _ | with_reducible refine G.drew ?_ | with_reducible refine G.drewN ?_ _ | with_reducible refine G.alloc ?_ _ | with_reducible refine Below.setCell ?_ (by first | (simp; done) | (simp; omega)) _ | with_reducible refine G.trans ?_ hb12 | with_reducible refine G.trans ?_ hb11 | with_reducible refine G.trans ?_ hb10 | with_reducible refine G.trans ?_ hb9 | with_reducible refine G.trans ?_ hb8 | with_reducible refine G.trans ?_ hb7 | with_reducible refine G.trans ?_ hb6 | with_reducible refine G.trans ?_ hb5 | with_reducible refine G.trans ?_ hb4 | with_reducible refine G.trans ?_ hb3 | with_reducible refine G.trans ?_ hb2 | with_reducible refine G.trans ?_ hb1 | with_reducible refine G.trans ?_ hb | assumption)) ?_
    intro wS hbS
    obtain ⟨q, P1, P2, n1, c1, n2, c2, hbx, hp1, hp2, hlq⟩ := (HM.out.grow hbS).box
    have HP1 := Lib.hid hp1
    have k0 := (hbx.2 0 _ rfl).1
    have k1 := (hbx.2 1 _ rfl).1
    have k2 := (hbx.2 2 _ rfl).1
    have k3 := (hbx.2 3 _ rfl).1
    have ltb := hbx.lt
    have hwr : IntKind.i64.wrap (c.cap : Int) = (c.cap : Int) := IntWalk.i64_in _ (by omega)
    clear hp1 hp2 hb2 hbw2 hbw1 hb1
    refine wp_region_ord [(0, 1), (2, 1), (3, 1), (4, 1), (5, 1), (6, 1), (1, 2), (7, 1), (8, 1), (9, 1), (11, 1), (12, 1), (13, 1), (14, 1), (10, 2), (15, 1), (16, 1), (17, 1), (18, 1), (20, 1), (21, 1), (22, 1), (23, 1), (24, 1), (25, 1), (26, 1), (27, 1), (28, 1), (29, 1), (19, 2), (30, 1), (31, 1), (32, 1), (33, 1), (35, 1), (36, 1), (37, 1), (38, 1), (34, 2), (39, 2), (40, 1), (41, 1), (42, 1), (43, 1), (45, 1), (44, 2), (46, 2), (47, 2), (48, 1), (49, 1), (50, 1), (51, 1), (52, 1), (53, 1), (54, 1), (55, 1), (56, 1), (57, 1), (58, 1), (59, 1), (60, 1), (61, 1), (62, 1), (63, 1), (64, 1), (65, 1), (66, 1)] [] 5 (by kernel_rfl) (by decide +kernel) ?_
    simp only [pickO, List.append_eq, List.cons_append, List.nil_append, List.getElem?_cons_succ, List.getElem?_cons_zero]
    intro w0 hG
    (repeat ((first | (with_reducible refine ord_q1 ?_) | (with_reducible refine ord_q0 ?_)); intro K hK; first | (refine Or.inr ⟨?_, ?_⟩; (focus (go_simp; first | done | (simp [undef]; done))); go_simp; (with_reducible refine hK _ ?_); clear hK K) | (refine Or.inl ⟨?_, ?_⟩; (focus (go_simp; done)); apply Exists.intro; refine And.intro ?_ ?_; (focus (first | (intro wq hq; obtain ⟨hcq, hfq⟩ := G.old hq; go_simp; (first | done | exact rfl); done) | (intro wq; go_simp; (first | done | exact rfl); done))); go_simp; (with_reducible refine hK _ ?_); clear hK K) | fail))
    (with_reducible refine ord_run ?_ hG)
    intro K hK
    go_simp
    go_at_call 21; (with_reducible refine (len_any (HC.out.grow (G.trans hbS hG.b))).mono ?_); rintro e3 w3 ⟨rfl, hw3⟩; subst hw3; have hb3 := G.refl w3
    replace hG := Grew.trans hG hb3
    (try dsimp only)
    (with_reducible refine hK _ _ hG ?_)
    clear hK K
    (repeat ((first | (with_reducible refine ord_q1 ?_) | (with_reducible refine ord_q0 ?_)); intro K hK; first | (refine Or.inr ⟨?_, ?_⟩; (focus (go_simp; first | done | (simp [undef]; done))); go_simp; (with_reducible refine hK _ ?_); clear hK K) | (refine Or.inl ⟨?_, ?_⟩; (focus (go_simp; done)); apply Exists.intro; refine And.intro ?_ ?_; (focus (first | (intro wq hq; obtain ⟨hcq, hfq⟩ := G.old hq; go_simp; (first | done | exact rfl); done) | (intro wq; go_simp; (first | done | exact rfl); done))); go_simp; (with_reducible refine hK _ ?_); clear hK K) | fail))
    (with_reducible refine ord_run ?_ hG)
    intro K hK
    go_simp
    go_at_call 39; (with_reducible refine (capacity_any (HC.out.grow (G.trans hbS hG.b))).mono ?_); rintro e4 w4 ⟨rfl, hw4⟩; subst hw4; have hb4 := G.refl w4
    replace hG := Grew.trans hG hb4
    (try dsimp only)
    (with_reducible refine hK _ _ hG ?_)
    clear hK K
    (repeat ((first | (with_reducible refine ord_q1 ?_) | (with_reducible refine ord_q0 ?_)); intro K hK; first | (refine Or.inr ⟨?_, ?_⟩; (focus (go_simp; first | done | (simp [undef]; done))); go_simp; (with_reducible refine hK _ ?_); clear hK K) | (refine Or.inl ⟨?_, ?_⟩; (focus (go_simp; done)); apply Exists.intro; refine And.intro ?_ ?_; (focus (first | (intro wq hq; obtain ⟨hcq, hfq⟩ := G.old hq; go_simp; (first | done | exact rfl); done) | (intro wq; go_simp; (first | done | exact rfl); done))); go_simp; (with_reducible refine hK _ ?_); clear hK K) | fail))
    (with_reducible refine ord_run ?_ hG)
    intro K hK
    go_simp
    go_at_call 20; (with_reducible refine (room_any (HC.out.grow (G.trans hbS hG.b))).mono ?_); rintro e5 w5 ⟨rfl, hw5⟩; subst hw5; have hb5 := G.refl w5
    replace hG := Grew.trans hG hb5
    (try dsimp only)
    (with_reducible refine hK _ _ hG ?_)
    clear hK K
    (repeat ((first | (with_reducible refine ord_q1 ?_) | (with_reducible refine ord_q0 ?_)); intro K hK; first | (refine Or.inr ⟨?_, ?_⟩; (focus (go_simp; first | done | (simp [undef]; done))); go_simp; (with_reducible refine hK _ ?_); clear hK K) | (refine Or.inl ⟨?_, ?_⟩; (focus (go_simp; done)); apply Exists.intro; refine And.intro ?_ ?_; (focus (first | (intro wq hq; obtain ⟨hcq, hfq⟩ := G.old hq; go_simp; (first | done | exact rfl); done) | (intro wq; go_simp; (first | done | exact rfl); done))); go_simp; (with_reducible refine hK _ ?_); clear hK K) | fail))
    (with_reducible refine ord_run ?_ hG)
    intro K hK
    go_simp
    go_at_call 23; (with_reducible refine (mark_any (HC.out.grow (G.trans hbS hG.b))).mono ?_); rintro e6 w6 ⟨R6, s6, rfl, hp6, hb6⟩
    replace hG := Grew.trans hG hb6
    (try dsimp only)
    (with_reducible refine hK _ _ hG ?_)
    clear hK K
    (repeat ((first | (with_reducible refine ord_q1 ?_) | (with_reducible refine ord_q0 ?_)); intro K hK; first | (refine Or.inr ⟨?_, ?_⟩; (focus (go_simp; first | done | (simp [undef]; done))); go_simp; (with_reducible refine hK _ ?_); clear hK K) | (refine Or.inl ⟨?_, ?_⟩; (focus (go_simp; done)); apply Exists.intro; refine And.intro ?_ ?_; (focus (first | (intro wq hq; obtain ⟨hcq, hfq⟩ := G.old hq; go_simp; (first | done | exact rfl); done) | (intro wq; go_simp; (first | done | exact rfl); done))); go_simp; (with_reducible refine hK _ ?_); clear hK K) | fail))
    (with_reducible refine ord_run ?_ hG)
    intro K hK
    go_simp
    go_at_call 15; (with_reducible refine (equal_any c.me c.me R6 P1 c.mp.length n1 s6 c1 c.mp c.mp _ hp6.sl (HP1.out.sl.grow hG.b) hp6.max).mono ?_); rintro e7 w7 ⟨rfl, hb7⟩; rw [hE]
    replace hG := Grew.trans hG hb7
    (try dsimp only)
    (with_reducible refine hK _ _ hG ?_)
    clear hK K
    (repeat ((first | (with_reducible refine ord_q1 ?_) | (with_reducible refine ord_q0 ?_)); intro K hK; first | (refine Or.inr ⟨?_, ?_⟩; (focus (go_simp; first | done | (simp [undef]; done))); go_simp; (with_reducible refine hK _ ?_); clear hK K) | (refine Or.inl ⟨?_, ?_⟩; (focus (go_simp; done)); apply Exists.intro; refine And.intro ?_ ?_; (focus (first | (intro wq hq; obtain ⟨hcq, hfq⟩ := G.old hq; go_simp; (first | done | exact rfl); done) | (intro wq; go_simp; (first | done | exact rfl); done))); go_simp; (with_reducible refine hK _ ?_); clear hK K) | fail))
    (with_reducible refine ord_run ?_ hG)
    intro K hK
    go_simp
    go_at_call 41; (with_reducible refine (least_any (HC.out.grow (G.trans hbS hG.b))).mono ?_); rintro e8 w8 ⟨R8, s8, rfl, hp8, hb8⟩
    replace hG := Grew.trans hG hb8
    (try dsimp only)
    (with_reducible refine hK _ _ hG ?_)
    clear hK K
    (repeat ((first | (with_reducible refine ord_q1 ?_) | (with_reducible refine ord_q0 ?_)); intro K hK; first | (refine Or.inr ⟨?_, ?_⟩; (focus (go_simp; first | done | (simp [undef]; done))); go_simp; (with_reducible refine hK _ ?_); clear hK K) | (refine Or.inl ⟨?_, ?_⟩; (focus (go_simp; done)); apply Exists.intro; refine And.intro ?_ ?_; (focus (first | (intro wq hq; obtain ⟨hcq, hfq⟩ := G.old hq; go_simp; (first | done | exact rfl); done) | (intro wq; go_simp; (first | done | exact rfl); done))); go_simp; (with_reducible refine hK _ ?_); clear hK K) | fail))
    (with_reducible refine ord_run ?_ hG)
    intro K hK
    go_simp
    go_at_call 32; (with_reducible refine (mleast_any ((HM.out.grow (G.trans hbS hG.b)).at_)).mono ?_); rintro e9 w9 ⟨R9, m9, s9, rfl, hp9, hb9⟩
    replace hG := Grew.trans hG hb9
    (try dsimp only)
    (with_reducible refine hK _ _ hG ?_)
    clear hK K
    (repeat ((first | (with_reducible refine ord_q1 ?_) | (with_reducible refine ord_q0 ?_)); intro K hK; first | (refine Or.inr ⟨?_, ?_⟩; (focus (go_simp; first | done | (simp [undef]; done))); go_simp; (with_reducible refine hK _ ?_); clear hK K) | (refine Or.inl ⟨?_, ?_⟩; (focus (go_simp; done)); apply Exists.intro; refine And.intro ?_ ?_; (focus (first | (intro wq hq; obtain ⟨hcq, hfq⟩ := G.old hq; go_simp; (first | done | exact rfl); done) | (intro wq; go_simp; (first | done | exact rfl); done))); go_simp; (with_reducible refine hK _ ?_); clear hK K) | fail))
    (with_reducible refine ord_run ?_ hG)
    intro K hK
    go_simp
    go_at_call 15; (with_reducible refine (equal_any (leE c) (leE c) R8 R9 (leP c).length m9 s8 s9 (leP c) (leP c) _ (hp8.sl.grow hb9) hp9.sl hp8.max).mono ?_); rintro e10 w10 ⟨rfl, hb10⟩; rw [hL]
    replace hG := Grew.trans hG hb10
    (try dsimp only)
    (with_reducible refine hK _ _ hG ?_)
    clear hK K
    (repeat ((first | (with_reducible refine ord_q1 ?_) | (with_reducible refine ord_q0 ?_)); intro K hK; first | (refine Or.inr ⟨?_, ?_⟩; (focus (go_simp; first | done | (simp [undef]; done))); go_simp; (with_reducible refine hK _ ?_); clear hK K) | (refine Or.inl ⟨?_, ?_⟩; (focus (go_simp; done)); apply Exists.intro; refine And.intro ?_ ?_; (focus (first | (intro wq hq; obtain ⟨hcq, hfq⟩ := G.old hq; go_simp; (first | done | exact rfl); done) | (intro wq; go_simp; (first | done | exact rfl); done))); go_simp; (with_reducible refine hK _ ?_); clear hK K) | fail))
    (with_reducible refine ord_nil ?_)
    go_wp2_with fail
    have hbw10 := G.trans hbS hG.b
    refine wp_region_ord [(0, 1), (1, 1), (2, 1), (3, 1), (4, 1), (5, 1), (6, 1), (7, 1), (8, 1), (9, 2), (10, 1), (11, 1)] [] 5 (by kernel_rfl) (by decide +kernel) ?_
    simp only [pickO, List.append_eq, List.cons_append, List.nil_append, List.getElem?_cons_succ, List.getElem?_cons_zero]
    intro w0 hG
    (repeat ((first | (with_reducible refine ord_q1 ?_) | (with_reducible refine ord_q0 ?_)); intro K hK; first | (refine Or.inr ⟨?_, ?_⟩; (focus (go_simp; first | done | (simp [undef]; done))); go_simp; (with_reducible refine hK _ ?_); clear hK K) | (refine Or.inl ⟨?_, ?_⟩; (focus (go_simp; done)); apply Exists.intro; refine And.intro ?_ ?_; (focus (first | (intro wq hq; obtain ⟨hcq, hfq⟩ := G.old hq; go_simp; (first | done | exact rfl); done) | (intro wq; go_simp; (first | done | exact rfl); done))); go_simp; (with_reducible refine hK _ ?_); clear hK K) | fail))
    (with_reducible refine ord_skip ?_ hG ?_); (focus (go_simp; first | done | (simp [undef]; done))); intro K hK; go_simp; (with_reducible refine hK _ ?_); clear hK K; (repeat ((first | (with_reducible refine ord_q1 ?_) | (with_reducible refine ord_q0 ?_)); intro K hK; first | (refine Or.inr ⟨?_, ?_⟩; (focus (go_simp; first | done | (simp [undef]; done))); go_simp; (with_reducible refine hK _ ?_); clear hK K) | (refine Or.inl ⟨?_, ?_⟩; (focus (go_simp; done)); apply Exists.intro; refine And.intro ?_ ?_; (focus (first | (intro wq hq; obtain ⟨hcq, hfq⟩ := G.old hq; go_simp; (first | done | exact rfl); done) | (intro wq; go_simp; (first | done | exact rfl); done))); go_simp; (with_reducible refine hK _ ?_); clear hK K) | fail))
    (with_reducible refine ord_nil ?_)
    go_wp2_with fail
    go_loopw [8] (fun iv wr => iv = .int .i64 0 ∧ Below w.heap.size w wr) (fun _ _ => 0)
    case atStart => exact ⟨rfl, G.trans hbw10 hG.b⟩
    case round =>
      obtain ⟨rfl, hbr⟩ := hrel
      go_wp2_with fail
      go_ret
      exact ⟨rfl, hbr⟩
  · obtain ⟨it, l, hit⟩ : ∃ it l, c.items = it :: l := by
      rcases hh : c.items with _ | ⟨it, l⟩
      · rw [hh] at hn; exact absurd rfl hn
      · exact ⟨it, l, rfl⟩
    have hn' : (0 : Int) < (c.items.length : Int) := by omega
    have hn2 : 0 < c.items.length := by omega
    refine (peek1_any (HC.out.grow hbw1) hit).mono ?_
    rintro e2 w2 ⟨cs2, rfl, hi2, hb2⟩
    have hbw2 := G.trans hbw1 hb2
    have hi0 : c.items[0]? = some it := by rw [hit]; rfl
    obtain ⟨z0, A5, n5, c5', z1, A6, n6, c6', z2, z3, z4, z5, A7, n7, c7', A8, n8, c8', A9, n9, c9', rfl⟩ := item_cells hi2
    replace hit := Lib.hid hit
    have hbI := Lib.hid hI1.out
    clear hit
    go_wp2_with fail
    refine wp_name (fun wx => Below w.heap.size w wx ∧ Below w1.heap.size w1 wx ∧ Bx wx w2.heap.size [.int .i64 z0, .slice A5 n5 c5', .int .i64 z1, .slice A6 n6 c6', .int .i64 z2, .int .i64 z3, .int .i64 z4, .string z5, .slice A7 n7 c7', .slice A8 n8 c8', .slice A9 n9 c9'] ∧ Below w2.heap.size w2 wx) ⟨by repeat (first | with_reducible assumption | with_reducible exact G.refl _ | with_reducible refine G.drew ?_ | with_reducible refine G.drewN ?_ _ | with_reducible refine G.alloc ?_ _ | with_reducible refine Below.setCell ?_ (by first | (simp; done) | (simp; omega)) _ | with_reducible refine G.trans ?_ hb12 | with_reducible refine G.trans ?_ hb11 | with_reducible refine G.trans ?_ hb10 | with_reducible refine G.trans ?_ hb9 | with_reducible refine G.trans ?_ hb8 | with_reducible refine G.trans ?_ hb7 | with_reducible refine G.trans ?_ hb6 | with_reducible refine G.trans ?_ hb5 | with_reducible refine G.trans ?_ hb4 | with_reducible refine G.trans ?_ hb3 | with_reducible refine G.trans ?_ hb2 | with_reducible refine G.trans ?_ hb1 | with_reducible refine G.trans ?_ hb | assumption), by repeat (first | with_reducible assumption | with_reducible exact G.refl _ | with_reducible refine G.drew ?_ | with_reducible refine G.drewN ?_ _ | with_reducible refine G.alloc ?_ _ | with_reducible refine Below.setCell ?_ (by first | (simp; done) | (simp; omega)) _ | with_reducible refine G.trans ?_ hb12 | with_reducible refine G.trans ?_ hb11 | with_reducible refine G.trans ?_ hb10 | with_reducible refine G.trans ?_ hb9 | with_reducible refine G.trans ?_ hb8 | with_reducible refine G.trans ?_ hb7 | with_reducible refine G.trans ?_ hb6 | with_reducible refine G.trans ?_ hb5 | with_reducible refine G.trans ?_ hb4 | with_reducible refine G.trans ?_ hb3 | with_reducible refine G.trans ?_ hb2 | with_reducible refine G.trans ?_ hb1 | with_reducible refine G.trans ?_ hb | assumption), by repeat (first | with_reducible assumption | (with_reducible exact Bx.new (by simp; done) (by rfl)) | (with_reducible refine Bx.alloc ?_ _) | (with_reducible refine Bx.drewN ?_ _) | ((with_reducible apply Bx.put); rotate_right; (first | rfl | skip)) | (with_reducible refine Bx.other ?_ (by first | (simp; done) | (simp; omega)) _)), by repeat (first | with_reducible assumption | with_reducible exact G.refl _ | with_reducible refine G.drew ?_ | with_reducible refine G.drewN ?_ _ | with_reducible refine G.alloc ?_ _ | with_reducible refine Below.setCell ?_ (by first | (simp; done) | (simp; omega)) _ | with_reducible refine G.trans ?_ hb12 | with_reducible refine G.trans ?_ hb11 | with_reducible refine G.trans ?_ hb10 | with_reducible refine G.trans ?_ hb9 | with_reducible refine G.trans ?_ hb8 | with_reducible refine G.trans ?_ hb7 | with_reducible refine G.trans ?_ hb6 | with_reducible refine G.trans ?_ hb5 | with_reducible refine G.trans ?_ hb4 | with_reducible refine G.trans ?_ hb3 | with_reducible refine G.trans ?_ hb2 | with_reducible refine G.trans ?_ hb1 | with_reducible refine G.trans ?_ hb | assumption)⟩ ?_
    rintro wS ⟨hbS, hb1S, x, hb2S⟩
    have hi2' := Lib.hid (hi2.grow hb2S)
    obtain ⟨q, P1, P2, n1, c1, n2, c2, hbx, hp1, hp2, hlq⟩ := (HM.out.grow hbS).box
    have HP1 := Lib.hid hp1
    have k0 := (hbx.2 0 _ rfl).1
    have k1 := (hbx.2 1 _ rfl).1
    have k2 := (hbx.2 2 _ rfl).1
    have k3 := (hbx.2 3 _ rfl).1
    have ltb := hbx.lt
    have hwr : IntKind.i64.wrap ((c.cap : Int) - (c.items.length : Int)) = (c.cap : Int) - (c.items.length : Int) := IntWalk.i64_in _ (by omega)
    replace hi0 := Lib.hid hi0
    replace x := Lib.hid x
    clear hp1 hp2 hb2 hbw2 hbw1 hb1 hi2 hb2S
    refine wp_region_ord [(0, 1), (2, 1), (3, 1), (4, 1), (5, 1), (6, 1), (1, 2), (7, 1), (8, 1), (9, 1), (11, 1), (12, 1), (13, 1), (14, 1), (10, 2), (15, 1), (16, 1), (17, 1), (18, 1), (20, 1), (21, 1), (22, 1), (23, 1), (24, 1), (25, 1), (26, 1), (27, 1), (28, 1), (29, 1), (19, 2), (30, 1), (31, 1), (32, 1), (33, 1), (35, 1), (36, 1), (37, 1), (38, 1), (34, 2), (39, 2), (40, 1), (41, 1), (42, 1), (43, 1), (45, 1), (44, 2), (46, 2), (47, 2), (48, 1), (49, 1), (50, 1), (51, 1), (52, 1), (53, 1), (54, 1), (55, 1), (56, 1), (57, 1), (58, 1), (59, 1), (60, 1), (61, 1), (62, 1), (63, 1), (64, 1), (65, 1), (66, 1)] [] 5 (by kernel_rfl) (by decide +kernel) ?_
    simp only [pickO, List.append_eq, List.cons_append, List.nil_append, List.getElem?_cons_succ, List.getElem?_cons_zero]
    intro w0 hG
    (repeat ((first | (with_reducible refine ord_q1 ?_) | (with_reducible refine ord_q0 ?_)); intro K hK; first | (refine Or.inr ⟨?_, ?_⟩; (focus (go_simp; first | done | (simp [undef]; done))); go_simp; (with_reducible refine hK _ ?_); clear hK K) | (refine Or.inl ⟨?_, ?_⟩; (focus (go_simp; done)); apply Exists.intro; refine And.intro ?_ ?_; (focus (first | (intro wq hq; obtain ⟨hcq, hfq⟩ := G.old hq; go_simp; (first | done | exact rfl); done) | (intro wq; go_simp; (first | done | exact rfl); done))); go_simp; (with_reducible refine hK _ ?_); clear hK K) | fail))
    (with_reducible refine ord_run ?_ hG)
    intro K hK
    go_simp
    go_at_call 21; (with_reducible refine (len_any (HC.out.grow (G.trans hbS hG.b))).mono ?_); rintro e3 w3 ⟨rfl, hw3⟩; subst hw3; have hb3 := G.refl w3
    replace hG := Grew.trans hG hb3
    (try dsimp only)
    (with_reducible refine hK _ _ hG ?_)
    clear hK K
    (repeat ((first | (with_reducible refine ord_q1 ?_) | (with_reducible refine ord_q0 ?_)); intro K hK; first | (refine Or.inr ⟨?_, ?_⟩; (focus (go_simp; first | done | (simp [undef]; done))); go_simp; (with_reducible refine hK _ ?_); clear hK K) | (refine Or.inl ⟨?_, ?_⟩; (focus (go_simp; done)); apply Exists.intro; refine And.intro ?_ ?_; (focus (first | (intro wq hq; obtain ⟨hcq, hfq⟩ := G.old hq; go_simp; (first | done | exact rfl); done) | (intro wq; go_simp; (first | done | exact rfl); done))); go_simp; (with_reducible refine hK _ ?_); clear hK K) | fail))
    (with_reducible refine ord_run ?_ hG)
    intro K hK
    go_simp
    go_at_call 39; (with_reducible refine (capacity_any (HC.out.grow (G.trans hbS hG.b))).mono ?_); rintro e4 w4 ⟨rfl, hw4⟩; subst hw4; have hb4 := G.refl w4
    replace hG := Grew.trans hG hb4
    (try dsimp only)
    (with_reducible refine hK _ _ hG ?_)
    clear hK K
    (repeat ((first | (with_reducible refine ord_q1 ?_) | (with_reducible refine ord_q0 ?_)); intro K hK; first | (refine Or.inr ⟨?_, ?_⟩; (focus (go_simp; first | done | (simp [undef]; done))); go_simp; (with_reducible refine hK _ ?_); clear hK K) | (refine Or.inl ⟨?_, ?_⟩; (focus (go_simp; done)); apply Exists.intro; refine And.intro ?_ ?_; (focus (first | (intro wq hq; obtain ⟨hcq, hfq⟩ := G.old hq; go_simp; (first | done | exact rfl); done) | (intro wq; go_simp; (first | done | exact rfl); done))); go_simp; (with_reducible refine hK _ ?_); clear hK K) | fail))
    (with_reducible refine ord_run ?_ hG)
    intro K hK
    go_simp
    go_at_call 20; (with_reducible refine (room_any (HC.out.grow (G.trans hbS hG.b))).mono ?_); rintro e5 w5 ⟨rfl, hw5⟩; subst hw5; have hb5 := G.refl w5
    replace hG := Grew.trans hG hb5
    (try dsimp only)
    (with_reducible refine hK _ _ hG ?_)
    clear hK K
    (repeat ((first | (with_reducible refine ord_q1 ?_) | (with_reducible refine ord_q0 ?_)); intro K hK; first | (refine Or.inr ⟨?_, ?_⟩; (focus (go_simp; first | done | (simp [undef]; done))); go_simp; (with_reducible refine hK _ ?_); clear hK K) | (refine Or.inl ⟨?_, ?_⟩; (focus (go_simp; done)); apply Exists.intro; refine And.intro ?_ ?_; (focus (first | (intro wq hq; obtain ⟨hcq, hfq⟩ := G.old hq; go_simp; (first | done | exact rfl); done) | (intro wq; go_simp; (first | done | exact rfl); done))); go_simp; (with_reducible refine hK _ ?_); clear hK K) | fail))
    (with_reducible refine ord_run ?_ hG)
    intro K hK
    go_simp
    go_at_call 23; (with_reducible refine (mark_any (HC.out.grow (G.trans hbS hG.b))).mono ?_); rintro e6 w6 ⟨R6, s6, rfl, hp6, hb6⟩
    replace hG := Grew.trans hG hb6
    (try dsimp only)
    (with_reducible refine hK _ _ hG ?_)
    clear hK K
    (repeat ((first | (with_reducible refine ord_q1 ?_) | (with_reducible refine ord_q0 ?_)); intro K hK; first | (refine Or.inr ⟨?_, ?_⟩; (focus (go_simp; first | done | (simp [undef]; done))); go_simp; (with_reducible refine hK _ ?_); clear hK K) | (refine Or.inl ⟨?_, ?_⟩; (focus (go_simp; done)); apply Exists.intro; refine And.intro ?_ ?_; (focus (first | (intro wq hq; obtain ⟨hcq, hfq⟩ := G.old hq; go_simp; (first | done | exact rfl); done) | (intro wq; go_simp; (first | done | exact rfl); done))); go_simp; (with_reducible refine hK _ ?_); clear hK K) | fail))
    (with_reducible refine ord_run ?_ hG)
    intro K hK
    go_simp
    go_at_call 15; (with_reducible refine (equal_any c.me c.me R6 P1 c.mp.length n1 s6 c1 c.mp c.mp _ hp6.sl (HP1.out.sl.grow hG.b) hp6.max).mono ?_); rintro e7 w7 ⟨rfl, hb7⟩; rw [hE]
    replace hG := Grew.trans hG hb7
    (try dsimp only)
    (with_reducible refine hK _ _ hG ?_)
    clear hK K
    (repeat ((first | (with_reducible refine ord_q1 ?_) | (with_reducible refine ord_q0 ?_)); intro K hK; first | (refine Or.inr ⟨?_, ?_⟩; (focus (go_simp; first | done | (simp [undef]; done))); go_simp; (with_reducible refine hK _ ?_); clear hK K) | (refine Or.inl ⟨?_, ?_⟩; (focus (go_simp; done)); apply Exists.intro; refine And.intro ?_ ?_; (focus (first | (intro wq hq; obtain ⟨hcq, hfq⟩ := G.old hq; go_simp; (first | done | exact rfl); done) | (intro wq; go_simp; (first | done | exact rfl); done))); go_simp; (with_reducible refine hK _ ?_); clear hK K) | fail))
    (with_reducible refine ord_run ?_ hG)
    intro K hK
    go_simp
    go_at_call 41; (with_reducible refine (least_any (HC.out.grow (G.trans hbS hG.b))).mono ?_); rintro e8 w8 ⟨R8, s8, rfl, hp8, hb8⟩
    replace hG := Grew.trans hG hb8
    (try dsimp only)
    (with_reducible refine hK _ _ hG ?_)
    clear hK K
    (repeat ((first | (with_reducible refine ord_q1 ?_) | (with_reducible refine ord_q0 ?_)); intro K hK; first | (refine Or.inr ⟨?_, ?_⟩; (focus (go_simp; first | done | (simp [undef]; done))); go_simp; (with_reducible refine hK _ ?_); clear hK K) | (refine Or.inl ⟨?_, ?_⟩; (focus (go_simp; done)); apply Exists.intro; refine And.intro ?_ ?_; (focus (first | (intro wq hq; obtain ⟨hcq, hfq⟩ := G.old hq; go_simp; (first | done | exact rfl); done) | (intro wq; go_simp; (first | done | exact rfl); done))); go_simp; (with_reducible refine hK _ ?_); clear hK K) | fail))
    (with_reducible refine ord_run ?_ hG)
    intro K hK
    go_simp
    go_at_call 32; (with_reducible refine (mleast_any ((HM.out.grow (G.trans hbS hG.b)).at_)).mono ?_); rintro e9 w9 ⟨R9, m9, s9, rfl, hp9, hb9⟩
    replace hG := Grew.trans hG hb9
    (try dsimp only)
    (with_reducible refine hK _ _ hG ?_)
    clear hK K
    (repeat ((first | (with_reducible refine ord_q1 ?_) | (with_reducible refine ord_q0 ?_)); intro K hK; first | (refine Or.inr ⟨?_, ?_⟩; (focus (go_simp; first | done | (simp [undef]; done))); go_simp; (with_reducible refine hK _ ?_); clear hK K) | (refine Or.inl ⟨?_, ?_⟩; (focus (go_simp; done)); apply Exists.intro; refine And.intro ?_ ?_; (focus (first | (intro wq hq; obtain ⟨hcq, hfq⟩ := G.old hq; go_simp; (first | done | exact rfl); done) | (intro wq; go_simp; (first | done | exact rfl); done))); go_simp; (with_reducible refine hK _ ?_); clear hK K) | fail))
    (with_reducible refine ord_run ?_ hG)
    intro K hK
    go_simp
    go_at_call 15; (with_reducible refine (equal_any (leE c) (leE c) R8 R9 (leP c).length m9 s8 s9 (leP c) (leP c) _ (hp8.sl.grow hb9) hp9.sl hp8.max).mono ?_); rintro e10 w10 ⟨rfl, hb10⟩; rw [hL]
    replace hG := Grew.trans hG hb10
    (try dsimp only)
    (with_reducible refine hK _ _ hG ?_)
    clear hK K
    (repeat ((first | (with_reducible refine ord_q1 ?_) | (with_reducible refine ord_q0 ?_)); intro K hK; first | (refine Or.inr ⟨?_, ?_⟩; (focus (go_simp; first | done | (simp [undef]; done))); go_simp; (with_reducible refine hK _ ?_); clear hK K) | (refine Or.inl ⟨?_, ?_⟩; (focus (go_simp; done)); apply Exists.intro; refine And.intro ?_ ?_; (focus (first | (intro wq hq; obtain ⟨hcq, hfq⟩ := G.old hq; go_simp; (first | done | exact rfl); done) | (intro wq; go_simp; (first | done | exact rfl); done))); go_simp; (with_reducible refine hK _ ?_); clear hK K) | fail))
    (with_reducible refine ord_nil ?_)
    go_wp2_with fail
    have hSw := hG.b
    have hbw10 := G.trans hbS hSw
    replace hb1S := G.trans hb1S hSw
    clear hG hb3 hb4 hb5 hb6 hb7 hb8 hb9 hb10 k2 k3 hp6 hp8 hp9
    replace k0 := G.cell k0 hSw
    replace k1 := G.cell k1 hSw
    replace ltb := cell_lt k1
    replace x := x.out.grow hSw
    obtain ⟨e0, e1, e2, e3, e4, e5, e6, e7, e8, e9, e10⟩ := x.c11
    have ltx := x.lt
    obtain ⟨g, off, y0, A15, n15, c15', y1, A16, n16, c16', y2, y3, y4, y5, A17, n17, c17', A18, n18, c18', A19, n19, c19', rfl, hgl, hiv, hch⟩ := (HM.out.grow hbw10).item hi0.out
    replace hiv := Lib.hid hiv
    have f0 := hch 0 _ rfl
    have f1 := hch 1 _ rfl
    have f2 := hch 2 _ rfl
    have f3 := hch 3 _ rfl
    have f4 := hch 4 _ rfl
    have f5 := hch 5 _ rfl
    have f6 := hch 6 _ rfl
    have f7 := hch 7 _ rfl
    have f8 := hch 8 _ rfl
    have f9 := hch 9 _ rfl
    have f10 := hch 10 _ rfl
    simp only [Nat.zero_mul, Nat.add_zero] at f0 f1 f2 f3 f4 f5 f6 f7 f8 f9 f10
    have hi10 := Lib.hid (hi2'.out.grow hSw)
    clear hch x hbx hi2' hSw hbS
    refine wp_region_ord [(0, 1), (1, 1), (2, 1), (3, 1), (4, 1), (5, 1), (6, 1), (7, 1), (8, 1), (9, 2), (10, 1), (11, 1)] [] 5 (by kernel_rfl) (by decide +kernel) ?_
    simp only [pickO, List.append_eq, List.cons_append, List.nil_append, List.getElem?_cons_succ, List.getElem?_cons_zero]
    intro w0 hG
    (repeat ((first | (with_reducible refine ord_q1 ?_) | (with_reducible refine ord_q0 ?_)); intro K hK; first | (refine Or.inr ⟨?_, ?_⟩; (focus (go_simp; first | done | (simp [undef]; done))); go_simp; (with_reducible refine hK _ ?_); clear hK K) | (refine Or.inl ⟨?_, ?_⟩; (focus (go_simp; done)); apply Exists.intro; refine And.intro ?_ ?_; (focus (first | (intro wq hq; obtain ⟨hcq, hfq⟩ := G.old hq; go_simp; (first | done | exact rfl); done) | (intro wq; go_simp; (first | done | exact rfl); done))); go_simp; (with_reducible refine hK _ ?_); clear hK K) | fail))
    (with_reducible refine ord_run ?_ hG)
    intro K hK
    go_simp
    go_at_call 53; (with_reducible refine (same_any (hi10.out.grow hG.b) (hiv.out.grow hG.b)).mono ?_); rintro e11 w11 ⟨rfl, hb11⟩; rw [sameI_self]
    replace hG := Grew.trans hG hb11
    (try dsimp only)
    (with_reducible refine hK _ _ hG ?_)
    clear hK K
    (repeat ((first | (with_reducible refine ord_q1 ?_) | (with_reducible refine ord_q0 ?_)); intro K hK; first | (refine Or.inr ⟨?_, ?_⟩; (focus (go_simp; first | done | (simp [undef]; done))); go_simp; (with_reducible refine hK _ ?_); clear hK K) | (refine Or.inl ⟨?_, ?_⟩; (focus (go_simp; done)); apply Exists.intro; refine And.intro ?_ ?_; (focus (first | (intro wq hq; obtain ⟨hcq, hfq⟩ := G.old hq; go_simp; (first | done | exact rfl); done) | (intro wq; go_simp; (first | done | exact rfl); done))); go_simp; (with_reducible refine hK _ ?_); clear hK K) | fail))
    (with_reducible refine ord_nil ?_)
    have hbw11 := G.trans hbw10 hG.b
    replace hb1S := G.trans hb1S hG.b
    go_wp2_with fail
    have HC1 := Lib.hid hb1S
    clear f0 f1 f2 f3 f4 f5 f6 f7 f8 f9 f10 e0 e1 e2 e3 e4 e5 e6 e7 e8 e9 e10 hiv hi10 hi0 hG hb1S k0 k1
    go_loopw [8] (fun iv wr => ∃ k : Nat, k ≤ c.items.length ∧ iv = .int .i64 k ∧ Below w.heap.size w wr ∧ Below w11.heap.size w11 wr) (fun iv _ => c.items.length - (intOf iv).toNat)
    case atStart => exact ⟨0, Nat.zero_le _, rfl, hbw11, G.refl _⟩
    case round =>
      obtain ⟨k, hk, rfl, hbr, hbr11⟩ := hrel
      by_cases hlt : k < c.items.length
      · obtain ⟨itk, hik⟩ : ∃ itk, c.items[k]? = some itk := ⟨_, List.getElem?_eq_getElem hlt⟩
        have hR1r := hR1.out.grow (G.trans HC1.out hbr11)
        have hiL := (hI1.out k itk hik).grow (G.trans HC1.out hbr11)
        obtain ⟨bL, oL, hA1, hbL, _, _, hcL⟩ := hR1r.at_ (by decide) hlt
        subst hA1
        obtain ⟨z0, A5, n5, c5', z1, A6, n6, c6', z2, z3, z4, z5, A7, n7, c7', A8, n8, c8', A9, n9, c9', hce⟩ := item_cells hiL
        rw [hce] at hiL hcL
        have e0 : wr.cell? ⟨bL, oL + k * 11, none⟩ = _ := hcL 0 _ rfl
        have e1 := hcL 1 _ rfl
        have e2 := hcL 2 _ rfl
        have e3 := hcL 3 _ rfl
        have e4 := hcL 4 _ rfl
        have e5 := hcL 5 _ rfl
        have e6 := hcL 6 _ rfl
        have e7 := hcL 7 _ rfl
        have e8 := hcL 8 _ rfl
        have e9 := hcL 9 _ rfl
        have e10 := hcL 10 _ rfl
        obtain ⟨q', P1', P2', n1', c1', n2', c2', hbx, hp1, hp2, hlq'⟩ := (HM.out.grow hbr).box
        have k1 := (hbx.2 1 _ rfl).1
        have ltb := hbx.lt
        obtain ⟨g', off', y0, A15, n15, c15', y1, A16, n16, c16', y2, y3, y4, y5, A17, n17, c17', A18, n18, c18', A19, n19, c19', hAA, hgl', hiv, hch⟩ := (HM.out.grow hbr).item hik
        cases hAA
        have f0 : wr.cell? ⟨g, off + k * 11, none⟩ = _ := hch 0 _ rfl
        have f1 := hch 1 _ rfl
        have f2 := hch 2 _ rfl
        have f3 := hch 3 _ rfl
        have f4 := hch 4 _ rfl
        have f5 := hch 5 _ rfl
        have f6 := hch 6 _ rfl
        have f7 := hch 7 _ rfl
        have f8 := hch 8 _ rfl
        have f9 := hch 9 _ rfl
        have f10 := hch 10 _ rfl
        replace hiv := Lib.hid hiv
        replace hiL := Lib.hid hiL
        replace hik := Lib.hid hik
        clear hch hcL hbx hp1 hp2 hR1r hce
        go_wp2_with fail
        refine wp_region_ord [(0, 1), (1, 1), (2, 1), (3, 1), (4, 1), (5, 1), (6, 1), (7, 1), (8, 1), (9, 1), (10, 1), (11, 2), (12, 1)] [] 5 (by kernel_rfl) (by decide +kernel) ?_
        simp only [pickO, List.append_eq, List.cons_append, List.nil_append, List.getElem?_cons_succ, List.getElem?_cons_zero]
        intro w0 hG
        (repeat ((first | (with_reducible refine ord_q1 ?_) | (with_reducible refine ord_q0 ?_)); intro K hK; first | (refine Or.inr ⟨?_, ?_⟩; (focus (go_simp; first | done | (simp [undef]; done))); go_simp; (with_reducible refine hK _ ?_); clear hK K) | (refine Or.inl ⟨?_, ?_⟩; (focus (go_simp; done)); apply Exists.intro; refine And.intro ?_ ?_; (focus (first | (intro wq hq; obtain ⟨hcq, hfq⟩ := G.old hq; go_simp; (first | done | exact rfl); done) | (intro wq; go_simp; (first | done | exact rfl); done))); go_simp; (with_reducible refine hK _ ?_); clear hK K) | fail))
        (with_reducible refine ord_run ?_ hG)
        intro K hK
        go_simp
        go_at_call 53; (with_reducible refine (same_any (hiL.out.grow hG.b) (hiv.out.grow hG.b)).mono ?_); rintro e12 w12 ⟨rfl, hb12⟩; rw [sameI_self]
        replace hG := Grew.trans hG hb12
        (try dsimp only)
        (with_reducible refine hK _ _ hG ?_)
        clear hK K
        (repeat ((first | (with_reducible refine ord_q1 ?_) | (with_reducible refine ord_q0 ?_)); intro K hK; first | (refine Or.inr ⟨?_, ?_⟩; (focus (go_simp; first | done | (simp [undef]; done))); go_simp; (with_reducible refine hK _ ?_); clear hK K) | (refine Or.inl ⟨?_, ?_⟩; (focus (go_simp; done)); apply Exists.intro; refine And.intro ?_ ?_; (focus (first | (intro wq hq; obtain ⟨hcq, hfq⟩ := G.old hq; go_simp; (first | done | exact rfl); done) | (intro wq; go_simp; (first | done | exact rfl); done))); go_simp; (with_reducible refine hK _ ?_); clear hK K) | fail))
        (with_reducible refine ord_nil ?_)
        have hGG := hG.b
        clear e0 e1 e2 e3 e4 e5 e6 e7 e8 e9 e10 f0 f1 f2 f3 f4 f5 f6 f7 f8 f9 f10 hG
        go_wp2_with fail
        go_roundw
        case rel => exact ⟨k + 1, by omega, by go_num, G.trans hbr hGG, G.trans hbr11 hGG⟩
        case measure => simp [intOf]; omega
      · go_wp2_with fail
        go_ret
        exact ⟨rfl, hbr⟩
end Go.Proofs.Ytjldpodehffbnaa
