/- Take. -/
import Derived.Test.YtjldpodehffbnaaChan3
namespace Go.Proofs.Ytjldpodehffbnaa
set_option linter.unusedVariables false
set_option linter.unnecessarySimpa false
set_option linter.unusedSimpArgs false
open Go.RowKit

set_option maxRecDepth 20000 in set_option maxHeartbeats 2000000 in
theorem take0_any {ok : Nat → Prop} {w : World} {b r : Nat} {c : Ch} (h : ChanAt ok w b r c) (h0 : c.items = []) :
    Calls Try.prog 24 #[.pointer (some ⟨b, 0, none⟩)] w fun e w' => e = .returned (.tuple #[.agg zItem, .int .i64 8]) ∧ Below w.heap.size w w' := by
  obtain ⟨first, ring, A, B, n, cc, m, d, hI⟩ := h
  have k2 := (hI.1.2 2 _ rfl).1
  rw [h0] at k2
  have lt := hI.1.lt
  clear hI h0
  go_enter Try.func24, Try.ntmps24
  go_wp2_with fail
  exact bodyPost_ret (v := .tuple #[.agg zItem, .int .i64 8]) (by simp only [results, Try.results24]; go_simp) rfl ⟨rfl, by repeat (first | with_reducible assumption | with_reducible exact G.refl _ | with_reducible refine G.drew ?_ | with_reducible refine G.drewN ?_ _ | with_reducible refine G.alloc ?_ _ | with_reducible refine Below.setCell ?_ (by first | (simp; done) | (simp; omega)) _ | with_reducible refine G.trans ?_ hb12 | with_reducible refine G.trans ?_ hb11 | with_reducible refine G.trans ?_ hb10 | with_reducible refine G.trans ?_ hb9 | with_reducible refine G.trans ?_ hb8 | with_reducible refine G.trans ?_ hb7 | with_reducible refine G.trans ?_ hb6 | with_reducible refine G.trans ?_ hb5 | with_reducible refine G.trans ?_ hb4 | with_reducible refine G.trans ?_ hb3 | with_reducible refine G.trans ?_ hb2 | with_reducible refine G.trans ?_ hb1 | with_reducible refine G.trans ?_ hb | assumption)⟩
theorem Chg.setNew {b r B : Nat} {a w : World} (h : Chg b r a w) (hB : a.heap.size ≤ B) (o : Nat) (vs : List Value) : Chg b r a (w.setCells B o vs) := by
  have hb := Below.setCells' hB vs o w (Below.refl a.heap.size w)
  exact ⟨h.1.trans (hb.mono (Nat.zero_le _)), Nat.le_trans h.2.1 hb.size, fun x hx hl => (hb.block x hl).trans (h.2.2 x hx hl)⟩
/-- The first item has come back, and it has left the channel. -/
def RetT1 (ok : Nat → Prop) (b r : Nat) (c : Ch) (it : It) (l : List It) (w : World) (e : Ending) (w' : World) : Prop :=
  ∃ cs, e = .returned (.tuple #[.agg cs.toArray, .int .i64 0]) ∧ ItemV ok w' cs it ∧ ChanAt ok w' b r { c with items := l } ∧ Chg b r w w'
set_option maxRecDepth 20000 in set_option maxHeartbeats 2000000 in
theorem take1_any {ok : Nat → Prop} {w : World} {b r : Nat} {c : Ch} (h : ChanAt ok w b r c) {it : It} {l : List It} (h0 : c.items = it :: l) :
    Calls Try.prog 24 #[.pointer (some ⟨b, 0, none⟩)] w (RetT1 ok b r c it l w) := by
  obtain ⟨first, ring, A, B, n, cc, m, d, hI⟩ := h
  have hcl : c.items.length = l.length + 1 := by rw [h0]; rfl
  have hne : ((c.items.length : Int) == 0) = false := by rw [natBeq0, hcl]; exact decide_eq_false (by omega)
  have hne' : ¬ c.items.length = 0 := by rw [hcl]; omega
  have hit := hI.2.2.2.2.2.2.2.2.2.2.2.1 0 it (by rw [h0]; rfl)
  have hfc := hI.2.2.2.2.2.1
  have hlc := hI.2.2.2.2.2.2.1
  have hc4 := hI.2.2.2.2.2.2.2.1
  have hbr := hI.2.2.2.2.2.2.2.2.1
  have hnb := hI.2.2.2.2.2.2.2.2.2.1
  have hnr := hI.2.2.2.2.2.2.2.2.2.2.1
  have hrl := hI.2.2.1
  have hltw := Lib.hid hI.lt
  rw [Nat.add_zero, Nat.mod_eq_of_lt hfc] at hit
  have hch := hI.2.1.chunk first
  obtain ⟨z0, A5, n5, c5', z1, A6, n6, c6', z2, z3, z4, z5, A7, n7, c7', A8, n8, c8', A9, n9, c9', he⟩ := item_cells hit
  rw [he] at hit hch
  have e0 : w.cell? ⟨r, first * 11, none⟩ = _ := hch 0 _ rfl
  have e1 := hch 1 _ rfl
  have e2 := hch 2 _ rfl
  have e3 := hch 3 _ rfl
  have e4 := hch 4 _ rfl
  have e5 := hch 5 _ rfl
  have e6 := hch 6 _ rfl
  have e7 := hch 7 _ rfl
  have e8 := hch 8 _ rfl
  have e9 := hch 9 _ rfl
  have e10 := hch 10 _ rfl
  have k0 := (hI.1.2 0 _ rfl).1
  have k1 := (hI.1.2 1 _ rfl).1
  have k2 := (hI.1.2 2 _ rfl).1
  have lt := hI.1.lt
  have ltr := hI.2.1.lt
  have hF0 : (0 : Int) ≤ (first : Int) := by omega
  have hF1 : (first : Int) < (c.cap : Int) := by omega
  replace hit := Lib.hid hit
  have hit0 := Lib.hid hit.out
  have HI := Lib.hid hI
  have HI0 := Lib.hid hI
  replace h0 := Lib.hid h0
  replace hcl := Lib.hid hcl
  clear hI hch he
  go_enter Try.func24, Try.ntmps24
  go_wp2_with fail
  refine wp_name (fun wr => Below w.heap.size w wr ∧ Hid (w.heap.size < wr.heap.size) ∧ Bx wr w.heap.size zItem.toList) ⟨by repeat (first | with_reducible assumption | with_reducible exact G.refl _ | with_reducible refine G.drew ?_ | with_reducible refine G.drewN ?_ _ | with_reducible refine G.alloc ?_ _ | with_reducible refine Below.setCell ?_ (by first | (simp; done) | (simp; omega)) _ | with_reducible refine G.trans ?_ hb12 | with_reducible refine G.trans ?_ hb11 | with_reducible refine G.trans ?_ hb10 | with_reducible refine G.trans ?_ hb9 | with_reducible refine G.trans ?_ hb8 | with_reducible refine G.trans ?_ hb7 | with_reducible refine G.trans ?_ hb6 | with_reducible refine G.trans ?_ hb5 | with_reducible refine G.trans ?_ hb4 | with_reducible refine G.trans ?_ hb3 | with_reducible refine G.trans ?_ hb2 | with_reducible refine G.trans ?_ hb1 | with_reducible refine G.trans ?_ hb | assumption), by unfold Hid; simp, by repeat (first | with_reducible assumption | (with_reducible exact Bx.new (by simp; done) (by rfl)) | (with_reducible refine Bx.alloc ?_ _) | (with_reducible refine Bx.drewN ?_ _) | ((with_reducible apply Bx.put); rotate_right; (first | rfl | skip)) | (with_reducible refine Bx.other ?_ (by first | (simp; done) | (simp; omega)) _))⟩ ?_
  rintro w1 ⟨hb1, hsz, x⟩
  replace e0 := G.cell e0 hb1
  replace e1 := G.cell e1 hb1
  replace e2 := G.cell e2 hb1
  replace e3 := G.cell e3 hb1
  replace e4 := G.cell e4 hb1
  replace e5 := G.cell e5 hb1
  replace e6 := G.cell e6 hb1
  replace e7 := G.cell e7 hb1
  replace e8 := G.cell e8 hb1
  replace e9 := G.cell e9 hb1
  replace e10 := G.cell e10 hb1
  replace k0 := G.cell k0 hb1
  replace k1 := G.cell k1 hb1
  replace lt := cell_lt k0
  replace ltr := cell_lt e0
  dsimp only at lt ltr
  clear k2
  refine wp_region_ord [(0, 1), (1, 1), (2, 1), (3, 1), (4, 1), (5, 1), (6, 1), (7, 1), (8, 1), (9, 1), (10, 2), (11, 3)] [11] 5 (by kernel_rfl) (by decide +kernel) ?_
  simp only [pickO, List.append_eq, List.cons_append, List.nil_append, List.getElem?_cons_succ, List.getElem?_cons_zero]
  intro w0 hG
  (repeat ((first | (with_reducible refine ord_q1 ?_) | (with_reducible refine ord_q0 ?_)); intro K hK; first | (refine Or.inr ⟨?_, ?_⟩; (focus (go_simp; first | done | (simp [undef]; done))); go_simp; (with_reducible refine hK _ ?_); clear hK K) | (refine Or.inl ⟨?_, ?_⟩; (focus (go_simp; done)); apply Exists.intro; refine And.intro ?_ ?_; (focus (first | (intro wq hq; obtain ⟨hcq, hfq⟩ := G.old hq; go_simp; (first | done | exact rfl); done) | (intro wq; go_simp; (first | done | exact rfl); done))); go_simp; (with_reducible refine hK _ ?_); clear hK K) | fail))
  have hg0 := hG.b
  have hs0 := hG.b.size
  (with_reducible refine ord_run ?_ hG)
  intro K hK
  go_simp
  replace hG := Grew.alloc hG (.cells zItem 33)
  (with_reducible refine hK _ _ hG ?_)
  clear hK K
  (repeat ((first | (with_reducible refine ord_q1 ?_) | (with_reducible refine ord_q0 ?_)); intro K hK; first | (refine Or.inr ⟨?_, ?_⟩; (focus (go_simp; first | done | (simp [undef]; done))); go_simp; (with_reducible refine hK _ ?_); clear hK K) | (refine Or.inl ⟨?_, ?_⟩; (focus (go_simp; done)); apply Exists.intro; refine And.intro ?_ ?_; (focus (first | (intro wq hq; obtain ⟨hcq, hfq⟩ := G.old hq; go_simp; (first | done | exact rfl); done) | (intro wq; go_simp; (first | done | exact rfl); done))); go_simp; (with_reducible refine hK _ ?_); clear hK K) | fail))
  ((with_reducible refine ord_tail ?_); intro K hK; go_simp; (with_reducible refine hK _ _ ?_); clear hK K)
  (with_reducible refine ord_nil ?_)
  clear e0 e1 e2 e3 e4 e5 e6 e7 e8 e9 e10 k0 k1 lt ltr
  go_wp2_with fail
  refine wp_name (fun wr => Below w0.heap.size w0 wr ∧ Bx wr w0.heap.size [.int .i64 z0, .slice A5 n5 c5', .int .i64 z1, .slice A6 n6 c6', .int .i64 z2, .int .i64 z3, .int .i64 z4, .string z5, .slice A7 n7 c7', .slice A8 n8 c8', .slice A9 n9 c9']) ⟨by repeat (first | with_reducible assumption | with_reducible exact G.refl _ | with_reducible refine G.drew ?_ | with_reducible refine G.drewN ?_ _ | with_reducible refine G.alloc ?_ _ | with_reducible refine Below.setCell ?_ (by first | (simp; done) | (simp; omega)) _ | with_reducible refine G.trans ?_ hb12 | with_reducible refine G.trans ?_ hb11 | with_reducible refine G.trans ?_ hb10 | with_reducible refine G.trans ?_ hb9 | with_reducible refine G.trans ?_ hb8 | with_reducible refine G.trans ?_ hb7 | with_reducible refine G.trans ?_ hb6 | with_reducible refine G.trans ?_ hb5 | with_reducible refine G.trans ?_ hb4 | with_reducible refine G.trans ?_ hb3 | with_reducible refine G.trans ?_ hb2 | with_reducible refine G.trans ?_ hb1 | with_reducible refine G.trans ?_ hb | assumption), by repeat (first | with_reducible assumption | (with_reducible exact Bx.new (by simp; done) (by rfl)) | (with_reducible refine Bx.alloc ?_ _) | (with_reducible refine Bx.drewN ?_ _) | ((with_reducible apply Bx.put); rotate_right; (first | rfl | skip)) | (with_reducible refine Bx.other ?_ (by first | (simp; done) | (simp; omega)) _))⟩ ?_
  rintro wA ⟨hbA, xT⟩
  have hsw := hb1.size
  have hbwA : Below w.heap.size w wA := hb1.trans ((hg0.mono hsw).trans (hbA.mono (by omega)))
  replace x := (x.grow hg0).grow hbA
  obtain ⟨T, hT⟩ : ∃ T, w0.heap.size = T := ⟨_, rfl⟩
  have hszT : Hid (w.heap.size < T) := by unfold Hid; have := hsz.out; omega
  rw [hT] at xT ⊢
  have xTl := xT.lt
  clear hT hg0 hbA hs0 hG hsz
  replace HI := Lib.hid (HI.out.grow hbwA)
  replace hit := Lib.hid (hit.out.grow hbwA)
  have k0 := (HI.out.1.2 0 _ rfl).1
  have k1 := (HI.out.1.2 1 _ rfl).1
  have lt := HI.out.1.lt
  refine wp_region_ord [(0, 1), (1, 1), (2, 1), (3, 1), (4, 1), (5, 1), (6, 1), (7, 1), (8, 1), (9, 1), (10, 3)] [10] 5 (by kernel_rfl) (by decide +kernel) ?_
  simp only [pickO, List.append_eq, List.cons_append, List.nil_append, List.getElem?_cons_succ, List.getElem?_cons_zero]
  intro w0 hG
  (repeat ((first | (with_reducible refine ord_q1 ?_) | (with_reducible refine ord_q0 ?_)); intro K hK; first | (refine Or.inr ⟨?_, ?_⟩; (focus (go_simp; first | done | (simp [undef]; done))); go_simp; (with_reducible refine hK _ ?_); clear hK K) | (refine Or.inl ⟨?_, ?_⟩; (focus (go_simp; done)); apply Exists.intro; refine And.intro ?_ ?_; (focus (first | (intro wq hq; obtain ⟨hcq, hfq⟩ := G.old hq; go_simp; (first | done | exact rfl); done) | (intro wq; go_simp; (first | done | exact rfl); done))); go_simp; (with_reducible refine hK _ ?_); clear hK K) | fail))
  have hg0 := hG.b
  replace HI := Lib.hid (HI.out.grow hg0)
  replace hit := Lib.hid (hit.out.grow hg0)
  replace x := x.grow hg0
  replace xT := xT.grow hg0
  have hbw0 : Below w.heap.size w w0 := G.trans hbwA hg0
  obtain ⟨⟨q0, q1, q2, q3, q4, q5, q6, q7, q8, q9, q10⟩, ⟨f0, f1, f2, f3, f4, f5, f6, f7, f8, f9, f10⟩⟩ := HI.out.2.1.ex11 first (by rw [HI.out.2.2.1]; omega)
  obtain ⟨a0, q0⟩ := q0
  obtain ⟨a1, q1⟩ := q1
  obtain ⟨a2, q2⟩ := q2
  obtain ⟨a3, q3⟩ := q3
  obtain ⟨a4, q4⟩ := q4
  obtain ⟨a5, q5⟩ := q5
  obtain ⟨a6, q6⟩ := q6
  obtain ⟨a7, q7⟩ := q7
  obtain ⟨a8, q8⟩ := q8
  obtain ⟨a9, q9⟩ := q9
  obtain ⟨a10, q10⟩ := q10
  ((with_reducible refine ord_tail ?_); intro K hK; go_simp; (with_reducible refine hK _ _ ?_); clear hK K)
  (with_reducible refine ord_nil ?_)
  clear k0 k1 lt q0 q1 q2 q3 q4 q5 q6 q7 q8 q9 q10 f0 f1 f2 f3 f4 f5 f6 f7 f8 f9 f10
  obtain ⟨wB, hB⟩ : ∃ wB, wB = w0.setCells r (first * 11) zItem.toList := ⟨_, rfl⟩
  have zr : Bx wB r (upd ring first zItem.toList) := by rw [hB]; exact HI.out.2.1.upd (by rw [HI.out.2.2.1]; omega) rfl
  have zc : Chg b r w0 wB := by rw [hB]; exact (Chg.refl _ _ _).setCells2 _ _
  have zkr : Keeps (fun x => x ≠ r) w0 wB := by rw [hB]; exact Keeps.setCells (fun h => h rfl) _ _ _ (Keeps.refl _ _)
  change Exit.then _ _ Exit.normal _ (w0.setCells r (first * 11) zItem.toList)
  rw [← hB]
  clear hB
  have hrw : w.heap.size ≠ r ∧ w.heap.size ≠ b ∧ T ≠ r ∧ T ≠ b := by have := hltw.out; have := hszT.out; omega
  replace x := x.keep zkr hrw.1
  replace xT := xT.keep zkr hrw.2.2.1
  have zb := HI.out.1.keep zkr hbr
  obtain ⟨F1, hF⟩ : ∃ F, (first + 1) % c.cap = F := ⟨_, rfl⟩
  have hFl : F1 < c.cap := by rw [← hF]; exact Nat.mod_lt _ (by omega)
  have hmod : Int.tmod ((first : Int) + 1) (c.cap : Int) = (F1 : Int) := by rw [← hF]; rfl
  have hc0 : ¬ c.cap = 0 := by omega
  have hw1 : IntKind.i64.wrap ((first : Int) + 1) = (first : Int) + 1 := IntWalk.i64_in _ (by omega)
  have hw2 : IntKind.i64.wrap (F1 : Int) = (F1 : Int) := IntWalk.i64_in _ (by omega)
  have hw3 : IntKind.i64.wrap ((c.items.length : Int) - 1) = (l.length : Int) := by rw [IntWalk.i64_in _ (by omega)]; have := hcl.out; omega
  have hFF := Lib.hid hF
  have hrwH := Lib.hid hrw
  have hbrH := Lib.hid hbr
  have hnbH := Lib.hid hnb
  have hnrH := Lib.hid hnr
  have k0 := (zb.2 0 _ rfl).1
  have k1 := (zb.2 1 _ rfl).1
  have k2 := (zb.2 2 _ rfl).1
  have lt := zb.lt
  clear hF hrw hbr hnb hnr hne hF0 hF1 hG hbwA
  go_wp2_with fail
  refine wp_region_ord [(0, 1), (1, 0), (2, 1), (3, 1), (4, 1), (5, 1), (6, 1), (7, 1), (8, 1), (9, 1), (10, 1), (11, 1), (12, 1), (13, 1), (14, 1), (15, 1), (16, 1), (17, 0), (18, 1), (19, 1), (20, 3), (21, 0), (22, 0), (23, 3)] [20, 23] 5 (by kernel_rfl) (by decide +kernel) ?_
  simp only [pickO, List.append_eq, List.cons_append, List.nil_append, List.getElem?_cons_succ, List.getElem?_cons_zero]
  intro w0 hG
  (repeat ((first | (with_reducible refine ord_q1 ?_) | (with_reducible refine ord_q0 ?_)); intro K hK; first | (refine Or.inr ⟨?_, ?_⟩; (focus (go_simp; first | done | (simp [undef]; done))); go_simp; (with_reducible refine hK _ ?_); clear hK K) | (refine Or.inl ⟨?_, ?_⟩; (focus (go_simp; done)); apply Exists.intro; refine And.intro ?_ ?_; (focus (first | (intro wq hq; obtain ⟨hcq, hfq⟩ := G.old hq; go_simp; (first | done | exact rfl); done) | (intro wq; go_simp; (first | done | exact rfl); done))); go_simp; (with_reducible refine hK _ ?_); clear hK K) | fail))
  have hg1 := hG.b
  replace zb := zb.grow hg1
  replace zr := zr.grow hg1
  replace x := x.grow hg1
  replace xT := xT.grow hg1
  obtain ⟨m1, g1⟩ := zb.2 1 _ rfl
  obtain ⟨m2, g2⟩ := zb.2 2 _ rfl
  ((with_reducible refine ord_tail ?_); intro K hK; go_simp; (with_reducible refine hK _ _ ?_); clear hK K)
  (repeat ((first | (with_reducible refine ord_q1 ?_) | (with_reducible refine ord_q0 ?_)); intro K hK; first | (refine Or.inr ⟨?_, ?_⟩; (focus (go_simp; first | done | (simp [undef]; done))); go_simp; (with_reducible refine hK _ ?_); clear hK K) | (refine Or.inl ⟨?_, ?_⟩; (focus (go_simp; done)); apply Exists.intro; refine And.intro ?_ ?_; (focus (first | (intro wq hq; obtain ⟨hcq, hfq⟩ := G.old hq; go_simp; (first | done | exact rfl); done) | (intro wq; go_simp; (first | done | exact rfl); done))); go_simp; (with_reducible refine hK _ ?_); clear hK K) | fail))
  ((with_reducible refine ord_tail ?_); intro K hK; go_simp; (with_reducible refine hK _ _ ?_); clear hK K)
  (with_reducible refine ord_nil ?_)
  clear k0 k1 k2 lt m1 g1 m2 g2 hmod hw1 hw2 hw3
  have hrw := hrwH.out
  have hbr := hbrH.out
  have zb2 : Bx ((w0.setCell ⟨b, 1, none⟩ (.int .i64 F1)).setCell ⟨b, 2, none⟩ (.int .i64 l.length)) b [.slice (some ⟨r, 0, none⟩) c.cap c.cap, .int .i64 F1, .int .i64 l.length, .int .i64 c.me, .slice A n cc, .int .i64 c.le, .slice B m d, .bool c.used] := Bx.put (Bx.put zb rfl) rfl
  have zr2 := (zr.other (p := ⟨b, 1, none⟩) (fun e => hbr e.symm) (.int .i64 F1)).other (p := ⟨b, 2, none⟩) (fun e => hbr e.symm) (.int .i64 l.length)
  have x2 := (x.other (p := ⟨b, 1, none⟩) hrw.2.1 (.int .i64 F1)).other (p := ⟨b, 2, none⟩) hrw.2.1 (.int .i64 l.length)
  have xT2 := (xT.other (p := ⟨b, 1, none⟩) hrw.2.2.2 (.int .i64 F1)).other (p := ⟨b, 2, none⟩) hrw.2.2.2 (.int .i64 l.length)
  have zc2 : Chg b r w ((w0.setCell ⟨b, 1, none⟩ (.int .i64 F1)).setCell ⟨b, 2, none⟩ (.int .i64 l.length)) := ((((Chg.of_below hbw0).trans zc).trans (Chg.of_below hg1)).setCell1 _ _).setCell1 _ _
  obtain ⟨wC, hC⟩ : ∃ wC, wC = ((w0.setCell ⟨b, 1, none⟩ (.int .i64 F1)).setCell ⟨b, 2, none⟩ (.int .i64 l.length)) := ⟨_, rfl⟩
  rw [← hC] at zb2 zr2 x2 xT2 zc2 ⊢
  clear hC zb zr x xT zc zkr hg1 hbw0 hrw hbr
  obtain ⟨c0, c1, c2, c3, c4, c5, c6, c7, c8, c9, c10⟩ := xT2.c11
  obtain ⟨y0, y1, y2, y3, y4, y5, y6, y7, y8, y9, y10⟩ := x2.c11
  obtain ⟨g0, g1, g2, g3, g4, g5, g6, g7, g8, g9, g10⟩ := x2.f11
  go_wp2_with fail
  clear c0 c1 c2 c3 c4 c5 c6 c7 c8 c9 c10 y0 y1 y2 y3 y4 y5 y6 y7 y8 y9 y10 g0 g1 g2 g3 g4 g5 g6 g7 g8 g9 g10
  obtain ⟨wD, hD⟩ : ∃ wD, wD = wC.setCells w.heap.size 0 [.int .i64 z0, .slice A5 n5 c5', .int .i64 z1, .slice A6 n6 c6', .int .i64 z2, .int .i64 z3, .int .i64 z4, .string z5, .slice A7 n7 c7', .slice A8 n8 c8', .slice A9 n9 c9'] := ⟨_, rfl⟩
  have zD : Bx wD w.heap.size [.int .i64 z0, .slice A5 n5 c5', .int .i64 z1, .slice A6 n6 c6', .int .i64 z2, .int .i64 z3, .int .i64 z4, .string z5, .slice A7 n7 c7', .slice A8 n8 c8', .slice A9 n9 c9'] := by rw [hD]; exact x2.fill rfl
  have hall : Chg b r w wD := by rw [hD]; exact zc2.setNew (Nat.le_refl _) _ _
  have zw : Keeps (fun q => q ≠ w.heap.size) wC wD := by rw [hD]; exact Keeps.setCells (fun h => h rfl) _ _ _ (Keeps.refl _ _)
  change bodyPost _ _ _ Exit.ret _ (wC.setCells w.heap.size 0 [.int .i64 z0, .slice A5 n5 c5', .int .i64 z1, .slice A6 n6 c6', .int .i64 z2, .int .i64 z3, .int .i64 z4, .string z5, .slice A7 n7 c7', .slice A8 n8 c8', .slice A9 n9 c9'])
  rw [← hD]
  clear hD
  have hrw := hrwH.out
  have hbr := hbrH.out
  obtain ⟨y0, y1, y2, y3, y4, y5, y6, y7, y8, y9, y10⟩ := zD.c11
  have hk := hall.keeps hnbH.out hnrH.out
  obtain ⟨_, _, _, hm4, hm5, _, _, _, _, _, _, hits, hslot⟩ := HI0.out
  have hri : first * 11 + 11 ≤ ring.length := by rw [hrl]; omega
  refine bodyPost_ret (v := .tuple #[.agg #[.int .i64 z0, .slice A5 n5 c5', .int .i64 z1, .slice A6 n6 c6', .int .i64 z2, .int .i64 z3, .int .i64 z4, .string z5, .slice A7 n7 c7', .slice A8 n8 c8', .slice A9 n9 c9'], .int .i64 0]) (by simp only [results, Try.results24]; go_simp) rfl ⟨[.int .i64 z0, .slice A5 n5 c5', .int .i64 z1, .slice A6 n6 c6', .int .i64 z2, .int .i64 z3, .int .i64 z4, .string z5, .slice A7 n7 c7', .slice A8 n8 c8', .slice A9 n9 c9'], rfl, hit0.out.keep hk, ⟨F1, upd ring first zItem.toList, A, B, n, cc, m, d, zb2.keep zw (fun e => hrw.2.1 e.symm), zr2.keep zw (fun e => hrw.1 e.symm), ?_, hm4.keep hk, hm5.keep hk, hFl, ?_, hc4, hbr, hnbH.out, hnrH.out, ?_, ?_⟩, hall⟩
  · rw [upd_len hri rfl]; exact hrl
  · show l.length ≤ c.cap
    have := hcl.out
    omega
  · intro j it' hj
    have hj' : l[j]? = some it' := hj
    have hjl : j < l.length := (List.getElem?_eq_some_iff.1 hj').1
    have h1 := hits (j + 1) it' (by rw [h0.out]; exact hj')
    have hcl' := hcl.out
    have e1 : (F1 + j) % c.cap = (first + (j + 1)) % c.cap := by
      rw [← hFF.out, Nat.mod_add_mod]
      congr 1
      omega
    have hne2 : (first + (j + 1)) % c.cap ≠ first := by
      rw [ix hfc (by omega)]
      split <;> omega
    show ItemV ok _ (((upd ring first _).drop (((F1 + j) % c.cap) * 11)).take 11) it'
    rw [e1, upd_other hri rfl hne2]
    exact h1.keep hk
  · intro q hq
    have hq' : q < c.cap := hq
    by_cases hqF : q = first
    · subst hqF
      exact ⟨_, by rw [upd_same hri rfl]; exact ItemV.zero _ _⟩
    · obtain ⟨it', hi'⟩ := hslot q hq'
      exact ⟨it', by rw [upd_other hri rfl hqF]; exact hi'.keep hk⟩
end Go.Proofs.Ytjldpodehffbnaa
