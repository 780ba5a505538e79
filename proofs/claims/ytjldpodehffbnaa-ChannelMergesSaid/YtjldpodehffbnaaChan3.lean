/- Peek and Least. -/
import Derived.Test.YtjldpodehffbnaaChan2
namespace Go.Proofs.Ytjldpodehffbnaa
set_option linter.unusedVariables false
set_option linter.unnecessarySimpa false
set_option linter.unusedSimpArgs false
open Go.RowKit

theorem Bx.chunk {w : World} {r : Nat} {ring : List Value} (h : Bx w r ring) (q : Nat) : ∀ i u, ((ring.drop (q * 11)).take 11)[i]? = some u → w.cell? ⟨r, q * 11 + i, none⟩ = some u := fun i u hu => by
  rw [List.getElem?_take] at hu
  split at hu
  · rw [List.getElem?_drop] at hu
    exact (h.2 _ _ hu).1
  · cases hu
abbrev zItem : Array Value := #[.int .i64 0, .slice none 0 0, .int .i64 0, .slice none 0 0, .int .i64 0, .int .i64 0, .int .i64 0, .string ⟨#[]⟩, .slice none 0 0, .slice none 0 0, .slice none 0 0]
/-- An item and true have come back. -/
def RetK (it : It) (w : World) (end_ : Ending) (w' : World) : Prop := ∃ cs, end_ = .returned (.tuple #[.agg cs.toArray, .bool true]) ∧ ItemV (From w.heap.size) w' cs it ∧ Below w.heap.size w w'
set_option maxRecDepth 20000 in set_option maxHeartbeats 2000000 in
theorem peek0_any {ok : Nat → Prop} {w : World} {b r : Nat} {c : Ch} (h : ChanAt ok w b r c) (h0 : c.items = []) :
    Calls Try.prog 33 #[.pointer (some ⟨b, 0, none⟩)] w fun e w' => e = .returned (.tuple #[.agg zItem, .bool false]) ∧ Below w.heap.size w w' := by
  obtain ⟨first, ring, A, B, n, cc, m, d, hI⟩ := h
  have k2 := (hI.1.2 2 _ rfl).1
  rw [h0] at k2
  have lt := hI.1.lt
  clear hI h0
  go_enter Try.func33, Try.ntmps33
  go_wp2_with fail
  exact bodyPost_ret (v := .tuple #[.agg zItem, .bool false]) (by simp only [results, Try.results33]; go_simp) rfl ⟨rfl, by repeat (first | with_reducible assumption | with_reducible exact G.refl _ | with_reducible refine G.drew ?_ | with_reducible refine G.drewN ?_ _ | with_reducible refine G.alloc ?_ _ | with_reducible refine Below.setCell ?_ (by first | (simp; done) | (simp; omega)) _ | with_reducible refine G.trans ?_ hb12 | with_reducible refine G.trans ?_ hb11 | with_reducible refine G.trans ?_ hb10 | with_reducible refine G.trans ?_ hb9 | with_reducible refine G.trans ?_ hb8 | with_reducible refine G.trans ?_ hb7 | with_reducible refine G.trans ?_ hb6 | with_reducible refine G.trans ?_ hb5 | with_reducible refine G.trans ?_ hb4 | with_reducible refine G.trans ?_ hb3 | with_reducible refine G.trans ?_ hb2 | with_reducible refine G.trans ?_ hb1 | with_reducible refine G.trans ?_ hb | assumption)⟩
set_option maxRecDepth 20000 in set_option maxHeartbeats 2000000 in
theorem peek1_any {ok : Nat → Prop} {w : World} {b r : Nat} {c : Ch} (h : ChanAt ok w b r c) {it : It} {l : List It} (h0 : c.items = it :: l) :
    Calls Try.prog 33 #[.pointer (some ⟨b, 0, none⟩)] w (RetK it w) := by
  obtain ⟨first, ring, A, B, n, cc, m, d, hI⟩ := h
  have hne : ((c.items.length : Int) == 0) = false := by rw [h0]; simp; omega
  have hne' : ¬ c.items.length = 0 := by rw [h0]; simp
  have hit := hI.2.2.2.2.2.2.2.2.2.2.2.1 0 it (by rw [h0]; rfl)
  have hfc := hI.2.2.2.2.2.1
  have hc4 := hI.2.2.2.2.2.2.2.1
  rw [Nat.add_zero, Nat.mod_eq_of_lt hfc] at hit
  have hch := hI.2.1.chunk first
  obtain ⟨z0, A5, n5, c5', z1, A6, n6, c6', z2, z3, z4, z5, A7, n7, c7', A8, n8, c8', A9, n9, c9', he⟩ := item_cells hit
  rw [he] at hit hch
  have e0 : w.cell? ⟨r, first * 11, none⟩ = _ := hch 0 _ rfl
  have e1 := hch 1 _ rfl
  have e2 := hch 2 _ rfl
  have e3 := hch 3 _ rfl
  have e4 := hch 4 _ rfl
  have e5 := hch 5 _ rfl
  have e6 := hch 6 _ rfl
  have e7 := hch 7 _ rfl
  have e8 := hch 8 _ rfl
  have e9 := hch 9 _ rfl
  have e10 := hch 10 _ rfl
  have k0 := (hI.1.2 0 _ rfl).1
  have k1 := (hI.1.2 1 _ rfl).1
  have k2 := (hI.1.2 2 _ rfl).1
  have lt := hI.1.lt
  have ltr := hI.2.1.lt
  have hF0 : (0 : Int) ≤ (first : Int) := by omega
  have hF1 : (first : Int) < (c.cap : Int) := by omega
  replace hit := Lib.hid hit
  clear hI h0 hch he
  go_enter Try.func33, Try.ntmps33
  go_wp2_with fail
  refine wp_name (fun wr => Below w.heap.size w wr ∧ Hid (w.heap.size < wr.heap.size) ∧ Bx wr w.heap.size zItem.toList) ⟨by repeat (first | with_reducible assumption | with_reducible exact G.refl _ | with_reducible refine G.drew ?_ | with_reducible refine G.drewN ?_ _ | with_reducible refine G.alloc ?_ _ | with_reducible refine Below.setCell ?_ (by first | (simp; done) | (simp; omega)) _ | with_reducible refine G.trans ?_ hb12 | with_reducible refine G.trans ?_ hb11 | with_reducible refine G.trans ?_ hb10 | with_reducible refine G.trans ?_ hb9 | with_reducible refine G.trans ?_ hb8 | with_reducible refine G.trans ?_ hb7 | with_reducible refine G.trans ?_ hb6 | with_reducible refine G.trans ?_ hb5 | with_reducible refine G.trans ?_ hb4 | with_reducible refine G.trans ?_ hb3 | with_reducible refine G.trans ?_ hb2 | with_reducible refine G.trans ?_ hb1 | with_reducible refine G.trans ?_ hb | assumption), by unfold Hid; simp, by repeat (first | with_reducible assumption | (with_reducible exact Bx.new (by simp; done) (by rfl)) | (with_reducible refine Bx.alloc ?_ _) | (with_reducible refine Bx.drewN ?_ _) | ((with_reducible apply Bx.put); rotate_right; (first | rfl | skip)) | (with_reducible refine Bx.other ?_ (by first | (simp; done) | (simp; omega)) _))⟩ ?_
  rintro w1 ⟨hb1, hsz, x⟩
  replace e0 := G.cell e0 hb1
  replace e1 := G.cell e1 hb1
  replace e2 := G.cell e2 hb1
  replace e3 := G.cell e3 hb1
  replace e4 := G.cell e4 hb1
  replace e5 := G.cell e5 hb1
  replace e6 := G.cell e6 hb1
  replace e7 := G.cell e7 hb1
  replace e8 := G.cell e8 hb1
  replace e9 := G.cell e9 hb1
  replace e10 := G.cell e10 hb1
  replace k0 := G.cell k0 hb1
  replace k1 := G.cell k1 hb1
  replace lt := cell_lt k0
  replace ltr := cell_lt e0
  dsimp only at lt ltr
  clear k2
  refine wp_region_ord [(0, 1), (1, 1), (2, 1), (3, 1), (4, 1), (5, 1), (6, 1), (7, 1), (8, 1), (9, 1), (10, 2), (11, 3), (12, 0)] [11] 5 (by kernel_rfl) (by decide +kernel) ?_
  simp only [pickO, List.append_eq, List.cons_append, List.nil_append, List.getElem?_cons_succ, List.getElem?_cons_zero]
  intro w0 hG
  (repeat ((first | (with_reducible refine ord_q1 ?_) | (with_reducible refine ord_q0 ?_)); intro K hK; first | (refine Or.inr ⟨?_, ?_⟩; (focus (go_simp; first | done | (simp [undef]; done))); go_simp; (with_reducible refine hK _ ?_); clear hK K) | (refine Or.inl ⟨?_, ?_⟩; (focus (go_simp; done)); apply Exists.intro; refine And.intro ?_ ?_; (focus (first | (intro wq hq; obtain ⟨hcq, hfq⟩ := G.old hq; go_simp; (first | done | exact rfl); done) | (intro wq; go_simp; (first | done | exact rfl); done))); go_simp; (with_reducible refine hK _ ?_); clear hK K) | fail))
  have hs0 := hG.b.size
  (with_reducible refine ord_run ?_ hG)
  intro K hK
  go_simp
  go_at_call 46; (with_reducible refine (cloneI_any (hit.out.grow (G.trans hb1 hG.b))).mono ?_); rintro e' w7 ⟨cs', rfl, hi7, hb7⟩; obtain ⟨y0, A15, n15, c15', y1, A16, n16, c16', y2, y3, y4, y5, A17, n17, c17', A18, n18, c18', A19, n19, c19', rfl⟩ := item_cells hi7; replace hi7 := Lib.hid hi7
  replace hG := Grew.trans hG hb7
  (try dsimp only)
  (with_reducible refine hK _ _ hG ?_)
  clear hK K
  (repeat ((first | (with_reducible refine ord_q1 ?_) | (with_reducible refine ord_q0 ?_)); intro K hK; first | (refine Or.inr ⟨?_, ?_⟩; (focus (go_simp; first | done | (simp [undef]; done))); go_simp; (with_reducible refine hK _ ?_); clear hK K) | (refine Or.inl ⟨?_, ?_⟩; (focus (go_simp; done)); apply Exists.intro; refine And.intro ?_ ?_; (focus (first | (intro wq hq; obtain ⟨hcq, hfq⟩ := G.old hq; go_simp; (first | done | exact rfl); done) | (intro wq; go_simp; (first | done | exact rfl); done))); go_simp; (with_reducible refine hK _ ?_); clear hK K) | fail))
  have hg7 := hG.b
  replace x := x.grow hg7
  obtain ⟨a0, a1, a2, a3, a4, a5, a6, a7, a8, a9, a10⟩ := x.c11
  obtain ⟨f0, f1, f2, f3, f4, f5, f6, f7, f8, f9, f10⟩ := x.f11
  ((with_reducible refine ord_tail ?_); intro K hK; go_simp; (with_reducible refine hK _ _ ?_); clear hK K)
  (repeat ((first | (with_reducible refine ord_q1 ?_) | (with_reducible refine ord_q0 ?_)); intro K hK; first | (refine Or.inr ⟨?_, ?_⟩; (focus (go_simp; first | done | (simp [undef]; done))); go_simp; (with_reducible refine hK _ ?_); clear hK K) | (refine Or.inl ⟨?_, ?_⟩; (focus (go_simp; done)); apply Exists.intro; refine And.intro ?_ ?_; (focus (first | (intro wq hq; obtain ⟨hcq, hfq⟩ := G.old hq; go_simp; (first | done | exact rfl); done) | (intro wq; go_simp; (first | done | exact rfl); done))); go_simp; (with_reducible refine hK _ ?_); clear hK K) | fail))
  (with_reducible refine ord_nil ?_)
  clear a0 a1 a2 a3 a4 a5 a6 a7 a8 a9 a10 f0 f1 f2 f3 f4 f5 f6 f7 f8 f9 f10 e0 e1 e2 e3 e4 e5 e6 e7 e8 e9 e10
  obtain ⟨wF, hF⟩ : ∃ wF, wF = w7.setCells w.heap.size 0 [.int .i64 y0, .slice A15 n15 c15', .int .i64 y1, .slice A16 n16 c16', .int .i64 y2, .int .i64 y3, .int .i64 y4, .string y5, .slice A17 n17 c17', .slice A18 n18 c18', .slice A19 n19 c19'] := ⟨_, rfl⟩
  have z : Bx wF w.heap.size [.int .i64 y0, .slice A15 n15 c15', .int .i64 y1, .slice A16 n16 c16', .int .i64 y2, .int .i64 y3, .int .i64 y4, .string y5, .slice A17 n17 c17', .slice A18 n18 c18', .slice A19 n19 c19'] := by rw [hF]; exact x.fill rfl
  have zb : Below w.heap.size w wF := by rw [hF]; exact Below.setCells' (Nat.le_refl _) _ _ _ (G.trans hb1 hg7)
  have zk : Keeps (From w0.heap.size) w7 wF := by rw [hF]; exact Keeps.setCells (by show ¬ _ ≤ _; have := hsz.out; omega) _ _ _ (Keeps.refl _ _)
  change Exit.then _ _ Exit.normal _ (w7.setCells w.heap.size 0 [.int .i64 y0, .slice A15 n15 c15', .int .i64 y1, .slice A16 n16 c16', .int .i64 y2, .int .i64 y3, .int .i64 y4, .string y5, .slice A17 n17 c17', .slice A18 n18 c18', .slice A19 n19 c19'])
  rw [← hF]
  clear hF
  obtain ⟨a0, a1, a2, a3, a4, a5, a6, a7, a8, a9, a10⟩ := z.c11
  go_wp2_with fail
  exact bodyPost_ret (v := .tuple #[.agg #[.int .i64 y0, .slice A15 n15 c15', .int .i64 y1, .slice A16 n16 c16', .int .i64 y2, .int .i64 y3, .int .i64 y4, .string y5, .slice A17 n17 c17', .slice A18 n18 c18', .slice A19 n19 c19'], .bool true]) (by simp only [results, Try.results33]; go_simp) rfl ⟨[.int .i64 y0, .slice A15 n15 c15', .int .i64 y1, .slice A16 n16 c16', .int .i64 y2, .int .i64 y3, .int .i64 y4, .string y5, .slice A17 n17 c17', .slice A18 n18 c18', .slice A19 n19 c19'], rfl, (hi7.out.keep zk).mono fun q _ (hq : w0.heap.size ≤ q) => by show w.heap.size ≤ q; have := hsz.out; omega, zb⟩

/-- The least stamp that can still be taken. -/
def leE (c : Ch) : Int := match c.items with | [] => c.me | it :: _ => it.e
def leP (c : Ch) : List Int := match c.items with | [] => c.mp | it :: _ => it.p
set_option maxRecDepth 20000 in set_option maxHeartbeats 2000000 in
theorem least_any {ok : Nat → Prop} {w : World} {b r : Nat} {c : Ch} (h : ChanAt ok w b r c) :
    Calls Try.prog 41 #[.pointer (some ⟨b, 0, none⟩)] w (RetS (leE c) (leP c) w) := by
  have hC := Lib.hid h
  have lt := h.lt.1
  rcases hit : c.items with _ | ⟨it, l⟩
  · have he : leE c = c.me := by unfold leE; rw [hit]
    have hp : leP c = c.mp := by unfold leP; rw [hit]
    rw [he, hp]
    replace hit := Lib.hid hit
    clear h he hp
    go_enter Try.func41, Try.ntmps41
    go_wp2_with fail
    refine (peek0_any (hC.out.grow (by repeat (first | with_reducible assumption | with_reducible exact G.refl _ | with_reducible refine G.drew ?_ | with_reducible refine G.drewN ?_ _ | with_reducible refine G.alloc ?_ _ | with_reducible refine Below.setCell ?_ (by first | (simp; done) | (simp; omega)) _ | with_reducible refine G.trans ?_ hb12 | with_reducible refine G.trans ?_ hb11 | with_reducible refine G.trans ?_ hb10 | with_reducible refine G.trans ?_ hb9 | with_reducible refine G.trans ?_ hb8 | with_reducible refine G.trans ?_ hb7 | with_reducible refine G.trans ?_ hb6 | with_reducible refine G.trans ?_ hb5 | with_reducible refine G.trans ?_ hb4 | with_reducible refine G.trans ?_ hb3 | with_reducible refine G.trans ?_ hb2 | with_reducible refine G.trans ?_ hb1 | with_reducible refine G.trans ?_ hb | assumption))) hit.out).mono ?_
    rintro e' w2 ⟨rfl, hb2⟩
    have x2 : Bx w2 w.heap.size [.int .i64 0, .slice none 0 0] := Bx.grow (by repeat (first | with_reducible assumption | (with_reducible exact Bx.new (by simp; done) (by rfl)) | (with_reducible refine Bx.alloc ?_ _) | (with_reducible refine Bx.drewN ?_ _) | ((with_reducible apply Bx.put); rotate_right; (first | rfl | skip)) | (with_reducible refine Bx.other ?_ (by first | (simp; done) | (simp; omega)) _))) hb2
    have hbw : Below w.heap.size w w2 := G.trans (by repeat (first | with_reducible assumption | with_reducible exact G.refl _ | with_reducible refine G.drew ?_ | with_reducible refine G.drewN ?_ _ | with_reducible refine G.alloc ?_ _ | with_reducible refine Below.setCell ?_ (by first | (simp; done) | (simp; omega)) _ | with_reducible refine G.trans ?_ hb12 | with_reducible refine G.trans ?_ hb11 | with_reducible refine G.trans ?_ hb10 | with_reducible refine G.trans ?_ hb9 | with_reducible refine G.trans ?_ hb8 | with_reducible refine G.trans ?_ hb7 | with_reducible refine G.trans ?_ hb6 | with_reducible refine G.trans ?_ hb5 | with_reducible refine G.trans ?_ hb4 | with_reducible refine G.trans ?_ hb3 | with_reducible refine G.trans ?_ hb2 | with_reducible refine G.trans ?_ hb1 | with_reducible refine G.trans ?_ hb | assumption)) hb2
    have hsx := x2.lt
    go_wp2_with fail
    refine (mark_any (hC.out.grow (by repeat (first | with_reducible assumption | with_reducible exact G.refl _ | with_reducible refine G.drew ?_ | with_reducible refine G.drewN ?_ _ | with_reducible refine G.alloc ?_ _ | with_reducible refine Below.setCell ?_ (by first | (simp; done) | (simp; omega)) _ | with_reducible refine G.trans ?_ hb12 | with_reducible refine G.trans ?_ hb11 | with_reducible refine G.trans ?_ hb10 | with_reducible refine G.trans ?_ hb9 | with_reducible refine G.trans ?_ hb8 | with_reducible refine G.trans ?_ hb7 | with_reducible refine G.trans ?_ hb6 | with_reducible refine G.trans ?_ hb5 | with_reducible refine G.trans ?_ hb4 | with_reducible refine G.trans ?_ hb3 | with_reducible refine G.trans ?_ hb2 | with_reducible refine G.trans ?_ hb1 | with_reducible refine G.trans ?_ hb | assumption)))).mono ?_
    rintro e' w3 ⟨A', c', rfl, hr, hb3⟩
    have x3 : Bx w3 w.heap.size [.int .i64 0, .slice none 0 0] := (Bx.alloc x2 _).grow hb3
    have hb0 : Below w.heap.size w w3 := G.trans (by repeat (first | with_reducible assumption | with_reducible exact G.refl _ | with_reducible refine G.drew ?_ | with_reducible refine G.drewN ?_ _ | with_reducible refine G.alloc ?_ _ | with_reducible refine Below.setCell ?_ (by first | (simp; done) | (simp; omega)) _ | with_reducible refine G.trans ?_ hb12 | with_reducible refine G.trans ?_ hb11 | with_reducible refine G.trans ?_ hb10 | with_reducible refine G.trans ?_ hb9 | with_reducible refine G.trans ?_ hb8 | with_reducible refine G.trans ?_ hb7 | with_reducible refine G.trans ?_ hb6 | with_reducible refine G.trans ?_ hb5 | with_reducible refine G.trans ?_ hb4 | with_reducible refine G.trans ?_ hb3 | with_reducible refine G.trans ?_ hb2 | with_reducible refine G.trans ?_ hb1 | with_reducible refine G.trans ?_ hb | assumption)) hb3
    simp only [World.size_alloc] at hr
    obtain ⟨m0, g0⟩ := x3.2 0 _ rfl
    obtain ⟨m1, g1⟩ := x3.2 1 _ rfl
    go_wp2_with fail
    exact bodyPost_ret (v := .agg #[.int .i64 c.me, .slice A' c.mp.length c']) (by simp only [results, Try.results41]; go_simp) rfl ⟨A', c', rfl, hr.back (((Keeps.refl _ _).setCell (by simp; omega) _).setCell (by simp; omega) _) (by omega), (hb0.setCell (by simp) _).setCell (by simp) _⟩
  · have he : leE c = it.e := by unfold leE; rw [hit]
    have hp : leP c = it.p := by unfold leP; rw [hit]
    rw [he, hp]
    replace hit := Lib.hid hit
    clear h he hp
    go_enter Try.func41, Try.ntmps41
    go_wp2_with fail
    refine (peek1_any (hC.out.grow (by repeat (first | with_reducible assumption | with_reducible exact G.refl _ | with_reducible refine G.drew ?_ | with_reducible refine G.drewN ?_ _ | with_reducible refine G.alloc ?_ _ | with_reducible refine Below.setCell ?_ (by first | (simp; done) | (simp; omega)) _ | with_reducible refine G.trans ?_ hb12 | with_reducible refine G.trans ?_ hb11 | with_reducible refine G.trans ?_ hb10 | with_reducible refine G.trans ?_ hb9 | with_reducible refine G.trans ?_ hb8 | with_reducible refine G.trans ?_ hb7 | with_reducible refine G.trans ?_ hb6 | with_reducible refine G.trans ?_ hb5 | with_reducible refine G.trans ?_ hb4 | with_reducible refine G.trans ?_ hb3 | with_reducible refine G.trans ?_ hb2 | with_reducible refine G.trans ?_ hb1 | with_reducible refine G.trans ?_ hb | assumption))) hit.out).mono ?_
    rintro e' w2 ⟨cs, rfl, hi2, hb2⟩
    obtain ⟨y0, A15, n15, c15', y1, A16, n16, c16', y2, y3, y4, y5, A17, n17, c17', A18, n18, c18', A19, n19, c19', rfl⟩ := item_cells hi2
    have x2 : Bx w2 w.heap.size [.int .i64 0, .slice none 0 0] := Bx.grow (by repeat (first | with_reducible assumption | (with_reducible exact Bx.new (by simp; done) (by rfl)) | (with_reducible refine Bx.alloc ?_ _) | (with_reducible refine Bx.drewN ?_ _) | ((with_reducible apply Bx.put); rotate_right; (first | rfl | skip)) | (with_reducible refine Bx.other ?_ (by first | (simp; done) | (simp; omega)) _))) hb2
    have hbw : Below w.heap.size w w2 := G.trans (by repeat (first | with_reducible assumption | with_reducible exact G.refl _ | with_reducible refine G.drew ?_ | with_reducible refine G.drewN ?_ _ | with_reducible refine G.alloc ?_ _ | with_reducible refine Below.setCell ?_ (by first | (simp; done) | (simp; omega)) _ | with_reducible refine G.trans ?_ hb12 | with_reducible refine G.trans ?_ hb11 | with_reducible refine G.trans ?_ hb10 | with_reducible refine G.trans ?_ hb9 | with_reducible refine G.trans ?_ hb8 | with_reducible refine G.trans ?_ hb7 | with_reducible refine G.trans ?_ hb6 | with_reducible refine G.trans ?_ hb5 | with_reducible refine G.trans ?_ hb4 | with_reducible refine G.trans ?_ hb3 | with_reducible refine G.trans ?_ hb2 | with_reducible refine G.trans ?_ hb1 | with_reducible refine G.trans ?_ hb | assumption)) hb2
    have hsx := x2.lt
    replace hi2 := Lib.hid hi2
    go_wp2_with fail
    refine (stampc_any hi2.out (by repeat (first | with_reducible assumption | with_reducible exact G.refl _ | with_reducible refine G.drew ?_ | with_reducible refine G.drewN ?_ _ | with_reducible refine G.alloc ?_ _ | with_reducible refine Below.setCell ?_ (by first | (simp; done) | (simp; omega)) _ | with_reducible refine G.trans ?_ hb12 | with_reducible refine G.trans ?_ hb11 | with_reducible refine G.trans ?_ hb10 | with_reducible refine G.trans ?_ hb9 | with_reducible refine G.trans ?_ hb8 | with_reducible refine G.trans ?_ hb7 | with_reducible refine G.trans ?_ hb6 | with_reducible refine G.trans ?_ hb5 | with_reducible refine G.trans ?_ hb4 | with_reducible refine G.trans ?_ hb3 | with_reducible refine G.trans ?_ hb2 | with_reducible refine G.trans ?_ hb1 | with_reducible refine G.trans ?_ hb | assumption))).mono ?_
    rintro e' w3 ⟨A', c', rfl, hr, hb3⟩
    have x3 : Bx w3 w.heap.size [.int .i64 0, .slice none 0 0] := (Bx.alloc x2 _).grow hb3
    have hb0 : Below w.heap.size w w3 := G.trans (by repeat (first | with_reducible assumption | with_reducible exact G.refl _ | with_reducible refine G.drew ?_ | with_reducible refine G.drewN ?_ _ | with_reducible refine G.alloc ?_ _ | with_reducible refine Below.setCell ?_ (by first | (simp; done) | (simp; omega)) _ | with_reducible refine G.trans ?_ hb12 | with_reducible refine G.trans ?_ hb11 | with_reducible refine G.trans ?_ hb10 | with_reducible refine G.trans ?_ hb9 | with_reducible refine G.trans ?_ hb8 | with_reducible refine G.trans ?_ hb7 | with_reducible refine G.trans ?_ hb6 | with_reducible refine G.trans ?_ hb5 | with_reducible refine G.trans ?_ hb4 | with_reducible refine G.trans ?_ hb3 | with_reducible refine G.trans ?_ hb2 | with_reducible refine G.trans ?_ hb1 | with_reducible refine G.trans ?_ hb | assumption)) hb3
    simp only [World.size_alloc] at hr
    obtain ⟨m0, g0⟩ := x3.2 0 _ rfl
    obtain ⟨m1, g1⟩ := x3.2 1 _ rfl
    go_wp2_with fail
    exact bodyPost_ret (v := .agg #[.int .i64 it.e, .slice A' it.p.length c']) (by simp only [results, Try.results41]; go_simp) rfl ⟨A', c', rfl, hr.back (((Keeps.refl _ _).setCell (by simp; omega) _).setCell (by simp; omega) _) (by omega), (hb0.setCell (by simp) _).setCell (by simp) _⟩
end Go.Proofs.Ytjldpodehffbnaa
