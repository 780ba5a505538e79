/- Equal of two channels. Printed by mkeq.py. -/
import Derived.Test.YtjldpodehffbnaaMod8
namespace Go.Proofs.Ytjldpodehffbnaa
set_option linter.unusedVariables false
set_option linter.unnecessarySimpa false
set_option linter.unusedSimpArgs false
open Go.RowKit

/-- The same stamp and kind. -/
def eqI (a b : It) : Bool := decide (cmpS a.e a.p b.e b.p = 0) && decide (a.r = b.r)
def eqIs : List It → List It → Bool
  | [], [] => true
  | a :: l, b :: m => eqI a b && eqIs l m
  | _, _ => false
theorem eqIs_len : ∀ {l m : List It}, eqIs l m = true → l.length = m.length
  | [], [], _ => rfl
  | [], _ :: _, h => by cases h
  | _ :: _, [], h => by cases h
  | a :: l, b :: m, h => by
    simp only [eqIs, Bool.and_eq_true] at h
    simp [eqIs_len h.2]
theorem eqIs_at : ∀ {l m : List It}, l.length = m.length → (eqIs l m = true ↔ ∀ (j : Nat) (a b : It), l[j]? = some a → m[j]? = some b → eqI a b = true)
  | [], [], _ => by simp [eqIs]
  | [], _ :: _, h => by simp at h
  | _ :: _, [], h => by simp at h
  | a :: l, b :: m, h => by
    simp only [eqIs, Bool.and_eq_true]
    rw [eqIs_at (l := l) (m := m) (by simpa using h)]
    constructor
    · rintro ⟨h1, h2⟩ j x y hx hy
      rcases j with _ | j
      · cases hx; cases hy; exact h1
      · exact h2 j x y hx hy
    · intro hh
      exact ⟨hh 0 a b rfl rfl, fun j x y hx hy => hh (j + 1) x y hx hy⟩
theorem eqI_self (a : It) : eqI a a = true := by unfold eqI; simp [cmpS_zero]
theorem eqI_comm (a b : It) : eqI a b = eqI b a := by
  unfold eqI
  have h := cmpS_neg a.e b.e a.p b.p
  rw [Bool.eq_iff_iff]
  simp only [Bool.and_eq_true, decide_eq_true_eq]
  constructor
  · rintro ⟨h1, h2⟩; exact ⟨by omega, h2.symm⟩
  · rintro ⟨h1, h2⟩; exact ⟨by omega, h2.symm⟩
set_option maxRecDepth 20000 in set_option maxHeartbeats 1000000 in
theorem eqI_any {ok ok' : Nat → Prop} {w : World} {cs ds : List Value} {a b : It} (h : ItemV ok w cs a) (h' : ItemV ok' w ds b) :
    Calls Try.prog 62 #[.agg cs.toArray, .agg ds.toArray] w fun e w' => e = .returned (.bool (eqI a b)) ∧ Below w.heap.size w w' := by
  have H := Lib.hid h
  have H' := Lib.hid h'
  obtain ⟨me, A, n, c, mp, O, l, lc, os, k, i, s, t, BA, bn, bc, BB, bm, bd, R, q, rs, d, rfl, _⟩ := h
  obtain ⟨me', A', n', c', mp', O', l', lc', os', k', i', s', t', BA', bn', bc', BB', bm', bd', R', q', rs', d', rfl, _⟩ := h'
  obtain ⟨v, hv⟩ : ∃ v, (cmpS a.e a.p b.e b.p == 0) = v := ⟨_, rfl⟩
  obtain ⟨ra, hra⟩ : ∃ ra, a.r = ra := ⟨_, rfl⟩
  obtain ⟨rb, hrb⟩ : ∃ rb, b.r = rb := ⟨_, rfl⟩
  have hs : Hid (eqI a b = (v && decide (ra = rb))) := by unfold Hid eqI; rw [hra, hrb, ← hv]; congr 1
  rw [hra] at H ⊢
  rw [hrb] at H' ⊢
  replace hv := Lib.hid hv
  clear hra hrb
  go_enter Try.func62, Try.ntmps62
  go_wp2_with fail
  refine wp_name (fun wx => Below w.heap.size w wx ∧ Bx wx w.heap.size [.int .i64 me, .slice A n c, .int .i64 a.mass, .slice O l lc, .int .i64 k, .int .i64 i, .int .i64 s, .string t, .slice BA bn bc, .slice BB bm bd, .slice R ra q] ∧ Bx wx (w.heap.size + 1) [.int .i64 me', .slice A' n' c', .int .i64 b.mass, .slice O' l' lc', .int .i64 k', .int .i64 i', .int .i64 s', .string t', .slice BA' bn' bc', .slice BB' bm' bd', .slice R' rb q']) ⟨by repeat (first | with_reducible assumption | with_reducible exact G.refl _ | with_reducible refine G.drew ?_ | with_reducible refine G.drewN ?_ _ | with_reducible refine G.alloc ?_ _ | with_reducible refine Below.setCell ?_ (by first | (simp; done) | (simp; omega)) _ | with_reducible refine G.trans ?_ hb12 | with_reducible refine G.trans ?_ hb11 | with_reducible refine G.trans ?_ hb10 | with_reducible refine G.trans ?_ hb9 | with_reducible refine G.trans ?_ hb8 | with_reducible refine G.trans ?_ hb7 | with_reducible refine G.trans ?_ hb6 | with_reducible refine G.trans ?_ hb5 | with_reducible refine G.trans ?_ hb4 | with_reducible refine G.trans ?_ hb3 | with_reducible refine G.trans ?_ hb2 | with_reducible refine G.trans ?_ hb1 | with_reducible refine G.trans ?_ hb | assumption), by repeat (first | with_reducible assumption | (with_reducible exact Bx.new (by simp; done) (by rfl)) | (with_reducible refine Bx.alloc ?_ _) | (with_reducible refine Bx.drewN ?_ _) | ((with_reducible apply Bx.put); rotate_right; (first | rfl | skip)) | (with_reducible refine Bx.other ?_ (by first | (simp; done) | (simp; omega)) _)), by repeat (first | with_reducible assumption | (with_reducible exact Bx.new (by simp; done) (by rfl)) | (with_reducible refine Bx.alloc ?_ _) | (with_reducible refine Bx.drewN ?_ _) | ((with_reducible apply Bx.put); rotate_right; (first | rfl | skip)) | (with_reducible refine Bx.other ?_ (by first | (simp; done) | (simp; omega)) _))⟩ ?_
  rintro w1 ⟨hb1, x, y⟩
  replace H := Lib.hid (H.out.grow hb1)
  replace H' := Lib.hid (H'.out.grow hb1)
  obtain ⟨c0, c1, c2, c3, c4, c5, c6, c7, c8, c9, c10⟩ := x.c11
  obtain ⟨y0, y1, y2, y3, y4, y5, y6, y7, y8, y9, y10⟩ := y.c11
  have lt1 := x.lt
  have lt2 := y.lt
  rcases v with _ | _
  · have hs' : Hid (eqI a b = false) := by unfold Hid; rw [hs.out]; rfl
    refine wp_region_ord [(0, 1), (2, 1), (1, 2), (3, 2), (4, 2), (5, 1), (6, 1), (7, 1), (8, 1), (9, 1), (10, 1), (11, 1), (12, 1), (13, 1), (14, 1)] [] 5 (by kernel_rfl) (by decide +kernel) ?_
    simp only [pickO, List.append_eq, List.cons_append, List.nil_append, List.getElem?_cons_succ, List.getElem?_cons_zero]
    intro w0 hG
    (repeat ((first | (with_reducible refine ord_q1 ?_) | (with_reducible refine ord_q0 ?_)); intro K hK; first | (refine Or.inr ⟨?_, ?_⟩; (focus (go_simp; first | done | (simp [undef]; done))); go_simp; (with_reducible refine hK _ ?_); clear hK K) | (refine Or.inl ⟨?_, ?_⟩; (focus (go_simp; done)); apply Exists.intro; refine And.intro ?_ ?_; (focus (first | (intro wq hq; obtain ⟨hcq, hfq⟩ := G.old hq; go_simp; (first | done | exact rfl); done) | (intro wq; go_simp; (first | done | exact rfl); done))); go_simp; (with_reducible refine hK _ ?_); clear hK K) | fail))
    (with_reducible refine ord_run ?_ hG)
    intro K hK
    go_simp
    go_at_call 16; (with_reducible refine (stampc_any H.out hG.b).mono ?_); rintro e' w3 ⟨A3, c3', rfl, hp3, hb3⟩
    replace hG := Grew.trans hG hb3
    (try dsimp only)
    (with_reducible refine hK _ _ hG ?_)
    clear hK K
    (repeat ((first | (with_reducible refine ord_q1 ?_) | (with_reducible refine ord_q0 ?_)); intro K hK; first | (refine Or.inr ⟨?_, ?_⟩; (focus (go_simp; first | done | (simp [undef]; done))); go_simp; (with_reducible refine hK _ ?_); clear hK K) | (refine Or.inl ⟨?_, ?_⟩; (focus (go_simp; done)); apply Exists.intro; refine And.intro ?_ ?_; (focus (first | (intro wq hq; obtain ⟨hcq, hfq⟩ := G.old hq; go_simp; (first | done | exact rfl); done) | (intro wq; go_simp; (first | done | exact rfl); done))); go_simp; (with_reducible refine hK _ ?_); clear hK K) | fail))
    (with_reducible refine ord_run ?_ hG)
    intro K hK
    go_simp
    go_at_call 16; (with_reducible refine (stampc_any H'.out hG.b).mono ?_); rintro e' w4 ⟨A4, c4', rfl, hp4, hb4⟩
    replace hG := Grew.trans hG hb4
    (try dsimp only)
    (with_reducible refine hK _ _ hG ?_)
    clear hK K
    (repeat ((first | (with_reducible refine ord_q1 ?_) | (with_reducible refine ord_q0 ?_)); intro K hK; first | (refine Or.inr ⟨?_, ?_⟩; (focus (go_simp; first | done | (simp [undef]; done))); go_simp; (with_reducible refine hK _ ?_); clear hK K) | (refine Or.inl ⟨?_, ?_⟩; (focus (go_simp; done)); apply Exists.intro; refine And.intro ?_ ?_; (focus (first | (intro wq hq; obtain ⟨hcq, hfq⟩ := G.old hq; go_simp; (first | done | exact rfl); done) | (intro wq; go_simp; (first | done | exact rfl); done))); go_simp; (with_reducible refine hK _ ?_); clear hK K) | fail))
    (with_reducible refine ord_run ?_ hG)
    intro K hK
    go_simp
    go_at_call 15; (with_reducible refine (equal_any a.e b.e A3 A4 a.p.length b.p.length c3' c4' a.p b.p _ (hp3.sl.grow hb4) hp4.sl hp3.max).mono ?_); rintro e' w5 ⟨rfl, hb5⟩; rw [hv.out]
    replace hG := Grew.trans hG hb5
    (try dsimp only)
    (with_reducible refine hK _ _ hG ?_)
    clear hK K
    (repeat ((first | (with_reducible refine ord_q1 ?_) | (with_reducible refine ord_q0 ?_)); intro K hK; first | (refine Or.inr ⟨?_, ?_⟩; (focus (go_simp; first | done | (simp [undef]; done))); go_simp; (with_reducible refine hK _ ?_); clear hK K) | (refine Or.inl ⟨?_, ?_⟩; (focus (go_simp; done)); apply Exists.intro; refine And.intro ?_ ?_; (focus (first | (intro wq hq; obtain ⟨hcq, hfq⟩ := G.old hq; go_simp; (first | done | exact rfl); done) | (intro wq; go_simp; (first | done | exact rfl); done))); go_simp; (with_reducible refine hK _ ?_); clear hK K) | fail))
    (with_reducible refine ord_nil ?_)
    go_wp2_with fail
    go_ret
    exact ⟨ret_b hs'.out.symm, G.trans hb1 hG.b⟩
  · have hs' : Hid (eqI a b = decide (ra = rb)) := by unfold Hid; rw [hs.out]; simp
    refine wp_region_ord [(0, 1), (2, 1), (1, 2), (3, 2), (4, 2), (5, 1), (6, 1), (7, 1), (8, 1), (9, 1), (10, 1), (11, 1), (12, 1), (13, 1), (14, 1)] [] 5 (by kernel_rfl) (by decide +kernel) ?_
    simp only [pickO, List.append_eq, List.cons_append, List.nil_append, List.getElem?_cons_succ, List.getElem?_cons_zero]
    intro w0 hG
    (repeat ((first | (with_reducible refine ord_q1 ?_) | (with_reducible refine ord_q0 ?_)); intro K hK; first | (refine Or.inr ⟨?_, ?_⟩; (focus (go_simp; first | done | (simp [undef]; done))); go_simp; (with_reducible refine hK _ ?_); clear hK K) | (refine Or.inl ⟨?_, ?_⟩; (focus (go_simp; done)); apply Exists.intro; refine And.intro ?_ ?_; (focus (first | (intro wq hq; obtain ⟨hcq, hfq⟩ := G.old hq; go_simp; (first | done | exact rfl); done) | (intro wq; go_simp; (first | done | exact rfl); done))); go_simp; (with_reducible refine hK _ ?_); clear hK K) | fail))
    (with_reducible refine ord_run ?_ hG)
    intro K hK
    go_simp
    go_at_call 16; (with_reducible refine (stampc_any H.out hG.b).mono ?_); rintro e' w3 ⟨A3, c3', rfl, hp3, hb3⟩
    replace hG := Grew.trans hG hb3
    (try dsimp only)
    (with_reducible refine hK _ _ hG ?_)
    clear hK K
    (repeat ((first | (with_reducible refine ord_q1 ?_) | (with_reducible refine ord_q0 ?_)); intro K hK; first | (refine Or.inr ⟨?_, ?_⟩; (focus (go_simp; first | done | (simp [undef]; done))); go_simp; (with_reducible refine hK _ ?_); clear hK K) | (refine Or.inl ⟨?_, ?_⟩; (focus (go_simp; done)); apply Exists.intro; refine And.intro ?_ ?_; (focus (first | (intro wq hq; obtain ⟨hcq, hfq⟩ := G.old hq; go_simp; (first | done | exact rfl); done) | (intro wq; go_simp; (first | done | exact rfl); done))); go_simp; (with_reducible refine hK _ ?_); clear hK K) | fail))
    (with_reducible refine ord_run ?_ hG)
    intro K hK
    go_simp
    go_at_call 16; (with_reducible refine (stampc_any H'.out hG.b).mono ?_); rintro e' w4 ⟨A4, c4', rfl, hp4, hb4⟩
    replace hG := Grew.trans hG hb4
    (try dsimp only)
    (with_reducible refine hK _ _ hG ?_)
    clear hK K
    (repeat ((first | (with_reducible refine ord_q1 ?_) | (with_reducible refine ord_q0 ?_)); intro K hK; first | (refine Or.inr ⟨?_, ?_⟩; (focus (go_simp; first | done | (simp [undef]; done))); go_simp; (with_reducible refine hK _ ?_); clear hK K) | (refine Or.inl ⟨?_, ?_⟩; (focus (go_simp; done)); apply Exists.intro; refine And.intro ?_ ?_; (focus (first | (intro wq hq; obtain ⟨hcq, hfq⟩ := G.old hq; go_simp; (first | done | exact rfl); done) | (intro wq; go_simp; (first | done | exact rfl); done))); go_simp; (with_reducible refine hK _ ?_); clear hK K) | fail))
    (with_reducible refine ord_run ?_ hG)
    intro K hK
    go_simp
    go_at_call 15; (with_reducible refine (equal_any a.e b.e A3 A4 a.p.length b.p.length c3' c4' a.p b.p _ (hp3.sl.grow hb4) hp4.sl hp3.max).mono ?_); rintro e' w5 ⟨rfl, hb5⟩; rw [hv.out]
    replace hG := Grew.trans hG hb5
    (try dsimp only)
    (with_reducible refine hK _ _ hG ?_)
    clear hK K
    (repeat ((first | (with_reducible refine ord_q1 ?_) | (with_reducible refine ord_q0 ?_)); intro K hK; first | (refine Or.inr ⟨?_, ?_⟩; (focus (go_simp; first | done | (simp [undef]; done))); go_simp; (with_reducible refine hK _ ?_); clear hK K) | (refine Or.inl ⟨?_, ?_⟩; (focus (go_simp; done)); apply Exists.intro; refine And.intro ?_ ?_; (focus (first | (intro wq hq; obtain ⟨hcq, hfq⟩ := G.old hq; go_simp; (first | done | exact rfl); done) | (intro wq; go_simp; (first | done | exact rfl); done))); go_simp; (with_reducible refine hK _ ?_); clear hK K) | fail))
    (with_reducible refine ord_nil ?_)
    go_wp2_with fail
    all_goals (go_ret; exact ⟨ret_b (by rw [hs'.out]; first | rfl | exact beq_eq_decide _ _ | (rw [Bool.eq_iff_iff]; simp; done) | (rw [Bool.eq_iff_iff]; simp; omega) | simp [*]), G.trans hb1 hG.b⟩)
/-- A list of items in memory. -/
def ItemsV (ok : Nat → Prop) (w : World) (A : Option Addr) (n c : Nat) (xs : List Value) (its : List It) : Prop := Rw ok w 11 A n c xs ∧ its.length = n ∧ ∀ (j : Nat) (it : It), its[j]? = some it → ItemV ok w ((xs.drop (j * 11)).take 11) it
theorem ItemsV.grow {ok : Nat → Prop} {w w' : World} {A : Option Addr} {n c : Nat} {xs : List Value} {its : List It} (h : ItemsV ok w A n c xs its) (hb : Below w.heap.size w w') : ItemsV ok w' A n c xs its := ⟨h.1.grow hb, h.2.1, fun j it hj => (h.2.2 j it hj).grow hb⟩
theorem ItemsV.at_ {ok : Nat → Prop} {w : World} {A : Option Addr} {n c : Nat} {xs : List Value} {its : List It} (h : ItemsV ok w A n c xs its) {j : Nat} {it : It} (hj : its[j]? = some it) :
    ∃ b off z0 A5 n5 c5' z1 A6 n6 c6' z2 z3 z4 z5 A7 n7 c7' A8 n8 c8' A9 n9 c9', A = some ⟨b, off, none⟩ ∧ b < w.heap.size ∧ ItemV ok w [.int .i64 z0, .slice A5 n5 c5', .int .i64 z1, .slice A6 n6 c6', .int .i64 z2, .int .i64 z3, .int .i64 z4, .string z5, .slice A7 n7 c7', .slice A8 n8 c8', .slice A9 n9 c9'] it ∧
      w.cell? ⟨b, off + j * 11, none⟩ = some (.int .i64 z0) ∧ w.cell? ⟨b, off + j * 11 + 1, none⟩ = some (.slice A5 n5 c5') ∧ w.cell? ⟨b, off + j * 11 + 2, none⟩ = some (.int .i64 z1) ∧ w.cell? ⟨b, off + j * 11 + 3, none⟩ = some (.slice A6 n6 c6') ∧ w.cell? ⟨b, off + j * 11 + 4, none⟩ = some (.int .i64 z2) ∧
      w.cell? ⟨b, off + j * 11 + 5, none⟩ = some (.int .i64 z3) ∧ w.cell? ⟨b, off + j * 11 + 6, none⟩ = some (.int .i64 z4) ∧ w.cell? ⟨b, off + j * 11 + 7, none⟩ = some (.string z5) ∧ w.cell? ⟨b, off + j * 11 + 8, none⟩ = some (.slice A7 n7 c7') ∧ w.cell? ⟨b, off + j * 11 + 9, none⟩ = some (.slice A8 n8 c8') ∧ w.cell? ⟨b, off + j * 11 + 10, none⟩ = some (.slice A9 n9 c9') := by
  obtain ⟨h1, h2, h3⟩ := h
  have hjl := (List.getElem?_eq_some_iff.1 hj).1
  have hv := h3 j it hj
  obtain ⟨b, off, hA, hb, _, _, hc⟩ := h1.at_ (by decide) (show j < n by omega)
  obtain ⟨z0, A5, n5, c5', z1, A6, n6, c6', z2, z3, z4, z5, A7, n7, c7', A8, n8, c8', A9, n9, c9', hce⟩ := item_cells hv
  rw [hce] at hv hc
  exact ⟨b, off, z0, A5, n5, c5', z1, A6, n6, c6', z2, z3, z4, z5, A7, n7, c7', A8, n8, c8', A9, n9, c9', hA, hb, hv, hc 0 _ rfl, hc 1 _ rfl, hc 2 _ rfl, hc 3 _ rfl, hc 4 _ rfl, hc 5 _ rfl, hc 6 _ rfl, hc 7 _ rfl, hc 8 _ rfl, hc 9 _ rfl, hc 10 _ rfl⟩
set_option maxRecDepth 20000 in set_option maxHeartbeats 2000000 in
theorem eqF_any {ok ok' : Nat → Prop} {w : World} {A B : Option Addr} {n c m d : Nat} {xs ys : List Value} {l l' : List It} (h : ItemsV ok w A n c xs l) (h' : ItemsV ok' w B m d ys l') (hn : n ≤ 1024) (hm : m ≤ 1024) :
    Calls Try.prog 61 #[.slice A n c, .slice B m d, .func (.func 62) #[] #[]] w fun e w' => e = .returned (.bool (eqIs l l')) ∧ Below w.heap.size w w' := by
  have hl := h.2.1
  have hl' := h'.2.1
  have H := Lib.hid h
  have H' := Lib.hid h'
  clear h h'
  by_cases hnm : n = m
  · subst hnm
    have hat := Lib.hid (eqIs_at (l := l) (m := l') (by rw [hl, hl']))
    replace hl := Lib.hid hl
    replace hl' := Lib.hid hl'
    go_enter Try.func61, Try.ntmps61
    go_wp2_with fail
    go_loopw [17] (fun iv wr => ∃ k : Nat, k ≤ n ∧ iv = .int .i64 k ∧ Below w.heap.size w wr ∧ Hid (∀ (j : Nat) (a b : It), j < k → l[j]? = some a → l'[j]? = some b → eqI a b = true)) (fun iv _ => n - (intOf iv).toNat)
    case atStart => exact ⟨0, Nat.zero_le _, rfl, G.refl _, fun j a b hj => absurd hj (Nat.not_lt_zero _)⟩
    case round =>
      obtain ⟨k, hk, rfl, hbr, hall⟩ := hrel
      by_cases hlt : k < n
      · obtain ⟨a, ha⟩ : ∃ a, l[k]? = some a := ⟨_, List.getElem?_eq_getElem (by rw [hl.out]; exact hlt)⟩
        obtain ⟨b, hb⟩ : ∃ b, l'[k]? = some b := ⟨_, List.getElem?_eq_getElem (by rw [hl'.out]; exact hlt)⟩
        obtain ⟨bX, offX, z0X, A5X, n5X, c5X, z1X, A6X, n6X, c6X, z2X, z3X, z4X, z5X, A7X, n7X, c7X, A8X, n8X, c8X, A9X, n9X, c9X, rfl, hglX, hivX, f0X, f1X, f2X, f3X, f4X, f5X, f6X, f7X, f8X, f9X, f10X⟩ := (H.out.grow hbr).at_ ha
        obtain ⟨bY, offY, z0Y, A5Y, n5Y, c5Y, z1Y, A6Y, n6Y, c6Y, z2Y, z3Y, z4Y, z5Y, A7Y, n7Y, c7Y, A8Y, n8Y, c8Y, A9Y, n9Y, c9Y, rfl, hglY, hivY, f0Y, f1Y, f2Y, f3Y, f4Y, f5Y, f6Y, f7Y, f8Y, f9Y, f10Y⟩ := (H'.out.grow hbr).at_ hb
        replace hivX := Lib.hid hivX
        replace hivY := Lib.hid hivY
        obtain ⟨v, hv⟩ : ∃ v, eqI a b = v := ⟨_, rfl⟩
        replace ha := Lib.hid ha
        replace hb := Lib.hid hb
        go_wp2_with fail
        refine (eqI_any (hivX.out.grow (by repeat (first | with_reducible assumption | with_reducible exact G.refl _ | with_reducible refine G.drew ?_ | with_reducible refine G.drewN ?_ _ | with_reducible refine G.alloc ?_ _ | with_reducible refine Below.setCell ?_ (by first | (simp; done) | (simp; omega)) _ | with_reducible refine G.trans ?_ hb12 | with_reducible refine G.trans ?_ hb11 | with_reducible refine G.trans ?_ hb10 | with_reducible refine G.trans ?_ hb9 | with_reducible refine G.trans ?_ hb8 | with_reducible refine G.trans ?_ hb7 | with_reducible refine G.trans ?_ hb6 | with_reducible refine G.trans ?_ hb5 | with_reducible refine G.trans ?_ hb4 | with_reducible refine G.trans ?_ hb3 | with_reducible refine G.trans ?_ hb2 | with_reducible refine G.trans ?_ hb1 | with_reducible refine G.trans ?_ hb | assumption))) (hivY.out.grow (by repeat (first | with_reducible assumption | with_reducible exact G.refl _ | with_reducible refine G.drew ?_ | with_reducible refine G.drewN ?_ _ | with_reducible refine G.alloc ?_ _ | with_reducible refine Below.setCell ?_ (by first | (simp; done) | (simp; omega)) _ | with_reducible refine G.trans ?_ hb12 | with_reducible refine G.trans ?_ hb11 | with_reducible refine G.trans ?_ hb10 | with_reducible refine G.trans ?_ hb9 | with_reducible refine G.trans ?_ hb8 | with_reducible refine G.trans ?_ hb7 | with_reducible refine G.trans ?_ hb6 | with_reducible refine G.trans ?_ hb5 | with_reducible refine G.trans ?_ hb4 | with_reducible refine G.trans ?_ hb3 | with_reducible refine G.trans ?_ hb2 | with_reducible refine G.trans ?_ hb1 | with_reducible refine G.trans ?_ hb | assumption)))).mono ?_
        rw [hv]
        rintro e3 w3 ⟨rfl, hb3⟩
        have hb4 : Below wr.heap.size wr w3 := G.trans (by repeat (first | with_reducible assumption | with_reducible exact G.refl _ | with_reducible refine G.drew ?_ | with_reducible refine G.drewN ?_ _ | with_reducible refine G.alloc ?_ _ | with_reducible refine Below.setCell ?_ (by first | (simp; done) | (simp; omega)) _ | with_reducible refine G.trans ?_ hb12 | with_reducible refine G.trans ?_ hb11 | with_reducible refine G.trans ?_ hb10 | with_reducible refine G.trans ?_ hb9 | with_reducible refine G.trans ?_ hb8 | with_reducible refine G.trans ?_ hb7 | with_reducible refine G.trans ?_ hb6 | with_reducible refine G.trans ?_ hb5 | with_reducible refine G.trans ?_ hb4 | with_reducible refine G.trans ?_ hb3 | with_reducible refine G.trans ?_ hb2 | with_reducible refine G.trans ?_ hb1 | with_reducible refine G.trans ?_ hb | assumption)) hb3
        have hbw3 := G.trans hbr hb4
        clear f0X f1X f2X f3X f4X f5X f6X f7X f8X f9X f10X f0Y f1Y f2Y f3Y f4Y f5Y f6Y f7Y f8Y f9Y f10Y hivX hivY
        rcases v with _ | _
        · have hs : Hid (eqIs l l' = false) := by
            unfold Hid
            rw [Bool.eq_false_iff]
            intro hh
            rw [hat.out.1 hh k a b ha.out hb.out] at hv
            cases hv
          go_wp2_with fail
          go_ret
          exact ⟨ret_b hs.out.symm, hbw3⟩
        · go_wp2_with fail
          go_roundw
          case rel => exact ⟨k + 1, by omega, by go_num, hbw3, fun j a' b' hj ha' hb' => by
            rcases Nat.lt_or_ge j k with h | h
            · exact hall.out j a' b' h ha' hb'
            · obtain rfl : j = k := by omega
              rw [ha.out] at ha'
              rw [hb.out] at hb'
              cases ha'
              cases hb'
              exact hv⟩
          case measure => simp [intOf]; omega
      · obtain rfl : k = n := by omega
        have hs : Hid (eqIs l l' = true) := hat.out.2 fun j a b ha hb => hall.out j a b (by have := (List.getElem?_eq_some_iff.1 ha).1; rw [hl.out] at this; exact this) ha hb
        go_wp2_with fail
        go_ret
        exact ⟨ret_b hs.out.symm, hbr⟩
  · have hs : Hid (eqIs l l' = false) := by
      unfold Hid
      rw [Bool.eq_false_iff]
      intro hh
      have := eqIs_len hh
      omega
    have hne : ((n : Int) == (m : Int)) = false := by simp; omega
    clear hl hl'
    go_enter Try.func61, Try.ntmps61
    go_wp2_with fail
    go_ret
    exact ⟨ret_b hs.out.symm, G.refl _⟩
end Go.Proofs.Ytjldpodehffbnaa
