/- Put. -/
import Derived.Test.YtjldpodehffbnaaChan1
namespace Go.Proofs.Ytjldpodehffbnaa
set_option linter.unusedVariables false
set_option linter.unnecessarySimpa false
set_option linter.unusedSimpArgs false
open Go.RowKit

/-- The ring with other cells at i. -/
def upd (ring : List Value) (i : Nat) (cs : List Value) : List Value := ring.take (i * 11) ++ (cs ++ ring.drop (i * 11 + 11))
theorem upd_len {ring cs : List Value} {i : Nat} (h : i * 11 + 11 ≤ ring.length) (hc : cs.length = 11) : (upd ring i cs).length = ring.length := by
  unfold upd; simp; omega
theorem upd_same {ring cs : List Value} {i : Nat} (h : i * 11 + 11 ≤ ring.length) (hc : cs.length = 11) : ((upd ring i cs).drop (i * 11)).take 11 = cs := by
  unfold upd
  rw [List.drop_append_of_le_length (by rw [List.length_take]; omega), List.drop_of_length_le (by rw [List.length_take]; omega), List.nil_append, List.take_append_of_le_length (by omega), List.take_of_length_le (by omega)]
theorem upd_other {ring cs : List Value} {i q : Nat} (h : i * 11 + 11 ≤ ring.length) (hc : cs.length = 11) (hq : q ≠ i) : ((upd ring i cs).drop (q * 11)).take 11 = (ring.drop (q * 11)).take 11 := by
  apply List.ext_getElem?
  intro k
  rw [List.getElem?_take, List.getElem?_take]
  split
  · rw [List.getElem?_drop, List.getElem?_drop]
    unfold upd
    rcases Nat.lt_or_ge q i with hl | hl
    · rw [List.getElem?_append_left (by rw [List.length_take]; omega), List.getElem?_take, if_pos (by omega)]
    · rw [List.getElem?_append_right (by rw [List.length_take]; omega), List.length_take, List.getElem?_append_right (by omega), List.getElem?_drop]
      congr 1
      omega
  · rfl
theorem Bx.fillp {B : Nat} : ∀ (vs : List Value) (w : World) (pre l post : List Value), Bx w B (pre ++ (l ++ post)) → l.length = vs.length → Bx (w.setCells B pre.length vs) B (pre ++ (vs ++ post))
  | [], w, pre, l, post, h, e => by
    have : l = [] := List.eq_nil_of_length_eq_zero e
    subst this
    exact h
  | v :: vs, w, pre, [], post, h, e => by cases e
  | v :: vs, w, pre, x :: l, post, h, e => by
    have h1 : Bx (w.setCell ⟨B, pre.length, none⟩ v) B ((pre ++ [v]) ++ (l ++ post)) := Bx.put h (by simp [List.set_append])
    have h2 := Bx.fillp vs _ (pre ++ [v]) l post h1 (by simpa using e)
    simpa [World.setCells] using h2
theorem Bx.upd {w : World} {r i : Nat} {ring cs : List Value} (h : Bx w r ring) (hi : i * 11 + 11 ≤ ring.length) (hc : cs.length = 11) : Bx (w.setCells r (i * 11) cs) r (upd ring i cs) := by
  have e : ring = ring.take (i * 11) ++ ((ring.drop (i * 11)).take 11 ++ ring.drop (i * 11 + 11)) := by
    rw [show ring.drop (i * 11 + 11) = (ring.drop (i * 11)).drop 11 by rw [List.drop_drop], List.take_append_drop, List.take_append_drop]
  rw [e] at h
  have := Bx.fillp cs w _ _ _ h (by rw [List.length_take, List.length_drop]; omega)
  rwa [List.length_take, Nat.min_eq_left (by omega)] at this
/-- An index in the ring. -/
theorem ix {f j n : Nat} (hf : f < n) (hj : j ≤ n) : (f + j) % n = if f + j < n then f + j else f + j - n := by
  split
  · exact Nat.mod_eq_of_lt (by assumption)
  · rename_i h
    rw [Nat.mod_eq_sub_mod (by omega)]
    exact Nat.mod_eq_of_lt (by omega)
theorem ix_lt {f j n : Nat} (hf : f < n) : (f + j) % n < n := Nat.mod_lt _ (by omega)
theorem item_shape {ok : Nat → Prop} {w : World} {cs : List Value} {it : It} (h : ItemV ok w cs it) :
    ∃ a b c d e f g i j k l, cs = [a, b, c, d, e, f, g, i, j, k, l] := by
  obtain ⟨me, A, n, c, mp, O, l, lc, os, k, i, s, t, BA, bn, bc, BB, bm, bd, R, q, rs, d, h0, _⟩ := h
  exact ⟨_, _, _, _, _, _, _, _, _, _, _, h0⟩

theorem item_cells {ok : Nat → Prop} {w : World} {cs : List Value} {it : It} (h : ItemV ok w cs it) :
    ∃ me A n c mass O l lc k i s t BA bn bc BB bm bd R r q, cs = [.int .i64 me, .slice A n c, .int .i64 mass, .slice O l lc, .int .i64 k, .int .i64 i, .int .i64 s, .string t, .slice BA bn bc, .slice BB bm bd, .slice R r q] := by
  obtain ⟨me, A, n, c, mp, O, l, lc, os, k, i, s, t, BA, bn, bc, BB, bm, bd, R, q, rs, d, h0, _⟩ := h
  exact ⟨_, _, _, _, _, _, _, _, _, _, _, _, _, _, _, _, _, _, _, _, _, h0⟩
theorem ord_skip {P : Program} {ops : Array Oper} {Q : Exit → Act → World → Prop} {C : World → Prop} {o : Oper} {l : List (Nat × Oper)} {a : Act} {w : World} (hw : Region.wanted o (yielded ops a.tmps) = false) (hc : C w)
    (h : ∀ K : Act → Prop, (∀ a', wpOrd P ops Q C l a' w → K a') → K (a.put o.dst undef)) : wpOrd P ops Q C ((2, o) :: l) a w := by
  simp only [wpOrd, hw, Bool.false_eq_true, if_false]
  exact h (fun a' => wpOrd P ops Q C l a' w) (fun _ h => h)
theorem Bx.ex11 {w : World} {r : Nat} {ring : List Value} (h : Bx w r ring) (i : Nat) (hi : i * 11 + 11 ≤ ring.length) :
    ((∃ a, w.cell? ⟨r, i * 11, none⟩ = some a) ∧ (∃ a, w.cell? ⟨r, i * 11 + 1, none⟩ = some a) ∧ (∃ a, w.cell? ⟨r, i * 11 + 2, none⟩ = some a) ∧ (∃ a, w.cell? ⟨r, i * 11 + 3, none⟩ = some a) ∧ (∃ a, w.cell? ⟨r, i * 11 + 4, none⟩ = some a) ∧ (∃ a, w.cell? ⟨r, i * 11 + 5, none⟩ = some a) ∧ (∃ a, w.cell? ⟨r, i * 11 + 6, none⟩ = some a) ∧ (∃ a, w.cell? ⟨r, i * 11 + 7, none⟩ = some a) ∧ (∃ a, w.cell? ⟨r, i * 11 + 8, none⟩ = some a) ∧ (∃ a, w.cell? ⟨r, i * 11 + 9, none⟩ = some a) ∧ (∃ a, w.cell? ⟨r, i * 11 + 10, none⟩ = some a)) ∧
    (w.frozen? ⟨r, i * 11, none⟩ = false ∧ w.frozen? ⟨r, i * 11 + 1, none⟩ = false ∧ w.frozen? ⟨r, i * 11 + 2, none⟩ = false ∧ w.frozen? ⟨r, i * 11 + 3, none⟩ = false ∧ w.frozen? ⟨r, i * 11 + 4, none⟩ = false ∧ w.frozen? ⟨r, i * 11 + 5, none⟩ = false ∧ w.frozen? ⟨r, i * 11 + 6, none⟩ = false ∧ w.frozen? ⟨r, i * 11 + 7, none⟩ = false ∧ w.frozen? ⟨r, i * 11 + 8, none⟩ = false ∧ w.frozen? ⟨r, i * 11 + 9, none⟩ = false ∧ w.frozen? ⟨r, i * 11 + 10, none⟩ = false) := by
  have k : ∀ j, j < 11 → (∃ a, w.cell? ⟨r, i * 11 + j, none⟩ = some a) ∧ w.frozen? ⟨r, i * 11 + j, none⟩ = false := fun j hj => by
    have := h.2 (i * 11 + j) _ (List.getElem?_eq_getElem (by omega))
    exact ⟨⟨_, this.1⟩, this.2⟩
  exact ⟨⟨(k 0 (by omega)).1, (k 1 (by omega)).1, (k 2 (by omega)).1, (k 3 (by omega)).1, (k 4 (by omega)).1, (k 5 (by omega)).1, (k 6 (by omega)).1, (k 7 (by omega)).1, (k 8 (by omega)).1, (k 9 (by omega)).1, (k 10 (by omega)).1⟩,
    ⟨(k 0 (by omega)).2, (k 1 (by omega)).2, (k 2 (by omega)).2, (k 3 (by omega)).2, (k 4 (by omega)).2, (k 5 (by omega)).2, (k 6 (by omega)).2, (k 7 (by omega)).2, (k 8 (by omega)).2, (k 9 (by omega)).2, (k 10 (by omega)).2⟩⟩
/-- What Put does. -/
def putC (k : Int) (c : Ch) (it : It) : Int × Ch :=
  if k ≠ 0 then (k, c) else if cmpS it.e it.p c.me c.mp < 0 ∨ c.used = true ∧ cmpS it.e it.p c.le c.lp ≤ 0 then (24, c) else if c.items.length = c.cap then (35, c)
  else (0, { c with items := c.items ++ [it], me := it.e, mp := it.p, le := it.e, lp := it.p, used := true })
def RetPut (ok : Nat → Prop) (b r : Nat) (k : Int) (c : Ch) (it : It) (w : World) (e : Ending) (w' : World) : Prop :=
  e = .returned (.int .i64 (putC k c it).1) ∧ ChanAt ok w' b r (putC k c it).2 ∧ Chg b r w w'
set_option maxRecDepth 20000 in set_option maxHeartbeats 2000000 in
theorem put_any {ok : Nat → Prop} {w : World} {b r : Nat} {c : Ch} (h : ChanAt ok w b r c) {cs : List Value} {it : It} (hi : ItemV ok w cs it) (hf : ∀ x, w.heap.size ≤ x → ok x) :
    Calls Try.prog 22 #[.pointer (some ⟨b, 0, none⟩), .agg cs.toArray] w (RetPut ok b r (chkI (zeroC cs) it) c it w) := by
  have hc := Lib.hid h
  have HV := Lib.hid hi
  obtain ⟨v0, v1, v2, v3, v4, v5, v6, v7, v8, v9, v10, hcs⟩ := item_shape hi
  have hlt := h.lt
  clear h hi
  obtain ⟨kk, hkk⟩ : ∃ kk, chkI (zeroC cs) it = kk := ⟨_, rfl⟩
  rw [hkk]
  have hkk' := Lib.hid hkk
  clear hkk
  subst hcs
  have CK := fun w' (hb : Below w.heap.size w w') => icheck_any (HV.out.grow hb)
  rw [hkk'.out] at CK
  replace CK := Lib.hid CK
  go_enter Try.func22, Try.ntmps22
  go_wp2_with fail
  refine (CK.out _ (by repeat (first | with_reducible assumption | with_reducible exact G.refl _ | with_reducible refine G.drew ?_ | with_reducible refine G.drewN ?_ _ | with_reducible refine G.alloc ?_ _ | with_reducible refine Below.setCell ?_ (by first | (simp; done) | (simp; omega)) _ | with_reducible refine G.trans ?_ hb12 | with_reducible refine G.trans ?_ hb11 | with_reducible refine G.trans ?_ hb10 | with_reducible refine G.trans ?_ hb9 | with_reducible refine G.trans ?_ hb8 | with_reducible refine G.trans ?_ hb7 | with_reducible refine G.trans ?_ hb6 | with_reducible refine G.trans ?_ hb5 | with_reducible refine G.trans ?_ hb4 | with_reducible refine G.trans ?_ hb3 | with_reducible refine G.trans ?_ hb2 | with_reducible refine G.trans ?_ hb1 | with_reducible refine G.trans ?_ hb | assumption))).mono ?_
  rintro e' w2 ⟨rfl, hb2⟩
  have x : Bx w2 w.heap.size [v0, v1, v2, v3, v4, v5, v6, v7, v8, v9, v10] := Bx.grow (by repeat (first | with_reducible assumption | (with_reducible exact Bx.new (by simp; done) (by rfl)) | (with_reducible refine Bx.alloc ?_ _) | (with_reducible refine Bx.drewN ?_ _) | ((with_reducible apply Bx.put); rotate_right; (first | rfl | skip)) | (with_reducible refine Bx.other ?_ (by first | (simp; done) | (simp; omega)) _))) hb2
  have hbw : Below w.heap.size w w2 := G.trans (by repeat (first | with_reducible assumption | with_reducible exact G.refl _ | with_reducible refine G.drew ?_ | with_reducible refine G.drewN ?_ _ | with_reducible refine G.alloc ?_ _ | with_reducible refine Below.setCell ?_ (by first | (simp; done) | (simp; omega)) _ | with_reducible refine G.trans ?_ hb12 | with_reducible refine G.trans ?_ hb11 | with_reducible refine G.trans ?_ hb10 | with_reducible refine G.trans ?_ hb9 | with_reducible refine G.trans ?_ hb8 | with_reducible refine G.trans ?_ hb7 | with_reducible refine G.trans ?_ hb6 | with_reducible refine G.trans ?_ hb5 | with_reducible refine G.trans ?_ hb4 | with_reducible refine G.trans ?_ hb3 | with_reducible refine G.trans ?_ hb2 | with_reducible refine G.trans ?_ hb1 | with_reducible refine G.trans ?_ hb | assumption)) hb2
  by_cases hk0 : kk = 0
  · subst hk0
    obtain ⟨c0, c1, c2, c3, c4, c5, c6, c7, c8, c9, c10⟩ := x.c11
    go_wp2_with fail
    refine (stampc_any HV.out hbw).mono ?_
    rintro e' w3 ⟨A', c', rfl, hp, hb3⟩
    have hbw3 : Below w.heap.size w w3 := G.trans hbw hb3
    replace x := x.grow hb3
    go_wp2_with fail
    refine wp_name (fun wr => Below w3.heap.size w3 wr ∧ Hid (w3.heap.size < wr.heap.size) ∧ Bx wr w3.heap.size [.int .i64 it.e, .slice A' it.p.length c']) ⟨by repeat (first | with_reducible assumption | with_reducible exact G.refl _ | with_reducible refine G.drew ?_ | with_reducible refine G.drewN ?_ _ | with_reducible refine G.alloc ?_ _ | with_reducible refine Below.setCell ?_ (by first | (simp; done) | (simp; omega)) _ | with_reducible refine G.trans ?_ hb12 | with_reducible refine G.trans ?_ hb11 | with_reducible refine G.trans ?_ hb10 | with_reducible refine G.trans ?_ hb9 | with_reducible refine G.trans ?_ hb8 | with_reducible refine G.trans ?_ hb7 | with_reducible refine G.trans ?_ hb6 | with_reducible refine G.trans ?_ hb5 | with_reducible refine G.trans ?_ hb4 | with_reducible refine G.trans ?_ hb3 | with_reducible refine G.trans ?_ hb2 | with_reducible refine G.trans ?_ hb1 | with_reducible refine G.trans ?_ hb | assumption), by unfold Hid; simp, by repeat (first | with_reducible assumption | (with_reducible exact Bx.new (by simp; done) (by rfl)) | (with_reducible refine Bx.alloc ?_ _) | (with_reducible refine Bx.drewN ?_ _) | ((with_reducible apply Bx.put); rotate_right; (first | rfl | skip)) | (with_reducible refine Bx.other ?_ (by first | (simp; done) | (simp; omega)) _))⟩ ?_
    rintro w4 ⟨hb4, hsz4, y⟩
    have hbw4 : Below w.heap.size w w4 := G.trans hbw3 hb4
    replace x := Lib.hid (x.grow hb4)
    replace hp : PathIs ok w4 A' it.p.length c' it.p := (hp.mono fun q _ hq => hf q (Nat.le_trans hbw.size hq)).grow hb4
    have hp4 := Lib.hid hp
    have hI := hc.out.grow hbw4
    obtain ⟨first, ring, A, B, n, cc, m, d, hI⟩ := id hI
    have HI := Lib.hid hI
    have hcc := Lib.hid (hc.out.grow hbw4)
    have k3 := (hI.1.2 3 _ rfl).1
    have k4 := (hI.1.2 4 _ rfl).1
    have k5 := (hI.1.2 5 _ rfl).1
    have k6 := (hI.1.2 6 _ rfl).1
    have k7 := (hI.1.2 7 _ rfl).1
    have ltb := hI.1.lt
    have lty := y.lt
    have y0 := (y.2 0 _ rfl).1
    have y1 := (y.2 1 _ rfl).1
    have H4 := Lib.hid hI.2.2.2.1
    have H5 := Lib.hid hI.2.2.2.2.1
    have hb3w : w.heap.size ≤ w3.heap.size := hbw3.size
    clear hI hb2 hb3 hb4 hp c0 c1 c2 c3 c4 c5 c6 c7 c8 c9 c10 hbw hbw3
    obtain ⟨v1', hv1⟩ : ∃ v, cmpS it.e it.p c.me c.mp = v := ⟨_, rfl⟩
    have hv1' := Lib.hid hv1
    obtain ⟨v2', hv2⟩ : ∃ v, cmpS it.e it.p c.le c.lp = v := ⟨_, rfl⟩
    have hv2' := Lib.hid hv2
    by_cases hn1 : v1' < 0
    · have hu : putC 0 c it = (24, c) := by unfold putC; rw [hv1, if_neg (by simp), if_pos (.inl hn1)]
      clear hv1 hv2
      refine wp_region_ord [(0, 1), (1, 1), (2, 1), (3, 1), (4, 1), (5, 2), (6, 1), (7, 1), (8, 1), (9, 1), (10, 1), (11, 1), (12, 1), (13, 1), (14, 1), (15, 1), (16, 1), (17, 1), (18, 2), (19, 1), (20, 1), (21, 1), (22, 1)] [] 5 (by kernel_rfl) (by decide +kernel) ?_
      simp only [pickO, List.append_eq, List.cons_append, List.nil_append, List.getElem?_cons_succ, List.getElem?_cons_zero]
      intro w0 hG
      (repeat ((first | (with_reducible refine ord_q1 ?_) | (with_reducible refine ord_q0 ?_)); intro K hK; first | (refine Or.inr ⟨?_, ?_⟩; (focus (go_simp; first | done | (simp [undef]; done))); go_simp; (with_reducible refine hK _ ?_); clear hK K) | (refine Or.inl ⟨?_, ?_⟩; (focus (go_simp; done)); apply Exists.intro; refine And.intro ?_ ?_; (focus (first | (intro wq hq; obtain ⟨hcq, hfq⟩ := G.old hq; go_simp; (first | done | exact rfl); done) | (intro wq; go_simp; (first | done | exact rfl); done))); go_simp; (with_reducible refine hK _ ?_); clear hK K) | fail))
      (with_reducible refine ord_run ?_ hG)
      intro K hK
      go_simp
      go_at_call 25; (with_reducible refine (compare_any it.e c.me A' A it.p.length n c' cc it.p c.mp _ (hp4.out.sl.grow hG.b) (H4.out.sl.grow hG.b) hp4.out.max).mono ?_); rintro e' w5 ⟨rfl, hb5⟩; rw [hv1'.out]
      replace hG := Grew.trans hG hb5
      (try dsimp only)
      (with_reducible refine hK _ _ hG ?_)
      clear hK K
      (repeat ((first | (with_reducible refine ord_q1 ?_) | (with_reducible refine ord_q0 ?_)); intro K hK; first | (refine Or.inr ⟨?_, ?_⟩; (focus (go_simp; first | done | (simp [undef]; done))); go_simp; (with_reducible refine hK _ ?_); clear hK K) | (refine Or.inl ⟨?_, ?_⟩; (focus (go_simp; done)); apply Exists.intro; refine And.intro ?_ ?_; (focus (first | (intro wq hq; obtain ⟨hcq, hfq⟩ := G.old hq; go_simp; (first | done | exact rfl); done) | (intro wq; go_simp; (first | done | exact rfl); done))); go_simp; (with_reducible refine hK _ ?_); clear hK K) | fail))
      (with_reducible refine ord_skip ?_ hG ?_); (focus (go_simp; first | done | (simp [undef]; done))); intro K hK; go_simp; (with_reducible refine hK _ ?_); clear hK K; (repeat ((first | (with_reducible refine ord_q1 ?_) | (with_reducible refine ord_q0 ?_)); intro K hK; first | (refine Or.inr ⟨?_, ?_⟩; (focus (go_simp; first | done | (simp [undef]; done))); go_simp; (with_reducible refine hK _ ?_); clear hK K) | (refine Or.inl ⟨?_, ?_⟩; (focus (go_simp; done)); apply Exists.intro; refine And.intro ?_ ?_; (focus (first | (intro wq hq; obtain ⟨hcq, hfq⟩ := G.old hq; go_simp; (first | done | exact rfl); done) | (intro wq; go_simp; (first | done | exact rfl); done))); go_simp; (with_reducible refine hK _ ?_); clear hK K) | fail))
      (with_reducible refine ord_nil ?_)
      go_wp2_with fail
      go_ret
      have hbb : Below w.heap.size w w5 := G.trans hbw4 hG.b
      unfold RetPut
      rw [hu]
      exact ⟨rfl, hcc.out.grow hG.b, Chg.of_below hbb⟩
    · by_cases hus : c.used = true
      · rw [hus] at k7
        by_cases hn2 : v2' ≤ 0
        · have hu : putC 0 c it = (24, c) := by unfold putC; rw [hv1, hv2, if_neg (by simp), if_pos (.inr ⟨hus, hn2⟩)]
          clear hv1 hv2
          refine wp_region_ord [(0, 1), (1, 1), (2, 1), (3, 1), (4, 1), (5, 2), (6, 1), (7, 1), (8, 1), (9, 1), (10, 1), (11, 1), (12, 1), (13, 1), (14, 1), (15, 1), (16, 1), (17, 1), (18, 2), (19, 1), (20, 1), (21, 1), (22, 1)] [] 5 (by kernel_rfl) (by decide +kernel) ?_
          simp only [pickO, List.append_eq, List.cons_append, List.nil_append, List.getElem?_cons_succ, List.getElem?_cons_zero]
          intro w0 hG
          (repeat ((first | (with_reducible refine ord_q1 ?_) | (with_reducible refine ord_q0 ?_)); intro K hK; first | (refine Or.inr ⟨?_, ?_⟩; (focus (go_simp; first | done | (simp [undef]; done))); go_simp; (with_reducible refine hK _ ?_); clear hK K) | (refine Or.inl ⟨?_, ?_⟩; (focus (go_simp; done)); apply Exists.intro; refine And.intro ?_ ?_; (focus (first | (intro wq hq; obtain ⟨hcq, hfq⟩ := G.old hq; go_simp; (first | done | exact rfl); done) | (intro wq; go_simp; (first | done | exact rfl); done))); go_simp; (with_reducible refine hK _ ?_); clear hK K) | fail))
          (with_reducible refine ord_run ?_ hG)
          intro K hK
          go_simp
          go_at_call 25; (with_reducible refine (compare_any it.e c.me A' A it.p.length n c' cc it.p c.mp _ (hp4.out.sl.grow hG.b) (H4.out.sl.grow hG.b) hp4.out.max).mono ?_); rintro e' w5 ⟨rfl, hb5⟩; rw [hv1'.out]
          replace hG := Grew.trans hG hb5
          (try dsimp only)
          (with_reducible refine hK _ _ hG ?_)
          clear hK K
          (repeat ((first | (with_reducible refine ord_q1 ?_) | (with_reducible refine ord_q0 ?_)); intro K hK; first | (refine Or.inr ⟨?_, ?_⟩; (focus (go_simp; first | done | (simp [undef]; done))); go_simp; (with_reducible refine hK _ ?_); clear hK K) | (refine Or.inl ⟨?_, ?_⟩; (focus (go_simp; done)); apply Exists.intro; refine And.intro ?_ ?_; (focus (first | (intro wq hq; obtain ⟨hcq, hfq⟩ := G.old hq; go_simp; (first | done | exact rfl); done) | (intro wq; go_simp; (first | done | exact rfl); done))); go_simp; (with_reducible refine hK _ ?_); clear hK K) | fail))
          (with_reducible refine ord_run ?_ hG)
          intro K hK
          go_simp
          go_at_call 25; (with_reducible refine (compare_any it.e c.le A' B it.p.length m c' d it.p c.lp _ (hp4.out.sl.grow hG.b) (H5.out.sl.grow hG.b) hp4.out.max).mono ?_); rintro e' w6 ⟨rfl, hb6⟩; rw [hv2'.out]
          replace hG := Grew.trans hG hb6
          (try dsimp only)
          (with_reducible refine hK _ _ hG ?_)
          clear hK K
          (repeat ((first | (with_reducible refine ord_q1 ?_) | (with_reducible refine ord_q0 ?_)); intro K hK; first | (refine Or.inr ⟨?_, ?_⟩; (focus (go_simp; first | done | (simp [undef]; done))); go_simp; (with_reducible refine hK _ ?_); clear hK K) | (refine Or.inl ⟨?_, ?_⟩; (focus (go_simp; done)); apply Exists.intro; refine And.intro ?_ ?_; (focus (first | (intro wq hq; obtain ⟨hcq, hfq⟩ := G.old hq; go_simp; (first | done | exact rfl); done) | (intro wq; go_simp; (first | done | exact rfl); done))); go_simp; (with_reducible refine hK _ ?_); clear hK K) | fail))
          (with_reducible refine ord_nil ?_)
          go_wp2_with fail
          go_ret
          have hbb : Below w.heap.size w w6 := G.trans hbw4 hG.b
          unfold RetPut
          rw [hu]
          exact ⟨rfl, hcc.out.grow hG.b, Chg.of_below hbb⟩
        · have hu : putC 0 c it = if c.items.length = c.cap then (35, c) else (0, { c with items := c.items ++ [it], me := it.e, mp := it.p, le := it.e, lp := it.p, used := true }) := by
            unfold putC; rw [hv1, hv2, if_neg (by simp), if_neg (by omega)]
          clear hv1 hv2
          refine wp_region_ord [(0, 1), (1, 1), (2, 1), (3, 1), (4, 1), (5, 2), (6, 1), (7, 1), (8, 1), (9, 1), (10, 1), (11, 1), (12, 1), (13, 1), (14, 1), (15, 1), (16, 1), (17, 1), (18, 2), (19, 1), (20, 1), (21, 1), (22, 1)] [] 5 (by kernel_rfl) (by decide +kernel) ?_
          simp only [pickO, List.append_eq, List.cons_append, List.nil_append, List.getElem?_cons_succ, List.getElem?_cons_zero]
          intro w0 hG
          (repeat ((first | (with_reducible refine ord_q1 ?_) | (with_reducible refine ord_q0 ?_)); intro K hK; first | (refine Or.inr ⟨?_, ?_⟩; (focus (go_simp; first | done | (simp [undef]; done))); go_simp; (with_reducible refine hK _ ?_); clear hK K) | (refine Or.inl ⟨?_, ?_⟩; (focus (go_simp; done)); apply Exists.intro; refine And.intro ?_ ?_; (focus (first | (intro wq hq; obtain ⟨hcq, hfq⟩ := G.old hq; go_simp; (first | done | exact rfl); done) | (intro wq; go_simp; (first | done | exact rfl); done))); go_simp; (with_reducible refine hK _ ?_); clear hK K) | fail))
          (with_reducible refine ord_run ?_ hG)
          intro K hK
          go_simp
          go_at_call 25; (with_reducible refine (compare_any it.e c.me A' A it.p.length n c' cc it.p c.mp _ (hp4.out.sl.grow hG.b) (H4.out.sl.grow hG.b) hp4.out.max).mono ?_); rintro e' w5 ⟨rfl, hb5⟩; rw [hv1'.out]
          replace hG := Grew.trans hG hb5
          (try dsimp only)
          (with_reducible refine hK _ _ hG ?_)
          clear hK K
          (repeat ((first | (with_reducible refine ord_q1 ?_) | (with_reducible refine ord_q0 ?_)); intro K hK; first | (refine Or.inr ⟨?_, ?_⟩; (focus (go_simp; first | done | (simp [undef]; done))); go_simp; (with_reducible refine hK _ ?_); clear hK K) | (refine Or.inl ⟨?_, ?_⟩; (focus (go_simp; done)); apply Exists.intro; refine And.intro ?_ ?_; (focus (first | (intro wq hq; obtain ⟨hcq, hfq⟩ := G.old hq; go_simp; (first | done | exact rfl); done) | (intro wq; go_simp; (first | done | exact rfl); done))); go_simp; (with_reducible refine hK _ ?_); clear hK K) | fail))
          (with_reducible refine ord_run ?_ hG)
          intro K hK
          go_simp
          go_at_call 25; (with_reducible refine (compare_any it.e c.le A' B it.p.length m c' d it.p c.lp _ (hp4.out.sl.grow hG.b) (H5.out.sl.grow hG.b) hp4.out.max).mono ?_); rintro e' w6 ⟨rfl, hb6⟩; rw [hv2'.out]
          replace hG := Grew.trans hG hb6
          (try dsimp only)
          (with_reducible refine hK _ _ hG ?_)
          clear hK K
          (repeat ((first | (with_reducible refine ord_q1 ?_) | (with_reducible refine ord_q0 ?_)); intro K hK; first | (refine Or.inr ⟨?_, ?_⟩; (focus (go_simp; first | done | (simp [undef]; done))); go_simp; (with_reducible refine hK _ ?_); clear hK K) | (refine Or.inl ⟨?_, ?_⟩; (focus (go_simp; done)); apply Exists.intro; refine And.intro ?_ ?_; (focus (first | (intro wq hq; obtain ⟨hcq, hfq⟩ := G.old hq; go_simp; (first | done | exact rfl); done) | (intro wq; go_simp; (first | done | exact rfl); done))); go_simp; (with_reducible refine hK _ ?_); clear hK K) | fail))
          (with_reducible refine ord_nil ?_)
          have hGG := hG.b
          have hbb : Below w.heap.size w w6 := G.trans hbw4 hGG
          replace HI := Lib.hid (HI.out.grow hGG)
          replace hcc := Lib.hid (hcc.out.grow hGG)
          replace x := Lib.hid (x.out.grow hGG)
          replace y := y.grow hGG
          replace hp4 := Lib.hid (hp4.out.grow hGG)
          have k0 := (HI.out.1.2 0 _ rfl).1
          have k1 := (HI.out.1.2 1 _ rfl).1
          have k2 := (HI.out.1.2 2 _ rfl).1
          have ltb := HI.out.1.lt
          clear k3 k4 k5 k6 k7 y0 y1 lty hsz4 H4 H5 hG hb5 hv1' hv2' hGG hbw4
          go_wp2_with fail
          refine wp_region_ord [(0, 1), (1, 1), (2, 1), (3, 1), (4, 1), (5, 1), (6, 1), (7, 1), (8, 1), (9, 1), (10, 1)] [] 5 (by kernel_rfl) (by decide +kernel) ?_
          simp only [pickO, List.append_eq, List.cons_append, List.nil_append, List.getElem?_cons_succ, List.getElem?_cons_zero]
          intro w0 hG
          (repeat ((first | (with_reducible refine ord_q1 ?_) | (with_reducible refine ord_q0 ?_)); intro K hK; first | (refine Or.inr ⟨?_, ?_⟩; (focus (go_simp; first | done | (simp [undef]; done))); go_simp; (with_reducible refine hK _ ?_); clear hK K) | (refine Or.inl ⟨?_, ?_⟩; (focus (go_simp; done)); apply Exists.intro; refine And.intro ?_ ?_; (focus (first | (intro wq hq; obtain ⟨hcq, hfq⟩ := G.old hq; go_simp; (first | done | exact rfl); done) | (intro wq; go_simp; (first | done | exact rfl); done))); go_simp; (with_reducible refine hK _ ?_); clear hK K) | fail))
          (with_reducible refine ord_nil ?_)
          have hGG := hG.b
          replace hbb : Below w.heap.size w w0 := G.trans hbb hGG
          replace HI := Lib.hid (HI.out.grow hGG)
          replace hcc := Lib.hid (hcc.out.grow hGG)
          replace x := Lib.hid (x.out.grow hGG)
          replace y := y.grow hGG
          replace hp4 := Lib.hid (hp4.out.grow hGG)
          clear k0 k1 k2 ltb hG hGG
          by_cases hfull : c.items.length = c.cap
          · rw [if_pos hfull] at hu
            rw [hfull]
            go_wp2_with fail
            go_ret
            unfold RetPut
            rw [hu]
            exact ⟨rfl, hcc.out, Chg.of_below hbb⟩
          · rw [if_neg hfull] at hu
            have hne : ((c.items.length : Int) == (c.cap : Int)) = false := by simp; omega
            have hfc := HI.out.2.2.2.2.2.1
            have hlc := HI.out.2.2.2.2.2.2.1
            have hc4 := HI.out.2.2.2.2.2.2.2.1
            obtain ⟨F, hF⟩ : ∃ F, (first + c.items.length) % c.cap = F := ⟨_, rfl⟩
            have hFl : F < c.cap := by rw [← hF]; exact Nat.mod_lt _ (by omega)
            have hmod : Int.tmod ((first : Int) + (c.items.length : Int)) (c.cap : Int) = (F : Int) := by rw [← hF]; rfl
            have hc0 : ¬ c.cap = 0 := by omega
            have hw1 : IntKind.i64.wrap ((first : Int) + (c.items.length : Int)) = (first : Int) + (c.items.length : Int) := IntWalk.i64_in _ (by omega)
            have hw2 : IntKind.i64.wrap (F : Int) = (F : Int) := IntWalk.i64_in _ (by omega)
            have hF0 : (0 : Int) ≤ (F : Int) := by omega
            have hF1 : (F : Int) < (c.cap : Int) := by omega
            have hFF := Lib.hid hF
            have hfull' := Lib.hid hfull
            clear hfull hF
            go_wp2_with fail
            have k0 := (HI.out.1.2 0 _ rfl).1
            have k1 := (HI.out.1.2 1 _ rfl).1
            have k2 := (HI.out.1.2 2 _ rfl).1
            have ltb := HI.out.1.lt
            obtain ⟨c0, c1, c2, c3, c4, c5, c6, c7, c8, c9, c10⟩ := x.out.c11
            have ltx := x.out.lt
            refine wp_region_ord [(0, 1), (1, 1), (2, 1), (3, 1), (4, 1), (5, 1), (6, 1), (7, 1), (8, 1), (9, 1), (10, 1), (11, 1), (12, 1), (13, 1), (14, 1), (15, 1), (16, 1), (17, 1), (18, 1), (19, 1), (20, 2), (21, 1), (22, 3)] [22] 5 (by kernel_rfl) (by decide +kernel) ?_
            simp only [pickO, List.append_eq, List.cons_append, List.nil_append, List.getElem?_cons_succ, List.getElem?_cons_zero]
            intro w0 hG
            (repeat ((first | (with_reducible refine ord_q1 ?_) | (with_reducible refine ord_q0 ?_)); intro K hK; first | (refine Or.inr ⟨?_, ?_⟩; (focus (go_simp; first | done | (simp [undef]; done))); go_simp; (with_reducible refine hK _ ?_); clear hK K) | (refine Or.inl ⟨?_, ?_⟩; (focus (go_simp; done)); apply Exists.intro; refine And.intro ?_ ?_; (focus (first | (intro wq hq; obtain ⟨hcq, hfq⟩ := G.old hq; go_simp; (first | done | exact rfl); done) | (intro wq; go_simp; (first | done | exact rfl); done))); go_simp; (with_reducible refine hK _ ?_); clear hK K) | fail))
            have hGG := hG.b
            have hs7 : w.heap.size ≤ w0.heap.size := (G.trans hbb hGG).size
            (with_reducible refine ord_run ?_ hG)
            intro K hK
            go_simp
            go_at_call 46; (with_reducible refine (cloneI_any (HV.out.grow (G.trans hbb hGG))).mono ?_); rintro e' w7 ⟨cs', rfl, hit, hb7⟩; obtain ⟨z0, A5, n5, c5', z1, A6, n6, c6', z2, z3, z4, z5, A7, n7, c7', A8, n8, c8', A9, n9, c9', rfl⟩ := item_cells hit; replace hit := Lib.hid hit
            replace hG := Grew.trans hG hb7
            (try dsimp only)
            (with_reducible refine hK _ _ hG ?_)
            clear hK K
            (repeat ((first | (with_reducible refine ord_q1 ?_) | (with_reducible refine ord_q0 ?_)); intro K hK; first | (refine Or.inr ⟨?_, ?_⟩; (focus (go_simp; first | done | (simp [undef]; done))); go_simp; (with_reducible refine hK _ ?_); clear hK K) | (refine Or.inl ⟨?_, ?_⟩; (focus (go_simp; done)); apply Exists.intro; refine And.intro ?_ ?_; (focus (first | (intro wq hq; obtain ⟨hcq, hfq⟩ := G.old hq; go_simp; (first | done | exact rfl); done) | (intro wq; go_simp; (first | done | exact rfl); done))); go_simp; (with_reducible refine hK _ ?_); clear hK K) | fail))
            replace hit := Lib.hid (hit.out.mono fun q _ hq => hf q (Nat.le_trans hs7 hq))
            have hGG2 := hG.b
            replace hbb : Below w.heap.size w w7 := G.trans hbb hGG2
            replace HI := Lib.hid (HI.out.grow hGG2)
            replace y := y.grow hGG2
            replace hp4 := Lib.hid (hp4.out.grow hGG2)
            obtain ⟨⟨q0, q1, q2, q3, q4, q5, q6, q7, q8, q9, q10⟩, ⟨f0, f1, f2, f3, f4, f5, f6, f7, f8, f9, f10⟩⟩ := HI.out.2.1.ex11 F (by rw [HI.out.2.2.1]; omega)
            obtain ⟨a0, q0⟩ := q0
            obtain ⟨a1, q1⟩ := q1
            obtain ⟨a2, q2⟩ := q2
            obtain ⟨a3, q3⟩ := q3
            obtain ⟨a4, q4⟩ := q4
            obtain ⟨a5, q5⟩ := q5
            obtain ⟨a6, q6⟩ := q6
            obtain ⟨a7, q7⟩ := q7
            obtain ⟨a8, q8⟩ := q8
            obtain ⟨a9, q9⟩ := q9
            obtain ⟨a10, q10⟩ := q10
            (repeat ((first | (with_reducible refine ord_q1 ?_) | (with_reducible refine ord_q0 ?_)); intro K hK; first | (refine Or.inr ⟨?_, ?_⟩; (focus (go_simp; first | done | (simp [undef]; done))); go_simp; (with_reducible refine hK _ ?_); clear hK K) | (refine Or.inl ⟨?_, ?_⟩; (focus (go_simp; done)); apply Exists.intro; refine And.intro ?_ ?_; (focus (first | (intro wq hq; obtain ⟨hcq, hfq⟩ := G.old hq; go_simp; (first | done | exact rfl); done) | (intro wq; go_simp; (first | done | exact rfl); done))); go_simp; (with_reducible refine hK _ ?_); clear hK K) | fail))
            ((with_reducible refine ord_tail ?_); intro K hK; go_simp; (with_reducible refine hK _ _ ?_); clear hK K)
            (with_reducible refine ord_nil ?_)
            clear k0 k1 k2 ltb c0 c1 c2 c3 c4 c5 c6 c7 c8 c9 c10 ltx q0 q1 q2 q3 q4 q5 q6 q7 q8 q9 q10 f0 f1 f2 f3 f4 f5 f6 f7 f8 f9 f10
            obtain ⟨wF, hF⟩ : ∃ wF, wF = w7.setCells r (F * 11) [.int .i64 z0, .slice A5 n5 c5', .int .i64 z1, .slice A6 n6 c6', .int .i64 z2, .int .i64 z3, .int .i64 z4, .string z5, .slice A7 n7 c7', .slice A8 n8 c8', .slice A9 n9 c9'] := ⟨_, rfl⟩
            have zr : Bx wF r (upd ring F [.int .i64 z0, .slice A5 n5 c5', .int .i64 z1, .slice A6 n6 c6', .int .i64 z2, .int .i64 z3, .int .i64 z4, .string z5, .slice A7 n7 c7', .slice A8 n8 c8', .slice A9 n9 c9']) := by rw [hF]; exact HI.out.2.1.upd (by rw [HI.out.2.2.1]; omega) rfl
            have zc : Chg b r w7 wF := by rw [hF]; exact (Chg.refl _ _ _).setCells2 _ _
            have zkr : Keeps (fun x => x ≠ r) w7 wF := by rw [hF]; exact Keeps.setCells (fun h => h rfl) _ _ _ (Keeps.refl _ _)
            change Exit.then _ _ Exit.normal _ (w7.setCells r (F * 11) [.int .i64 z0, .slice A5 n5 c5', .int .i64 z1, .slice A6 n6 c6', .int .i64 z2, .int .i64 z3, .int .i64 z4, .string z5, .slice A7 n7 c7', .slice A8 n8 c8', .slice A9 n9 c9'])
            rw [← hF]
            clear hF
            obtain ⟨_, _, hrl, hm4, hm5, _, _, _, hbr, hnb, hnr, hits, hslot⟩ := HI.out
            have zb := HI.out.1.keep zkr hbr
            have hir : w3.heap.size ≠ r := fun e => hnr (e ▸ hf _ (Nat.le_trans hb3w (Nat.le_refl _)))
            have hib : w3.heap.size ≠ b := fun e => hnb (e ▸ hf _ (Nat.le_trans hb3w (Nat.le_refl _)))
            replace y := y.keep zkr hir
            replace hp4 := Lib.hid (hp4.out.keep (zc.keeps hnb hnr))
            obtain ⟨k2, g2⟩ := zb.2 2 _ rfl
            have hw3 : IntKind.i64.wrap ((c.items.length : Int) + 1) = ((c.items.length + 1 : Nat) : Int) := by rw [IntWalk.i64_in _ (by omega)]; rfl
            go_wp2_with fail
            refine wp_name (fun wr => Chg b r wF wr ∧ Keeps (fun x => x ≠ b) wF wr ∧ Bx wr b [.slice (some ⟨r, 0, none⟩) c.cap c.cap, .int .i64 first, .int .i64 ((c.items.length + 1 : Nat) : Int), .int .i64 c.me, .slice A n cc, .int .i64 c.le, .slice B m d, .bool c.used]) ⟨(Chg.refl _ _ _).setCell1 _ _, (Keeps.refl _ _).setCell (fun h => h rfl) _, Bx.put zb rfl⟩ ?_
            rintro wG ⟨zc2, zk2, zb2⟩
            clear k2 g2 zb hw3
            replace zr := zr.keep zk2 (fun e => hbr e.symm)
            replace y := y.keep zk2 hib
            replace hp4 := Lib.hid (hp4.out.keep (zc2.keeps hnb hnr))
            have y0 := (y.2 0 _ rfl).1
            have y1 := (y.2 1 _ rfl).1
            have lty := y.lt
            refine wp_region_ord [(0, 1), (1, 0), (2, 0), (3, 1), (4, 1), (5, 2), (6, 1), (7, 1), (8, 3), (9, 0), (10, 0), (11, 3), (12, 0), (13, 0), (14, 3)] [8, 11, 14] 5 (by kernel_rfl) (by decide +kernel) ?_
            simp only [pickO, List.append_eq, List.cons_append, List.nil_append, List.getElem?_cons_succ, List.getElem?_cons_zero]
            intro w0 hG
            (repeat ((first | (with_reducible refine ord_q1 ?_) | (with_reducible refine ord_q0 ?_)); intro K hK; first | (refine Or.inr ⟨?_, ?_⟩; (focus (go_simp; first | done | (simp [undef]; done))); go_simp; (with_reducible refine hK _ ?_); clear hK K) | (refine Or.inl ⟨?_, ?_⟩; (focus (go_simp; done)); apply Exists.intro; refine And.intro ?_ ?_; (focus (first | (intro wq hq; obtain ⟨hcq, hfq⟩ := G.old hq; go_simp; (first | done | exact rfl); done) | (intro wq; go_simp; (first | done | exact rfl); done))); go_simp; (with_reducible refine hK _ ?_); clear hK K) | fail))
            have hs8 := hG.b.size
            (with_reducible refine ord_run ?_ hG)
            intro K hK
            go_simp
            go_at_call 45; (with_reducible refine (cloneStamp_any it.e (hp4.out.grow hG.b)).mono ?_); rintro e' w8 ⟨A10, c10', rfl, hr8, hb8⟩
            replace hG := Grew.trans hG hb8
            (try dsimp only)
            (with_reducible refine hK _ _ hG ?_)
            clear hK K
            (repeat ((first | (with_reducible refine ord_q1 ?_) | (with_reducible refine ord_q0 ?_)); intro K hK; first | (refine Or.inr ⟨?_, ?_⟩; (focus (go_simp; first | done | (simp [undef]; done))); go_simp; (with_reducible refine hK _ ?_); clear hK K) | (refine Or.inl ⟨?_, ?_⟩; (focus (go_simp; done)); apply Exists.intro; refine And.intro ?_ ?_; (focus (first | (intro wq hq; obtain ⟨hcq, hfq⟩ := G.old hq; go_simp; (first | done | exact rfl); done) | (intro wq; go_simp; (first | done | exact rfl); done))); go_simp; (with_reducible refine hK _ ?_); clear hK K) | fail))
            have hg8 := hG.b
            replace zb2 := zb2.grow hg8
            replace zr := zr.grow hg8
            obtain ⟨k3, g3⟩ := zb2.2 3 _ rfl
            obtain ⟨k4, g4⟩ := zb2.2 4 _ rfl
            obtain ⟨k5, g5⟩ := zb2.2 5 _ rfl
            obtain ⟨k6, g6⟩ := zb2.2 6 _ rfl
            obtain ⟨k7, g7⟩ := zb2.2 7 _ rfl
            ((with_reducible refine ord_tail ?_); intro K hK; go_simp; (with_reducible refine hK _ _ ?_); clear hK K)
            (repeat ((first | (with_reducible refine ord_q1 ?_) | (with_reducible refine ord_q0 ?_)); intro K hK; first | (refine Or.inr ⟨?_, ?_⟩; (focus (go_simp; first | done | (simp [undef]; done))); go_simp; (with_reducible refine hK _ ?_); clear hK K) | (refine Or.inl ⟨?_, ?_⟩; (focus (go_simp; done)); apply Exists.intro; refine And.intro ?_ ?_; (focus (first | (intro wq hq; obtain ⟨hcq, hfq⟩ := G.old hq; go_simp; (first | done | exact rfl); done) | (intro wq; go_simp; (first | done | exact rfl); done))); go_simp; (with_reducible refine hK _ ?_); clear hK K) | fail))
            ((with_reducible refine ord_tail ?_); intro K hK; go_simp; (with_reducible refine hK _ _ ?_); clear hK K)
            (repeat ((first | (with_reducible refine ord_q1 ?_) | (with_reducible refine ord_q0 ?_)); intro K hK; first | (refine Or.inr ⟨?_, ?_⟩; (focus (go_simp; first | done | (simp [undef]; done))); go_simp; (with_reducible refine hK _ ?_); clear hK K) | (refine Or.inl ⟨?_, ?_⟩; (focus (go_simp; done)); apply Exists.intro; refine And.intro ?_ ?_; (focus (first | (intro wq hq; obtain ⟨hcq, hfq⟩ := G.old hq; go_simp; (first | done | exact rfl); done) | (intro wq; go_simp; (first | done | exact rfl); done))); go_simp; (with_reducible refine hK _ ?_); clear hK K) | fail))
            ((with_reducible refine ord_tail ?_); intro K hK; go_simp; (with_reducible refine hK _ _ ?_); clear hK K)
            (with_reducible refine ord_nil ?_)
            go_wp2_with fail
            go_ret
            have hc8 : Chg b r w8 (((((w8.setCell ⟨b, 3, none⟩ (.int .i64 it.e)).setCell ⟨b, 4, none⟩ (.slice A' it.p.length c')).setCell ⟨b, 5, none⟩ (.int .i64 it.e)).setCell ⟨b, 6, none⟩ (.slice A10 it.p.length c10')).setCell ⟨b, 7, none⟩ (.bool true)) := (((((Chg.refl b r w8).setCell1 _ _).setCell1 _ _).setCell1 _ _).setCell1 _ _).setCell1 _ _
            have hall := ((zc.trans zc2).trans (Chg.of_below hg8)).trans hc8
            have hk := hall.keeps hnb hnr
            have hk8 := hc8.keeps hnb hnr
            have hsw : w.heap.size ≤ w0.heap.size := Nat.le_trans hbb.size (Nat.le_trans zc.size (Nat.le_trans zc2.size hs8))
            have hl : (c.items ++ [it]).length = c.items.length + 1 := by simp
            have hri : F * 11 + 11 ≤ ring.length := by rw [hrl]; omega
            have hrb : r ≠ b := fun e => hbr e.symm
            unfold RetPut
            rw [hu]
            refine ⟨rfl, ⟨first, upd ring F [.int .i64 z0, .slice A5 n5 c5', .int .i64 z1, .slice A6 n6 c6', .int .i64 z2, .int .i64 z3, .int .i64 z4, .string z5, .slice A7 n7 c7', .slice A8 n8 c8', .slice A9 n9 c9'], A', A10, it.p.length, c', it.p.length, c10', ?_, ?_, ?_, ?_, ?_, hfc, ?_, hc4, hbr, hnb, hnr, ?_, ?_⟩, (Chg.of_below hbb).trans hall⟩
            · unfold chCells
              simp only [hl]
              exact Bx.put (Bx.put (Bx.put (Bx.put (Bx.put zb2 rfl) rfl) rfl) rfl) rfl
            · exact Bx.other (Bx.other (Bx.other (Bx.other (Bx.other zr hrb _) hrb _) hrb _) hrb _) hrb _
            · rw [upd_len hri rfl, hrl]
            · exact ((hp4.out.grow hg8).keep hk8)
            · exact (hr8.mono fun q _ hq => hf q (Nat.le_trans hsw hq)).keep hk8
            · show (c.items ++ [it]).length ≤ c.cap
              have := hfull'.out
              omega
            · intro j it' hj
              have hj' : (c.items ++ [it])[j]? = some it' := hj
              rcases Nat.lt_or_ge j c.items.length with hjl | hjl
              · rw [List.getElem?_append_left hjl] at hj'
                have hne2 : (first + j) % c.cap ≠ F := by
                  rw [← hFF.out, ix hfc (by omega), ix hfc (by omega)]
                  have := hfull'.out
                  split <;> split <;> omega
                show ItemV ok _ (((upd ring F _).drop (((first + j) % c.cap) * 11)).take 11) it'
                rw [upd_other hri rfl hne2]
                exact (hits j it' hj').keep hk
              · have hjx : j = c.items.length := by
                  have := (List.getElem?_eq_some_iff.1 hj').1
                  rw [hl] at this
                  omega
                subst hjx
                rw [List.getElem?_append_right (Nat.le_refl _), Nat.sub_self] at hj'
                cases hj'
                show ItemV ok _ (((upd ring F _).drop (((first + c.items.length) % c.cap) * 11)).take 11) _
                rw [hFF.out, upd_same hri rfl]
                exact hit.out.keep hk
            · intro q hq
              have hq' : q < c.cap := hq
              by_cases hqF : q = F
              · subst hqF
                exact ⟨it, by rw [upd_same hri rfl]; exact hit.out.keep hk⟩
              · obtain ⟨it', hi'⟩ := hslot q hq'
                exact ⟨it', by rw [upd_other hri rfl hqF]; exact hi'.keep hk⟩
      · have hus' : c.used = false := by simpa using hus
        rw [hus'] at k7
        have hu : putC 0 c it = if c.items.length = c.cap then (35, c) else (0, { c with items := c.items ++ [it], me := it.e, mp := it.p, le := it.e, lp := it.p, used := true }) := by
          unfold putC; rw [hv1, hv2, if_neg (by simp), if_neg (by rw [hus']; simp; omega)]
        clear hv1 hv2
        refine wp_region_ord [(0, 1), (1, 1), (2, 1), (3, 1), (4, 1), (5, 2), (6, 1), (7, 1), (8, 1), (9, 1), (10, 1), (11, 1), (12, 1), (13, 1), (14, 1), (15, 1), (16, 1), (17, 1), (18, 2), (19, 1), (20, 1), (21, 1), (22, 1)] [] 5 (by kernel_rfl) (by decide +kernel) ?_
        simp only [pickO, List.append_eq, List.cons_append, List.nil_append, List.getElem?_cons_succ, List.getElem?_cons_zero]
        intro w0 hG
        (repeat ((first | (with_reducible refine ord_q1 ?_) | (with_reducible refine ord_q0 ?_)); intro K hK; first | (refine Or.inr ⟨?_, ?_⟩; (focus (go_simp; first | done | (simp [undef]; done))); go_simp; (with_reducible refine hK _ ?_); clear hK K) | (refine Or.inl ⟨?_, ?_⟩; (focus (go_simp; done)); apply Exists.intro; refine And.intro ?_ ?_; (focus (first | (intro wq hq; obtain ⟨hcq, hfq⟩ := G.old hq; go_simp; (first | done | exact rfl); done) | (intro wq; go_simp; (first | done | exact rfl); done))); go_simp; (with_reducible refine hK _ ?_); clear hK K) | fail))
        (with_reducible refine ord_run ?_ hG)
        intro K hK
        go_simp
        go_at_call 25; (with_reducible refine (compare_any it.e c.me A' A it.p.length n c' cc it.p c.mp _ (hp4.out.sl.grow hG.b) (H4.out.sl.grow hG.b) hp4.out.max).mono ?_); rintro e' w5 ⟨rfl, hb5⟩; rw [hv1'.out]
        replace hG := Grew.trans hG hb5
        (try dsimp only)
        (with_reducible refine hK _ _ hG ?_)
        clear hK K
        (repeat ((first | (with_reducible refine ord_q1 ?_) | (with_reducible refine ord_q0 ?_)); intro K hK; first | (refine Or.inr ⟨?_, ?_⟩; (focus (go_simp; first | done | (simp [undef]; done))); go_simp; (with_reducible refine hK _ ?_); clear hK K) | (refine Or.inl ⟨?_, ?_⟩; (focus (go_simp; done)); apply Exists.intro; refine And.intro ?_ ?_; (focus (first | (intro wq hq; obtain ⟨hcq, hfq⟩ := G.old hq; go_simp; (first | done | exact rfl); done) | (intro wq; go_simp; (first | done | exact rfl); done))); go_simp; (with_reducible refine hK _ ?_); clear hK K) | fail))
        (with_reducible refine ord_skip ?_ hG ?_); (focus (go_simp; first | done | (simp [undef]; done))); intro K hK; go_simp; (with_reducible refine hK _ ?_); clear hK K; (repeat ((first | (with_reducible refine ord_q1 ?_) | (with_reducible refine ord_q0 ?_)); intro K hK; first | (refine Or.inr ⟨?_, ?_⟩; (focus (go_simp; first | done | (simp [undef]; done))); go_simp; (with_reducible refine hK _ ?_); clear hK K) | (refine Or.inl ⟨?_, ?_⟩; (focus (go_simp; done)); apply Exists.intro; refine And.intro ?_ ?_; (focus (first | (intro wq hq; obtain ⟨hcq, hfq⟩ := G.old hq; go_simp; (first | done | exact rfl); done) | (intro wq; go_simp; (first | done | exact rfl); done))); go_simp; (with_reducible refine hK _ ?_); clear hK K) | fail))
        (with_reducible refine ord_nil ?_)
        have hGG := hG.b
        have hbb : Below w.heap.size w w5 := G.trans hbw4 hGG
        replace HI := Lib.hid (HI.out.grow hGG)
        replace hcc := Lib.hid (hcc.out.grow hGG)
        replace x := Lib.hid (x.out.grow hGG)
        replace y := y.grow hGG
        replace hp4 := Lib.hid (hp4.out.grow hGG)
        have k0 := (HI.out.1.2 0 _ rfl).1
        have k1 := (HI.out.1.2 1 _ rfl).1
        have k2 := (HI.out.1.2 2 _ rfl).1
        have ltb := HI.out.1.lt
        clear k3 k4 k5 k6 k7 y0 y1 lty hsz4 H4 H5 hG hb5 hv1' hv2' hGG hbw4
        go_wp2_with fail
        refine wp_region_ord [(0, 1), (1, 1), (2, 1), (3, 1), (4, 1), (5, 1), (6, 1), (7, 1), (8, 1), (9, 1), (10, 1)] [] 5 (by kernel_rfl) (by decide +kernel) ?_
        simp only [pickO, List.append_eq, List.cons_append, List.nil_append, List.getElem?_cons_succ, List.getElem?_cons_zero]
        intro w0 hG
        (repeat ((first | (with_reducible refine ord_q1 ?_) | (with_reducible refine ord_q0 ?_)); intro K hK; first | (refine Or.inr ⟨?_, ?_⟩; (focus (go_simp; first | done | (simp [undef]; done))); go_simp; (with_reducible refine hK _ ?_); clear hK K) | (refine Or.inl ⟨?_, ?_⟩; (focus (go_simp; done)); apply Exists.intro; refine And.intro ?_ ?_; (focus (first | (intro wq hq; obtain ⟨hcq, hfq⟩ := G.old hq; go_simp; (first | done | exact rfl); done) | (intro wq; go_simp; (first | done | exact rfl); done))); go_simp; (with_reducible refine hK _ ?_); clear hK K) | fail))
        (with_reducible refine ord_nil ?_)
        have hGG := hG.b
        replace hbb : Below w.heap.size w w0 := G.trans hbb hGG
        replace HI := Lib.hid (HI.out.grow hGG)
        replace hcc := Lib.hid (hcc.out.grow hGG)
        replace x := Lib.hid (x.out.grow hGG)
        replace y := y.grow hGG
        replace hp4 := Lib.hid (hp4.out.grow hGG)
        clear k0 k1 k2 ltb hG hGG
        by_cases hfull : c.items.length = c.cap
        · rw [if_pos hfull] at hu
          rw [hfull]
          go_wp2_with fail
          go_ret
          unfold RetPut
          rw [hu]
          exact ⟨rfl, hcc.out, Chg.of_below hbb⟩
        · rw [if_neg hfull] at hu
          have hne : ((c.items.length : Int) == (c.cap : Int)) = false := by simp; omega
          have hfc := HI.out.2.2.2.2.2.1
          have hlc := HI.out.2.2.2.2.2.2.1
          have hc4 := HI.out.2.2.2.2.2.2.2.1
          obtain ⟨F, hF⟩ : ∃ F, (first + c.items.length) % c.cap = F := ⟨_, rfl⟩
          have hFl : F < c.cap := by rw [← hF]; exact Nat.mod_lt _ (by omega)
          have hmod : Int.tmod ((first : Int) + (c.items.length : Int)) (c.cap : Int) = (F : Int) := by rw [← hF]; rfl
          have hc0 : ¬ c.cap = 0 := by omega
          have hw1 : IntKind.i64.wrap ((first : Int) + (c.items.length : Int)) = (first : Int) + (c.items.length : Int) := IntWalk.i64_in _ (by omega)
          have hw2 : IntKind.i64.wrap (F : Int) = (F : Int) := IntWalk.i64_in _ (by omega)
          have hF0 : (0 : Int) ≤ (F : Int) := by omega
          have hF1 : (F : Int) < (c.cap : Int) := by omega
          have hFF := Lib.hid hF
          have hfull' := Lib.hid hfull
          clear hfull hF
          go_wp2_with fail
          have k0 := (HI.out.1.2 0 _ rfl).1
          have k1 := (HI.out.1.2 1 _ rfl).1
          have k2 := (HI.out.1.2 2 _ rfl).1
          have ltb := HI.out.1.lt
          obtain ⟨c0, c1, c2, c3, c4, c5, c6, c7, c8, c9, c10⟩ := x.out.c11
          have ltx := x.out.lt
          refine wp_region_ord [(0, 1), (1, 1), (2, 1), (3, 1), (4, 1), (5, 1), (6, 1), (7, 1), (8, 1), (9, 1), (10, 1), (11, 1), (12, 1), (13, 1), (14, 1), (15, 1), (16, 1), (17, 1), (18, 1), (19, 1), (20, 2), (21, 1), (22, 3)] [22] 5 (by kernel_rfl) (by decide +kernel) ?_
          simp only [pickO, List.append_eq, List.cons_append, List.nil_append, List.getElem?_cons_succ, List.getElem?_cons_zero]
          intro w0 hG
          (repeat ((first | (with_reducible refine ord_q1 ?_) | (with_reducible refine ord_q0 ?_)); intro K hK; first | (refine Or.inr ⟨?_, ?_⟩; (focus (go_simp; first | done | (simp [undef]; done))); go_simp; (with_reducible refine hK _ ?_); clear hK K) | (refine Or.inl ⟨?_, ?_⟩; (focus (go_simp; done)); apply Exists.intro; refine And.intro ?_ ?_; (focus (first | (intro wq hq; obtain ⟨hcq, hfq⟩ := G.old hq; go_simp; (first | done | exact rfl); done) | (intro wq; go_simp; (first | done | exact rfl); done))); go_simp; (with_reducible refine hK _ ?_); clear hK K) | fail))
          have hGG := hG.b
          have hs7 : w.heap.size ≤ w0.heap.size := (G.trans hbb hGG).size
          (with_reducible refine ord_run ?_ hG)
          intro K hK
          go_simp
          go_at_call 46; (with_reducible refine (cloneI_any (HV.out.grow (G.trans hbb hGG))).mono ?_); rintro e' w7 ⟨cs', rfl, hit, hb7⟩; obtain ⟨z0, A5, n5, c5', z1, A6, n6, c6', z2, z3, z4, z5, A7, n7, c7', A8, n8, c8', A9, n9, c9', rfl⟩ := item_cells hit; replace hit := Lib.hid hit
          replace hG := Grew.trans hG hb7
          (try dsimp only)
          (with_reducible refine hK _ _ hG ?_)
          clear hK K
          (repeat ((first | (with_reducible refine ord_q1 ?_) | (with_reducible refine ord_q0 ?_)); intro K hK; first | (refine Or.inr ⟨?_, ?_⟩; (focus (go_simp; first | done | (simp [undef]; done))); go_simp; (with_reducible refine hK _ ?_); clear hK K) | (refine Or.inl ⟨?_, ?_⟩; (focus (go_simp; done)); apply Exists.intro; refine And.intro ?_ ?_; (focus (first | (intro wq hq; obtain ⟨hcq, hfq⟩ := G.old hq; go_simp; (first | done | exact rfl); done) | (intro wq; go_simp; (first | done | exact rfl); done))); go_simp; (with_reducible refine hK _ ?_); clear hK K) | fail))
          replace hit := Lib.hid (hit.out.mono fun q _ hq => hf q (Nat.le_trans hs7 hq))
          have hGG2 := hG.b
          replace hbb : Below w.heap.size w w7 := G.trans hbb hGG2
          replace HI := Lib.hid (HI.out.grow hGG2)
          replace y := y.grow hGG2
          replace hp4 := Lib.hid (hp4.out.grow hGG2)
          obtain ⟨⟨q0, q1, q2, q3, q4, q5, q6, q7, q8, q9, q10⟩, ⟨f0, f1, f2, f3, f4, f5, f6, f7, f8, f9, f10⟩⟩ := HI.out.2.1.ex11 F (by rw [HI.out.2.2.1]; omega)
          obtain ⟨a0, q0⟩ := q0
          obtain ⟨a1, q1⟩ := q1
          obtain ⟨a2, q2⟩ := q2
          obtain ⟨a3, q3⟩ := q3
          obtain ⟨a4, q4⟩ := q4
          obtain ⟨a5, q5⟩ := q5
          obtain ⟨a6, q6⟩ := q6
          obtain ⟨a7, q7⟩ := q7
          obtain ⟨a8, q8⟩ := q8
          obtain ⟨a9, q9⟩ := q9
          obtain ⟨a10, q10⟩ := q10
          (repeat ((first | (with_reducible refine ord_q1 ?_) | (with_reducible refine ord_q0 ?_)); intro K hK; first | (refine Or.inr ⟨?_, ?_⟩; (focus (go_simp; first | done | (simp [undef]; done))); go_simp; (with_reducible refine hK _ ?_); clear hK K) | (refine Or.inl ⟨?_, ?_⟩; (focus (go_simp; done)); apply Exists.intro; refine And.intro ?_ ?_; (focus (first | (intro wq hq; obtain ⟨hcq, hfq⟩ := G.old hq; go_simp; (first | done | exact rfl); done) | (intro wq; go_simp; (first | done | exact rfl); done))); go_simp; (with_reducible refine hK _ ?_); clear hK K) | fail))
          ((with_reducible refine ord_tail ?_); intro K hK; go_simp; (with_reducible refine hK _ _ ?_); clear hK K)
          (with_reducible refine ord_nil ?_)
          clear k0 k1 k2 ltb c0 c1 c2 c3 c4 c5 c6 c7 c8 c9 c10 ltx q0 q1 q2 q3 q4 q5 q6 q7 q8 q9 q10 f0 f1 f2 f3 f4 f5 f6 f7 f8 f9 f10
          obtain ⟨wF, hF⟩ : ∃ wF, wF = w7.setCells r (F * 11) [.int .i64 z0, .slice A5 n5 c5', .int .i64 z1, .slice A6 n6 c6', .int .i64 z2, .int .i64 z3, .int .i64 z4, .string z5, .slice A7 n7 c7', .slice A8 n8 c8', .slice A9 n9 c9'] := ⟨_, rfl⟩
          have zr : Bx wF r (upd ring F [.int .i64 z0, .slice A5 n5 c5', .int .i64 z1, .slice A6 n6 c6', .int .i64 z2, .int .i64 z3, .int .i64 z4, .string z5, .slice A7 n7 c7', .slice A8 n8 c8', .slice A9 n9 c9']) := by rw [hF]; exact HI.out.2.1.upd (by rw [HI.out.2.2.1]; omega) rfl
          have zc : Chg b r w7 wF := by rw [hF]; exact (Chg.refl _ _ _).setCells2 _ _
          have zkr : Keeps (fun x => x ≠ r) w7 wF := by rw [hF]; exact Keeps.setCells (fun h => h rfl) _ _ _ (Keeps.refl _ _)
          change Exit.then _ _ Exit.normal _ (w7.setCells r (F * 11) [.int .i64 z0, .slice A5 n5 c5', .int .i64 z1, .slice A6 n6 c6', .int .i64 z2, .int .i64 z3, .int .i64 z4, .string z5, .slice A7 n7 c7', .slice A8 n8 c8', .slice A9 n9 c9'])
          rw [← hF]
          clear hF
          obtain ⟨_, _, hrl, hm4, hm5, _, _, _, hbr, hnb, hnr, hits, hslot⟩ := HI.out
          have zb := HI.out.1.keep zkr hbr
          have hir : w3.heap.size ≠ r := fun e => hnr (e ▸ hf _ (Nat.le_trans hb3w (Nat.le_refl _)))
          have hib : w3.heap.size ≠ b := fun e => hnb (e ▸ hf _ (Nat.le_trans hb3w (Nat.le_refl _)))
          replace y := y.keep zkr hir
          replace hp4 := Lib.hid (hp4.out.keep (zc.keeps hnb hnr))
          obtain ⟨k2, g2⟩ := zb.2 2 _ rfl
          have hw3 : IntKind.i64.wrap ((c.items.length : Int) + 1) = ((c.items.length + 1 : Nat) : Int) := by rw [IntWalk.i64_in _ (by omega)]; rfl
          go_wp2_with fail
          refine wp_name (fun wr => Chg b r wF wr ∧ Keeps (fun x => x ≠ b) wF wr ∧ Bx wr b [.slice (some ⟨r, 0, none⟩) c.cap c.cap, .int .i64 first, .int .i64 ((c.items.length + 1 : Nat) : Int), .int .i64 c.me, .slice A n cc, .int .i64 c.le, .slice B m d, .bool c.used]) ⟨(Chg.refl _ _ _).setCell1 _ _, (Keeps.refl _ _).setCell (fun h => h rfl) _, Bx.put zb rfl⟩ ?_
          rintro wG ⟨zc2, zk2, zb2⟩
          clear k2 g2 zb hw3
          replace zr := zr.keep zk2 (fun e => hbr e.symm)
          replace y := y.keep zk2 hib
          replace hp4 := Lib.hid (hp4.out.keep (zc2.keeps hnb hnr))
          have y0 := (y.2 0 _ rfl).1
          have y1 := (y.2 1 _ rfl).1
          have lty := y.lt
          refine wp_region_ord [(0, 1), (1, 0), (2, 0), (3, 1), (4, 1), (5, 2), (6, 1), (7, 1), (8, 3), (9, 0), (10, 0), (11, 3), (12, 0), (13, 0), (14, 3)] [8, 11, 14] 5 (by kernel_rfl) (by decide +kernel) ?_
          simp only [pickO, List.append_eq, List.cons_append, List.nil_append, List.getElem?_cons_succ, List.getElem?_cons_zero]
          intro w0 hG
          (repeat ((first | (with_reducible refine ord_q1 ?_) | (with_reducible refine ord_q0 ?_)); intro K hK; first | (refine Or.inr ⟨?_, ?_⟩; (focus (go_simp; first | done | (simp [undef]; done))); go_simp; (with_reducible refine hK _ ?_); clear hK K) | (refine Or.inl ⟨?_, ?_⟩; (focus (go_simp; done)); apply Exists.intro; refine And.intro ?_ ?_; (focus (first | (intro wq hq; obtain ⟨hcq, hfq⟩ := G.old hq; go_simp; (first | done | exact rfl); done) | (intro wq; go_simp; (first | done | exact rfl); done))); go_simp; (with_reducible refine hK _ ?_); clear hK K) | fail))
          have hs8 := hG.b.size
          (with_reducible refine ord_run ?_ hG)
          intro K hK
          go_simp
          go_at_call 45; (with_reducible refine (cloneStamp_any it.e (hp4.out.grow hG.b)).mono ?_); rintro e' w8 ⟨A10, c10', rfl, hr8, hb8⟩
          replace hG := Grew.trans hG hb8
          (try dsimp only)
          (with_reducible refine hK _ _ hG ?_)
          clear hK K
          (repeat ((first | (with_reducible refine ord_q1 ?_) | (with_reducible refine ord_q0 ?_)); intro K hK; first | (refine Or.inr ⟨?_, ?_⟩; (focus (go_simp; first | done | (simp [undef]; done))); go_simp; (with_reducible refine hK _ ?_); clear hK K) | (refine Or.inl ⟨?_, ?_⟩; (focus (go_simp; done)); apply Exists.intro; refine And.intro ?_ ?_; (focus (first | (intro wq hq; obtain ⟨hcq, hfq⟩ := G.old hq; go_simp; (first | done | exact rfl); done) | (intro wq; go_simp; (first | done | exact rfl); done))); go_simp; (with_reducible refine hK _ ?_); clear hK K) | fail))
          have hg8 := hG.b
          replace zb2 := zb2.grow hg8
          replace zr := zr.grow hg8
          obtain ⟨k3, g3⟩ := zb2.2 3 _ rfl
          obtain ⟨k4, g4⟩ := zb2.2 4 _ rfl
          obtain ⟨k5, g5⟩ := zb2.2 5 _ rfl
          obtain ⟨k6, g6⟩ := zb2.2 6 _ rfl
          obtain ⟨k7, g7⟩ := zb2.2 7 _ rfl
          ((with_reducible refine ord_tail ?_); intro K hK; go_simp; (with_reducible refine hK _ _ ?_); clear hK K)
          (repeat ((first | (with_reducible refine ord_q1 ?_) | (with_reducible refine ord_q0 ?_)); intro K hK; first | (refine Or.inr ⟨?_, ?_⟩; (focus (go_simp; first | done | (simp [undef]; done))); go_simp; (with_reducible refine hK _ ?_); clear hK K) | (refine Or.inl ⟨?_, ?_⟩; (focus (go_simp; done)); apply Exists.intro; refine And.intro ?_ ?_; (focus (first | (intro wq hq; obtain ⟨hcq, hfq⟩ := G.old hq; go_simp; (first | done | exact rfl); done) | (intro wq; go_simp; (first | done | exact rfl); done))); go_simp; (with_reducible refine hK _ ?_); clear hK K) | fail))
          ((with_reducible refine ord_tail ?_); intro K hK; go_simp; (with_reducible refine hK _ _ ?_); clear hK K)
          (repeat ((first | (with_reducible refine ord_q1 ?_) | (with_reducible refine ord_q0 ?_)); intro K hK; first | (refine Or.inr ⟨?_, ?_⟩; (focus (go_simp; first | done | (simp [undef]; done))); go_simp; (with_reducible refine hK _ ?_); clear hK K) | (refine Or.inl ⟨?_, ?_⟩; (focus (go_simp; done)); apply Exists.intro; refine And.intro ?_ ?_; (focus (first | (intro wq hq; obtain ⟨hcq, hfq⟩ := G.old hq; go_simp; (first | done | exact rfl); done) | (intro wq; go_simp; (first | done | exact rfl); done))); go_simp; (with_reducible refine hK _ ?_); clear hK K) | fail))
          ((with_reducible refine ord_tail ?_); intro K hK; go_simp; (with_reducible refine hK _ _ ?_); clear hK K)
          (with_reducible refine ord_nil ?_)
          go_wp2_with fail
          go_ret
          have hc8 : Chg b r w8 (((((w8.setCell ⟨b, 3, none⟩ (.int .i64 it.e)).setCell ⟨b, 4, none⟩ (.slice A' it.p.length c')).setCell ⟨b, 5, none⟩ (.int .i64 it.e)).setCell ⟨b, 6, none⟩ (.slice A10 it.p.length c10')).setCell ⟨b, 7, none⟩ (.bool true)) := (((((Chg.refl b r w8).setCell1 _ _).setCell1 _ _).setCell1 _ _).setCell1 _ _).setCell1 _ _
          have hall := ((zc.trans zc2).trans (Chg.of_below hg8)).trans hc8
          have hk := hall.keeps hnb hnr
          have hk8 := hc8.keeps hnb hnr
          have hsw : w.heap.size ≤ w0.heap.size := Nat.le_trans hbb.size (Nat.le_trans zc.size (Nat.le_trans zc2.size hs8))
          have hl : (c.items ++ [it]).length = c.items.length + 1 := by simp
          have hri : F * 11 + 11 ≤ ring.length := by rw [hrl]; omega
          have hrb : r ≠ b := fun e => hbr e.symm
          unfold RetPut
          rw [hu]
          refine ⟨rfl, ⟨first, upd ring F [.int .i64 z0, .slice A5 n5 c5', .int .i64 z1, .slice A6 n6 c6', .int .i64 z2, .int .i64 z3, .int .i64 z4, .string z5, .slice A7 n7 c7', .slice A8 n8 c8', .slice A9 n9 c9'], A', A10, it.p.length, c', it.p.length, c10', ?_, ?_, ?_, ?_, ?_, hfc, ?_, hc4, hbr, hnb, hnr, ?_, ?_⟩, (Chg.of_below hbb).trans hall⟩
          · unfold chCells
            simp only [hl]
            exact Bx.put (Bx.put (Bx.put (Bx.put (Bx.put zb2 rfl) rfl) rfl) rfl) rfl
          · exact Bx.other (Bx.other (Bx.other (Bx.other (Bx.other zr hrb _) hrb _) hrb _) hrb _) hrb _
          · rw [upd_len hri rfl, hrl]
          · exact ((hp4.out.grow hg8).keep hk8)
          · exact (hr8.mono fun q _ hq => hf q (Nat.le_trans hsw hq)).keep hk8
          · show (c.items ++ [it]).length ≤ c.cap
            have := hfull'.out
            omega
          · intro j it' hj
            have hj' : (c.items ++ [it])[j]? = some it' := hj
            rcases Nat.lt_or_ge j c.items.length with hjl | hjl
            · rw [List.getElem?_append_left hjl] at hj'
              have hne2 : (first + j) % c.cap ≠ F := by
                rw [← hFF.out, ix hfc (by omega), ix hfc (by omega)]
                have := hfull'.out
                split <;> split <;> omega
              show ItemV ok _ (((upd ring F _).drop (((first + j) % c.cap) * 11)).take 11) it'
              rw [upd_other hri rfl hne2]
              exact (hits j it' hj').keep hk
            · have hjx : j = c.items.length := by
                have := (List.getElem?_eq_some_iff.1 hj').1
                rw [hl] at this
                omega
              subst hjx
              rw [List.getElem?_append_right (Nat.le_refl _), Nat.sub_self] at hj'
              cases hj'
              show ItemV ok _ (((upd ring F _).drop (((first + c.items.length) % c.cap) * 11)).take 11) _
              rw [hFF.out, upd_same hri rfl]
              exact hit.out.keep hk
          · intro q hq
            have hq' : q < c.cap := hq
            by_cases hqF : q = F
            · subst hqF
              exact ⟨it, by rw [upd_same hri rfl]; exact hit.out.keep hk⟩
            · obtain ⟨it', hi'⟩ := hslot q hq'
              exact ⟨it', by rw [upd_other hri rfl hqF]; exact hi'.keep hk⟩
  · have hne : (kk != 0) = true := by simp [hk0]
    go_wp2_with fail
    go_ret
    have hu : putC kk c it = (kk, c) := if_pos hk0
    unfold RetPut
    rw [hu]
    exact ⟨rfl, hc.out.grow hbw, Chg.of_below hbw⟩
end Go.Proofs.Ytjldpodehffbnaa
