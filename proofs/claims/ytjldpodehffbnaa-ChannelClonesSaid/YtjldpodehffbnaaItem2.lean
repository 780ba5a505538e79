/- Items: their stamps, their errors, their copies. -/
import Derived.Test.YtjldpodehffbnaaItem1
namespace Go.Proofs.Ytjldpodehffbnaa
set_option linter.unusedVariables false
set_option linter.unnecessarySimpa false
set_option linter.unusedSimpArgs false
open Go.RowKit

/-- What is asked of an item: its stamp, the number of its requests, its message's mass. -/
structure It where
  e : Int
  p : List Int
  r : Nat
  mass : Int
/-- A request's cells. -/
def ReqV (ok : Nat → Prop) (w : World) (cs : List Value) (e : Int) (p : List Int) : Prop :=
  ∃ A n c sv call undo body d, cs = .int .i64 e :: .slice A n c :: .string sv :: .int .i64 call :: .bool undo :: body ∧ PathIs ok w A n c p ∧ Tree ok w d body
/-- An item's cells. -/
def ItemV (ok : Nat → Prop) (w : World) (cs : List Value) (it : It) : Prop :=
  ∃ me A n c mp O l lc os k i s t BA bn bc BB bm bd R q rs d, cs = [.int .i64 me, .slice A n c, .int .i64 it.mass, .slice O l lc, .int .i64 k, .int .i64 i, .int .i64 s, .string t, .slice BA bn bc, .slice BB bm bd, .slice R it.r q] ∧
    PathIs ok w A n c mp ∧ PathIs ok w O l lc os ∧ Tree ok w d [.int .i64 k, .int .i64 i, .int .i64 s, .string t, .slice BA bn bc, .slice BB bm bd] ∧
    it.r * 152 ≤ 140737488355328 ∧ Rw ok w 11 R it.r q rs ∧ (∀ j, j < it.r → ∃ e p, ReqV ok w ((rs.drop (j * 11)).take 11) e p ∧ (j = 0 → it.e = e ∧ it.p = p)) ∧ (it.r = 0 → it.e = me ∧ it.p = mp)
theorem ReqV.keep {ok : Nat → Prop} {w w' : World} {cs : List Value} {e : Int} {p : List Int} (h : ReqV ok w cs e p) (hk : Keeps ok w w') : ReqV ok w' cs e p := by
  obtain ⟨A, n, c, sv, call, undo, body, d, h0, h1, h2⟩ := h
  exact ⟨A, n, c, sv, call, undo, body, d, h0, h1.keep hk, h2.keep hk⟩
theorem ReqV.mono {ok ok' : Nat → Prop} {w : World} {cs : List Value} {e : Int} {p : List Int} (h : ReqV ok w cs e p) (hk : ∀ b, b < w.heap.size → ok b → ok' b) : ReqV ok' w cs e p := by
  obtain ⟨A, n, c, sv, call, undo, body, d, h0, h1, h2⟩ := h
  exact ⟨A, n, c, sv, call, undo, body, d, h0, h1.mono hk, h2.mono hk⟩
theorem ItemV.keep {ok : Nat → Prop} {w w' : World} {cs : List Value} {it : It} (h : ItemV ok w cs it) (hk : Keeps ok w w') : ItemV ok w' cs it := by
  obtain ⟨me, A, n, c, mp, O, l, lc, os, k, i, s, t, BA, bn, bc, BB, bm, bd, R, q, rs, d, h0, h1, h2, h3, h4, h5, h6, h7⟩ := h
  exact ⟨me, A, n, c, mp, O, l, lc, os, k, i, s, t, BA, bn, bc, BB, bm, bd, R, q, rs, d, h0, h1.keep hk, h2.keep hk, h3.keep hk, h4, h5.keep hk, fun j hj => let ⟨e, p, h8, h9⟩ := h6 j hj; ⟨e, p, h8.keep hk, h9⟩, h7⟩
theorem ItemV.mono {ok ok' : Nat → Prop} {w : World} {cs : List Value} {it : It} (h : ItemV ok w cs it) (hk : ∀ b, b < w.heap.size → ok b → ok' b) : ItemV ok' w cs it := by
  obtain ⟨me, A, n, c, mp, O, l, lc, os, k, i, s, t, BA, bn, bc, BB, bm, bd, R, q, rs, d, h0, h1, h2, h3, h4, h5, h6, h7⟩ := h
  exact ⟨me, A, n, c, mp, O, l, lc, os, k, i, s, t, BA, bn, bc, BB, bm, bd, R, q, rs, d, h0, h1.mono hk, h2.mono hk, h3.mono hk, h4, h5.mono (by decide) hk, fun j hj => let ⟨e, p, h8, h9⟩ := h6 j hj; ⟨e, p, h8.mono hk, h9⟩, h7⟩
theorem ItemV.grow {ok : Nat → Prop} {w w' : World} {cs : List Value} {it : It} (h : ItemV ok w cs it) (hb : Below w.heap.size w w') : ItemV ok w' cs it := h.keep (Keeps.of_below hb)
/-- The stamp of an item: where it lies. -/
theorem ItemV.stamp0 {ok : Nat → Prop} {w : World} {cs : List Value} {it : It} (h : ItemV ok w cs it) (h0 : 0 < it.r) {R : Option Addr} {q : Nat} (hc : cs[10]? = some (.slice R it.r q)) :
    ∃ b off A n c, R = some ⟨b, off, none⟩ ∧ b < w.heap.size ∧ w.cell? ⟨b, off, none⟩ = some (.int .i64 it.e) ∧ w.cell? ⟨b, off + 1, none⟩ = some (.slice A n c) ∧ PathIs ok w A n c it.p := by
  obtain ⟨me, A, n, c, mp, O, l, lc, os, k, i, s, t, BA, bn, bc, BB, bm, bd, R', q', rs, d, e0, h1, h2, h3, h4, h5, h6, h7⟩ := h
  subst e0
  simp only [List.getElem?_cons_succ, List.getElem?_cons_zero, Option.some.injEq, Value.slice.injEq] at hc
  obtain ⟨rfl, _, rfl⟩ := hc
  obtain ⟨e, p, ⟨A1, n1, c1, sv, call, undo, body, d1, e1, g1, g2⟩, he⟩ := h6 0 h0
  obtain ⟨rfl, rfl⟩ := he rfl
  obtain ⟨b, off, rfl, hbl, _, _, hcell⟩ := h5.at_ (by decide) h0
  rw [e1] at hcell
  have c0 := hcell 0 _ rfl
  have c1' := hcell 1 _ rfl
  simp only [Nat.zero_mul, Nat.add_zero] at c0 c1'
  exact ⟨b, off, A1, n1, c1, rfl, hbl, c0, c1', g1⟩
theorem PathIs.back {B B' : Nat} {w w' : World} {A : Option Addr} {n c : Nat} {p : List Int} (h : PathIs (From B) w A n c p) (hk : Keeps (From B) w w') (hB : B' ≤ B) : PathIs (From B') w' A n c p :=
  (h.keep hk).mono fun b _ hb => Nat.le_trans hB hb
theorem Tree.back {B B' : Nat} {w w' : World} {d : Nat} {cs : List Value} (h : Tree (From B) w d cs) (hk : Keeps (From B) w w') (hB : B' ≤ B) : Tree (From B') w' d cs :=
  (h.keep hk).mono fun b _ hb => Nat.le_trans hB hb
theorem Bx.fill_ {B : Nat} : ∀ (vs : List Value) (w : World) (pre l : List Value), Bx w B (pre ++ l) → l.length = vs.length → Bx (w.setCells B pre.length vs) B (pre ++ vs)
  | [], w, pre, l, h, e => by
    have : l = [] := List.eq_nil_of_length_eq_zero e
    subst this
    exact h
  | v :: vs, w, pre, [], h, e => by cases e
  | v :: vs, w, pre, x :: l, h, e => by
    have h1 : Bx (w.setCell ⟨B, pre.length, none⟩ v) B ((pre ++ [v]) ++ l) := Bx.put h (by simp [List.set_append])
    have h2 := Bx.fill_ vs _ (pre ++ [v]) l h1 (by simpa using e)
    simpa [World.setCells] using h2
/-- A store of all the cells of a block. -/
theorem Bx.fill {B : Nat} {vs l : List Value} {w : World} (h : Bx w B l) (e : l.length = vs.length) : Bx (w.setCells B 0 vs) B vs := Bx.fill_ vs w [] l h e
theorem Keeps.setCells {ok : Nat → Prop} {a : World} {B : Nat} (hB : ¬ ok B) : ∀ (vs : List Value) (o : Nat) (w : World), Keeps ok a w → Keeps ok a (w.setCells B o vs)
  | [], _, _, h => h
  | v :: vs, o, w, h => Keeps.setCells hB vs (o + 1) _ (h.setCell (p := ⟨B, o, none⟩) hB v)
theorem Below.setCells' {L B : Nat} {a : World} (hB : L ≤ B) : ∀ (vs : List Value) (o : Nat) (w : World), Below L a w → Below L a (w.setCells B o vs)
  | [], _, _, h => h
  | v :: vs, o, w, h => Below.setCells' hB vs (o + 1) _ (h.setCell (p := ⟨B, o, none⟩) hB v)
theorem tree_shape {ok : Nat → Prop} {w : World} {d : Nat} {cs : List Value} (h : Tree ok w d cs) : ∃ k i s t A n c B m e, cs = [.int .i64 k, .int .i64 i, .int .i64 s, .string t, .slice A n c, .slice B m e] := by
  cases d with
  | zero => exact h.elim
  | succ d =>
    obtain ⟨k, i, s, t, A, n, c, B, m, e, xs, ys, h0, _⟩ := h
    exact ⟨k, i, s, t, A, n, c, B, m, e, h0⟩
set_option maxRecDepth 20000 in set_option maxHeartbeats 400000 in
theorem stamp_any {ok : Nat → Prop} {w : World} {cs : List Value} {it : It} (h : ItemV ok w cs it) :
    Calls Try.prog 16 #[.agg cs.toArray] w (RetS it.e it.p w) := by
  have H := h
  obtain ⟨me, A, n, c, mp, O, l, lc, os, k, i, s, t, BA, bn, bc, BB, bm, bd, R, q, rs, d, rfl, h1, h2, h3, h4, h5, h6, h7⟩ := h
  by_cases h0 : 0 < it.r
  · obtain ⟨b, off, A1, n1, c1, rfl, hbl, c0, c1', hp⟩ := H.stamp0 h0 rfl
    clear H h6 h7 h3
    have HP := Lib.hid hp
    go_enter Try.func16, Try.ntmps16
    go_wp2_with fail
    refine (cloneStamp_any it.e (HP.out.grow (by repeat (first | with_reducible assumption | with_reducible exact G.refl _ | with_reducible refine G.drew ?_ | with_reducible refine G.drewN ?_ _ | with_reducible refine G.alloc ?_ _ | with_reducible refine Below.setCell ?_ (by first | (simp; done) | (simp; omega)) _ | with_reducible refine G.trans ?_ hb12 | with_reducible refine G.trans ?_ hb11 | with_reducible refine G.trans ?_ hb10 | with_reducible refine G.trans ?_ hb9 | with_reducible refine G.trans ?_ hb8 | with_reducible refine G.trans ?_ hb7 | with_reducible refine G.trans ?_ hb6 | with_reducible refine G.trans ?_ hb5 | with_reducible refine G.trans ?_ hb4 | with_reducible refine G.trans ?_ hb3 | with_reducible refine G.trans ?_ hb2 | with_reducible refine G.trans ?_ hb1 | with_reducible refine G.trans ?_ hb | assumption)))).mono ?_
    rintro e' w1 ⟨A', c', rfl, hr, hb⟩
    have x2 : Bx w1 (w.heap.size + 1) [.int .i64 0, .slice none 0 0] := Bx.grow (by repeat (first | with_reducible assumption | (with_reducible exact Bx.new (by simp; done) (by rfl)) | (with_reducible refine Bx.alloc ?_ _) | (with_reducible refine Bx.drewN ?_ _) | ((with_reducible apply Bx.put); rotate_right; (first | rfl | skip)) | (with_reducible refine Bx.other ?_ (by first | (simp; done) | (simp; omega)) _))) hb
    have hb0 : Below w.heap.size w w1 := G.trans (by repeat (first | with_reducible assumption | with_reducible exact G.refl _ | with_reducible refine G.drew ?_ | with_reducible refine G.drewN ?_ _ | with_reducible refine G.alloc ?_ _ | with_reducible refine Below.setCell ?_ (by first | (simp; done) | (simp; omega)) _ | with_reducible refine G.trans ?_ hb12 | with_reducible refine G.trans ?_ hb11 | with_reducible refine G.trans ?_ hb10 | with_reducible refine G.trans ?_ hb9 | with_reducible refine G.trans ?_ hb8 | with_reducible refine G.trans ?_ hb7 | with_reducible refine G.trans ?_ hb6 | with_reducible refine G.trans ?_ hb5 | with_reducible refine G.trans ?_ hb4 | with_reducible refine G.trans ?_ hb3 | with_reducible refine G.trans ?_ hb2 | with_reducible refine G.trans ?_ hb1 | with_reducible refine G.trans ?_ hb | assumption)) hb
    simp only [World.size_alloc] at hr
    obtain ⟨m0, g0⟩ := x2.2 0 _ rfl
    obtain ⟨m1, g1⟩ := x2.2 1 _ rfl
    go_wp2_with fail
    exact bodyPost_ret (v := .agg #[.int .i64 it.e, .slice A' it.p.length c']) (by simp only [results, Try.results16]; go_simp) rfl ⟨A', c', rfl, hr.back (((Keeps.refl _ _).setCell (by simp) _).setCell (by simp) _) (by omega), (hb0.setCell (by simp) _).setCell (by simp) _⟩
  · obtain ⟨he, hp⟩ := h7 (by omega)
    rw [he, hp]
    have HP := Lib.hid h1
    have hr0 : it.r = 0 := by omega
    rw [hr0]
    clear H h6 h7 h3 he hp h1 h2 h4 h5 h0
    go_enter Try.func16, Try.ntmps16
    go_wp2_with fail
    refine (cloneStamp_any me (HP.out.grow (by repeat (first | with_reducible assumption | with_reducible exact G.refl _ | with_reducible refine G.drew ?_ | with_reducible refine G.drewN ?_ _ | with_reducible refine G.alloc ?_ _ | with_reducible refine Below.setCell ?_ (by first | (simp; done) | (simp; omega)) _ | with_reducible refine G.trans ?_ hb12 | with_reducible refine G.trans ?_ hb11 | with_reducible refine G.trans ?_ hb10 | with_reducible refine G.trans ?_ hb9 | with_reducible refine G.trans ?_ hb8 | with_reducible refine G.trans ?_ hb7 | with_reducible refine G.trans ?_ hb6 | with_reducible refine G.trans ?_ hb5 | with_reducible refine G.trans ?_ hb4 | with_reducible refine G.trans ?_ hb3 | with_reducible refine G.trans ?_ hb2 | with_reducible refine G.trans ?_ hb1 | with_reducible refine G.trans ?_ hb | assumption)))).mono ?_
    rintro e' w1 ⟨A', c', rfl, hr, hb⟩
    have x2 : Bx w1 (w.heap.size + 1) [.int .i64 0, .slice none 0 0] := Bx.grow (by repeat (first | with_reducible assumption | (with_reducible exact Bx.new (by simp; done) (by rfl)) | (with_reducible refine Bx.alloc ?_ _) | (with_reducible refine Bx.drewN ?_ _) | ((with_reducible apply Bx.put); rotate_right; (first | rfl | skip)) | (with_reducible refine Bx.other ?_ (by first | (simp; done) | (simp; omega)) _))) hb
    have hb0 : Below w.heap.size w w1 := G.trans (by repeat (first | with_reducible assumption | with_reducible exact G.refl _ | with_reducible refine G.drew ?_ | with_reducible refine G.drewN ?_ _ | with_reducible refine G.alloc ?_ _ | with_reducible refine Below.setCell ?_ (by first | (simp; done) | (simp; omega)) _ | with_reducible refine G.trans ?_ hb12 | with_reducible refine G.trans ?_ hb11 | with_reducible refine G.trans ?_ hb10 | with_reducible refine G.trans ?_ hb9 | with_reducible refine G.trans ?_ hb8 | with_reducible refine G.trans ?_ hb7 | with_reducible refine G.trans ?_ hb6 | with_reducible refine G.trans ?_ hb5 | with_reducible refine G.trans ?_ hb4 | with_reducible refine G.trans ?_ hb3 | with_reducible refine G.trans ?_ hb2 | with_reducible refine G.trans ?_ hb1 | with_reducible refine G.trans ?_ hb | assumption)) hb
    simp only [World.size_alloc] at hr
    obtain ⟨m0, g0⟩ := x2.2 0 _ rfl
    obtain ⟨m1, g1⟩ := x2.2 1 _ rfl
    go_wp2_with fail
    exact bodyPost_ret (v := .agg #[.int .i64 me, .slice A' mp.length c']) (by simp only [results, Try.results16]; go_simp) rfl ⟨A', c', rfl, hr.back (((Keeps.refl _ _).setCell (by simp) _).setCell (by simp) _) (by omega), (hb0.setCell (by simp) _).setCell (by simp) _⟩

theorem stampc_any {ok : Nat → Prop} {w w' : World} {cs : List Value} {it : It} (h : ItemV ok w cs it) (hb : Below w.heap.size w w') :
    Calls Try.prog 16 #[.agg cs.toArray] w' (RetS it.e it.p w') := stamp_any (h.grow hb)
/-- The item's message is zero. -/
def zeroC : List Value → Bool
  | [.int _ me, .slice _ n _, .int _ mass, .slice _ l _, .int _ k, .int _ i, .int _ s, .string t, .slice _ bn _, .slice _ bm _, .slice _ _ _] => zeroP me n mass l (nullP k i s t bn bm)
  | _ => false
/-- The first error of an item. -/
def chkI (z : Bool) (it : It) : Int := if 1 < it.r ∨ it.r = 1 ∧ z = false then 3 else checkS it.e it.p
set_option maxRecDepth 20000 in set_option maxHeartbeats 400000 in
theorem icheck_any {ok : Nat → Prop} {w : World} {cs : List Value} {it : It} (h : ItemV ok w cs it) :
    Calls Try.prog 13 #[.agg cs.toArray] w fun e w' => e = .returned (.int .i64 (chkI (zeroC cs) it)) ∧ Below w.heap.size w w' := by
  have H := Lib.hid h
  obtain ⟨v, hv⟩ : ∃ v, chkI (zeroC cs) it = v := ⟨_, rfl⟩
  rw [hv]
  unfold chkI at hv
  obtain ⟨me, A, n, c, mp, O, l, lc, os, k, i, s, t, BA, bn, bc, BB, bm, bd, R, q, rs, d, rfl, h1, h2, h3, h4, h5, h6, h7⟩ := h
  have h8 : zeroC [.int .i64 me, .slice A n c, .int .i64 it.mass, .slice O l lc, .int .i64 k, .int .i64 i, .int .i64 s, .string t, .slice BA bn bc, .slice BB bm bd, .slice R it.r q] = zeroP me n it.mass l (nullP k i s t bn bm) := rfl
  rw [h8] at hv
  by_cases h0 : 1 < it.r
  · rw [if_pos (.inl h0)] at hv
    subst hv
    have h0' : (1 : Int) < (it.r : Int) := by omega
    clear h1 h2 h3 h4 h5 h6 h7 h8 h0
    go_enter Try.func13, Try.ntmps13
    go_wp2_with fail
    go_ret
    exact ⟨rfl, by repeat (first | with_reducible assumption | with_reducible exact G.refl _ | with_reducible refine G.drew ?_ | with_reducible refine G.drewN ?_ _ | with_reducible refine G.alloc ?_ _ | with_reducible refine Below.setCell ?_ (by first | (simp; done) | (simp; omega)) _ | with_reducible refine G.trans ?_ hb12 | with_reducible refine G.trans ?_ hb11 | with_reducible refine G.trans ?_ hb10 | with_reducible refine G.trans ?_ hb9 | with_reducible refine G.trans ?_ hb8 | with_reducible refine G.trans ?_ hb7 | with_reducible refine G.trans ?_ hb6 | with_reducible refine G.trans ?_ hb5 | with_reducible refine G.trans ?_ hb4 | with_reducible refine G.trans ?_ hb3 | with_reducible refine G.trans ?_ hb2 | with_reducible refine G.trans ?_ hb1 | with_reducible refine G.trans ?_ hb | assumption)⟩
  · have h0' : ¬ (1 : Int) < (it.r : Int) := by omega
    by_cases h9 : it.r = 1
    · have hr1 := Lib.hid h9
      rcases hzz : zeroP me n it.mass l (nullP k i s t bn bm) with _ | _
      · rw [if_pos (.inr ⟨h9, hzz⟩)] at hv
        subst hv
        rw [h9] at H ⊢
        have hz' := Lib.hid hzz
        clear h1 h2 h3 h4 h5 h6 h7 h8 h0 h0' hzz h9
        go_enter Try.func13, Try.ntmps13
        go_wp2_with (go_at_call 43; (with_reducible refine (zero_any me it.mass k i s t A O BA BB n c l lc bn bc bm bd _).mono ?_); rintro e' w2 ⟨rfl, hb2⟩; rw [hz'.out])
        go_ret
        exact ⟨rfl, by repeat (first | with_reducible assumption | with_reducible exact G.refl _ | with_reducible refine G.drew ?_ | with_reducible refine G.drewN ?_ _ | with_reducible refine G.alloc ?_ _ | with_reducible refine Below.setCell ?_ (by first | (simp; done) | (simp; omega)) _ | with_reducible refine G.trans ?_ hb12 | with_reducible refine G.trans ?_ hb11 | with_reducible refine G.trans ?_ hb10 | with_reducible refine G.trans ?_ hb9 | with_reducible refine G.trans ?_ hb8 | with_reducible refine G.trans ?_ hb7 | with_reducible refine G.trans ?_ hb6 | with_reducible refine G.trans ?_ hb5 | with_reducible refine G.trans ?_ hb4 | with_reducible refine G.trans ?_ hb3 | with_reducible refine G.trans ?_ hb2 | with_reducible refine G.trans ?_ hb1 | with_reducible refine G.trans ?_ hb | assumption)⟩
      · rw [if_neg (by rw [hzz]; simp; omega)] at hv
        rw [h9] at H ⊢
        have hz' := Lib.hid hzz
        clear h1 h2 h3 h4 h5 h6 h7 h8 h0 h0' hzz h9
        go_enter Try.func13, Try.ntmps13
        go_wp2_with (first
          | (go_at_call 43; (with_reducible refine (zero_any me it.mass k i s t A O BA BB n c l lc bn bc bm bd _).mono ?_); rintro e' w2 ⟨rfl, hb2⟩; rw [hz'.out]; have hbw : Below w.heap.size w w2 := G.trans (by repeat (first | with_reducible assumption | with_reducible exact G.refl _ | with_reducible refine G.drew ?_ | with_reducible refine G.drewN ?_ _ | with_reducible refine G.alloc ?_ _ | with_reducible refine Below.setCell ?_ (by first | (simp; done) | (simp; omega)) _ | with_reducible refine G.trans ?_ hb12 | with_reducible refine G.trans ?_ hb11 | with_reducible refine G.trans ?_ hb10 | with_reducible refine G.trans ?_ hb9 | with_reducible refine G.trans ?_ hb8 | with_reducible refine G.trans ?_ hb7 | with_reducible refine G.trans ?_ hb6 | with_reducible refine G.trans ?_ hb5 | with_reducible refine G.trans ?_ hb4 | with_reducible refine G.trans ?_ hb3 | with_reducible refine G.trans ?_ hb2 | with_reducible refine G.trans ?_ hb1 | with_reducible refine G.trans ?_ hb | assumption)) hb2; obtain ⟨c0, c1, c2, c3, c4, c5, c6, c7, c8, c9, c10⟩ := Bx.c11 (Bx.grow (Bx.new rfl rfl) hb2))
          | (go_at_call 16; (with_reducible refine (stampc_any H.out hbw).mono ?_); rintro e' w3 ⟨A', c', rfl, hp, hb3⟩)
          | (go_at_call 44; (with_reducible refine (check_any it.e A' _ c' it.p _ hp.sl hp.max).mono ?_); rintro e' w4 ⟨rfl, hb4⟩)
          | fail)
        go_ret
        exact ⟨rfl, G.trans (G.trans hbw hb3) hb4⟩
    · rw [if_neg (by omega)] at hv
      have hr0 : it.r = 0 := by omega
      rw [hr0] at H ⊢
      clear h1 h2 h3 h4 h5 h6 h7 h8 h0 h0' h9 hr0
      go_enter Try.func13, Try.ntmps13
      go_wp2_with (first
        | (go_at_call 16; (with_reducible refine (stampc_any H.out (by repeat (first | with_reducible assumption | with_reducible exact G.refl _ | with_reducible refine G.drew ?_ | with_reducible refine G.drewN ?_ _ | with_reducible refine G.alloc ?_ _ | with_reducible refine Below.setCell ?_ (by first | (simp; done) | (simp; omega)) _ | with_reducible refine G.trans ?_ hb12 | with_reducible refine G.trans ?_ hb11 | with_reducible refine G.trans ?_ hb10 | with_reducible refine G.trans ?_ hb9 | with_reducible refine G.trans ?_ hb8 | with_reducible refine G.trans ?_ hb7 | with_reducible refine G.trans ?_ hb6 | with_reducible refine G.trans ?_ hb5 | with_reducible refine G.trans ?_ hb4 | with_reducible refine G.trans ?_ hb3 | with_reducible refine G.trans ?_ hb2 | with_reducible refine G.trans ?_ hb1 | with_reducible refine G.trans ?_ hb | assumption))).mono ?_); rintro e' w3 ⟨A', c', rfl, hp, hb3⟩)
        | (go_at_call 44; (with_reducible refine (check_any it.e A' _ c' it.p _ hp.sl hp.max).mono ?_); rintro e' w4 ⟨rfl, hb4⟩)
        | fail)
      go_ret
      exact ⟨rfl, G.trans (G.trans (by repeat (first | with_reducible assumption | with_reducible exact G.refl _ | with_reducible refine G.drew ?_ | with_reducible refine G.drewN ?_ _ | with_reducible refine G.alloc ?_ _ | with_reducible refine Below.setCell ?_ (by first | (simp; done) | (simp; omega)) _ | with_reducible refine G.trans ?_ hb12 | with_reducible refine G.trans ?_ hb11 | with_reducible refine G.trans ?_ hb10 | with_reducible refine G.trans ?_ hb9 | with_reducible refine G.trans ?_ hb8 | with_reducible refine G.trans ?_ hb7 | with_reducible refine G.trans ?_ hb6 | with_reducible refine G.trans ?_ hb5 | with_reducible refine G.trans ?_ hb4 | with_reducible refine G.trans ?_ hb3 | with_reducible refine G.trans ?_ hb2 | with_reducible refine G.trans ?_ hb1 | with_reducible refine G.trans ?_ hb | assumption)) hb3) hb4⟩
end Go.Proofs.Ytjldpodehffbnaa
