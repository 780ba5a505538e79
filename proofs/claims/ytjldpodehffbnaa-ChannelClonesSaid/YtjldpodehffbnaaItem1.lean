/- Stamps, messages and items: what their copies are, and what is asked of them. -/
import Derived.Test.YtjldpodehffbnaaVal
namespace Go.Proofs.Ytjldpodehffbnaa
set_option linter.unusedVariables false
set_option linter.unnecessarySimpa false
set_option linter.unusedSimpArgs false
open Go.RowKit

/-- A path: a slice of numbers. -/
def PathIs (ok : Nat → Prop) (w : World) (A : Option Addr) (n c : Nat) (p : List Int) : Prop := Rw ok w 1 A n c (i64s p) ∧ n * 8 ≤ 140737488355328
theorem PathIs.sl {ok : Nat → Prop} {w : World} {A : Option Addr} {n c : Nat} {p : List Int} (h : PathIs ok w A n c p) : Sl w A n (i64s p) := by
  have := h.1.2.2.1
  rwa [Nat.mul_one] at this
theorem PathIs.len {ok : Nat → Prop} {w : World} {A : Option Addr} {n c : Nat} {p : List Int} (h : PathIs ok w A n c p) : p.length = n := h.sl.len
theorem PathIs.cap {ok : Nat → Prop} {w : World} {A : Option Addr} {n c : Nat} {p : List Int} (h : PathIs ok w A n c p) : n ≤ c ∧ c ≤ maxLen := ⟨h.1.1, h.1.2.1⟩
theorem PathIs.max {ok : Nat → Prop} {w : World} {A : Option Addr} {n c : Nat} {p : List Int} (h : PathIs ok w A n c p) : n ≤ maxLen := Nat.le_trans h.1.1 h.1.2.1
theorem PathIs.keep {ok : Nat → Prop} {w w' : World} {A : Option Addr} {n c : Nat} {p : List Int} (h : PathIs ok w A n c p) (hk : Keeps ok w w') : PathIs ok w' A n c p := ⟨h.1.keep hk, h.2⟩
theorem PathIs.grow {ok : Nat → Prop} {w w' : World} {A : Option Addr} {n c : Nat} {p : List Int} (h : PathIs ok w A n c p) (hb : Below w.heap.size w w') : PathIs ok w' A n c p := ⟨h.1.grow hb, h.2⟩
theorem PathIs.mono {ok ok' : Nat → Prop} {w : World} {A : Option Addr} {n c : Nat} {p : List Int} (h : PathIs ok w A n c p) (hk : ∀ b, b < w.heap.size → ok b → ok' b) : PathIs ok' w A n c p := ⟨h.1.mono (by decide) hk, h.2⟩
theorem PathIs.nil (ok : Nat → Prop) (w : World) : PathIs ok w none 0 0 [] := ⟨Rw.nil _ _ _, by decide⟩

/-- A stamp of the call's own has come back. -/
def RetS (e : Int) (p : List Int) (w : World) (end_ : Ending) (w' : World) : Prop :=
  ∃ A c, end_ = .returned (.agg #[.int .i64 e, .slice A p.length c]) ∧ PathIs (From w.heap.size) w' A p.length c p ∧ Below w.heap.size w w'
theorem clonep_any {ok : Nat → Prop} {w : World} {A : Option Addr} {n c : Nat} {p : List Int} (h : PathIs ok w A n c p) :
    Calls Try.prog 63 #[.slice A n c] w fun e w' => ∃ A' c', e = .returned (.slice A' p.length c') ∧ PathIs (From w.heap.size) w' A' p.length c' p ∧ Below w.heap.size w w' := by
  refine (clone_any A n c p w h.sl h.cap.1 h.cap.2 h.2).mono fun e w' hr => ?_
  obtain ⟨A', c', he, ho, hb⟩ := hr
  exact ⟨A', c', he, ⟨Rw.of_own ho, by rw [h.len]; exact h.2⟩, hb⟩
set_option maxRecDepth 20000 in set_option maxHeartbeats 400000 in
theorem cloneStamp_any {ok : Nat → Prop} {w : World} (e : Int) {A : Option Addr} {n c : Nat} {p : List Int} (h : PathIs ok w A n c p) :
    Calls Try.prog 45 #[.agg #[.int .i64 e, .slice A n c]] w (RetS e p w) := by
  have H := Lib.hid h
  go_enter Try.func45, Try.ntmps45
  go_wp2_with fail
  refine (clonep_any (h.grow (by repeat (first | with_reducible assumption | with_reducible exact G.refl _ | with_reducible refine G.drew ?_ | with_reducible refine G.drewN ?_ _ | with_reducible refine G.alloc ?_ _ | with_reducible refine Below.setCell ?_ (by first | (simp; done) | (simp; omega)) _ | with_reducible refine G.trans ?_ hb12 | with_reducible refine G.trans ?_ hb11 | with_reducible refine G.trans ?_ hb10 | with_reducible refine G.trans ?_ hb9 | with_reducible refine G.trans ?_ hb8 | with_reducible refine G.trans ?_ hb7 | with_reducible refine G.trans ?_ hb6 | with_reducible refine G.trans ?_ hb5 | with_reducible refine G.trans ?_ hb4 | with_reducible refine G.trans ?_ hb3 | with_reducible refine G.trans ?_ hb2 | with_reducible refine G.trans ?_ hb1 | with_reducible refine G.trans ?_ hb | assumption)))).mono ?_
  rintro e' w1 ⟨A', c', rfl, h1, hb⟩
  have x1 : Bx w1 w.heap.size [.int .i64 e, .slice A n c] := Bx.grow (by repeat (first | with_reducible assumption | (with_reducible exact Bx.new (by simp; done) (by rfl)) | (with_reducible refine Bx.alloc ?_ _) | (with_reducible refine Bx.drewN ?_ _) | ((with_reducible apply Bx.put); rotate_right; (first | rfl | skip)) | (with_reducible refine Bx.other ?_ (by first | (simp; done) | (simp; omega)) _))) hb
  have x2 : Bx w1 (w.heap.size + 1) [.int .i64 0, .slice none 0 0] := Bx.grow (by repeat (first | with_reducible assumption | (with_reducible exact Bx.new (by simp; done) (by rfl)) | (with_reducible refine Bx.alloc ?_ _) | (with_reducible refine Bx.drewN ?_ _) | ((with_reducible apply Bx.put); rotate_right; (first | rfl | skip)) | (with_reducible refine Bx.other ?_ (by first | (simp; done) | (simp; omega)) _))) hb
  have hb0 : Below w.heap.size w w1 := G.trans (by repeat (first | with_reducible assumption | with_reducible exact G.refl _ | with_reducible refine G.drew ?_ | with_reducible refine G.drewN ?_ _ | with_reducible refine G.alloc ?_ _ | with_reducible refine Below.setCell ?_ (by first | (simp; done) | (simp; omega)) _ | with_reducible refine G.trans ?_ hb12 | with_reducible refine G.trans ?_ hb11 | with_reducible refine G.trans ?_ hb10 | with_reducible refine G.trans ?_ hb9 | with_reducible refine G.trans ?_ hb8 | with_reducible refine G.trans ?_ hb7 | with_reducible refine G.trans ?_ hb6 | with_reducible refine G.trans ?_ hb5 | with_reducible refine G.trans ?_ hb4 | with_reducible refine G.trans ?_ hb3 | with_reducible refine G.trans ?_ hb2 | with_reducible refine G.trans ?_ hb1 | with_reducible refine G.trans ?_ hb | assumption)) hb
  have hs := hb.size
  simp at hs
  have lt1 := x1.lt
  obtain ⟨k0, f0⟩ := x1.2 0 _ rfl
  obtain ⟨k1, f1⟩ := x1.2 1 _ rfl
  obtain ⟨m0, g0⟩ := x2.2 0 _ rfl
  obtain ⟨m1, g1⟩ := x2.2 1 _ rfl
  go_wp2_with fail
  exact bodyPost_ret (v := .agg #[.int .i64 e, .slice A' p.length c']) (by simp only [results, Try.results45]; go_simp) rfl ⟨A', c', rfl, (h1.mono fun b _ hb => by have : _ ≤ b := hb; simp at this; show w.heap.size + 1 < b; omega).keep (ok := fun b => w.heap.size + 1 < b) ((((Keeps.refl _ _).setCell (by simp) _).setCell (by simp) _).setCell (by simp) _) |>.mono fun b _ hb => by show w.heap.size ≤ b; omega, (((hb0.setCell (by simp) _).setCell (by simp) _).setCell (by simp) _)⟩
set_option maxRecDepth 20000 in set_option maxHeartbeats 400000 in
theorem copyStamp_any {ok : Nat → Prop} {w : World} (e : Int) {A : Option Addr} {n c : Nat} {p : List Int} (h : PathIs ok w A n c p) :
    Calls Try.prog 75 #[.agg #[.int .i64 e, .slice A n c]] w (RetS e p w) := by
  have H := Lib.hid h
  go_enter Try.func75, Try.ntmps75
  go_wp2_with fail
  refine wp_name (fun wr => Below w.heap.size w wr ∧ Hid (w.heap.size + 1 < wr.heap.size) ∧ Bx wr w.heap.size [.int .i64 e, .slice A n c] ∧ Bx wr (w.heap.size + 1) [.int .i64 0, .slice none 0 0]) ⟨by repeat (first | with_reducible assumption | with_reducible exact G.refl _ | with_reducible refine G.drew ?_ | with_reducible refine G.drewN ?_ _ | with_reducible refine G.alloc ?_ _ | with_reducible refine Below.setCell ?_ (by first | (simp; done) | (simp; omega)) _ | with_reducible refine G.trans ?_ hb12 | with_reducible refine G.trans ?_ hb11 | with_reducible refine G.trans ?_ hb10 | with_reducible refine G.trans ?_ hb9 | with_reducible refine G.trans ?_ hb8 | with_reducible refine G.trans ?_ hb7 | with_reducible refine G.trans ?_ hb6 | with_reducible refine G.trans ?_ hb5 | with_reducible refine G.trans ?_ hb4 | with_reducible refine G.trans ?_ hb3 | with_reducible refine G.trans ?_ hb2 | with_reducible refine G.trans ?_ hb1 | with_reducible refine G.trans ?_ hb | assumption), by unfold Hid; simp, by repeat (first | with_reducible assumption | (with_reducible exact Bx.new (by simp; done) (by rfl)) | (with_reducible refine Bx.alloc ?_ _) | (with_reducible refine Bx.drewN ?_ _) | ((with_reducible apply Bx.put); rotate_right; (first | rfl | skip)) | (with_reducible refine Bx.other ?_ (by first | (simp; done) | (simp; omega)) _)), by repeat (first | with_reducible assumption | (with_reducible exact Bx.new (by simp; done) (by rfl)) | (with_reducible refine Bx.alloc ?_ _) | (with_reducible refine Bx.drewN ?_ _) | ((with_reducible apply Bx.put); rotate_right; (first | rfl | skip)) | (with_reducible refine Bx.other ?_ (by first | (simp; done) | (simp; omega)) _))⟩ ?_
  rintro wr ⟨hbr, hsz, x1, x2⟩
  have hr := H.out.grow hbr
  have lt0 := x1.lt
  have k0 := (x1.2 0 _ rfl).1
  have k1 := (x1.2 1 _ rfl).1
  replace hr := Lib.hid hr
  clear h H
  refine wp_region_ord [(0, 1), (1, 1), (2, 1), (3, 1), (4, 2), (5, 1), (6, 3)] [6] 5 (by kernel_rfl) (by decide +kernel) ?_
  simp only [pickO, List.append_eq, List.cons_append, List.nil_append, List.getElem?_cons_succ, List.getElem?_cons_zero]
  intro w0 hG
  (repeat ((first | (with_reducible refine ord_q1 ?_) | (with_reducible refine ord_q0 ?_)); intro K hK; first | (refine Or.inr ⟨?_, ?_⟩; (focus (go_simp; first | done | (simp [undef]; done))); go_simp; (with_reducible refine hK _ ?_); clear hK K) | (refine Or.inl ⟨?_, ?_⟩; (focus (go_simp; done)); apply Exists.intro; refine And.intro ?_ ?_; (focus (first | (intro wq hq; obtain ⟨hcq, hfq⟩ := G.old hq; go_simp; (first | done | exact rfl); done) | (intro wq; go_simp; (first | done | exact rfl); done))); go_simp; (with_reducible refine hK _ ?_); clear hK K) | fail))
  have hs00 := hG.b.size
  (with_reducible refine ord_run ?_ hG)
  intro K hK
  go_simp
  go_at_call 63; (with_reducible refine (clonep_any (hr.out.grow hG.b)).mono ?_); rintro e' w2 ⟨A', c', rfl, h1, hb2⟩
  replace hG := Grew.trans hG hb2
  (try dsimp only)
  (with_reducible refine hK _ _ hG ?_)
  clear hK K
  (repeat ((first | (with_reducible refine ord_q1 ?_) | (with_reducible refine ord_q0 ?_)); intro K hK; first | (refine Or.inr ⟨?_, ?_⟩; (focus (go_simp; first | done | (simp [undef]; done))); go_simp; (with_reducible refine hK _ ?_); clear hK K) | (refine Or.inl ⟨?_, ?_⟩; (focus (go_simp; done)); apply Exists.intro; refine And.intro ?_ ?_; (focus (first | (intro wq hq; obtain ⟨hcq, hfq⟩ := G.old hq; go_simp; (first | done | exact rfl); done) | (intro wq; go_simp; (first | done | exact rfl); done))); go_simp; (with_reducible refine hK _ ?_); clear hK K) | fail))
  have x2 := (x2.grow hG.b)
  obtain ⟨m0, g0⟩ := x2.2 0 _ rfl
  obtain ⟨m1, g1⟩ := x2.2 1 _ rfl
  have hb0 := hG.b.size
  have hsz := hsz.out
  ((with_reducible refine ord_tail ?_); intro K hK; go_simp; (with_reducible refine hK _ _ ?_); clear hK K)
  (repeat ((first | (with_reducible refine ord_q1 ?_) | (with_reducible refine ord_q0 ?_)); intro K hK; first | (refine Or.inr ⟨?_, ?_⟩; (focus (go_simp; first | done | (simp [undef]; done))); go_simp; (with_reducible refine hK _ ?_); clear hK K) | (refine Or.inl ⟨?_, ?_⟩; (focus (go_simp; done)); apply Exists.intro; refine And.intro ?_ ?_; (focus (first | (intro wq hq; obtain ⟨hcq, hfq⟩ := G.old hq; go_simp; (first | done | exact rfl); done) | (intro wq; go_simp; (first | done | exact rfl); done))); go_simp; (with_reducible refine hK _ ?_); clear hK K) | fail))
  (with_reducible refine ord_nil ?_)
  go_wp2_with fail
  exact bodyPost_ret (v := .agg #[.int .i64 e, .slice A' p.length c']) (by simp only [results, Try.results75]; go_simp) rfl ⟨A', c', rfl, (h1.keep ((((Keeps.refl _ _).setCell (by simp; omega) _).setCell (by simp; omega) _))).mono fun b _ hb => by have : w0.heap.size ≤ b := hb; show w.heap.size ≤ b; omega, (((hbr.trans (hG.b.mono hbr.size)).setCell (by simp) _).setCell (by simp) _)⟩

theorem natBeq0 (m : Nat) : ((m : Int) == 0) = decide (m = 0) := by
  rw [Bool.eq_iff_iff]; simp
/-- Nothing is in the value. -/
def nullP (k i s : Int) (t : ByteArray) (n m : Nat) : Bool := decide (k = 0) && (decide (i = 0) && (decide (s = 0) && (decide (t.toList = []) && (decide (n = 0) && decide (m = 0)))))
set_option maxRecDepth 20000 in set_option maxHeartbeats 400000 in
theorem isNull_any (k i s : Int) (t : ByteArray) (A B : Option Addr) (n c m d : Nat) (w : World) :
    Calls Try.prog 66 #[.agg #[.int .i64 k, .int .i64 i, .int .i64 s, .string t, .slice A n c, .slice B m d]] w fun e w' => e = .returned (.bool (nullP k i s t n m)) ∧ Below w.heap.size w w' := by
  obtain ⟨r, hr⟩ : ∃ r, nullP k i s t n m = r := ⟨_, rfl⟩
  rw [hr]
  replace hr := Lib.hid hr
  go_enter Try.func66, Try.ntmps66
  go_wp2_with fail
  all_goals (go_ret; exact ⟨ret_b (by rw [← hr.out]; simp [nullP, natBeq0, *]), by repeat (first | with_reducible assumption | with_reducible exact G.refl _ | with_reducible refine G.drew ?_ | with_reducible refine G.drewN ?_ _ | with_reducible refine G.alloc ?_ _ | with_reducible refine Below.setCell ?_ (by first | (simp; done) | (simp; omega)) _ | with_reducible refine G.trans ?_ hb12 | with_reducible refine G.trans ?_ hb11 | with_reducible refine G.trans ?_ hb10 | with_reducible refine G.trans ?_ hb9 | with_reducible refine G.trans ?_ hb8 | with_reducible refine G.trans ?_ hb7 | with_reducible refine G.trans ?_ hb6 | with_reducible refine G.trans ?_ hb5 | with_reducible refine G.trans ?_ hb4 | with_reducible refine G.trans ?_ hb3 | with_reducible refine G.trans ?_ hb2 | with_reducible refine G.trans ?_ hb1 | with_reducible refine G.trans ?_ hb | assumption)⟩)

/-- The message is the zero message. -/
def zeroP (e : Int) (n : Nat) (mass : Int) (l : Nat) (b : Bool) : Bool := decide (e = 0) && (decide (n = 0) && (decide (mass = 0) && (decide (l = 0) && b)))
set_option maxRecDepth 20000 in set_option maxHeartbeats 400000 in
theorem zero_any (e mass k i s : Int) (t : ByteArray) (P O A B : Option Addr) (p pc l lc n c m d : Nat) (w : World) :
    Calls Try.prog 43 #[.agg #[.int .i64 e, .slice P p pc, .int .i64 mass, .slice O l lc, .int .i64 k, .int .i64 i, .int .i64 s, .string t, .slice A n c, .slice B m d]] w fun e' w' => e' = .returned (.bool (zeroP e p mass l (nullP k i s t n m))) ∧ Below w.heap.size w w' := by
  obtain ⟨r, hr⟩ : ∃ r, zeroP e p mass l (nullP k i s t n m) = r := ⟨_, rfl⟩
  rw [hr]
  replace hr := Lib.hid hr
  go_enter Try.func43, Try.ntmps43
  go_wp2_with (go_at_call 66; (with_reducible refine (isNull_any k i s t A B n c m d _).mono ?_); rintro e' w2 ⟨rfl, hb2⟩)
  all_goals (go_ret; exact ⟨ret_b (by rw [← hr.out]; simp [zeroP, natBeq0, *]), by repeat (first | with_reducible assumption | with_reducible exact G.refl _ | with_reducible refine G.drew ?_ | with_reducible refine G.drewN ?_ _ | with_reducible refine G.alloc ?_ _ | with_reducible refine Below.setCell ?_ (by first | (simp; done) | (simp; omega)) _ | with_reducible refine G.trans ?_ hb12 | with_reducible refine G.trans ?_ hb11 | with_reducible refine G.trans ?_ hb10 | with_reducible refine G.trans ?_ hb9 | with_reducible refine G.trans ?_ hb8 | with_reducible refine G.trans ?_ hb7 | with_reducible refine G.trans ?_ hb6 | with_reducible refine G.trans ?_ hb5 | with_reducible refine G.trans ?_ hb4 | with_reducible refine G.trans ?_ hb3 | with_reducible refine G.trans ?_ hb2 | with_reducible refine G.trans ?_ hb1 | with_reducible refine G.trans ?_ hb | assumption)⟩)
end Go.Proofs.Ytjldpodehffbnaa
