/- The model of a channel in memory; its advance. -/
import Derived.Test.YtjldpodehffbnaaMod1
import Derived.Test.YtjldpodehffbnaaChan1
namespace Go.Proofs.Ytjldpodehffbnaa
set_option linter.unusedVariables false
set_option linter.unnecessarySimpa false
set_option linter.unusedSimpArgs false
open Go.RowKit

/-- The model at the block mb: its struct, its items in a row of its own, all else is data. -/
def ModIn (ok : Nat → Prop) (base : Nat) (w : World) (mb : Nat) (c : Ch) (A : Option Addr) (q : Nat) (xs : List Value) (P1 P2 : Option Addr) (n1 c1 n2 c2 : Nat) : Prop :=
  Bx w mb [.int .i64 c.cap, .slice A c.items.length q, .int .i64 c.me, .slice P1 n1 c1, .int .i64 c.le, .slice P2 n2 c2] ∧ OwnO w base 11 A c.items.length q xs ∧
    (∀ j it, c.items[j]? = some it → ItemV ok w ((xs.drop (j * 11)).take 11) it) ∧ PathIs ok w P1 n1 c1 c.mp ∧ PathIs ok w P2 n2 c2 c.lp ∧ ¬ ok mb ∧ ∀ ad, A = some ad → ¬ ok ad.block ∧ ad.block ≠ mb
def ModAt (ok : Nat → Prop) (base : Nat) (w : World) (mb : Nat) (c : Ch) : Prop := ∃ A q xs P1 P2 n1 c1 n2 c2, ModIn ok base w mb c A q xs P1 P2 n1 c1 n2 c2
theorem ModIn.grow {ok : Nat → Prop} {base : Nat} {w w' : World} {mb : Nat} {c : Ch} {A : Option Addr} {q : Nat} {xs : List Value} {P1 P2 : Option Addr} {n1 c1 n2 c2 : Nat} (h : ModIn ok base w mb c A q xs P1 P2 n1 c1 n2 c2) (hb : Below w.heap.size w w') : ModIn ok base w' mb c A q xs P1 P2 n1 c1 n2 c2 := by
  obtain ⟨h1, h2, h3, h4, h5, h6, h7⟩ := h
  refine ⟨h1.grow hb, h2.block hb.size (fun ad e => hb.block _ ?_), fun j it hj => (h3 j it hj).grow hb, h4.grow hb, h5.grow hb, h6, h7⟩
  obtain ⟨_, _, _, h | ⟨g, off, he, _, hl, _⟩⟩ := h2
  · rw [h.1] at e; cases e
  · rw [he] at e; cases e; exact hl
set_option maxRecDepth 20000 in set_option maxHeartbeats 1000000 in
theorem madv_any {ok : Nat → Prop} {base : Nat} {w : World} {mb : Nat} {c : Ch} {IA : Option Addr} {q : Nat} {xs : List Value} {P1 P2 : Option Addr} {n1 c1 n2 c2 : Nat} (hI : ModIn ok base w mb c IA q xs P1 P2 n1 c1 n2 c2) {e : Int} {A : Option Addr} {n cc : Nat} {p : List Int} (hp : PathIs ok w A n cc p) :
    Calls Try.prog 52 #[.pointer (some ⟨mb, 0, none⟩), .agg #[.int .i64 e, .slice A n cc]] w fun e' w' => e' = .returned (.int .i64 (advC c e p).1) ∧ (∃ P1' n1' c1', ModIn ok base w' mb (advC c e p).2 IA q xs P1' P2 n1' c1' n2 c2) ∧ Below 0 w w' ∧ Keeps (fun x => x ≠ mb) w w' := by
  have HI := Lib.hid hI
  have hP := Lib.hid hp
  obtain ⟨v, hv⟩ : ∃ v, cmpS e p c.me c.mp = v := ⟨_, rfl⟩
  have hv' := Lib.hid hv
  unfold advC
  rw [hv]
  clear hv hI hp
  go_enter Try.func52, Try.ntmps52
  go_wp2_with fail
  refine wp_name (fun wr => Below w.heap.size w wr ∧ Bx wr w.heap.size [.int .i64 e, .slice A n cc]) ⟨by repeat (first | with_reducible assumption | with_reducible exact G.refl _ | with_reducible refine G.drew ?_ | with_reducible refine G.drewN ?_ _ | with_reducible refine G.alloc ?_ _ | with_reducible refine Below.setCell ?_ (by first | (simp; done) | (simp; omega)) _ | with_reducible refine G.trans ?_ hb12 | with_reducible refine G.trans ?_ hb11 | with_reducible refine G.trans ?_ hb10 | with_reducible refine G.trans ?_ hb9 | with_reducible refine G.trans ?_ hb8 | with_reducible refine G.trans ?_ hb7 | with_reducible refine G.trans ?_ hb6 | with_reducible refine G.trans ?_ hb5 | with_reducible refine G.trans ?_ hb4 | with_reducible refine G.trans ?_ hb3 | with_reducible refine G.trans ?_ hb2 | with_reducible refine G.trans ?_ hb1 | with_reducible refine G.trans ?_ hb | assumption), by repeat (first | with_reducible assumption | (with_reducible exact Bx.new (by simp; done) (by rfl)) | (with_reducible refine Bx.alloc ?_ _) | (with_reducible refine Bx.drewN ?_ _) | ((with_reducible apply Bx.put); rotate_right; (first | rfl | skip)) | (with_reducible refine Bx.other ?_ (by first | (simp; done) | (simp; omega)) _))⟩ ?_
  rintro w1 ⟨hb1, y⟩
  replace HI := Lib.hid (HI.out.grow hb1)
  replace hP := Lib.hid (hP.out.grow hb1)
  have k2 := (HI.out.1.2 2 _ rfl).1
  have k3 := (HI.out.1.2 3 _ rfl).1
  have lt := HI.out.1.lt
  have y0 := (y.2 0 _ rfl).1
  have y1 := (y.2 1 _ rfl).1
  have lty := y.lt
  have H4 := Lib.hid HI.out.2.2.2.1
  refine wp_region_ord [(0, 1), (1, 1), (2, 1), (3, 1), (4, 1), (5, 2), (6, 1)] [] 5 (by kernel_rfl) (by decide +kernel) ?_
  simp only [pickO, List.append_eq, List.cons_append, List.nil_append, List.getElem?_cons_succ, List.getElem?_cons_zero]
  intro w0 hG
  (repeat ((first | (with_reducible refine ord_q1 ?_) | (with_reducible refine ord_q0 ?_)); intro K hK; first | (refine Or.inr ⟨?_, ?_⟩; (focus (go_simp; first | done | (simp [undef]; done))); go_simp; (with_reducible refine hK _ ?_); clear hK K) | (refine Or.inl ⟨?_, ?_⟩; (focus (go_simp; done)); apply Exists.intro; refine And.intro ?_ ?_; (focus (first | (intro wq hq; obtain ⟨hcq, hfq⟩ := G.old hq; go_simp; (first | done | exact rfl); done) | (intro wq; go_simp; (first | done | exact rfl); done))); go_simp; (with_reducible refine hK _ ?_); clear hK K) | fail))
  (with_reducible refine ord_run ?_ hG)
  intro K hK
  go_simp
  go_at_call 25; (with_reducible refine (compare_any e c.me A P1 n n1 cc c1 p c.mp _ (hP.out.sl.grow hG.b) (H4.out.sl.grow hG.b) hP.out.max).mono ?_); rintro e' w2 ⟨rfl, hb2⟩; rw [hv'.out]
  replace hG := Grew.trans hG hb2
  (try dsimp only)
  (with_reducible refine hK _ _ hG ?_)
  clear hK K
  (repeat ((first | (with_reducible refine ord_q1 ?_) | (with_reducible refine ord_q0 ?_)); intro K hK; first | (refine Or.inr ⟨?_, ?_⟩; (focus (go_simp; first | done | (simp [undef]; done))); go_simp; (with_reducible refine hK _ ?_); clear hK K) | (refine Or.inl ⟨?_, ?_⟩; (focus (go_simp; done)); apply Exists.intro; refine And.intro ?_ ?_; (focus (first | (intro wq hq; obtain ⟨hcq, hfq⟩ := G.old hq; go_simp; (first | done | exact rfl); done) | (intro wq; go_simp; (first | done | exact rfl); done))); go_simp; (with_reducible refine hK _ ?_); clear hK K) | fail))
  (with_reducible refine ord_nil ?_)
  have hbb : Below w.heap.size w w2 := hb1.trans (hG.b.mono hb1.size)
  replace HI := Lib.hid (HI.out.grow hG.b)
  replace hP := Lib.hid (hP.out.grow hG.b)
  replace y := y.grow hG.b
  replace y0 := (y.2 0 _ rfl).1
  replace y1 := (y.2 1 _ rfl).1
  clear k2 k3 lt lty hG hb2
  by_cases hneg : v < 0
  · go_wp2_with fail
    go_ret
    exact ⟨rfl, ⟨_, _, _, HI.out⟩, hbb.mono (Nat.zero_le _), Keeps.of_below hbb⟩
  · obtain ⟨m2, g2⟩ := HI.out.1.2 2 _ rfl
    obtain ⟨m3, g3⟩ := HI.out.1.2 3 _ rfl
    go_wp2_with fail
    go_ret
    obtain ⟨h1, h2, h3, h4, h5, h6, h7⟩ := HI.out
    have hk : Keeps ok w2 ((w2.setCell ⟨mb, 2, none⟩ (.int .i64 e)).setCell ⟨mb, 3, none⟩ (.slice A n cc)) := ((Keeps.refl _ _).setCell h6 _).setCell h6 _
    refine ⟨rfl, ⟨A, n, cc, Bx.put (Bx.put h1 rfl) rfl, h2.block (by simp [World.setCell]) (fun ad ea => ?_), fun j it hj => (h3 j it hj).keep hk, hP.out.keep hk, h5.keep hk, h6, h7⟩, ((hbb.mono (Nat.zero_le _)).setCell (Nat.zero_le _) _).setCell (Nat.zero_le _) _, ((Keeps.of_below hbb).setCell (fun h => h rfl) _).setCell (fun h => h rfl) _⟩
    exact (Below.heap_setCell _ _ _ _ (h7 ad ea).2).trans (Below.heap_setCell _ _ _ _ (h7 ad ea).2)
end Go.Proofs.Ytjldpodehffbnaa
