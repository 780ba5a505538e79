/- Channels: how one lies in memory; New, Len, Capacity, Room, Mark, Advance. -/
import Derived.Test.YtjldpodehffbnaaItem3
namespace Go.Proofs.Ytjldpodehffbnaa
set_option linter.unusedVariables false
set_option linter.unnecessarySimpa false
set_option linter.unusedSimpArgs false
open Go.RowKit

/-- The zero item. -/
theorem ItemV.zero (ok : Nat → Prop) (w : World) : ItemV ok w [.int .i64 0, .slice none 0 0, .int .i64 0, .slice none 0 0, .int .i64 0, .int .i64 0, .int .i64 0, .string ⟨#[]⟩, .slice none 0 0, .slice none 0 0, .slice none 0 0] ⟨0, [], 0, 0⟩ :=
  ⟨0, none, 0, 0, [], none, 0, 0, [], 0, 0, 0, ⟨#[]⟩, none, 0, 0, none, 0, 0, none, 0, [], 1, rfl, PathIs.nil _ _, PathIs.nil _ _, Tree.zero _ _, by decide, Rw.nil _ _ _, fun j hj => absurd hj (by show ¬ j < 0; omega), fun _ => ⟨rfl, rfl⟩⟩
theorem made_chunk {z : Array Value} (hz : z.size = 11) {k q : Nat} (hq : q < k) : ((madeCells z (k * 11)).toList.drop (q * 11)).take 11 = z.toList := by
  apply List.ext_getElem?
  intro i
  rw [List.getElem?_take]
  split
  · rename_i hi
    rw [List.getElem?_drop]
    have h1 : q * 11 + i < k * 11 := by omega
    have h2 : (q * 11 + i) % 11 = i := by omega
    simp only [madeCells, Array.toList_map, Array.toList_range, List.getElem?_map, List.getElem?_range h1, Option.map_some, hz, h2]
    rw [Array.getElem?_toList, Array.getElem?_eq_getElem (by omega)]
    simp [getElem!_pos, hz, hi]
  · rename_i hi
    rw [List.getElem?_eq_none (by simp; omega)]

/-- At most the blocks b and r have changed, and blocks have come. -/
def Chg (b r : Nat) (w w' : World) : Prop := Below 0 w w' ∧ Keeps (fun x => x ≠ b ∧ x ≠ r) w w'
theorem Chg.refl (b r : Nat) (w : World) : Chg b r w w := ⟨Below.refl _ _, Keeps.refl _ _⟩
theorem Chg.trans {b r : Nat} {x y z : World} (h : Chg b r x y) (k : Chg b r y z) : Chg b r x z := ⟨h.1.trans k.1, h.2.trans k.2⟩
theorem Chg.of_below {b r : Nat} {w w' : World} (h : Below w.heap.size w w') : Chg b r w w' := ⟨h.mono (Nat.zero_le _), Keeps.of_below h⟩
theorem Chg.setCell1 {b r : Nat} {a w : World} (h : Chg b r a w) (o : Nat) (u : Value) : Chg b r a (w.setCell ⟨b, o, none⟩ u) := ⟨h.1.setCell (Nat.zero_le _) _, h.2.setCell (fun k => k.1 rfl) _⟩
theorem Chg.setCells2 {b r : Nat} {a w : World} (h : Chg b r a w) (o : Nat) (vs : List Value) : Chg b r a (w.setCells r o vs) := ⟨Below.setCells' (Nat.zero_le _) _ _ _ h.1, Keeps.setCells (fun k => k.2 rfl) _ _ _ h.2⟩
theorem Chg.keeps {ok : Nat → Prop} {b r : Nat} {w w' : World} (h : Chg b r w w') (hb : ¬ ok b) (hr : ¬ ok r) : Keeps ok w w' := h.2.mono fun x hx => ⟨fun e => hb (e ▸ hx), fun e => hr (e ▸ hx)⟩
theorem Chg.below {b r L : Nat} {w w' : World} (h : Chg b r w w') (hb : L ≤ b) (hr : L ≤ r) (hL : L ≤ w.heap.size) : Below L w w' :=
  ⟨h.1.os, h.1.tape, h.1.output, h.1.size, fun k hk => h.2.2 k ⟨by omega, by omega⟩ (by omega)⟩
theorem Chg.size {b r : Nat} {w w' : World} (h : Chg b r w w') : w.heap.size ≤ w'.heap.size := h.1.size

/-- A channel. -/
structure Ch where
  cap : Nat
  items : List It
  me : Int
  mp : List Int
  le : Int
  lp : List Int
  used : Bool
/-- The cells of a channel. -/
abbrev chCells (r first : Nat) (c : Ch) (A B : Option Addr) (n cc m d : Nat) : List Value :=
  [.slice (some ⟨r, 0, none⟩) c.cap c.cap, .int .i64 first, .int .i64 c.items.length, .int .i64 c.me, .slice A n cc, .int .i64 c.le, .slice B m d, .bool c.used]
def ChanIn (ok : Nat → Prop) (w : World) (b r : Nat) (c : Ch) (first : Nat) (ring : List Value) (A B : Option Addr) (n cc m d : Nat) : Prop :=
  Bx w b (chCells r first c A B n cc m d) ∧ Bx w r ring ∧ ring.length = c.cap * 11 ∧ PathIs ok w A n cc c.mp ∧ PathIs ok w B m d c.lp ∧
    first < c.cap ∧ c.items.length ≤ c.cap ∧ c.cap ≤ 1024 ∧ b ≠ r ∧ ¬ ok b ∧ ¬ ok r ∧
    (∀ j it, c.items[j]? = some it → ItemV ok w ((ring.drop (((first + j) % c.cap) * 11)).take 11) it) ∧ ∀ q, q < c.cap → ∃ it, ItemV ok w ((ring.drop (q * 11)).take 11) it
def ChanAt (ok : Nat → Prop) (w : World) (b r : Nat) (c : Ch) : Prop := ∃ first ring A B n cc m d, ChanIn ok w b r c first ring A B n cc m d
section
variable {ok ok' : Nat → Prop} {w w' : World} {b r b' r' : Nat} {c c' : Ch} {first : Nat} {ring : List Value} {A B A' B' : Option Addr} {n cc m d n' cc' m' d' : Nat}
theorem ChanIn.keep (h : ChanIn ok w b r c first ring A B n cc m d) (hk : Keeps ok w w') (hs : ∀ x, x = b ∨ x = r → w'.heap[x]? = w.heap[x]?) : ChanIn ok w' b r c first ring A B n cc m d := by
  obtain ⟨h1, h2, h3, h4, h5, h6, h7, h8, h9, h10, h11, h12, h13⟩ := h
  exact ⟨h1.block hk.1 (hs _ (.inl rfl)), h2.block hk.1 (hs _ (.inr rfl)), h3, h4.keep hk, h5.keep hk, h6, h7, h8, h9, h10, h11, fun j it hj => (h12 j it hj).keep hk, fun q hq => let ⟨it, hi⟩ := h13 q hq; ⟨it, hi.keep hk⟩⟩
theorem ChanIn.lt (h : ChanIn ok w b r c first ring A B n cc m d) : b < w.heap.size ∧ r < w.heap.size := ⟨h.1.1, h.2.1.1⟩
theorem ChanIn.grow (h : ChanIn ok w b r c first ring A B n cc m d) (hb : Below w.heap.size w w') : ChanIn ok w' b r c first ring A B n cc m d :=
  h.keep (Keeps.of_below hb) fun x hx => hb.block x (by rcases hx with rfl | rfl; exact h.lt.1; exact h.lt.2)
/-- Other marks, the same items. -/
theorem ChanIn.re (h : ChanIn ok w b r c first ring A B n cc m d) (hk : Keeps ok w w') (hr : w'.heap[r]? = w.heap[r]?) (hcap : c'.cap = c.cap) (hit : c'.items = c.items) (hb : Bx w' b (chCells r first c' A' B' n' cc' m' d'))
    (hm : PathIs ok w' A' n' cc' c'.mp) (hl : PathIs ok w' B' m' d' c'.lp) : ChanAt ok w' b r c' := by
  obtain ⟨h1, h2, h3, h4, h5, h6, h7, h8, h9, h10, h11, h12, h13⟩ := h
  refine ⟨first, ring, A', B', n', cc', m', d', hb, h2.block hk.1 hr, by rw [hcap]; exact h3, hm, hl, by rw [hcap]; exact h6, by rw [hcap, hit]; exact h7, by rw [hcap]; exact h8, h9, h10, h11, fun j it hj => ?_, fun q hq => ?_⟩
  · rw [hit] at hj
    rw [hcap]
    exact (h12 j it hj).keep hk
  · rw [hcap] at hq
    obtain ⟨it, hi⟩ := h13 q hq
    exact ⟨it, hi.keep hk⟩
theorem ChanAt.keep (h : ChanAt ok w b r c) (hk : Keeps ok w w') (hs : ∀ x, x = b ∨ x = r → w'.heap[x]? = w.heap[x]?) : ChanAt ok w' b r c := by
  obtain ⟨first, ring, A, B, n, cc, m, d, h⟩ := h
  exact ⟨first, ring, A, B, n, cc, m, d, h.keep hk hs⟩
theorem ChanAt.lt (h : ChanAt ok w b r c) : b < w.heap.size ∧ r < w.heap.size := by
  obtain ⟨first, ring, A, B, n, cc, m, d, h⟩ := h
  exact h.lt
theorem ChanAt.grow (h : ChanAt ok w b r c) (hb : Below w.heap.size w w') : ChanAt ok w' b r c :=
  h.keep (Keeps.of_below hb) fun x hx => hb.block x (by rcases hx with rfl | rfl; exact h.lt.1; exact h.lt.2)
/-- Another channel's operation. -/
theorem ChanAt.other (h : ChanAt ok w b r c) (hc : Chg b' r' w w') (hb : ¬ ok b') (hr : ¬ ok r') (h1 : b ≠ b' ∧ b ≠ r') (h2 : r ≠ b' ∧ r ≠ r') : ChanAt ok w' b r c :=
  h.keep (hc.keeps hb hr) fun x hx => hc.2.2 x (by rcases hx with rfl | rfl; exact h1; exact h2) (by rcases hx with rfl | rfl; exact h.lt.1; exact h.lt.2)
theorem ChanAt.mono (h : ChanAt ok w b r c) (hk : ∀ x, x < w.heap.size → ok x → ok' x) (hb : ¬ ok' b) (hr : ¬ ok' r) : ChanAt ok' w b r c := by
  obtain ⟨first, ring, A, B, n, cc, m, d, h1, h2, h3, h4, h5, h6, h7, h8, h9, h10, h11, h12, h13⟩ := h
  exact ⟨first, ring, A, B, n, cc, m, d, h1, h2, h3, h4.mono hk, h5.mono hk, h6, h7, h8, h9, hb, hr, fun j it hj => (h12 j it hj).mono hk, fun q hq => let ⟨it, hi⟩ := h13 q hq; ⟨it, hi.mono hk⟩⟩
end

set_option maxRecDepth 20000 in set_option maxHeartbeats 400000 in
theorem len_any {ok : Nat → Prop} {w : World} {b r : Nat} {c : Ch} (h : ChanAt ok w b r c) :
    Calls Try.prog 21 #[.pointer (some ⟨b, 0, none⟩)] w fun e w' => e = .returned (.int .i64 c.items.length) ∧ w' = w := by
  obtain ⟨first, ring, A, B, n, cc, m, d, h1, _⟩ := h
  have k2 := (h1.2 2 _ rfl).1
  go_enter Try.func21, Try.ntmps21
  go_wp2
  go_ret
  exact ⟨rfl, rfl⟩
set_option maxRecDepth 20000 in set_option maxHeartbeats 400000 in
theorem capacity_any {ok : Nat → Prop} {w : World} {b r : Nat} {c : Ch} (h : ChanAt ok w b r c) :
    Calls Try.prog 39 #[.pointer (some ⟨b, 0, none⟩)] w fun e w' => e = .returned (.int .i64 c.cap) ∧ w' = w := by
  obtain ⟨first, ring, A, B, n, cc, m, d, h1, _⟩ := h
  have k0 := (h1.2 0 _ rfl).1
  go_enter Try.func39, Try.ntmps39
  go_wp2
  go_ret
  exact ⟨rfl, rfl⟩
set_option maxRecDepth 20000 in set_option maxHeartbeats 400000 in
theorem mark_any {ok : Nat → Prop} {w : World} {b r : Nat} {c : Ch} (h : ChanAt ok w b r c) :
    Calls Try.prog 23 #[.pointer (some ⟨b, 0, none⟩)] w (RetS c.me c.mp w) := by
  obtain ⟨first, ring, A, B, n, cc, m, d, h1, _, _, h4, _⟩ := h
  have k3 := (h1.2 3 _ rfl).1
  have k4 := (h1.2 4 _ rfl).1
  have lt := h1.lt
  have H4 := Lib.hid h4
  clear h4
  go_enter Try.func23, Try.ntmps23
  go_wp2_with fail
  refine (cloneStamp_any c.me (H4.out.grow (by repeat (first | with_reducible assumption | with_reducible exact G.refl _ | with_reducible refine G.drew ?_ | with_reducible refine G.drewN ?_ _ | with_reducible refine G.alloc ?_ _ | with_reducible refine Below.setCell ?_ (by first | (simp; done) | (simp; omega)) _ | with_reducible refine G.trans ?_ hb12 | with_reducible refine G.trans ?_ hb11 | with_reducible refine G.trans ?_ hb10 | with_reducible refine G.trans ?_ hb9 | with_reducible refine G.trans ?_ hb8 | with_reducible refine G.trans ?_ hb7 | with_reducible refine G.trans ?_ hb6 | with_reducible refine G.trans ?_ hb5 | with_reducible refine G.trans ?_ hb4 | with_reducible refine G.trans ?_ hb3 | with_reducible refine G.trans ?_ hb2 | with_reducible refine G.trans ?_ hb1 | with_reducible refine G.trans ?_ hb | assumption)))).mono ?_
  rintro e' w1 ⟨A', c', rfl, hr, hb⟩
  have x2 : Bx w1 w.heap.size [.int .i64 0, .slice none 0 0] := Bx.grow (by repeat (first | with_reducible assumption | (with_reducible exact Bx.new (by simp; done) (by rfl)) | (with_reducible refine Bx.alloc ?_ _) | (with_reducible refine Bx.drewN ?_ _) | ((with_reducible apply Bx.put); rotate_right; (first | rfl | skip)) | (with_reducible refine Bx.other ?_ (by first | (simp; done) | (simp; omega)) _))) hb
  have hb0 : Below w.heap.size w w1 := G.trans (by repeat (first | with_reducible assumption | with_reducible exact G.refl _ | with_reducible refine G.drew ?_ | with_reducible refine G.drewN ?_ _ | with_reducible refine G.alloc ?_ _ | with_reducible refine Below.setCell ?_ (by first | (simp; done) | (simp; omega)) _ | with_reducible refine G.trans ?_ hb12 | with_reducible refine G.trans ?_ hb11 | with_reducible refine G.trans ?_ hb10 | with_reducible refine G.trans ?_ hb9 | with_reducible refine G.trans ?_ hb8 | with_reducible refine G.trans ?_ hb7 | with_reducible refine G.trans ?_ hb6 | with_reducible refine G.trans ?_ hb5 | with_reducible refine G.trans ?_ hb4 | with_reducible refine G.trans ?_ hb3 | with_reducible refine G.trans ?_ hb2 | with_reducible refine G.trans ?_ hb1 | with_reducible refine G.trans ?_ hb | assumption)) hb
  simp only [World.size_alloc] at hr
  obtain ⟨m0, g0⟩ := x2.2 0 _ rfl
  obtain ⟨m1, g1⟩ := x2.2 1 _ rfl
  go_wp2_with fail
  exact bodyPost_ret (v := .agg #[.int .i64 c.me, .slice A' c.mp.length c']) (by simp only [results, Try.results23]; go_simp) rfl ⟨A', c', rfl, hr.back (((Keeps.refl _ _).setCell (by simp) _).setCell (by simp) _) (by omega), (hb0.setCell (by simp) _).setCell (by simp) _⟩

/-- What Advance does. -/
def advC (c : Ch) (e : Int) (p : List Int) : Int × Ch := if cmpS e p c.me c.mp < 0 then (24, c) else (0, { c with me := e, mp := p })
set_option maxRecDepth 20000 in set_option maxHeartbeats 400000 in
theorem advance_any {ok : Nat → Prop} {w : World} {b r : Nat} {c : Ch} (h : ChanAt ok w b r c) {e : Int} {A : Option Addr} {n cc : Nat} {p : List Int} (hp : PathIs ok w A n cc p) (hf : ∀ x, w.heap.size ≤ x → ok x) :
    Calls Try.prog 19 #[.pointer (some ⟨b, 0, none⟩), .agg #[.int .i64 e, .slice A n cc]] w fun e' w' => e' = .returned (.int .i64 (advC c e p).1) ∧ ChanAt ok w' b r (advC c e p).2 ∧ Chg b r w w' := by
  have hc := Lib.hid h
  have hP := Lib.hid hp
  obtain ⟨first, ring, A1, B, n1, c1, m, d, h⟩ := h
  have k3 := (h.1.2 3 _ rfl).1
  have k4 := (h.1.2 4 _ rfl).1
  have lt := h.1.lt
  have H4 := Lib.hid h.2.2.2.1
  have X1 := Lib.hid h.1
  have HI := Lib.hid h
  clear h hp
  obtain ⟨v, hv⟩ : ∃ v, cmpS e p c.me c.mp = v := ⟨_, rfl⟩
  have hv' := Lib.hid hv
  unfold advC
  rw [hv]
  clear hv
  by_cases hneg : v < 0
  · rw [if_pos hneg]
    go_enter Try.func19, Try.ntmps19
    go_wp2_with fail
    refine wp_name (fun wr => Below w.heap.size w wr ∧ Hid (w.heap.size < wr.heap.size) ∧ Bx wr w.heap.size [.int .i64 e, .slice A n cc]) ⟨by repeat (first | with_reducible assumption | with_reducible exact G.refl _ | with_reducible refine G.drew ?_ | with_reducible refine G.drewN ?_ _ | with_reducible refine G.alloc ?_ _ | with_reducible refine Below.setCell ?_ (by first | (simp; done) | (simp; omega)) _ | with_reducible refine G.trans ?_ hb12 | with_reducible refine G.trans ?_ hb11 | with_reducible refine G.trans ?_ hb10 | with_reducible refine G.trans ?_ hb9 | with_reducible refine G.trans ?_ hb8 | with_reducible refine G.trans ?_ hb7 | with_reducible refine G.trans ?_ hb6 | with_reducible refine G.trans ?_ hb5 | with_reducible refine G.trans ?_ hb4 | with_reducible refine G.trans ?_ hb3 | with_reducible refine G.trans ?_ hb2 | with_reducible refine G.trans ?_ hb1 | with_reducible refine G.trans ?_ hb | assumption), by unfold Hid; simp, by repeat (first | with_reducible assumption | (with_reducible exact Bx.new (by simp; done) (by rfl)) | (with_reducible refine Bx.alloc ?_ _) | (with_reducible refine Bx.drewN ?_ _) | ((with_reducible apply Bx.put); rotate_right; (first | rfl | skip)) | (with_reducible refine Bx.other ?_ (by first | (simp; done) | (simp; omega)) _))⟩ ?_
    rintro w1 ⟨hb1, hsz, y⟩
    replace X1 := Lib.hid (X1.out.grow hb1)
    replace H4 := Lib.hid (H4.out.grow hb1)
    replace hP := Lib.hid (hP.out.grow hb1)
    have k3 := (X1.out.2 3 _ rfl).1
    have k4 := (X1.out.2 4 _ rfl).1
    have lt := X1.out.lt
    have y0 := (y.2 0 _ rfl).1
    have y1 := (y.2 1 _ rfl).1
    have lty := y.lt
    refine wp_region_ord [(0, 1), (1, 1), (2, 1), (3, 1), (4, 1), (5, 2), (6, 1), (7, 1)] [] 5 (by kernel_rfl) (by decide +kernel) ?_
    simp only [pickO, List.append_eq, List.cons_append, List.nil_append, List.getElem?_cons_succ, List.getElem?_cons_zero]
    intro w0 hG
    (repeat ((first | (with_reducible refine ord_q1 ?_) | (with_reducible refine ord_q0 ?_)); intro K hK; first | (refine Or.inr ⟨?_, ?_⟩; (focus (go_simp; first | done | (simp [undef]; done))); go_simp; (with_reducible refine hK _ ?_); clear hK K) | (refine Or.inl ⟨?_, ?_⟩; (focus (go_simp; done)); apply Exists.intro; refine And.intro ?_ ?_; (focus (first | (intro wq hq; obtain ⟨hcq, hfq⟩ := G.old hq; go_simp; (first | done | exact rfl); done) | (intro wq; go_simp; (first | done | exact rfl); done))); go_simp; (with_reducible refine hK _ ?_); clear hK K) | fail))
    (with_reducible refine ord_run ?_ hG)
    intro K hK
    go_simp
    go_at_call 25; (with_reducible refine (compare_any e c.me A A1 n n1 cc c1 p c.mp _ (hP.out.sl.grow hG.b) (H4.out.sl.grow hG.b) hP.out.max).mono ?_); rintro e' w2 ⟨rfl, hb2⟩; rw [hv'.out]
    replace hG := Grew.trans hG hb2
    (try dsimp only)
    (with_reducible refine hK _ _ hG ?_)
    clear hK K
    (repeat ((first | (with_reducible refine ord_q1 ?_) | (with_reducible refine ord_q0 ?_)); intro K hK; first | (refine Or.inr ⟨?_, ?_⟩; (focus (go_simp; first | done | (simp [undef]; done))); go_simp; (with_reducible refine hK _ ?_); clear hK K) | (refine Or.inl ⟨?_, ?_⟩; (focus (go_simp; done)); apply Exists.intro; refine And.intro ?_ ?_; (focus (first | (intro wq hq; obtain ⟨hcq, hfq⟩ := G.old hq; go_simp; (first | done | exact rfl); done) | (intro wq; go_simp; (first | done | exact rfl); done))); go_simp; (with_reducible refine hK _ ?_); clear hK K) | fail))
    (with_reducible refine ord_nil ?_)
    go_wp2_with fail
    go_ret
    have hbb : Below w.heap.size w w2 := hb1.trans (hG.b.mono hb1.size)
    exact ⟨rfl, hc.out.grow hbb, Chg.of_below hbb⟩
  · rw [if_neg hneg]
    go_enter Try.func19, Try.ntmps19
    go_wp2_with fail
    refine wp_name (fun wr => Below w.heap.size w wr ∧ Hid (w.heap.size < wr.heap.size) ∧ Bx wr w.heap.size [.int .i64 e, .slice A n cc]) ⟨by repeat (first | with_reducible assumption | with_reducible exact G.refl _ | with_reducible refine G.drew ?_ | with_reducible refine G.drewN ?_ _ | with_reducible refine G.alloc ?_ _ | with_reducible refine Below.setCell ?_ (by first | (simp; done) | (simp; omega)) _ | with_reducible refine G.trans ?_ hb12 | with_reducible refine G.trans ?_ hb11 | with_reducible refine G.trans ?_ hb10 | with_reducible refine G.trans ?_ hb9 | with_reducible refine G.trans ?_ hb8 | with_reducible refine G.trans ?_ hb7 | with_reducible refine G.trans ?_ hb6 | with_reducible refine G.trans ?_ hb5 | with_reducible refine G.trans ?_ hb4 | with_reducible refine G.trans ?_ hb3 | with_reducible refine G.trans ?_ hb2 | with_reducible refine G.trans ?_ hb1 | with_reducible refine G.trans ?_ hb | assumption), by unfold Hid; simp, by repeat (first | with_reducible assumption | (with_reducible exact Bx.new (by simp; done) (by rfl)) | (with_reducible refine Bx.alloc ?_ _) | (with_reducible refine Bx.drewN ?_ _) | ((with_reducible apply Bx.put); rotate_right; (first | rfl | skip)) | (with_reducible refine Bx.other ?_ (by first | (simp; done) | (simp; omega)) _))⟩ ?_
    rintro w1 ⟨hb1, hsz, y⟩
    replace X1 := Lib.hid (X1.out.grow hb1)
    replace H4 := Lib.hid (H4.out.grow hb1)
    replace hP := Lib.hid (hP.out.grow hb1)
    have k3 := (X1.out.2 3 _ rfl).1
    have k4 := (X1.out.2 4 _ rfl).1
    have lt := X1.out.lt
    have y0 := (y.2 0 _ rfl).1
    have y1 := (y.2 1 _ rfl).1
    have lty := y.lt
    refine wp_region_ord [(0, 1), (1, 1), (2, 1), (3, 1), (4, 1), (5, 2), (6, 1), (7, 1)] [] 5 (by kernel_rfl) (by decide +kernel) ?_
    simp only [pickO, List.append_eq, List.cons_append, List.nil_append, List.getElem?_cons_succ, List.getElem?_cons_zero]
    intro w0 hG
    (repeat ((first | (with_reducible refine ord_q1 ?_) | (with_reducible refine ord_q0 ?_)); intro K hK; first | (refine Or.inr ⟨?_, ?_⟩; (focus (go_simp; first | done | (simp [undef]; done))); go_simp; (with_reducible refine hK _ ?_); clear hK K) | (refine Or.inl ⟨?_, ?_⟩; (focus (go_simp; done)); apply Exists.intro; refine And.intro ?_ ?_; (focus (first | (intro wq hq; obtain ⟨hcq, hfq⟩ := G.old hq; go_simp; (first | done | exact rfl); done) | (intro wq; go_simp; (first | done | exact rfl); done))); go_simp; (with_reducible refine hK _ ?_); clear hK K) | fail))
    (with_reducible refine ord_run ?_ hG)
    intro K hK
    go_simp
    go_at_call 25; (with_reducible refine (compare_any e c.me A A1 n n1 cc c1 p c.mp _ (hP.out.sl.grow hG.b) (H4.out.sl.grow hG.b) hP.out.max).mono ?_); rintro e' w2 ⟨rfl, hb2⟩; rw [hv'.out]
    replace hG := Grew.trans hG hb2
    (try dsimp only)
    (with_reducible refine hK _ _ hG ?_)
    clear hK K
    (repeat ((first | (with_reducible refine ord_q1 ?_) | (with_reducible refine ord_q0 ?_)); intro K hK; first | (refine Or.inr ⟨?_, ?_⟩; (focus (go_simp; first | done | (simp [undef]; done))); go_simp; (with_reducible refine hK _ ?_); clear hK K) | (refine Or.inl ⟨?_, ?_⟩; (focus (go_simp; done)); apply Exists.intro; refine And.intro ?_ ?_; (focus (first | (intro wq hq; obtain ⟨hcq, hfq⟩ := G.old hq; go_simp; (first | done | exact rfl); done) | (intro wq; go_simp; (first | done | exact rfl); done))); go_simp; (with_reducible refine hK _ ?_); clear hK K) | fail))
    (with_reducible refine ord_nil ?_)
    have hbb : Below w.heap.size w w2 := hb1.trans (hG.b.mono hb1.size)
    replace y := y.grow hG.b
    have hbx := hc.out.grow hbb
    replace hP := Lib.hid (hP.out.grow hG.b)
    replace X1 := X1.out.grow hG.b
    replace y0 := (y.2 0 _ rfl).1
    replace y1 := (y.2 1 _ rfl).1
    clear hG hb2 k3 k4 lt lty H4
    go_wp2_with fail
    refine (cloneStamp_any e hP.out).mono ?_
    rintro e' w3 ⟨A', c', rfl, hr, hb3⟩
    replace X1 := X1.grow hb3
    obtain ⟨m3, g3⟩ := X1.2 3 _ rfl
    obtain ⟨m4, g4⟩ := X1.2 4 _ rfl
    go_wp2_with fail
    go_ret
    have hI3 := (HI.out.grow hbb).grow hb3
    obtain ⟨_, _, _, _, hl, _, _, _, hbr, hnb, hnr, _⟩ := id hI3
    have hch : Chg b r w3 ((w3.setCell ⟨b, 3, none⟩ (.int .i64 e)).setCell ⟨b, 4, none⟩ (.slice A' p.length c')) := ((Chg.refl b r w3).setCell1 _ _).setCell1 _ _
    have hk := hch.keeps hnb hnr
    refine ⟨rfl, hI3.re hk ((Below.heap_setCell _ _ _ _ (fun h => hbr h.symm)).trans (Below.heap_setCell _ _ _ _ (fun h => hbr h.symm))) rfl rfl (Bx.put (Bx.put X1 rfl) rfl) ((hr.mono fun x _ hx => hf x (Nat.le_trans hbb.size hx)).keep hk) (hl.keep hk), ((Chg.of_below hbb).trans (Chg.of_below hb3)).trans hch⟩

theorem Try.infoI33 : (Try.prog.info? 33).map (fun i => (i.zero, i.size, i.bytes)) = some (some (.agg #[.int .i64 0, .slice none 0 0, .int .i64 0, .slice none 0 0, .int .i64 0, .int .i64 0, .int .i64 0, .string ⟨#[]⟩, .slice none 0 0, .slice none 0 0, .slice none 0 0]), 11, 176) := by kernel_rfl
abbrev ch0 (k : Nat) : Ch := ⟨k, [], 0, [], 0, [], false⟩
/-- A new channel has come back. -/
def RetN (k : Nat) (w : World) (e : Ending) (w' : World) : Prop :=
  ∃ b r, e = .returned (.tuple #[.pointer (some ⟨b, 0, none⟩), .int .i64 0]) ∧ w.heap.size ≤ b ∧ w.heap.size ≤ r ∧ (∀ ok : Nat → Prop, ¬ ok b → ¬ ok r → ChanAt ok w' b r (ch0 k)) ∧ Below w.heap.size w w'
set_option maxRecDepth 20000 in set_option maxHeartbeats 400000 in
theorem new_any (k : Nat) (w : World) (h1 : 1 ≤ k) (h2 : k ≤ 1024) :
    Calls Try.prog 18 #[.int .i64 k] w (RetN k w) := by
  obtain ⟨i0, hi0, hz0, hz1, hz2⟩ := info_parts Try.infoI33
  have hmk := fun w => run_makeSlice (P := Try.prog) w 79 33 i0 _ Try.underlying79 hi0 hz0 .i64 .i64 k k (by omega) (Int.le_refl _) (by rw [hz1, Int.toNat_natCast]; omega) (by rw [hz2]; omega) (by omega)
  simp only [hz1, Int.toNat_natCast] at hmk
  obtain ⟨L, hL⟩ : ∃ L, madeCells (Value.agg #[.int .i64 0, .slice none 0 0, .int .i64 0, .slice none 0 0, .int .i64 0, .int .i64 0, .int .i64 0, .string ⟨#[]⟩, .slice none 0 0, .slice none 0 0, .slice none 0 0]).cells (k * 11) = L := ⟨_, rfl⟩
  have hsz : L.size = k * 11 := by rw [← hL, size_madeCells]
  have hLc : Hid (∀ q, q < k → (L.toList.drop (q * 11)).take 11 = [.int .i64 0, .slice none 0 0, .int .i64 0, .slice none 0 0, .int .i64 0, .int .i64 0, .int .i64 0, .string ⟨#[]⟩, .slice none 0 0, .slice none 0 0, .slice none 0 0]) := fun q hq => by rw [← hL]; exact made_chunk rfl hq
  rw [hL] at hmk
  replace hsz := Lib.hid hsz
  clear hL
  have n1 : ¬ ((k : Int) < 1) := by omega
  have n2 : ¬ ((1024 : Int) < (k : Int)) := by omega
  go_enter Try.func18, Try.ntmps18
  go_wp2
  go_ret2
  refine ⟨w.heap.size + 1, w.heap.size, rfl, by omega, by omega, fun ok hb hr => ⟨0, L.toList, none, none, 0, 0, 0, 0, Bx.new (by simp) rfl, Bx.alloc (Bx.new rfl (by simp)) _, by rw [Array.length_toList, hsz.out], PathIs.nil _ _, PathIs.nil _ _, by show 0 < k; omega, Nat.zero_le _, h2, by omega, hb, hr, fun j it hj => (by simp at hj), fun q hq => ⟨_, by rw [hLc.out q hq]; exact ItemV.zero _ _⟩⟩, by repeat (first | with_reducible assumption | with_reducible exact G.refl _ | with_reducible refine G.drew ?_ | with_reducible refine G.drewN ?_ _ | with_reducible refine G.alloc ?_ _ | with_reducible refine Below.setCell ?_ (by first | (simp; done) | (simp; omega)) _ | with_reducible refine G.trans ?_ hb12 | with_reducible refine G.trans ?_ hb11 | with_reducible refine G.trans ?_ hb10 | with_reducible refine G.trans ?_ hb9 | with_reducible refine G.trans ?_ hb8 | with_reducible refine G.trans ?_ hb7 | with_reducible refine G.trans ?_ hb6 | with_reducible refine G.trans ?_ hb5 | with_reducible refine G.trans ?_ hb4 | with_reducible refine G.trans ?_ hb3 | with_reducible refine G.trans ?_ hb2 | with_reducible refine G.trans ?_ hb1 | with_reducible refine G.trans ?_ hb | assumption)⟩
end Go.Proofs.Ytjldpodehffbnaa
