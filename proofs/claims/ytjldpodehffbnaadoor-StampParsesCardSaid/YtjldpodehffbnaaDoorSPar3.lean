/- stamp.Parse. -/
import Derived.Test.YtjldpodehffbnaaDoorSPar2
import Derived.Test.YtjldpodehffbnaaDoorData
import Derived.RangeFuncBox
namespace Go.Proofs.YtjldpodehffbnaaDoor
set_option linter.unusedVariables false
set_option linter.unnecessarySimpa false
set_option linter.unusedSimpArgs false
open Go.RowKit
attribute [local go_sem] Oper.semAt_some

set_option maxRecDepth 20000 in set_option maxHeartbeats 1000000 in
theorem splitSeq_any (s : ByteArray) (w : World) : Calls Tryd.prog 51 #[.string s, .string ⟨#[46]⟩] w fun e w' => e = .returned (.func (.func 71) #[] #[.pointer (some ⟨w.heap.size + 1, 0, none⟩), .pointer (some ⟨w.heap.size, 0, none⟩), .pointer (some ⟨w.heap.size + 2, 0, none⟩)]) ∧ SplitAt w.heap.size s.data.toList w' ∧ Below w.heap.size w w' ∧ w'.heap.size = w.heap.size + 3 := by
  have C : Calls Tryd.prog 62 #[.string s, .string ⟨#[46]⟩, .int .i64 0] w fun e w' => e = .returned (.func (.func 71) #[] #[.pointer (some ⟨w.heap.size + 1, 0, none⟩), .pointer (some ⟨w.heap.size, 0, none⟩), .pointer (some ⟨w.heap.size + 2, 0, none⟩)]) ∧ SplitAt w.heap.size s.data.toList w' ∧ Below w.heap.size w w' ∧ w'.heap.size = w.heap.size + 3 := by
    go_enter Tryd.func62, Tryd.ntmps62
    go_wp2_with fail
    go_ret
    refine ⟨rfl, ⟨?_, ?_, ?_, ?_⟩, by repeat (first | with_reducible assumption | with_reducible exact G.refl _ | with_reducible refine G.drew ?_ | with_reducible refine G.drewN ?_ _ | with_reducible refine G.alloc ?_ _ | with_reducible refine Below.setCell ?_ (by first | (simp; done) | (simp; omega)) _ | with_reducible refine G.trans ?_ hb12 | with_reducible refine G.trans ?_ hb11 | with_reducible refine G.trans ?_ hb10 | with_reducible refine G.trans ?_ hb9 | with_reducible refine G.trans ?_ hb8 | with_reducible refine G.trans ?_ hb7 | with_reducible refine G.trans ?_ hb6 | with_reducible refine G.trans ?_ hb5 | with_reducible refine G.trans ?_ hb4 | with_reducible refine G.trans ?_ hb3 | with_reducible refine G.trans ?_ hb2 | with_reducible refine G.trans ?_ hb1 | with_reducible refine G.trans ?_ hb | assumption), by simp⟩
    · rw [B_of]; go_simp
    · go_simp
    · go_simp
    · go_simp
  go_enter Tryd.func51, Tryd.ntmps51
  go_wp2_with fail
  refine C.mono ?_
  rintro e w' ⟨rfl, h1, h2, h3⟩
  go_wp2_with fail
  go_ret
  exact ⟨rfl, h1, h2, h3⟩

/-- Parse's answer. -/
def RetPar (t : List UInt8) (w : World) (e : Ending) (w' : World) : Prop :=
  (∃ en xs A n c, parseS t = some (en, xs) ∧ e = .returned (.tuple #[.agg #[.int .i64 en, .slice A n c], .int .i64 0]) ∧ SlIs w' A n c xs ∧ Below w.heap.size w w') ∨
  (parseS t = none ∧ e = .returned (.tuple #[.agg #[.int .i64 0, .slice none 0 0], .int .i64 13]) ∧ Below w.heap.size w w')
/-- No block of the first world has changed but H and K. -/
def Only (H K : Nat) (A B : World) : Prop := A.heap.size ≤ B.heap.size ∧ ∀ k, k < A.heap.size → k ≠ H → k ≠ K → B.heap[k]? = A.heap[k]?
theorem Only.refl (H K : Nat) (A : World) : Only H K A A := ⟨Nat.le_refl _, fun _ _ _ _ => rfl⟩
theorem Only.cell {H K : Nat} {A B : World} (h : Only H K A B) {k i : Nat} {u : Value} (h1 : k ≠ H) (h2 : k ≠ K) (hc : A.cell? ⟨k, i, none⟩ = some u) : B.cell? ⟨k, i, none⟩ = some u := by
  have hl := cell_lt hc
  unfold World.cell? at hc ⊢
  rw [show B.heap[(⟨k, i, none⟩ : Addr).block]? = A.heap[(⟨k, i, none⟩ : Addr).block]? from h.2 k hl h1 h2]
  exact hc
theorem Only.frozen {H K : Nat} {A B : World} (h : Only H K A B) {k i : Nat} (hl : k < A.heap.size) (h1 : k ≠ H) (h2 : k ≠ K) : B.frozen? ⟨k, i, none⟩ = A.frozen? ⟨k, i, none⟩ := by
  unfold World.frozen?
  rw [show B.heap[(⟨k, i, none⟩ : Addr).block]? = A.heap[(⟨k, i, none⟩ : Addr).block]? from h.2 k hl h1 h2]
theorem Only.bx {H K : Nat} {A B : World} (h : Only H K A B) {b : Nat} {cs : List Value} (hb : Bx A b cs) (h1 : b ≠ H) (h2 : b ≠ K) : Bx B b cs :=
  ⟨Nat.lt_of_lt_of_le hb.1 h.1, fun i u hu => ⟨h.cell h1 h2 (hb.2 i u hu).1, (h.frozen hb.1 h1 h2).trans (hb.2 i u hu).2⟩⟩
theorem Only.grown {H K : Nat} {A B C : World} (h : Only H K A B) {row : Option Nat} (hg : B.grownBy C row) (hr : ∀ r, row = some r → A.heap.size ≤ r ∨ r = H ∨ r = K) : Only H K A C :=
  ⟨Nat.le_trans h.1 hg.size, fun k hk h1 h2 => (hg.block k (Nat.lt_of_lt_of_le hk h.1) (fun e => by rcases hr k e.symm with h3 | h3 | h3 <;> omega)).trans (h.2 k hk h1 h2)⟩
theorem Bx.kept {W W' : World} {row : Option Nat} {b : Nat} {cs : List Value} (h : Bx W b cs) (hg : W.grownBy W' row) (hrow : ∀ r, row = some r → ∃ o : Obj, W.heap[r]? = some o ∧ o.isCells = false) : Bx W' b cs :=
  ⟨Nat.lt_of_lt_of_le h.1 hg.size, fun i u hu => ⟨cell_kept (h.2 i u hu).1 hg hrow, (frozen_kept (h.2 i u hu).1 hg hrow).trans (h.2 i u hu).2⟩⟩
theorem own_kept {W W' : World} {row : Option Nat} {base : Nat} {e : TypeId} {size k : Nat} {v : Value} {xs : List Value} (h : W.ownsRow base e size v k xs) (hg : W.grownBy W' row) (hrow : ∀ r, row = some r → ∃ o : Obj, W.heap[r]? = some o ∧ o.isCells = false) : W'.ownsRow base e size v k xs := by
  refine h.kept hg ?_
  rcases h.2 with ⟨rfl, _⟩ | ⟨g, cap, cur, rfl, _, hgb, _⟩
  · exact .inl rfl
  · refine .inr fun e' => ?_
    obtain ⟨o, ho, hc⟩ := hrow g (by simpa [Value.ownBlock] using e'.symm)
    rw [hgb] at ho; cases ho; cases hc
theorem nums_pre {l : List (List UInt8)} (pre : List (List UInt8)) (x : List UInt8) (rest : List (List UInt8)) (h : l = pre ++ x :: rest) {xs : List Int} (hp : nums pre = some xs) (hx : num x = none) : nums l = none := by
  rw [h]; exact nums_app_none hx
/-- Between two rounds: the numbers so far. -/
def ParI (B0 B H1 Hs : Nat) (w wB : World) (en : Int) (pre : List (List UInt8)) (W : World) : Prop :=
  (∃ xs v, nums pre = some xs ∧ Bx W H1 [.int .i64 en, v] ∧ W.ownsRow B 3 1 v xs.length (i64s xs)) ∧ Only H1 Hs wB W ∧ Below B0 w W
def ParX (B0 H0 : Nat) (w : World) (L pre : List (List UInt8)) (W : World) : Prop :=
  (nums L = none ∧ Bx W H0 [.int .i64 0, .slice none 0 0] ∧ Bx W (H0 + 1) [.int .i64 13]) ∧ Below B0 w W
theorem parI_own {B0 B H1 Hs : Nat} {w wB : World} {en : Int} (h0 : B0 ≤ w.heap.size) (h1 : B0 ≤ B) (hB : wB.heap.size = B) : OwnFrom B (ParI B0 B H1 Hs w wB en) := by
  rintro s W W' row ⟨⟨xs, v, hn, hb, ho⟩, hon, hbe⟩ hg hr
  have hr' := fun r e => (hr r e).2
  exact ⟨⟨xs, v, hn, hb.kept hg hr', own_kept ho hg hr'⟩, hon.grown hg (fun r e => .inl (by rw [hB]; exact (hr r e).1)), hbe.grown hg (Nat.le_trans h0 hbe.size) (fun k e => Nat.le_trans h1 (hr k e).1)⟩
theorem parX_own {B0 B H0 : Nat} {w : World} {L : List (List UInt8)} (h0 : B0 ≤ w.heap.size) (h1 : B0 ≤ B) : OwnFrom B (ParX B0 H0 w L) := by
  rintro s W W' row ⟨⟨hn, hb, ho⟩, hbe⟩ hg hr
  have hr' := fun r e => (hr r e).2
  exact ⟨⟨hn, hb.kept hg hr', ho.kept hg hr'⟩, hbe.grown hg (Nat.le_trans h0 hbe.size) (fun k e => Nat.le_trans h1 (hr k e).1)⟩
theorem own_set {W : World} {base : Nat} {e : TypeId} {size k : Nat} {v : Value} {xs : List Value} (h : W.ownsRow base e size v k xs) {b : Nat} (hb : b < base) (u : Value) : (W.setCell ⟨b, 0, none⟩ u).ownsRow base e size v k xs := by
  refine h.kept (grownBy_setCell' W b u) ?_
  rcases h.2 with ⟨rfl, _⟩ | ⟨g, cap, cur, rfl, hg, hgb, _⟩
  · exact .inl rfl
  · refine .inr fun e' => ?_
    have : g = b := by simpa [Value.ownBlock] using e'
    omega
theorem parI_step {B0 B H1 Hs : Nat} {w wB : World} {en : Int} (h0 : B0 ≤ Hs) (h1 : Hs < B) (hne : H1 ≠ Hs) : ∀ s X Y, ParI B0 B H1 Hs w wB en s X → StepH Hs X Y → ParI B0 B H1 Hs w wB en s Y := by
  rintro s X Y ⟨⟨xs, v, hn, hb, ho⟩, hon, hbe⟩ ⟨u, rfl⟩
  exact ⟨⟨xs, v, hn, hb.other (by simpa using hne) u, own_set ho h1 u⟩, hon.grown (grownBy_setCell' X Hs u) (fun r e => .inr (.inr (by cases e; rfl))), hbe.setCell (p := ⟨Hs, 0, none⟩) h0 u⟩
theorem parX_step {B0 H0 Hs : Nat} {w : World} {L : List (List UInt8)} (h0 : B0 ≤ Hs) (h1 : H0 + 1 < Hs) : ∀ s X Y, ParX B0 H0 w L s X → StepH Hs X Y → ParX B0 H0 w L s Y := by
  rintro s X Y ⟨⟨hn, hb, ho⟩, hbe⟩ ⟨u, rfl⟩
  exact ⟨⟨hn, hb.other (by simp; omega) u, ho.other (by simp; omega) u⟩, hbe.setCell (p := ⟨Hs, 0, none⟩) h0 u⟩

theorem own_set1 {W : World} {base : Nat} {e : TypeId} {size k : Nat} {v : Value} {xs : List Value} (h : W.ownsRow base e size v k xs) {b : Nat} (hb : b < base) (i : Nat) (u : Value) : (W.setCell ⟨b, i, none⟩ u).ownsRow base e size v k xs := by
  refine ⟨h.1, ?_⟩
  rcases h.2 with h0 | ⟨g, cap, cur, hv, hg, hh, hr⟩
  · exact .inl h0
  · exact .inr ⟨g, cap, cur, hv, hg, (Below.heap_setCell _ _ _ g (show g ≠ b by omega)).trans hh, hr⟩
theorem Bx.ofGrown {W W' : World} {row : Option Nat} {b : Nat} {cs : List Value} (h : Bx W b cs) (hg : W.grownBy W' row) (hne : some b ≠ row) : Bx W' b cs := h.block hg.size (hg.block b h.1 hne)
theorem pieces_len : ∀ (t : List UInt8), (pieces t).length ≤ t.length + 1 ∧ ∀ x ∈ pieces t, x.length ≤ t.length
  | [] => by simp [pieces]
  | c :: r => by
    obtain ⟨h1, h2⟩ := pieces_len r
    unfold pieces
    split
    · refine ⟨by simp; omega, fun x hx => ?_⟩
      rcases List.mem_cons.1 hx with rfl | hx
      · simp
      · have := h2 x hx; simp; omega
    · split
      · simp
      · rename_i p ps hp
        rw [hp] at h1 h2
        refine ⟨by simp at h1 ⊢; omega, fun x hx => ?_⟩
        rcases List.mem_cons.1 hx with rfl | hx
        · have := h2 p (by simp); simp; omega
        · have := h2 x (by simp [hx]); simp; omega
theorem own_ne {W : World} {base : Nat} {e : TypeId} {size k : Nat} {v : Value} {xs : List Value} (h : W.ownsRow base e size v k xs) {b : Nat} (hb : b < base) : some b ≠ v.ownBlock := by
  rcases h.2 with ⟨rfl, _⟩ | ⟨g, cap, cur, rfl, hg, _⟩
  · simp [Value.ownBlock]
  · intro e'
    have : b = g := by simpa [Value.ownBlock] using e'
    omega
theorem own_ge {W : World} {base : Nat} {e : TypeId} {size k : Nat} {v : Value} {xs : List Value} (h : W.ownsRow base e size v k xs) {r : Nat} (hr : v.ownBlock = some r) : base ≤ r ∧ ∃ o : Obj, W.heap[r]? = some o ∧ o.isCells = true := by
  rcases h.2 with ⟨rfl, _⟩ | ⟨g, cap, cur, rfl, hg, hh, _⟩
  · simp [Value.ownBlock] at hr
  · have : g = r := by simpa [Value.ownBlock] using hr
    subst this
    exact ⟨hg, _, hh, rfl⟩
/-- A round that appends a number. -/
theorem parI_app {B0 B H1 Hs : Nat} {w wB W w6 w8 : World} {en x : Int} {pre : List (List UInt8)} {s : List UInt8} {xs : List Int} {v v' : Value} {o : Obj} (h0 : B0 ≤ w.heap.size) (h1 : B0 ≤ H1) (hB : wB.heap.size = B) (hH1 : H1 < B) (hHs : Hs + 3 ≤ B) (hne : H1 < Hs) (hBW : B ≤ W.heap.size)
    (hn : nums pre = some xs) (hbx : Bx W H1 [.int .i64 en, v]) (hown : W.ownsRow B 3 1 v xs.length (i64s xs)) (hon : Only H1 Hs wB W) (hbe : Below B0 w W) (hx : num s = some x) (hb6 : Below W.heap.size W w6)
    (hown' : w8.ownsRow B 3 1 v' (xs.length + 1) (i64s xs ++ [.int .i64 x])) (hg : (w6.alloc o).grownBy w8 v.ownBlock) :
    KeepsFrom B W (w8.setCell ⟨H1, 1, none⟩ v') ∧ KpH Hs W (w8.setCell ⟨H1, 1, none⟩ v') ∧ ParI B0 B H1 Hs w wB en (pre ++ [s]) (w8.setCell ⟨H1, 1, none⟩ v') := by
  have hown6 := own_grow (own_grow hown hb6) (G.alloc (G.refl w6) o)
  have hge := fun r hr => (own_ge hown6 (r := r) hr)
  have hsz := hb6.size
  have hs8 : (w6.alloc o).heap.size ≤ w8.heap.size := hg.size
  simp only [World.size_alloc] at hs8
  have hb8 : Bx w8 H1 [.int .i64 en, v] := ((hbx.grow hb6).alloc o).ofGrown hg (own_ne hown6 hH1)
  refine ⟨?_, ?_, ⟨xs ++ [x], v', nums_snoc hn hx, Bx.put hb8 rfl, ?_⟩, ?_, ?_⟩
  · exact (((KeepsFrom.below hb6).trans ((KeepsOthers.alloc w6 o).from _)).trans ((KeepsOthers.of_grownBy hg (fun j o' ej hj => by
      obtain ⟨_, o2, h2, h3⟩ := hge j ej
      rw [h2] at hj
      cases hj
      exact h3)).from _)).trans ((KeepsOthers.setCell _ _ _).from _)
  · intro k hk1 hk2
    have e1 := hb6.block k (by omega)
    have e2 : (w6.alloc o).heap[k]? = w6.heap[k]? := Below.heap_alloc _ _ _ (by omega)
    have e3 := hg.block k (by simp; omega) (fun e => by have := (hge k e.symm).1; omega)
    have e4 : (w8.setCell ⟨H1, 1, none⟩ v').heap[k]? = w8.heap[k]? := Below.heap_setCell _ _ _ k (show k ≠ H1 by omega)
    rw [e4, e3, e2, e1]
  · have := own_set1 hown' hH1 1 v'
    simpa using this
  · refine ⟨by simp [World.setCell]; have := hon.1; omega, fun k hk h1 h2 => ?_⟩
    have e1 := hb6.block k (by omega)
    have e2 : (w6.alloc o).heap[k]? = w6.heap[k]? := Below.heap_alloc _ _ _ (by omega)
    have e3 := hg.block k (by simp; omega) (fun e => by have := (hge k e.symm).1; omega)
    have e4 : (w8.setCell ⟨H1, 1, none⟩ v').heap[k]? = w8.heap[k]? := Below.heap_setCell _ _ _ k h1
    rw [e4, e3, e2, e1]
    exact hon.2 k hk h1 h2
  · exact (((hbe.trans (hb6.mono (by have := hbe.size; omega))).alloc (by have := hbe.size; omega) o).grown hg (by have := hbe.size; simp; omega) (fun k e => by have := (hge k e).1; have := hbe.size; omega)).setCell (p := ⟨H1, 1, none⟩) h1 v'
theorem res_parse {tmps : Array Value} {W : World} {H : Nat} {a z : Int} {A : Option Addr} {n c : Nat} (t2 : tmps.getD 2 undef = .pointer (some ⟨H, 0, none⟩)) (t3 : tmps.getD 3 undef = .pointer (some ⟨H + 1, 0, none⟩))
    (h : Bx W H [.int .i64 a, .slice A n c]) (h' : Bx W (H + 1) [.int .i64 z]) : (results Tryd.f33 tmps).run Tryd.prog W = .ok (.tuple #[.agg #[.int .i64 a, .slice A n c], .int .i64 z]) W := by
  have hr : Tryd.f33.results = #[.cell 2 24, .cell 3 27] := rfl
  have c0 := (h.2 0 _ rfl).1
  have c1 := (h.2 1 _ rfl).1
  have c2 := (h'.2 0 _ rfl).1
  have l0 := h.1
  have l1 := h'.1
  rw [Array.getD_eq_getD_getElem?] at t2 t3
  simp only [results, hr]
  simp [Sem.run_bind, Result.andThen, t2, t3, asAddr]
  go_simp
theorem cut_lens (l : List UInt8) : (Lib.cut l [47]).1.length ≤ l.length ∧ (Lib.cut l [47]).2.1.length ≤ l.length := by
  rcases cut_or 47 l with h | ⟨a, r, rfl, h⟩
  · rw [cutS_no h]; simp
  · rw [cutS_app h]; simp; omega
set_option maxRecDepth 20000 in set_option maxHeartbeats 2000000 in
theorem parse_any (s : ByteArray) (w : World) (hs : s.size ≤ 100000) (hv : LibVars w) : Calls Tryd.prog 33 #[.string s] w (RetPar s.data.toList w) := by
  have hv' := Lib.hid hv
  clear hv
  refine (callsIn_wide (n := 6)).1 ?_
  refine callsIn_of_wp_marks Tryd.func33 rfl trivial ?_ rfl
  simp only [Tryd.ntmps33, List.size_toArray, List.length_cons, List.length_nil, Nat.reduceAdd, Nat.reduceSub, Array.replicate_succ, Array.replicate_zero, List.push_toArray, List.append_toArray, List.nil_append, List.cons_append]
  gi_wp2_with fail
  have hb0 : Below w.heap.size w ((w.alloc (.cells #[.int .i64 0, .slice none 0 0] 24)).alloc (.cells #[.int .i64 0] 27)) := by repeat (first | with_reducible assumption | with_reducible exact G.refl _ | with_reducible refine G.drew ?_ | with_reducible refine G.drewN ?_ _ | with_reducible refine G.alloc ?_ _ | with_reducible refine Below.setCell ?_ (by first | (simp; done) | (simp; omega)) _ | with_reducible refine G.trans ?_ hb12 | with_reducible refine G.trans ?_ hb11 | with_reducible refine G.trans ?_ hb10 | with_reducible refine G.trans ?_ hb9 | with_reducible refine G.trans ?_ hb8 | with_reducible refine G.trans ?_ hb7 | with_reducible refine G.trans ?_ hb6 | with_reducible refine G.trans ?_ hb5 | with_reducible refine G.trans ?_ hb4 | with_reducible refine G.trans ?_ hb3 | with_reducible refine G.trans ?_ hb2 | with_reducible refine G.trans ?_ hb1 | with_reducible refine G.trans ?_ hb | assumption)
  refine ⟨trivial, (callsIn_wide.2 (cut_any s ⟨#[47]⟩ _ (by omega) (hv'.out.grow hb0))).mono ?_⟩
  rintro e1 w1 ⟨rfl, hb1⟩
  have r0 : Bx w1 w.heap.size [.int .i64 0, .slice none 0 0] := Bx.grow (by repeat (first | with_reducible assumption | (with_reducible exact Bx.new (by simp; done) (by rfl)) | (with_reducible refine Bx.alloc ?_ _) | (with_reducible refine Bx.drewN ?_ _) | ((with_reducible apply Bx.put); rotate_right; (first | rfl | skip)) | (with_reducible refine Bx.other ?_ (by first | (simp; done) | (simp; omega)) _))) hb1
  have r1 : Bx w1 (w.heap.size + 1) [.int .i64 0] := Bx.grow (by repeat (first | with_reducible assumption | (with_reducible exact Bx.new (by simp; done) (by rfl)) | (with_reducible refine Bx.alloc ?_ _) | (with_reducible refine Bx.drewN ?_ _) | ((with_reducible apply Bx.put); rotate_right; (first | rfl | skip)) | (with_reducible refine Bx.other ?_ (by first | (simp; done) | (simp; omega)) _))) hb1
  have hbw1 : Below w.heap.size w w1 := G.trans hb0 hb1
  have hlen := Lib.hid (cut_lens s.data.toList)
  obtain ⟨hd, hhd⟩ : ∃ x, (Lib.cut s.data.toList (ByteArray.mk #[47]).data.toList).1 = x := ⟨_, rfl⟩
  obtain ⟨tl, htl⟩ : ∃ x, (Lib.cut s.data.toList (ByteArray.mk #[47]).data.toList).2.1 = x := ⟨_, rfl⟩
  obtain ⟨fd, hfd⟩ : ∃ x, (Lib.cut s.data.toList (ByteArray.mk #[47]).data.toList).2.2 = x := ⟨_, rfl⟩
  rw [hhd, htl, hfd]
  replace hhd := Lib.hid hhd
  replace htl := Lib.hid htl
  replace hfd := Lib.hid hfd
  have hsz1 := hbw1.size
  have q1 : w.heap.size + 1 < w1.heap.size := r1.1
  have n1 : w.heap.size ≠ w1.heap.size := by omega
  have n2 : w.heap.size + 1 ≠ w1.heap.size := by omega
  have n3 : w1.heap.size ≠ w.heap.size := by omega
  have n4 : w1.heap.size ≠ w.heap.size + 1 := by omega
  clear hb0 hb1
  gi_wp2_with fail
  have r2 : Bx (w1.alloc (.cells #[.int .i64 0, .slice none 0 0] 24)) w1.heap.size [.int .i64 0, .slice none 0 0] := by repeat (first | with_reducible assumption | (with_reducible exact Bx.new (by simp; done) (by rfl)) | (with_reducible refine Bx.alloc ?_ _) | (with_reducible refine Bx.drewN ?_ _) | ((with_reducible apply Bx.put); rotate_right; (first | rfl | skip)) | (with_reducible refine Bx.other ?_ (by first | (simp; done) | (simp; omega)) _))
  have hb2 : Below w.heap.size w (w1.alloc (.cells #[.int .i64 0, .slice none 0 0] 24)) := hbw1.alloc hsz1 _
  replace r0 := r0.alloc (.cells #[.int .i64 0, .slice none 0 0] 24)
  replace r1 := r1.alloc (.cells #[.int .i64 0, .slice none 0 0] 24)
  have hlh : hd.length ≤ 100000 ∧ tl.length ≤ 100000 := by
    have := hlen.out
    rw [hhd.out, htl.out] at this
    have e2 : s.data.toList.length = s.size := by rw [Array.length_toList]; rfl
    omega
  refine ⟨trivial, (callsIn_wide.2 (number_any (B hd) _ (by rw [B_size]; exact hlh.1) (hv'.out.grow hb2))).mono ?_⟩
  rintro e3 w3 h3
  rw [B_list] at h3
  rcases h3 with ⟨en, hn, h0, h1, rfl, hb3⟩ | ⟨v, hn, rfl, hb3⟩
  rotate_left
  · replace r0 := r0.grow hb3
    replace r1 := r1.grow hb3
    replace r2 := r2.grow hb3
    have hs3 := hb3.size
    simp only [World.size_alloc] at hs3
    have a0 := r0.2 0 _ rfl
    have a1 := r0.2 1 _ rfl
    have b0 := r1.2 0 _ rfl
    have d0 := r2.2 0 _ rfl
    have d1 := r2.2 1 _ rfl
    have l0 := r0.1
    have l1 := r1.1
    have l2 := r2.1
    obtain ⟨a0, a0f⟩ := a0
    obtain ⟨a1, a1f⟩ := a1
    obtain ⟨b0, b0f⟩ := b0
    obtain ⟨d0, d0f⟩ := d0
    obtain ⟨d1, d1f⟩ := d1
    have hno : parseS s.data.toList = none := by unfold parseS; rw [hhd.out, hn]
    replace hno := Lib.hid hno
    clear hn
    gi_wp2_with fail
    have R0 : Bx ((((w3.setCell ⟨w1.heap.size, 0, none⟩ (.int .i64 v)).setCell ⟨w.heap.size, 0, none⟩ (.int .i64 0)).setCell ⟨w.heap.size, 1, none⟩ (.slice none 0 0)).setCell ⟨w.heap.size + 1, 0, none⟩ (.int .i64 13)) w.heap.size [.int .i64 0, .slice none 0 0] :=
      Bx.other (Bx.put (Bx.put (Bx.other r0 n1 _) rfl) rfl) (show w.heap.size ≠ w.heap.size + 1 by omega) _
    have R1 : Bx ((((w3.setCell ⟨w1.heap.size, 0, none⟩ (.int .i64 v)).setCell ⟨w.heap.size, 0, none⟩ (.int .i64 0)).setCell ⟨w.heap.size, 1, none⟩ (.slice none 0 0)).setCell ⟨w.heap.size + 1, 0, none⟩ (.int .i64 13)) (w.heap.size + 1) [.int .i64 13] :=
      Bx.put (Bx.other (Bx.other (Bx.other r1 n2 _) (show w.heap.size + 1 ≠ w.heap.size by omega) _) (show w.heap.size + 1 ≠ w.heap.size by omega) _) rfl
    refine ⟨_, res_parse rfl rfl R0 R1, .inr ⟨hno.out, rfl, ?_⟩⟩
    exact (((((hb2.trans (hb3.mono hb2.size)).setCell (p := ⟨w1.heap.size, 0, none⟩) hsz1 _).setCell (p := ⟨w.heap.size, 0, none⟩) (Nat.le_refl _) _).setCell (p := ⟨w.heap.size, 1, none⟩) (Nat.le_refl _) _).setCell (p := ⟨w.heap.size + 1, 0, none⟩) (Nat.le_succ _) _)
  have hn0 := Lib.hid hn
  clear hn
  replace r0 := r0.grow hb3
  replace r1 := r1.grow hb3
  replace r2 := r2.grow hb3
  replace hb3 := hb2.trans (hb3.mono hb2.size)
  have hs3 := hb3.size
  have l0 := r0.1
  have l1 := r1.1
  have l2 := r2.1
  obtain ⟨d0, d0f⟩ := r2.2 0 _ rfl
  obtain ⟨d1, d1f⟩ := r2.2 1 _ rfl
  have q2 := hb2.size
  clear hb2
  gi_wp2_with fail
  have hb4 : Below w.heap.size w (w3.setCell ⟨w1.heap.size, 0, none⟩ (.int .i64 en)) := hb3.setCell (p := ⟨w1.heap.size, 0, none⟩) hsz1 _
  replace r0 := r0.other (p := ⟨w1.heap.size, 0, none⟩) n1 (.int .i64 en)
  replace r1 := r1.other (p := ⟨w1.heap.size, 0, none⟩) n2 (.int .i64 en)
  replace r2 : Bx (w3.setCell ⟨w1.heap.size, 0, none⟩ (.int .i64 en)) w1.heap.size [.int .i64 en, .slice none 0 0] := Bx.put r2 rfl
  refine ⟨trivial, (callsIn_wide.2 (splitSeq_any (B tl) _)).mono ?_⟩
  rintro e5 w5 ⟨rfl, hSp, hb5, hz5⟩
  rw [B_list] at hSp
  gi_wp2_with fail
  have e4 : (w3.setCell ⟨w1.heap.size, 0, none⟩ (.int .i64 en)).heap.size = w3.heap.size := by simp
  replace r0 := r0.grow hb5
  replace r1 := r1.grow hb5
  replace r2 := r2.grow hb5
  replace hb5 := hb4.trans (hb5.mono hb4.size)
  rw [e4] at hSp hz5
  have hv5 := Lib.hid (hv'.out.grow hb5)
  have g1 : w1.heap.size < w3.heap.size := l2
  have g2 := Lib.hid hz5
  clear hz5
  refine wpIn_seqL (gf := 71) rfl (enters_of Tryd.func71 (by kernel_rfl) rfl) (split_any hlh.2 hSp) (fun x => rfl)
    (by rintro X Y ⟨v, rfl⟩ k hk; have := g2.out; exact Below.heap_setCell _ _ _ k (show k ≠ w3.heap.size by omega))
    (fun X Y Z h h' k h1 h2 => (h' k h1 h2).trans (h k h1 h2)) (fun W o hW k h1 h2 => Below.heap_alloc _ _ _ (by have := g2.out; omega)) (fun W k o hk j h1 h2 => World.putObj_heap_other (by have := g2.out; omega)) (fun k _ _ => rfl)
    (ParI w.heap.size w5.heap.size w1.heap.size w3.heap.size w w5 en) (ParX w.heap.size w.heap.size w (pieces tl)) (parI_own (Nat.le_refl _) (by have := g2.out; omega) rfl) (parX_own (Nat.le_refl _) (by have := g2.out; omega)) (parI_step (by omega) (by have := g2.out; omega) (by omega)) (parX_step (by omega) (by omega))
    ⟨⟨[], _, rfl, r2, World.ownsRow_nil _ _ _ _⟩, Only.refl _ _ _, hb5⟩ (fun x => { tmps := #[.string s, undef, .pointer (some ⟨w.heap.size, 0, none⟩), .pointer (some ⟨w.heap.size + 1, 0, none⟩), .string (B hd), .string (B tl), .bool fd, .pointer (some ⟨w1.heap.size, 0, none⟩), .bool true, .string (B x), undef, undef, .tuple #[.string (B hd), .string (B tl), .bool fd], .string s, .tuple #[.string (B hd), .string (B tl), .bool fd], .string (B hd), .string (B tl), .bool fd, .tuple #[.int .i64 en, .bool true], .string (B hd), .tuple #[.int .i64 en, .bool true], .int .i64 en, .bool true, .pointer (some ⟨w1.heap.size, 0, none⟩), .bool true, .bool false, undef, .string (B tl), .func (.func 71) #[] #[.pointer (some ⟨w3.heap.size + 1, 0, none⟩), .pointer (some ⟨w3.heap.size, 0, none⟩), .pointer (some ⟨w3.heap.size + 2, 0, none⟩)], .string (B x), undef, undef, undef, undef, undef, undef, undef, undef, undef, undef, undef, undef, undef, undef, undef, undef, undef, undef, undef], defers := [] }) ?assign ?body ?done ?stop
  case assign =>
    intro l x W K hK
    gi_wp2_with fail
    exact hK
  case body =>
    rintro l pre x rest W hL ⟨⟨xs, v, hn, hbx, hown⟩, hon, hbe⟩ hsz
    have hLL := Lib.hid hL
    have hnn := Lib.hid hn
    obtain ⟨p1, p2⟩ := pieces_len tl
    have hxl : x.length ≤ 100000 := by have := p2 x (by rw [hL]; simp); omega
    have hpl : xs.length ≤ 100000 := by have := nums_len hn; rw [hL] at p1; simp at p1; omega
    clear p1 p2 hn hL
    gi_wp2_with fail
    refine ⟨trivial, CallsIn.inRound l (callsIn_wide.2 ((number_any (B x) W (by rw [B_size]; exact hxl) (hv'.out.grow hbe)).mono ?_))⟩
    rintro e6 w6 h6
    rw [B_list] at h6
    rcases h6 with ⟨z, hz, hz0, hz1, rfl, hb6⟩ | ⟨z, hz, rfl, hb6⟩
    · have hzr : Hid (∀ (w8 : World) (v' : Value), w8.ownsRow w5.heap.size 3 1 v' (xs.length + 1) (i64s xs ++ [.int .i64 z]) → (w6.alloc (.cells #[.int .i64 z] 3)).grownBy w8 v.ownBlock → KeepsFrom w5.heap.size W (w8.setCell ⟨w1.heap.size, 1, none⟩ v') ∧ KpH w3.heap.size W (w8.setCell ⟨w1.heap.size, 1, none⟩ v') ∧ ParI w.heap.size w5.heap.size w1.heap.size w3.heap.size w w5 en (pre ++ [x]) (w8.setCell ⟨w1.heap.size, 1, none⟩ v')) :=
        fun w8 v' h1 h2 => parI_app (Nat.le_refl _) hsz1 rfl (by have := g2.out; omega) (by have := g2.out; omega) g1 hsz hnn.out hbx hown hon hbe hz hb6 h1 h2
      obtain ⟨i0, hi0, hz0, hz1, hz2⟩ := info_parts Tryd.infoI
      have hown6 := own_grow hown hb6
      have hbx6 := hbx.grow hb6
      obtain ⟨d0, d0f⟩ := hbx6.2 0 _ rfl
      obtain ⟨d1, d1f⟩ := hbx6.2 1 _ rfl
      have l2 := hbx6.1
      have hs6 := hb6.size
      obtain ⟨A', c', rfl, hnc, hcm⟩ := own_shape hown
      clear hbx hown hon hbe hz
      gi_wp2_with (gi_at_builtin; refine wpListIn_append_own _ rfl _ _ 22 rfl w5.heap.size 3 i0 (.int .i64 0) 1 8 Tryd.underlying22 hi0 hz0 hz1 hz2 rfl (by decide) _ _ _ rfl (own_grow hown6 (G.alloc (G.refl w6) _)) ⟨w6.heap.size, 0, none⟩ 1 1 [.int .i64 z] rfl rfl (cell_one_new _ _ _) (by simp [Value.oneCell']) (by unfold maxLen; omega) (by omega) (by simp; omega) ?_; intro v' w8 hown' hgrow _; obtain ⟨g', cap', rfl⟩ := ownsRow_succ hown'; have hfin := hzr.out w8 _ hown' hgrow; have hbx8 := (hbx6.alloc (.cells #[.int .i64 z] 3)).ofGrown hgrow (own_ne hown6 (by have := g2.out; omega)); obtain ⟨d0, d0f⟩ := hbx8.2 0 _ rfl; obtain ⟨d1, d1f⟩ := hbx8.2 1 _ rfl; have l2 := hbx8.1)
      exact hfin
    · have hnx := Lib.hid (nums_pre pre x rest hLL.out hnn.out hz)
      have r0' := hon.bx r0 (by omega) (by omega)
      have r1' := hon.bx r1 (by omega) (by omega)
      replace r0' := r0'.grow hb6
      replace r1' := r1'.grow hb6
      obtain ⟨a0, a0f⟩ := r0'.2 0 _ rfl
      obtain ⟨a1, a1f⟩ := r0'.2 1 _ rfl
      obtain ⟨b0, b0f⟩ := r1'.2 0 _ rfl
      have l0 := r0'.1
      have l1 := r1'.1
      have hb6' := hbe.trans (hb6.mono hbe.size)
      clear hz
      gi_wp2_with fail
      refine ⟨(KeepsFrom.below hb6).trans (((KeepsOthers.setCell _ _ _).trans ((KeepsOthers.setCell _ _ _).trans (KeepsOthers.setCell _ _ _))).from _), ⟨hnx.out, ?_, ?_⟩, ?_⟩
      · exact Bx.other (Bx.put (Bx.put r0' rfl) rfl) (show w.heap.size ≠ w.heap.size + 1 by omega) _
      · exact Bx.put (Bx.other (Bx.other r1' (show w.heap.size + 1 ≠ w.heap.size by omega) _) (show w.heap.size + 1 ≠ w.heap.size by omega) _) rfl
      · exact ((hb6'.setCell (p := ⟨w.heap.size, 0, none⟩) (Nat.le_refl _) _).setCell (p := ⟨w.heap.size, 1, none⟩) (Nat.le_refl _) _).setCell (p := ⟨w.heap.size + 1, 0, none⟩) (Nat.le_succ _) _
  case done =>
    rintro D W hD ⟨⟨xs, v, hn, hbx, hown⟩, hon, hbe⟩ hK
    obtain ⟨A', c', rfl, hnc, hcm⟩ := own_shape hown
    have hown' := Lib.hid hown
    have hsl := Lib.hid (Sl.of_own1 hown)
    have r0' := hon.bx r0 (by omega) (by omega)
    have r1' := hon.bx r1 (by omega) (by omega)
    obtain ⟨a0, a0f⟩ := r0'.2 0 _ rfl
    obtain ⟨a1, a1f⟩ := r0'.2 1 _ rfl
    obtain ⟨b0, b0f⟩ := r1'.2 0 _ rfl
    obtain ⟨d0, d0f⟩ := hbx.2 0 _ rfl
    obtain ⟨d1, d1f⟩ := hbx.2 1 _ rfl
    have l0 := r0'.1
    have l1 := r1'.1
    have l2 := hbx.1
    have hxl := nums_len hn
    have hps : Hid (parseS s.data.toList = if checkS en xs = 0 then some (en, xs) else none) := by unfold Hid parseS; rw [hhd.out, hn0.out, htl.out, hn]
    replace hxl := Lib.hid hxl
    clear hn hown hon
    gi_wp2_with fail
    refine ⟨trivial, (callsIn_wide.2 (check_any en A' xs.length c' xs W hsl.out (Nat.le_trans hnc hcm))).mono ?_⟩
    rintro e7 w7 ⟨rfl, hb7⟩
    have hbw7 := hbe.trans (hb7.mono hbe.size)
    replace hK := (hb7.block D (Array.getElem?_eq_some_iff.1 hK).1).trans hK
    replace r0' := r0'.grow hb7
    replace r1' := r1'.grow hb7
    replace hbx := hbx.grow hb7
    obtain ⟨a0, a0f⟩ := r0'.2 0 _ rfl
    obtain ⟨a1, a1f⟩ := r0'.2 1 _ rfl
    obtain ⟨b0, b0f⟩ := r1'.2 0 _ rfl
    obtain ⟨d0, d0f⟩ := hbx.2 0 _ rfl
    obtain ⟨d1, d1f⟩ := hbx.2 1 _ rfl
    have l0 := r0'.1
    have l1 := r1'.1
    have l2 := hbx.1
    have hsD : w.heap.size ≤ D := by have := g2.out; omega
    by_cases hz : checkS en xs = 0
    · have hps1 : Hid (parseS s.data.toList = some (en, xs)) := by unfold Hid; rw [hps.out, if_pos hz]
      rw [hz]
      clear hz hps
      gi_wp2_with fail
      have hK3 : (((w7.setCell ⟨w.heap.size, 0, none⟩ (.int .i64 en)).setCell ⟨w.heap.size, 1, none⟩ (.slice A' xs.length c')).setCell ⟨w.heap.size + 1, 0, none⟩ (.int .i64 0)).heap[D]? = some (.deferred (some [])) :=
        (((KeepsOthers.setCell _ _ _).trans (KeepsOthers.setCell _ _ _)).trans (KeepsOthers.setCell _ _ _)).same D _ hK rfl
      refine ⟨by simp, .inl ⟨_, _, rfl, run_takeDeferred hK3, ?_⟩⟩
      have R0 := Bx.other (Bx.put (i := 1) (v := .slice A' xs.length c') (l' := [.int .i64 en, .slice A' xs.length c']) (Bx.put (i := 0) (v := .int .i64 en) r0' rfl) rfl) (p := ⟨w.heap.size + 1, 0, none⟩) (show w.heap.size ≠ w.heap.size + 1 by omega) (.int .i64 0)
      have R1 := Bx.put (i := 0) (v := .int .i64 0) (Bx.other (Bx.other r1' (p := ⟨w.heap.size, 0, none⟩) (show w.heap.size + 1 ≠ w.heap.size by omega) (.int .i64 en)) (p := ⟨w.heap.size, 1, none⟩) (show w.heap.size + 1 ≠ w.heap.size by omega) (.slice A' xs.length c')) (l' := [.int .i64 0]) rfl
      have hkk : ∀ r, some D = some r → ∃ o : Obj, (((w7.setCell ⟨w.heap.size, 0, none⟩ (.int .i64 en)).setCell ⟨w.heap.size, 1, none⟩ (.slice A' xs.length c')).setCell ⟨w.heap.size + 1, 0, none⟩ (.int .i64 0)).heap[r]? = some o ∧ o.isCells = false := fun r e => by cases e; exact ⟨_, hK3, rfl⟩
      have hown3 := own_set1 (own_set1 (own_set1 (own_grow hown'.out hb7) (b := w.heap.size) (by have := g2.out; omega) 0 (.int .i64 en)) (b := w.heap.size) (by have := g2.out; omega) 1 (.slice A' xs.length c')) (b := w.heap.size + 1) (by have := g2.out; omega) 0 (.int .i64 0)
      refine ⟨_, res_parse rfl rfl (R0.kept (grownBy_putObj' _ D _) hkk) (R1.kept (grownBy_putObj' _ D _) hkk), .inl ⟨en, xs, A', xs.length, c', hps1.out, rfl, ⟨hnc, hcm, Sl.of_own1 (ownsRow_putObj hown3 _ hK3 rfl)⟩, ?_⟩⟩
      have hbb := ((hbw7.setCell (p := ⟨w.heap.size, 0, none⟩) (Nat.le_refl _) (.int .i64 en)).setCell (p := ⟨w.heap.size, 1, none⟩) (Nat.le_refl _) (.slice A' xs.length c')).setCell (p := ⟨w.heap.size + 1, 0, none⟩) (Nat.le_succ _) (.int .i64 0)
      exact hbb.grown (grownBy_putObj' _ D _) hbb.size (fun k e => by cases e; exact hsD)
    · have hps1 : Hid (parseS s.data.toList = none) := by unfold Hid; rw [hps.out, if_neg hz]
      have hzb : (checkS en xs != 0) = true := by simp [hz]
      clear hps hz
      gi_wp2_with fail
      have hK3 : (((w7.setCell ⟨w.heap.size, 0, none⟩ (.int .i64 0)).setCell ⟨w.heap.size, 1, none⟩ (.slice none 0 0)).setCell ⟨w.heap.size + 1, 0, none⟩ (.int .i64 13)).heap[D]? = some (.deferred (some [])) :=
        (((KeepsOthers.setCell _ _ _).trans (KeepsOthers.setCell _ _ _)).trans (KeepsOthers.setCell _ _ _)).same D _ hK rfl
      refine ⟨by simp, .inl ⟨_, _, rfl, run_takeDeferred hK3, ?_⟩⟩
      have R0 := Bx.other (Bx.put (i := 1) (v := .slice none 0 0) (l' := [.int .i64 0, .slice none 0 0]) (Bx.put (i := 0) (v := .int .i64 0) r0' rfl) rfl) (p := ⟨w.heap.size + 1, 0, none⟩) (show w.heap.size ≠ w.heap.size + 1 by omega) (.int .i64 13)
      have R1 := Bx.put (i := 0) (v := .int .i64 13) (Bx.other (Bx.other r1' (p := ⟨w.heap.size, 0, none⟩) (show w.heap.size + 1 ≠ w.heap.size by omega) (.int .i64 0)) (p := ⟨w.heap.size, 1, none⟩) (show w.heap.size + 1 ≠ w.heap.size by omega) (.slice none 0 0)) (l' := [.int .i64 13]) rfl
      have hkk : ∀ r, some D = some r → ∃ o : Obj, (((w7.setCell ⟨w.heap.size, 0, none⟩ (.int .i64 0)).setCell ⟨w.heap.size, 1, none⟩ (.slice none 0 0)).setCell ⟨w.heap.size + 1, 0, none⟩ (.int .i64 13)).heap[r]? = some o ∧ o.isCells = false := fun r e => by cases e; exact ⟨_, hK3, rfl⟩
      refine ⟨_, res_parse rfl rfl (R0.kept (grownBy_putObj' _ D _) hkk) (R1.kept (grownBy_putObj' _ D _) hkk), .inr ⟨hps1.out, rfl, ?_⟩⟩
      have hbb := ((hbw7.setCell (p := ⟨w.heap.size, 0, none⟩) (Nat.le_refl _) (.int .i64 0)).setCell (p := ⟨w.heap.size, 1, none⟩) (Nat.le_refl _) (.slice none 0 0)).setCell (p := ⟨w.heap.size + 1, 0, none⟩) (Nat.le_succ _) (.int .i64 13)
      exact hbb.grown (grownBy_putObj' _ D _) hbb.size (fun k e => by cases e; exact hsD)
  case stop =>
    rintro D pre x rest W hD hL ⟨⟨hn, b0, b1⟩, hbe⟩ hK
    have hno : Hid (parseS s.data.toList = none) := by unfold Hid parseS; rw [hhd.out, hn0.out, htl.out, hn]
    clear hn
    gi_wp2_with fail
    refine ⟨by simp, .inl ⟨_, _, rfl, run_takeDeferred hK, ?_⟩⟩
    have hkk : ∀ r, some D = some r → ∃ o : Obj, W.heap[r]? = some o ∧ o.isCells = false := fun r e => by cases e; exact ⟨_, hK, rfl⟩
    exact ⟨_, res_parse rfl rfl (b0.kept (grownBy_putObj' W D _) hkk) (b1.kept (grownBy_putObj' W D _) hkk), .inr ⟨hno.out, rfl, hbe.grown (grownBy_putObj' W D _) hbe.size (fun k e => by cases e; have := hb5.size; omega)⟩⟩
end Go.Proofs.YtjldpodehffbnaaDoor
