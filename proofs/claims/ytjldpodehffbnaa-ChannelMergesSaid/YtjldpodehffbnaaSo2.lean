/- A row of stamps that is sorted in place: its cells, what a store leaves; slices.swapRangeCmpFunc and rotateCmpFunc. -/
import Derived.Test.YtjldpodehffbnaaSo1
import Derived.Test.YtjldpodehffbnaaStamp1
import Derived.Test.YtjldpodehffbnaaOrd
namespace Go.Proofs.Ytjldpodehffbnaa
set_option linter.unusedVariables false
set_option linter.unnecessarySimpa false
set_option linter.unusedSimpArgs false
open Go.RowKit

/-- Every block but B lies as it lay. -/
structure Kp (B : Nat) (w w' : World) : Prop where
  size : w.heap.size ≤ w'.heap.size
  blk : ∀ b, b ≠ B → b < w.heap.size → w'.heap[b]? = w.heap[b]?
  os : w'.os = w.os
  tape : w'.tape = w.tape
  output : w'.output = w.output
theorem Kp.refl (B : Nat) (w : World) : Kp B w w := ⟨Nat.le_refl _, fun _ _ _ => rfl, rfl, rfl, rfl⟩
theorem Kp.trans {B : Nat} {a b c : World} (h : Kp B a b) (k : Kp B b c) : Kp B a c :=
  ⟨Nat.le_trans h.size k.size, fun i hi hl => (k.blk i hi (Nat.lt_of_lt_of_le hl h.size)).trans (h.blk i hi hl), k.os.trans h.os, k.tape.trans h.tape, k.output.trans h.output⟩
theorem Kp.of_below {B : Nat} {w w' : World} (h : Below w.heap.size w w') : Kp B w w' := ⟨h.size, fun b _ hb => h.block b hb, h.os, h.tape, h.output⟩
theorem Kp.setCell {B : Nat} {a w : World} (h : Kp B a w) (i : Nat) (u : Value) : Kp B a (w.setCell ⟨B, i, none⟩ u) :=
  h.trans ⟨by simp [World.setCell], fun b hb _ => Below.heap_setCell _ _ _ _ hb, rfl, rfl, rfl⟩
theorem Kp.cell {B : Nat} {w w' : World} (h : Kp B w w') {b o : Nat} {v : Value} (hc : w.cell? ⟨b, o, none⟩ = some v) (hb : b ≠ B) : w'.cell? ⟨b, o, none⟩ = some v := by
  have := h.blk b hb (cell_lt hc)
  unfold World.cell? at hc ⊢
  rw [this]
  exact hc
/-- A block that was not there ahead of it all. -/
theorem Kp.below {L B : Nat} {a b c : World} (h : Below L a b) (k : Kp B b c) (hL : L ≤ b.heap.size) (hB : L ≤ B) : Below L a c :=
  ⟨k.os.trans h.os, k.tape.trans h.tape, k.output.trans h.output, Nat.le_trans h.size k.size, fun i hi => (k.blk i (by omega) (by omega)).trans (h.block i hi)⟩

/-- An element's path lies elsewhere. -/
def ElOk (B : Nat) (w : World) (x : El) : Prop := Sl w x.A x.m (i64s x.p) ∧ x.m ≤ maxLen ∧ (∀ ad, 0 < x.m → x.A = some ad → ad.block ≠ B) ∧ x.m ≤ x.c
theorem ElOk.keep {B : Nat} {w w' : World} {x : El} (h : ElOk B w x) (hk : Kp B w w') : ElOk B w' x :=
  ⟨⟨h.1.1, fun hn => let ⟨b, off, e, hl, hc⟩ := h.1.2 hn; ⟨b, off, e, Nat.lt_of_lt_of_le hl hk.size, fun j u hu => hk.cell (hc j u hu) (h.2.2.1 ⟨b, off, none⟩ hn e)⟩⟩, h.2⟩

theorem addr_ne {B i j : Nat} (h : i ≠ j) : (⟨B, i, none⟩ : Addr) ≠ ⟨B, j, none⟩ := fun e => h (Addr.mk.inj e).2.1
/-- A row of n stamps in block B. -/
structure RowS (w : World) (P : Option Addr) (B n : Nat) (f : Sq) : Prop where
  at_ : 0 < n → P = some ⟨B, 0, none⟩
  lt : 0 < n → B < w.heap.size
  c0 : ∀ i, i < n → w.cell? ⟨B, i * 2, none⟩ = some (.int .i64 (f i).e)
  c1 : ∀ i, i < n → w.cell? ⟨B, i * 2 + 1, none⟩ = some (.slice (f i).A (f i).m (f i).c)
  fr : ∀ k, k < n * 2 → w.frozen? ⟨B, k, none⟩ = false
  el : ∀ i, i < n → ElOk B w (f i)
theorem RowS.grow {w w' : World} {P : Option Addr} {B n : Nat} {f : Sq} (h : RowS w P B n f) (hb : Below w.heap.size w w') : RowS w' P B n f :=
  ⟨h.at_, fun hn => Nat.lt_of_lt_of_le (h.lt hn) hb.size, fun i hi => G.cell (h.c0 i hi) hb, fun i hi => G.cell (h.c1 i hi) hb,
    fun k hk => (hb.frozen (p := ⟨B, k, none⟩) (h.lt (by omega))).trans (h.fr k hk), fun i hi => (h.el i hi).keep (Kp.of_below hb)⟩
theorem RowS.put {w : World} {P : Option Addr} {B n : Nat} {f : Sq} (h : RowS w P B n f) {i : Nat} (hi : i < n) {x : El} (hx : ElOk B w x) :
    RowS ((w.setCell ⟨B, i * 2, none⟩ (.int .i64 x.e)).setCell ⟨B, i * 2 + 1, none⟩ (.slice x.A x.m x.c)) P B n (updS f i x) := by
  have hk : Kp B w ((w.setCell ⟨B, i * 2, none⟩ (.int .i64 x.e)).setCell ⟨B, i * 2 + 1, none⟩ (.slice x.A x.m x.c)) := ((Kp.refl B w).setCell _ _).setCell _ _
  refine ⟨h.at_, fun hn => by have := h.lt hn; simpa [World.setCell] using this, fun k hk' => ?_, fun k hk' => ?_, fun k hk' => ?_, fun k hk' => ?_⟩
  · unfold updS
    by_cases e : k = i
    · subst e
      rw [if_pos rfl]
      refine (World.cell?_setCell_other _ _ _ _ (addr_ne (by omega))).trans ?_
      exact World.cell?_setCell_same' _ _ _ (by rw [h.c0 k hi]; rfl)
    · rw [if_neg e]
      refine (World.cell?_setCell_other _ _ _ _ (addr_ne (by omega))).trans ?_
      refine (World.cell?_setCell_other _ _ _ _ (addr_ne (by omega))).trans ?_
      exact h.c0 k hk'
  · unfold updS
    by_cases e : k = i
    · subst e
      rw [if_pos rfl]
      refine World.cell?_setCell_same' _ _ _ ?_
      rw [World.cell?_setCell_other _ _ _ _ (addr_ne (by omega)), h.c1 k hi]; rfl
    · rw [if_neg e]
      refine (World.cell?_setCell_other _ _ _ _ (addr_ne (by omega))).trans ?_
      refine (World.cell?_setCell_other _ _ _ _ (addr_ne (by omega))).trans ?_
      exact h.c1 k hk'
  · rw [World.frozen?_setCell, World.frozen?_setCell]; exact h.fr k hk'
  · unfold updS
    split
    · exact hx.keep hk
    · exact (h.el k hk').keep hk
theorem RowS.swap {w : World} {P : Option Addr} {B n : Nat} {f : Sq} (h : RowS w P B n f) {i j : Nat} (hi : i < n) (hj : j < n) :
    RowS ((((w.setCell ⟨B, i * 2, none⟩ (.int .i64 (f j).e)).setCell ⟨B, i * 2 + 1, none⟩ (.slice (f j).A (f j).m (f j).c)).setCell ⟨B, j * 2, none⟩ (.int .i64 (f i).e)).setCell ⟨B, j * 2 + 1, none⟩ (.slice (f i).A (f i).m (f i).c)) P B n (swp f i j) := by
  have hk : Kp B w ((w.setCell ⟨B, i * 2, none⟩ (.int .i64 (f j).e)).setCell ⟨B, i * 2 + 1, none⟩ (.slice (f j).A (f j).m (f j).c)) := ((Kp.refl B w).setCell _ _).setCell _ _
  rw [← upd_swp]
  exact (h.put hi (h.el j hj)).put hj ((h.el i hi).keep hk)
theorem kp_swap (B : Nat) (w : World) (i j : Nat) (u v x y : Value) : Kp B w ((((w.setCell ⟨B, i, none⟩ u).setCell ⟨B, i + 1, none⟩ v).setCell ⟨B, j, none⟩ x).setCell ⟨B, j + 1, none⟩ y) := ((((Kp.refl B w).setCell _ _).setCell _ _).setCell _ _).setCell _ _

/-- A row's facts about one place. -/
theorem RowS.one {w : World} {P : Option Addr} {B n : Nat} {f : Sq} (h : RowS w P B n f) {i : Nat} (hi : i < n) :
    w.cell? ⟨B, i * 2, none⟩ = some (.int .i64 (f i).e) ∧ w.cell? ⟨B, i * 2 + 1, none⟩ = some (.slice (f i).A (f i).m (f i).c) ∧ w.frozen? ⟨B, i * 2, none⟩ = false ∧ w.frozen? ⟨B, i * 2 + 1, none⟩ = false :=
  ⟨h.c0 i hi, h.c1 i hi, h.fr _ (by omega), h.fr _ (by omega)⟩

set_option maxRecDepth 20000 in set_option maxHeartbeats 1000000 in
theorem swapRange_any {w : World} {P : Option Addr} {B n c : Nat} {f : Sq} {a b k : Nat} (g : Value) (h : RowS w P B n f) (hab : a + k ≤ b) (hb : b + k ≤ n) (hn : n ≤ 100000) (hc : n ≤ c) :
    Calls Try.prog 79 #[.slice P n c, .int .i64 (a : Nat), .int .i64 (b : Nat), .int .i64 (k : Nat), g] w fun e w' => e = .returned (.tuple #[]) ∧ RowS w' P B n (swapR f a b k) ∧ Kp B w w' := by
  replace h := Lib.hid h
  go_enter Try.func79, Try.ntmps79
  go_wp2_with fail
  go_loopw [10] (fun iv wr => ∃ i : Nat, i ≤ k ∧ iv = .int .i64 i ∧ RowS wr P B n (swapR f a b i) ∧ Kp B w wr) (fun iv _ => k - (intOf iv).toNat)
  case atStart => exact ⟨0, Nat.zero_le _, rfl, by rw [swapR_zero]; exact h.out, Kp.refl _ _⟩
  case round =>
    obtain ⟨i, hi, rfl, hr, hk⟩ := hrel
    by_cases hlt : i < k
    · obtain rfl := hr.at_ (by omega)
      obtain ⟨x0, x1, x2, x3⟩ := hr.one (show a + i < n by omega)
      obtain ⟨y0, y1, y2, y3⟩ := hr.one (show b + i < n by omega)
      have hBl := hr.lt (by omega)
      have f1 : IntKind.i64.wrap ((a : Int) + (i : Int)) = ((a + i : Nat) : Int) := by rw [IntWalk.i64_in _ (by omega)]; omega
      have f2 : IntKind.i64.wrap ((b : Int) + (i : Int)) = ((b + i : Nat) : Int) := by rw [IntWalk.i64_in _ (by omega)]; omega
      replace hr := Lib.hid hr
      obtain ⟨F, hF⟩ : ∃ F, swapR f a b i = F := ⟨_, rfl⟩
      rw [hF] at x0 x1 y0 y1
      obtain ⟨I, hI⟩ : ∃ I, a + i = I := ⟨_, rfl⟩
      obtain ⟨J, hJ⟩ : ∃ J, b + i = J := ⟨_, rfl⟩
      rw [hI] at f1 x0 x1 x2 x3
      rw [hJ] at f2 y0 y1 y2 y3
      have hIn : I < n := by omega
      have hJn : J < n := by omega
      have hIJ : I ≠ J := by omega
      replace hI := Lib.hid hI
      replace hJ := Lib.hid hJ
      replace hF := Lib.hid hF
      go_wp2_with fail
      refine wp_region_ord [(0, 1), (1, 1), (2, 1), (3, 1), (4, 0), (5, 0), (6, 0), (7, 0), (8, 1), (9, 1), (10, 1), (11, 1), (12, 1), (13, 1), (14, 1), (15, 1), (16, 1), (17, 1), (18, 1), (19, 1), (20, 1), (21, 3), (22, 0), (23, 3)] [21, 23] 5 (by kernel_rfl) (by decide +kernel) ?_
      simp only [pickO, List.append_eq, List.cons_append, List.nil_append, List.getElem?_cons_succ, List.getElem?_cons_zero]
      intro w0 hG
      (repeat ((first | (with_reducible refine ord_q1 ?_) | (with_reducible refine ord_q0 ?_)); intro K hK; first | (refine Or.inr ⟨?_, ?_⟩; (focus (go_simp; first | done | (simp [undef]; done))); go_simp; (with_reducible refine hK _ ?_); clear hK K) | (refine Or.inl ⟨?_, ?_⟩; (focus (go_simp; done)); apply Exists.intro; refine And.intro ?_ ?_; (focus (first | (intro wq hq; obtain ⟨hcq, hfq⟩ := G.old hq; go_simp; (first | done | exact rfl); done) | (intro wq; go_simp; (first | done | exact rfl); done))); go_simp; (with_reducible refine hK _ ?_); clear hK K) | fail))
      have hg := hG.b
      replace hr := hr.out.grow hg
      rw [hF.out] at hr
      replace hk := hk.trans (Kp.of_below hg)
      obtain ⟨x0, x1, x2, x3⟩ := hr.one hIn
      obtain ⟨y0, y1, y2, y3⟩ := hr.one hJn
      have hBl := hr.lt (by omega)
      have hs := Lib.hid (hr.swap hIn hJn)
      replace hr := Lib.hid hr
      replace hk := Lib.hid hk
      clear hG hg
      ((with_reducible refine ord_tail ?_); intro K hK; go_simp; (with_reducible refine hK _ _ ?_); clear hK K)
      (repeat ((first | (with_reducible refine ord_q1 ?_) | (with_reducible refine ord_q0 ?_)); intro K hK; first | (refine Or.inr ⟨?_, ?_⟩; (focus (go_simp; first | done | (simp [undef]; done))); go_simp; (with_reducible refine hK _ ?_); clear hK K) | (refine Or.inl ⟨?_, ?_⟩; (focus (go_simp; done)); apply Exists.intro; refine And.intro ?_ ?_; (focus (first | (intro wq hq; obtain ⟨hcq, hfq⟩ := G.old hq; go_simp; (first | done | exact rfl); done) | (intro wq; go_simp; (first | done | exact rfl); done))); go_simp; (with_reducible refine hK _ ?_); clear hK K) | fail))
      ((with_reducible refine ord_tail ?_); intro K hK; go_simp; (with_reducible refine hK _ _ ?_); clear hK K)
      (with_reducible refine ord_nil ?_)
      have hq := Lib.hid (hk.out.trans (kp_swap B w0 (I * 2) (J * 2) (.int .i64 (F J).e) (.slice (F J).A (F J).m (F J).c) (.int .i64 (F I).e) (.slice (F I).A (F I).m (F I).c)))
      go_wp2_with fail
      go_roundw
      case rel => exact ⟨i + 1, by omega, by go_num, by rw [← swapR_succ (by omega), hF.out, hI.out, hJ.out]; exact hs.out, hq.out⟩
      case measure => simp [intOf]; omega
    · obtain rfl : i = k := by omega
      go_wp2_with fail
      go_end0
      exact ⟨rfl, hr, hk⟩

set_option maxRecDepth 20000 in set_option maxHeartbeats 1000000 in
theorem rotate_any {w : World} {P : Option Addr} {B n c : Nat} {f : Sq} {a m b : Nat} (g : Value) (h : RowS w P B n f) (ham : a < m) (hmb : m < b) (hb : b ≤ n) (hn : n ≤ 100000) (hc : n ≤ c) :
    Calls Try.prog 78 #[.slice P n c, .int .i64 (a : Nat), .int .i64 (m : Nat), .int .i64 (b : Nat), g] w fun e w' => e = .returned (.tuple #[]) ∧ RowS w' P B n (rotf f a m b) ∧ Kp B w w' := by
  have f1 : IntKind.i64.wrap ((m : Int) - (a : Int)) = ((m - a : Nat) : Int) := by rw [IntWalk.i64_in _ (by omega)]; omega
  have f2 : IntKind.i64.wrap ((b : Int) - (m : Int)) = ((b - m : Nat) : Int) := by rw [IntWalk.i64_in _ (by omega)]; omega
  obtain ⟨i0, hi0⟩ : ∃ x, m - a = x := ⟨_, rfl⟩
  obtain ⟨j0, hj0⟩ : ∃ x, b - m = x := ⟨_, rfl⟩
  rw [hi0] at f1
  rw [hj0] at f2
  have hst : Hid (rotf f (m - i0) m (m + j0) = rotf f a m b) := by unfold Hid; rw [show m - i0 = a by omega, show m + j0 = b by omega]
  replace h := Lib.hid h
  go_enter Try.func78, Try.ntmps78
  go_wp2_with fail
  go_loopw [10, 11] (fun iv jv wr => ∃ (i j : Nat) (F : Sq), 0 < i ∧ i ≤ m - a ∧ 0 < j ∧ j ≤ b - m ∧ iv = .int .i64 i ∧ jv = .int .i64 j ∧ rotf F (m - i) m (m + j) = rotf f a m b ∧ RowS wr P B n F ∧ Kp B w wr) (fun iv jv _ => (intOf iv).toNat + (intOf jv).toNat)
  case atStart => exact ⟨i0, j0, f, by omega, by omega, by omega, by omega, rfl, rfl, hst.out, h.out, Kp.refl _ _⟩
  case round =>
    obtain ⟨i, j, F, hi0', hi, hj0', hj, rfl, rfl, hF, hr, hk⟩ := hrel
    clear f1 f2 hst
    have g1 : IntKind.i64.wrap ((m : Int) - (i : Int)) = ((m - i : Nat) : Int) := by rw [IntWalk.i64_in _ (by omega)]; omega
    rcases Nat.lt_trichotomy i j with hij | hij | hij
    · have g2 : IntKind.i64.wrap ((m : Int) + (j : Int)) = ((m + j : Nat) : Int) := by rw [IntWalk.i64_in _ (by omega)]; omega
      have g3 : IntKind.i64.wrap (((m + j : Nat) : Int) - (i : Int)) = ((m + j - i : Nat) : Int) := by rw [IntWalk.i64_in _ (by omega)]; omega
      have g4 : IntKind.i64.wrap ((j : Int) - (i : Int)) = ((j - i : Nat) : Int) := by rw [IntWalk.i64_in _ (by omega)]; omega
      have hF2 := rot_lt (f := F) hij (show i ≤ m by omega)
      have hc1 := swapRange_any (c := c) g hr (show (m - i) + i ≤ m + j - i by omega) (show (m + j - i) + i ≤ n by omega) hn hc
      obtain ⟨I, hI⟩ : ∃ I, m - i = I := ⟨_, rfl⟩
      obtain ⟨J, hJ⟩ : ∃ J, m + j - i = J := ⟨_, rfl⟩
      obtain ⟨M, hM⟩ : ∃ M, m + j = M := ⟨_, rfl⟩
      obtain ⟨D, hD⟩ : ∃ D, j - i = D := ⟨_, rfl⟩
      rw [hI] at g1 hc1 hF2 hF
      rw [hJ] at hc1 hF2
      rw [hM] at g2 g3 hF2 hF
      rw [hM] at hJ
      rw [hJ] at g3
      rw [hD] at g4
      have hne : ((i : Int) == (j : Int)) = false := by simp; omega
      have hgt : ¬ ((j : Int) < (i : Int)) := by omega
      replace hk := Lib.hid hk
      replace hF := Lib.hid hF
      replace hF2 := Lib.hid hF2
      replace hI := Lib.hid hI
      replace hJ := Lib.hid hJ
      replace hM := Lib.hid hM
      replace hD := Lib.hid hD
      go_wp2_with fail
      refine hc1.mono ?_
      rintro e w1 ⟨rfl, hr1, hk1⟩
      go_wp2_with fail
      go_roundw
      case rel => exact ⟨i, j - i, _, hi0', hi, by omega, by omega, rfl, by rw [hD.out], by rw [hI.out, show m + (j - i) = J by have := hJ.out; have := hM.out; omega, hF2.out]; exact hF.out, hr1, hk.out.trans hk1⟩
      case measure => have := hD.out; simp [intOf]; omega
    · subst hij
      have hF2 := rot_eq (f := F) (show i ≤ m by omega)
      have hc1 := swapRange_any (c := c) g hr (show (m - i) + i ≤ m by omega) (show m + i ≤ n by omega) hn hc
      rw [hF2, hF] at hc1
      clear hF hF2
      obtain ⟨I, hI⟩ : ∃ I, m - i = I := ⟨_, rfl⟩
      rw [hI] at g1 hc1
      replace hk := Lib.hid hk
      replace hI := Lib.hid hI
      go_wp2_with fail
      refine hc1.mono ?_
      rintro e w1 ⟨rfl, hr1, hk1⟩
      go_wp2_with fail
      go_end0
      exact ⟨rfl, hr1, hk.out.trans hk1⟩
    · have g4 : IntKind.i64.wrap ((i : Int) - (j : Int)) = ((i - j : Nat) : Int) := by rw [IntWalk.i64_in _ (by omega)]; omega
      have hF2 := rot_gt (f := F) hij (show i ≤ m by omega)
      have hc1 := swapRange_any (c := c) g hr (show (m - i) + j ≤ m by omega) (show m + j ≤ n by omega) hn hc
      rw [hF] at hF2
      obtain ⟨I, hI⟩ : ∃ I, m - i = I := ⟨_, rfl⟩
      obtain ⟨D, hD⟩ : ∃ D, i - j = D := ⟨_, rfl⟩
      rw [hI] at g1 hc1 hF2
      rw [hD] at g4
      have hne : ((i : Int) == (j : Int)) = false := by simp; omega
      have hgt : ((j : Int) < (i : Int)) := by omega
      replace hk := Lib.hid hk
      replace hF2 := Lib.hid hF2
      replace hI := Lib.hid hI
      replace hD := Lib.hid hD
      clear hF
      go_wp2_with fail
      refine hc1.mono ?_
      rintro e w1 ⟨rfl, hr1, hk1⟩
      go_wp2_with fail
      go_roundw
      case rel => exact ⟨i - j, j, _, by omega, by omega, hj0', hj, by rw [hD.out], rfl, by rw [show m - (i - j) = I + j by have := hI.out; omega]; exact hF2.out, hr1, hk.out.trans hk1⟩
      case measure => have := hD.out; simp [intOf]; omega
end Go.Proofs.Ytjldpodehffbnaa
