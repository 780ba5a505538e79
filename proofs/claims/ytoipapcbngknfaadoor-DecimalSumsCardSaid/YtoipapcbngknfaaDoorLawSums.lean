/- The law DecimalSums returns true: the walk. -/
import Derived.Test.YtoipapcbngknfaaDoorSum2
import Derived.Test.YtoipapcbngknfaaDoorDKnown
namespace Go.Proofs.YtoipapcbngknfaaDoor
set_option linter.unusedVariables false
set_option linter.unnecessarySimpa false
set_option linter.unusedSimpArgs false
open Go.RowKit

theorem Tryd.infoN : (Tryd.prog.info? 23).map (fun i => (i.zero, i.size, i.bytes)) = some (some (.agg #[.int .i64 0, .int .i64 0]), 2, 16) := by kernel_rfl
/-- A row of numbers in one block, that may be written. -/
def NRow (w : World) (G n : Nat) (M : List (Int × Int)) : Prop :=
  M.length = n ∧ G < w.heap.size ∧ (∀ k p, M[k]? = some p → w.cell? ⟨G, k * 2, none⟩ = some (.int .i64 p.1) ∧ w.cell? ⟨G, k * 2 + 1, none⟩ = some (.int .i64 p.2)) ∧ ∀ j, w.frozen? ⟨G, j, none⟩ = false
theorem NRow.grow {w w' : World} {G n : Nat} {M : List (Int × Int)} (h : NRow w G n M) (hb : Below w.heap.size w w') : NRow w' G n M :=
  ⟨h.1, Nat.lt_of_lt_of_le h.2.1 hb.size, fun k p hp => ⟨(hb.cell (p := ⟨G, k * 2, none⟩) h.2.1).trans (h.2.2.1 k p hp).1, (hb.cell (p := ⟨G, k * 2 + 1, none⟩) h.2.1).trans (h.2.2.1 k p hp).2⟩, fun j => (hb.frozen (p := ⟨G, j, none⟩) h.2.1).trans (h.2.2.2 j)⟩
theorem numCells_get {M : List (Int × Int)} {j : Nat} {u : Value} (h : (numCells M)[j]? = some u) : ∃ k p, M[k]? = some p ∧ ((j = k * 2 ∧ u = .int .i64 p.1) ∨ (j = k * 2 + 1 ∧ u = .int .i64 p.2)) := by
  induction M generalizing j with
  | nil => simp [numCells] at h
  | cons q M ih =>
    match j with
    | 0 => simp [numCells] at h; exact ⟨0, q, rfl, .inl ⟨rfl, h.symm⟩⟩
    | 1 => simp [numCells] at h; exact ⟨0, q, rfl, .inr ⟨rfl, h.symm⟩⟩
    | j + 2 =>
      simp [numCells] at h
      obtain ⟨k, p, hp, hh⟩ := ih h
      exact ⟨k + 1, p, by simpa using hp, by rcases hh with ⟨h1, h2⟩ | ⟨h1, h2⟩; exact .inl ⟨by omega, h2⟩; exact .inr ⟨by omega, h2⟩⟩
theorem NRow.nums {w : World} {G n : Nat} {M : List (Int × Int)} (h : NRow w G n M) : NumsAt w (some ⟨G, 0, none⟩) n M := by
  refine ⟨⟨by rw [numCells_len, h.1], fun _ => ⟨G, 0, rfl, h.2.1, fun j u hu => ?_⟩⟩, h.1⟩
  obtain ⟨k, p, hp, hh⟩ := numCells_get hu
  have := h.2.2.1 k p hp
  rcases hh with ⟨rfl, rfl⟩ | ⟨rfl, rfl⟩
  · rw [Nat.zero_add]; exact this.1
  · rw [Nat.zero_add]; exact this.2
theorem NRow.set {w : World} {G n : Nat} {M : List (Int × Int)} (h : NRow w G n M) {i : Nat} (hi : i < n) (a b : Int) :
    NRow ((w.setCell ⟨G, i * 2, none⟩ (.int .i64 a)).setCell ⟨G, i * 2 + 1, none⟩ (.int .i64 b)) G n (M.set i (a, b)) := by
  obtain ⟨h1, h2, h3, h4⟩ := h
  refine ⟨by simpa using h1, by simpa using h2, fun k p hp => ?_, fun j => by have := h4 j; go_simp⟩
  obtain ⟨q, hq⟩ : ∃ q, M[i]? = some q := ⟨_, List.getElem?_eq_getElem (by omega)⟩
  have hc := h3 i q hq
  by_cases hk : k = i
  · subst hk
    rw [List.getElem?_set_self (by omega)] at hp
    injection hp with hp
    subst hp
    constructor
    · rw [World.cell?_setCell_other _ _ _ _ (fun e => by injection e with _ e; omega)]
      exact World.cell?_setCell_same _ _ _ hc.1
    · have h5 : (w.setCell ⟨G, k * 2, none⟩ (.int .i64 a)).cell? ⟨G, k * 2 + 1, none⟩ = some (.int .i64 q.2) := by
        rw [World.cell?_setCell_other _ _ _ _ (fun e => by injection e with _ e; omega)]
        exact hc.2
      exact World.cell?_setCell_same _ _ _ h5
  · rw [List.getElem?_set_ne (fun e => hk e.symm)] at hp
    have hc := h3 k p hp
    constructor
    · rw [World.cell?_setCell_other _ _ _ _ (fun e => by injection e with _ e; omega), World.cell?_setCell_other _ _ _ _ (fun e => by injection e with _ e; omega)]
      exact hc.1
    · rw [World.cell?_setCell_other _ _ _ _ (fun e => by injection e with _ e; omega), World.cell?_setCell_other _ _ _ _ (fun e => by injection e with _ e; omega)]
      exact hc.2
/-- The numbers of a slice of the call's own. -/
def MRow (w : World) (B : Nat) (A : Option Addr) (n : Nat) (M : List (Int × Int)) : Prop := M.length = n ∧ (0 < n → ∃ G, A = some ⟨G, 0, none⟩ ∧ B ≤ G ∧ NRow w G n M)
theorem MRow.grow {w w' : World} {B n : Nat} {A : Option Addr} {M : List (Int × Int)} (h : MRow w B A n M) (hb : Below w.heap.size w w') : MRow w' B A n M :=
  ⟨h.1, fun hn => by obtain ⟨G, h1, h2, h3⟩ := h.2 hn; exact ⟨G, h1, h2, h3.grow hb⟩⟩
theorem MRow.nums {w : World} {B n : Nat} {A : Option Addr} {M : List (Int × Int)} (h : MRow w B A n M) : NumsAt w A n M := by
  by_cases hn : 0 < n
  · obtain ⟨G, rfl, _, h3⟩ := h.2 hn
    exact h3.nums
  · obtain rfl : n = 0 := by omega
    obtain rfl : M = [] := List.eq_nil_of_length_eq_zero h.1
    exact ⟨Sl.nil _ _, rfl⟩
theorem MRow.of_own {w : World} {B n c : Nat} {A : Option Addr} {M : List (Int × Int)} {e : TypeId} (h : w.ownsRow B e 2 (.slice A n c) n (numCells M)) : MRow w B A n M := by
  have hlen : M.length = n := by have := h.1; rw [numCells_len] at this; omega
  refine ⟨hlen, fun hn => ?_⟩
  rcases h.2 with ⟨_, h0⟩ | ⟨g, cap, cur, hv, hg, hh, hnc, _, hs, ht⟩
  · omega
  · injection hv with hA
    subst hA
    have hlt : g < w.heap.size := by
      rcases Nat.lt_or_ge g w.heap.size with h' | h'
      · exact h'
      · rw [Array.getElem?_eq_none h'] at hh; cases hh
    refine ⟨g, rfl, hg, hlen, hlt, fun k p hp => ?_, fun j => by simp [World.frozen?, hh]⟩
    obtain ⟨h1, h2⟩ := numCells_at hp
    have hc := fun j u hu => h.cells (g := g) rfl j u hu
    constructor
    · have := hc _ _ h1; rwa [addr_add] at this
    · have := hc _ _ h2; rwa [addr_add] at this
theorem oneCell_nums (L : List (Int × Int)) : ∀ u ∈ numCells L, u.oneCell' = true := by
  intro u hu
  obtain ⟨j, hj⟩ := List.mem_iff_getElem?.1 hu
  obtain ⟨k, p, _, ⟨_, rfl⟩ | ⟨_, rfl⟩⟩ := numCells_get hj <;> rfl

set_option maxRecDepth 20000 in set_option maxHeartbeats 1000000 in
theorem lawsums_long (A B : Option Addr) (n c m d : Nat) (w : World) (hn : n ≤ maxLen) (hbig : 300 < n) (ht : Pow10 w) :
    Calls Tryd.prog 7 #[.slice A n c, .slice B m d] w fun e' w' => e' = .returned (.bool true) ∧ Below w.heap.size w w' := by
  have htt := Lib.hid ht
  unfold maxLen at hn
  clear ht
  go_enter Tryd.func7, Tryd.ntmps7
  go_wp2_with fail
  refine (known_any _ (htt.out.grow (by repeat (first | with_reducible assumption | with_reducible exact G.refl _ | with_reducible refine G.drew ?_ | with_reducible refine G.drewN ?_ _ | with_reducible refine G.alloc ?_ _ | with_reducible refine Below.setCell ?_ (by first | (simp; done) | (simp; omega)) _ | with_reducible refine G.trans ?_ hb12 | with_reducible refine G.trans ?_ hb11 | with_reducible refine G.trans ?_ hb10 | with_reducible refine G.trans ?_ hb9 | with_reducible refine G.trans ?_ hb8 | with_reducible refine G.trans ?_ hb7 | with_reducible refine G.trans ?_ hb6 | with_reducible refine G.trans ?_ hb5 | with_reducible refine G.trans ?_ hb4 | with_reducible refine G.trans ?_ hb3 | with_reducible refine G.trans ?_ hb2 | with_reducible refine G.trans ?_ hb1 | with_reducible refine G.trans ?_ hb | assumption)))).mono ?_
  rintro e' w2 ⟨rfl, hb2⟩
  go_wp2_with fail
  refine (known_any _ (htt.out.grow (by repeat (first | with_reducible assumption | with_reducible exact G.refl _ | with_reducible refine G.drew ?_ | with_reducible refine G.drewN ?_ _ | with_reducible refine G.alloc ?_ _ | with_reducible refine Below.setCell ?_ (by first | (simp; done) | (simp; omega)) _ | with_reducible refine G.trans ?_ hb12 | with_reducible refine G.trans ?_ hb11 | with_reducible refine G.trans ?_ hb10 | with_reducible refine G.trans ?_ hb9 | with_reducible refine G.trans ?_ hb8 | with_reducible refine G.trans ?_ hb7 | with_reducible refine G.trans ?_ hb6 | with_reducible refine G.trans ?_ hb5 | with_reducible refine G.trans ?_ hb4 | with_reducible refine G.trans ?_ hb3 | with_reducible refine G.trans ?_ hb2 | with_reducible refine G.trans ?_ hb1 | with_reducible refine G.trans ?_ hb | assumption)))).mono ?_
  rintro e' w3 ⟨rfl, hb3⟩
  go_wp2_with fail
  go_ret
  exact ⟨rfl, by repeat (first | with_reducible assumption | with_reducible exact G.refl _ | with_reducible refine G.drew ?_ | with_reducible refine G.drewN ?_ _ | with_reducible refine G.alloc ?_ _ | with_reducible refine Below.setCell ?_ (by first | (simp; done) | (simp; omega)) _ | with_reducible refine G.trans ?_ hb12 | with_reducible refine G.trans ?_ hb11 | with_reducible refine G.trans ?_ hb10 | with_reducible refine G.trans ?_ hb9 | with_reducible refine G.trans ?_ hb8 | with_reducible refine G.trans ?_ hb7 | with_reducible refine G.trans ?_ hb6 | with_reducible refine G.trans ?_ hb5 | with_reducible refine G.trans ?_ hb4 | with_reducible refine G.trans ?_ hb3 | with_reducible refine G.trans ?_ hb2 | with_reducible refine G.trans ?_ hb1 | with_reducible refine G.trans ?_ hb | assumption)⟩

set_option maxRecDepth 20000 in set_option maxHeartbeats 2000000 in
theorem lawsums_short (A B : Option Addr) (n c m d : Nat) (L : List (Int × Int)) (O : List Int) (w : World) (hx : NumsAt w A n L) (hn : n ≤ 300) (hnc : n ≤ c) (hwL : ∀ p ∈ L, (Lit.int .i64 p.1).wf = true)
    (hy : Sl w B m (O.map (Value.int .u8))) (hm : m ≤ maxLen) (hwO : ∀ x ∈ O, (Lit.int .u8 x).wf = true) (ht : Pow10 w) :
    Calls Tryd.prog 7 #[.slice A n c, .slice B m d] w fun e' w' => e' = .returned (.bool true) ∧ Below w.heap.size w w' := by
  obtain ⟨i0, hi0, hz0, hz1, hz2⟩ := info_parts Tryd.infoN
  have htt := Lib.hid ht
  have hl := Lib.hid hx.2
  have hwO' := Lib.hid hwO
  unfold maxLen at hm
  have D1 := fun w h => dsum_any A n c L w h (by omega) hwL
  have R1 := fun w h => refsum_any A n c L w h
  have D2 : Hid (∀ M : List (Int × Int), M.Perm L → ∀ A' c' w, NumsAt w A' n M → Calls Tryd.prog 29 #[.slice A' n c'] w (RetF (sumN L) w)) := fun M hM A' c' w h => by
    have := dsum_any A' n c' M w h (by omega) (fun p hp => hwL p (hM.mem_iff.1 hp))
    rwa [sumN_perm hM] at this
  generalize sumN L = p at *
  obtain ⟨p1, p2, p3⟩ := p
  unfold RetF RetN at D1 R1 D2
  simp only at D1 R1 D2
  replace D1 := Lib.hid D1
  replace R1 := Lib.hid R1
  have hq1 : (p1 == p1) = true := by simp
  clear ht hwL hwO
  go_enter Tryd.func7, Tryd.ntmps7
  go_wp2_with fail
  refine (known_any _ (htt.out.grow (by repeat (first | with_reducible assumption | with_reducible exact G.refl _ | with_reducible refine G.drew ?_ | with_reducible refine G.drewN ?_ _ | with_reducible refine G.alloc ?_ _ | with_reducible refine Below.setCell ?_ (by first | (simp; done) | (simp; omega)) _ | with_reducible refine G.trans ?_ hb12 | with_reducible refine G.trans ?_ hb11 | with_reducible refine G.trans ?_ hb10 | with_reducible refine G.trans ?_ hb9 | with_reducible refine G.trans ?_ hb8 | with_reducible refine G.trans ?_ hb7 | with_reducible refine G.trans ?_ hb6 | with_reducible refine G.trans ?_ hb5 | with_reducible refine G.trans ?_ hb4 | with_reducible refine G.trans ?_ hb3 | with_reducible refine G.trans ?_ hb2 | with_reducible refine G.trans ?_ hb1 | with_reducible refine G.trans ?_ hb | assumption)))).mono ?_
  rintro e' w2 ⟨rfl, hb2⟩
  have hbw2 : Below w.heap.size w w2 := by repeat (first | with_reducible assumption | with_reducible exact G.refl _ | with_reducible refine G.drew ?_ | with_reducible refine G.drewN ?_ _ | with_reducible refine G.alloc ?_ _ | with_reducible refine Below.setCell ?_ (by first | (simp; done) | (simp; omega)) _ | with_reducible refine G.trans ?_ hb12 | with_reducible refine G.trans ?_ hb11 | with_reducible refine G.trans ?_ hb10 | with_reducible refine G.trans ?_ hb9 | with_reducible refine G.trans ?_ hb8 | with_reducible refine G.trans ?_ hb7 | with_reducible refine G.trans ?_ hb6 | with_reducible refine G.trans ?_ hb5 | with_reducible refine G.trans ?_ hb4 | with_reducible refine G.trans ?_ hb3 | with_reducible refine G.trans ?_ hb2 | with_reducible refine G.trans ?_ hb1 | with_reducible refine G.trans ?_ hb | assumption)
  have hx2 := hx.grow hbw2
  have hsz2 := hbw2.size
  go_wp2_with (at_builtin; refine wpList_app _ rfl (.tmp 22) (.tmp 23) _ rfl w2.heap.size 23 i0 _ 2 16 Tryd.underlying42 hi0 hz0 hz1 hz2 rfl (by decide) (.slice (some ⟨w2.heap.size, 0, none⟩) 0 0) 0 [] rfl (own_made rfl (Nat.le_refl _)) A n c (numCells L) rfl (hx2.1.alloc _) (oneCell_nums L) (by show _ ≤ 2 ^ 63 - 1; omega) (by omega) (by simp) ?_; intro A3 c3 w3 hown3 hc3 hm3 hg3; have hb3 : Below w2.heap.size w2 w3 := Below.grown ((Below.refl _ _).alloc (Nat.le_refl _) _) hg3 (by simp) (fun q hq => ((own_made (w := w2) (base := w2.heap.size) (g := w2.heap.size) (e := 23) (size := 2) rfl (Nat.le_refl _)).lt q hq).1))
  rw [Nat.zero_add, List.nil_append] at hown3
  have hM3 := MRow.of_own hown3
  have hbw3 := G.trans hbw2 hb3
  clear hown3 hg3 hx2 hb2
  go_loopw [6] (fun iv wr => ∃ (i : Nat) (M : List (Int × Int)), i ≤ n ∧ i ≤ m ∧ iv = .int .i64 i ∧ Hid (M.Perm L) ∧ MRow wr w2.heap.size A3 n M ∧ Below w2.heap.size w2 wr) (fun iv _ => n - (intOf iv).toNat)
  case atStart => exact ⟨0, L, Nat.zero_le _, Nat.zero_le _, rfl, List.Perm.refl _, hM3, hb3⟩
  case round =>
    obtain ⟨i, M, hin, him, rfl, hM, hMr, hbr⟩ := hrel
    have hB := hbw2.trans (hbr.mono hsz2)
    by_cases him2 : i < m
    · by_cases hin2 : i < n
      · obtain ⟨bO, oO, hBe, hbO, hcO⟩ := (hy.grow hB).2 (by omega)
        obtain ⟨u, hu⟩ : ∃ u, O[i]? = some u := ⟨O[i]'(by have := hy.1; simp at this; omega), List.getElem?_eq_getElem _⟩
        have hcu := hcO i (.int .u8 u) (by simp [hu])
        have hwu := hwO'.out u (List.mem_of_getElem? hu)
        have hub : 0 ≤ u ∧ u ≤ 255 := by
          simp [Lit.wf, IntKind.min, IntKind.max, IntKind.signed, IntKind.bits] at hwu
          omega
        obtain ⟨x, rfl⟩ : ∃ x : Nat, u = x := ⟨u.toNat, by omega⟩
        have hx255 : x ≤ 255 := by omega
        have hwx : IntKind.i64.wrap (x : Int) = (x : Int) := IntWalk.i64_in _ (by omega)
        obtain ⟨k, hk⟩ : ∃ k, x % n = k := ⟨_, rfl⟩
        have hkn : k < n := by rw [← hk]; exact Nat.mod_lt _ (by omega)
        have htm : (x : Int).tmod (n : Int) = (k : Int) := by rw [Int.tmod_eq_emod_of_nonneg (by omega), ← hk]; rfl
        have htw : IntKind.i64.wrap ((x : Int).tmod (n : Int)) = (k : Int) := by rw [htm]; exact IntWalk.i64_in _ (by omega)
        have hn0 : ¬ (n : Int) = 0 := by omega
        have htm3 : (x : Int) % (n : Int) = (k : Int) := by rw [← hk]; rfl
        obtain ⟨R, rfl, hR2, hNR⟩ := hMr.2 (by omega)
        obtain ⟨pi, hpi⟩ : ∃ q, M[i]? = some q := ⟨_, List.getElem?_eq_getElem (by rw [hNR.1]; exact hin2)⟩
        obtain ⟨pk, hpk⟩ : ∃ q, M[k]? = some q := ⟨_, List.getElem?_eq_getElem (by rw [hNR.1]; exact hkn)⟩
        obtain ⟨ci0, ci1⟩ := hNR.2.2.1 i pi hpi
        obtain ⟨ck0, ck1⟩ := hNR.2.2.1 k pk hpk
        have ltR := hNR.2.1
        have hperm : Hid (((M.set i (pk.1, pk.2)).set k (pi.1, pi.2)).Perm L) := (swap_perm hpi hpk).trans hM.out
        obtain ⟨rk, hrk⟩ : ∃ q, (M.set i (pk.1, pk.2))[k]? = some q := ⟨_, List.getElem?_eq_getElem (by rw [List.length_set, hNR.1]; exact hkn)⟩
        have hrk' := Lib.hid hrk
        subst hBe
        clear hk htm hwu hub hpi hpk hrk hu hcO hM hMr
        go_wp2_with fail
        refine wp_region_ord [(0, 1), (1, 1), (2, 0), (3, 0), (4, 1), (5, 1), (6, 1), (7, 1), (8, 1), (9, 1), (10, 1), (11, 1), (12, 1), (13, 3), (14, 0), (15, 3)] [13, 15] 5 (by kernel_rfl) (by decide +kernel) ?_
        simp only [pickO, List.getElem?_cons_succ, List.getElem?_cons_zero]
        intro w0 hG
        (repeat ((first | (with_reducible refine ord_q1 ?_) | (with_reducible refine ord_q0 ?_)); intro K hK; first | (refine Or.inr ⟨?_, ?_⟩; (focus (go_simp; first | done | (simp [undef]; done))); go_simp; (with_reducible refine hK _ ?_); clear hK K) | (refine Or.inl ⟨?_, ?_⟩; (focus (go_simp; done)); apply Exists.intro; refine And.intro ?_ ?_; (focus (first | (intro wq hq; obtain ⟨hcq, hfq⟩ := G.old hq; go_simp; (first | done | exact rfl); done) | (intro wq; go_simp; (first | done | exact rfl); done))); go_simp; (with_reducible refine hK _ ?_); clear hK K) | fail))
        have hbg := hG.b
        have hNR0 := hNR.grow hbg
        have hNR1 := hNR0.set hin2 pk.1 pk.2
        have f0 := hNR0.2.2.2 (i * 2)
        have f1 := hNR0.2.2.2 (i * 2 + 1)
        have lt0 := hNR0.2.1
        replace ci0 := G.cell ci0 hbg
        replace ci1 := G.cell ci1 hbg
        ((with_reducible refine ord_tail ?_); intro K hK; go_simp; (with_reducible refine hK _ _ ?_); clear hK K)
        (repeat ((first | (with_reducible refine ord_q1 ?_) | (with_reducible refine ord_q0 ?_)); intro K hK; first | (refine Or.inr ⟨?_, ?_⟩; (focus (go_simp; first | done | (simp [undef]; done))); go_simp; (with_reducible refine hK _ ?_); clear hK K) | (refine Or.inl ⟨?_, ?_⟩; (focus (go_simp; done)); apply Exists.intro; refine And.intro ?_ ?_; (focus (first | (intro wq hq; obtain ⟨hcq, hfq⟩ := G.old hq; go_simp; (first | done | exact rfl); done) | (intro wq; go_simp; (first | done | exact rfl); done))); go_simp; (with_reducible refine hK _ ?_); clear hK K) | fail))
        obtain ⟨d0, d1⟩ := hNR1.2.2.1 k rk hrk'.out
        have g0 := hNR1.2.2.2 (k * 2)
        have g1 := hNR1.2.2.2 (k * 2 + 1)
        have lt1 := hNR1.2.1
        ((with_reducible refine ord_tail ?_); intro K hK; go_simp; (with_reducible refine hK _ _ ?_); clear hK K)
        (with_reducible refine ord_nil ?_)
        go_wp2_with fail
        go_roundw
        case rel => exact ⟨i + 1, (M.set i (pk.1, pk.2)).set k (pi.1, pi.2), by omega, by omega, by go_num, hperm, ⟨by simpa using hNR.1, fun _ => ⟨R, rfl, hR2, hNR1.set hkn pi.1 pi.2⟩⟩, (((((hbr.trans (hbg.mono (by have := hbr.size; omega))).setCell (by simpa using hR2) _).setCell (by simpa using hR2) _).setCell (by simpa using hR2) _).setCell (by simpa using hR2) _)⟩
        case measure => first | (simp [intOf]; done) | (simp [intOf]; omega)
      · obtain ⟨W, rfl⟩ : ∃ W : World, W = wr := ⟨_, rfl⟩
        have hxW := hx.grow hB
        have hmW := hMr.nums
        go_wp2_with fail
        refine (D1.out _ hxW).mono ?_
        rintro e' w5 ⟨rfl, hb5⟩
        replace hB := G.trans hB hb5
        go_wp2_with fail
        refine (D2.out M hM.out A3 c3 _ ((hmW.grow hb5).grow (by repeat (first | with_reducible assumption | with_reducible exact G.refl _ | with_reducible refine G.drew ?_ | with_reducible refine G.drewN ?_ _ | with_reducible refine G.alloc ?_ _ | with_reducible refine Below.setCell ?_ (by first | (simp; done) | (simp; omega)) _ | with_reducible refine G.trans ?_ hb12 | with_reducible refine G.trans ?_ hb11 | with_reducible refine G.trans ?_ hb10 | with_reducible refine G.trans ?_ hb9 | with_reducible refine G.trans ?_ hb8 | with_reducible refine G.trans ?_ hb7 | with_reducible refine G.trans ?_ hb6 | with_reducible refine G.trans ?_ hb5 | with_reducible refine G.trans ?_ hb4 | with_reducible refine G.trans ?_ hb3 | with_reducible refine G.trans ?_ hb2 | with_reducible refine G.trans ?_ hb1 | with_reducible refine G.trans ?_ hb | assumption)))).mono ?_
        rintro e' w6 ⟨rfl, hb6⟩
        
        replace k0 := G.cell (a := ⟨w5.heap.size, 0, none⟩) (v := .int .i64 p1) (by go_simp) hb6
        replace k1 := G.cell (a := ⟨w5.heap.size, 1, none⟩) (v := .int .i64 p2) (by go_simp) hb6
        replace lt0 := cell_lt k0
        replace lt1 := cell_lt k1
        replace hB : Below w.heap.size w w6 := G.trans (hB.alloc hB.size _) hb6
        go_wp2_with fail
        refine (R1.out _ (hx.grow (hB.alloc hB.size _))).mono ?_
        rintro e' w7 ⟨rfl, hb7⟩
        
        replace k0 := G.cell (a := ⟨w5.heap.size, 0, none⟩) (v := .int .i64 p1) (by go_simp) hb7
        replace k1 := G.cell (a := ⟨w5.heap.size, 1, none⟩) (v := .int .i64 p2) (by go_simp) hb7
        replace k2 := G.cell (a := ⟨w6.heap.size, 0, none⟩) (v := .int .i64 p1) (by go_simp) hb7
        replace k3 := G.cell (a := ⟨w6.heap.size, 1, none⟩) (v := .int .i64 p2) (by go_simp) hb7
        replace lt0 := cell_lt k0
        replace lt1 := cell_lt k1
        replace lt2 := cell_lt k2
        replace lt3 := cell_lt k3
        replace hB : Below w.heap.size w w7 := G.trans (hB.alloc hB.size _) hb7
        go_wp2_with fail
        go_ret
        exact ⟨rfl, by repeat (first | with_reducible assumption | with_reducible exact G.refl _ | with_reducible refine G.drew ?_ | with_reducible refine G.drewN ?_ _ | with_reducible refine G.alloc ?_ _ | with_reducible refine Below.setCell ?_ (by first | (simp; done) | (simp; omega)) _ | with_reducible refine G.trans ?_ hb12 | with_reducible refine G.trans ?_ hb11 | with_reducible refine G.trans ?_ hb10 | with_reducible refine G.trans ?_ hb9 | with_reducible refine G.trans ?_ hb8 | with_reducible refine G.trans ?_ hb7 | with_reducible refine G.trans ?_ hb6 | with_reducible refine G.trans ?_ hb5 | with_reducible refine G.trans ?_ hb4 | with_reducible refine G.trans ?_ hb3 | with_reducible refine G.trans ?_ hb2 | with_reducible refine G.trans ?_ hb1 | with_reducible refine G.trans ?_ hb | assumption)⟩
    · obtain ⟨W, rfl⟩ : ∃ W : World, W = wr := ⟨_, rfl⟩
      have hxW := hx.grow hB
      have hmW := hMr.nums
      go_wp2_with fail
      refine (D1.out _ hxW).mono ?_
      rintro e' w5 ⟨rfl, hb5⟩
      replace hB := G.trans hB hb5
      go_wp2_with fail
      refine (D2.out M hM.out A3 c3 _ ((hmW.grow hb5).grow (by repeat (first | with_reducible assumption | with_reducible exact G.refl _ | with_reducible refine G.drew ?_ | with_reducible refine G.drewN ?_ _ | with_reducible refine G.alloc ?_ _ | with_reducible refine Below.setCell ?_ (by first | (simp; done) | (simp; omega)) _ | with_reducible refine G.trans ?_ hb12 | with_reducible refine G.trans ?_ hb11 | with_reducible refine G.trans ?_ hb10 | with_reducible refine G.trans ?_ hb9 | with_reducible refine G.trans ?_ hb8 | with_reducible refine G.trans ?_ hb7 | with_reducible refine G.trans ?_ hb6 | with_reducible refine G.trans ?_ hb5 | with_reducible refine G.trans ?_ hb4 | with_reducible refine G.trans ?_ hb3 | with_reducible refine G.trans ?_ hb2 | with_reducible refine G.trans ?_ hb1 | with_reducible refine G.trans ?_ hb | assumption)))).mono ?_
      rintro e' w6 ⟨rfl, hb6⟩
      
      replace k0 := G.cell (a := ⟨w5.heap.size, 0, none⟩) (v := .int .i64 p1) (by go_simp) hb6
      replace k1 := G.cell (a := ⟨w5.heap.size, 1, none⟩) (v := .int .i64 p2) (by go_simp) hb6
      replace lt0 := cell_lt k0
      replace lt1 := cell_lt k1
      replace hB : Below w.heap.size w w6 := G.trans (hB.alloc hB.size _) hb6
      go_wp2_with fail
      refine (R1.out _ (hx.grow (hB.alloc hB.size _))).mono ?_
      rintro e' w7 ⟨rfl, hb7⟩
      
      replace k0 := G.cell (a := ⟨w5.heap.size, 0, none⟩) (v := .int .i64 p1) (by go_simp) hb7
      replace k1 := G.cell (a := ⟨w5.heap.size, 1, none⟩) (v := .int .i64 p2) (by go_simp) hb7
      replace k2 := G.cell (a := ⟨w6.heap.size, 0, none⟩) (v := .int .i64 p1) (by go_simp) hb7
      replace k3 := G.cell (a := ⟨w6.heap.size, 1, none⟩) (v := .int .i64 p2) (by go_simp) hb7
      replace lt0 := cell_lt k0
      replace lt1 := cell_lt k1
      replace lt2 := cell_lt k2
      replace lt3 := cell_lt k3
      replace hB : Below w.heap.size w w7 := G.trans (hB.alloc hB.size _) hb7
      go_wp2_with fail
      go_ret
      exact ⟨rfl, by repeat (first | with_reducible assumption | with_reducible exact G.refl _ | with_reducible refine G.drew ?_ | with_reducible refine G.drewN ?_ _ | with_reducible refine G.alloc ?_ _ | with_reducible refine Below.setCell ?_ (by first | (simp; done) | (simp; omega)) _ | with_reducible refine G.trans ?_ hb12 | with_reducible refine G.trans ?_ hb11 | with_reducible refine G.trans ?_ hb10 | with_reducible refine G.trans ?_ hb9 | with_reducible refine G.trans ?_ hb8 | with_reducible refine G.trans ?_ hb7 | with_reducible refine G.trans ?_ hb6 | with_reducible refine G.trans ?_ hb5 | with_reducible refine G.trans ?_ hb4 | with_reducible refine G.trans ?_ hb3 | with_reducible refine G.trans ?_ hb2 | with_reducible refine G.trans ?_ hb1 | with_reducible refine G.trans ?_ hb | assumption)⟩
theorem decimalSums_any (A : Option Addr) (n c : Nat) (L : List (Int × Int)) (B : Option Addr) (m d : Nat) (O : List Int) (w : World) (hx : NumsAt w A n L ∧ n ≤ c ∧ c ≤ maxLen ∧ ∀ p ∈ L, (Lit.int .i64 p.1).wf = true)
    (hy : Sl w B m (O.map (Value.int .u8)) ∧ m ≤ d ∧ d ≤ maxLen ∧ ∀ x ∈ O, (Lit.int .u8 x).wf = true) (ht : Pow10 w) :
    Calls Tryd.prog 7 #[.slice A n c, .slice B m d] w fun e' w' => e' = .returned (.bool true) ∧ Below w.heap.size w w' := by
  by_cases h : 300 < n
  · exact lawsums_long A B n c m d w (Nat.le_trans hx.2.1 hx.2.2.1) h ht
  · exact lawsums_short A B n c m d L O w hx.1 (by omega) hx.2.1 hx.2.2.2 hy.1 (Nat.le_trans hy.2.1 hy.2.2.1) hy.2.2.2 ht
end Go.Proofs.YtoipapcbngknfaaDoor
