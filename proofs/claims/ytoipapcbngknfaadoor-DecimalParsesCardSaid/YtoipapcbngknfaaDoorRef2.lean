/- What the reference's Of and Minus compute. -/
import Derived.Test.YtoipapcbngknfaaDoorRef1
namespace Go.Proofs.YtoipapcbngknfaaDoor
set_option linter.unusedVariables false
set_option linter.unnecessarySimpa false
set_option linter.unusedSimpArgs false
open Go.RowKit

theorem Tryd.infoI : (Tryd.prog.info? 3).map (fun i => (i.zero, i.size, i.bytes)) = some (some (.int .i64 0), 1, 8) := by kernel_rfl
theorem valD_rep (k : Nat) : valD (List.replicate k 0) = 0 := by
  induction k with
  | zero => rfl
  | succ k ih => rw [List.replicate_succ, valD, ih]; rfl
/-- A variable of two cells. -/
def Box2 (w : World) (B : Nat) (u v : Value) : Prop := w.cell? ⟨B, 0, none⟩ = some u ∧ w.cell? ⟨B, 1, none⟩ = some v ∧ w.frozen? ⟨B, 0, none⟩ = false ∧ w.frozen? ⟨B, 1, none⟩ = false
theorem Box2.keep {w w' : World} {B N : Nat} {u v : Value} (h : Box2 w B u v) (hb : Below N w w') (hB : B < N) : Box2 w' B u v :=
  ⟨(hb.cell (p := ⟨B, 0, none⟩) hB).trans h.1, (hb.cell (p := ⟨B, 1, none⟩) hB).trans h.2.1, (hb.frozen (p := ⟨B, 0, none⟩) hB).trans h.2.2.1, (hb.frozen (p := ⟨B, 1, none⟩) hB).trans h.2.2.2⟩
theorem Box2.lt {w : World} {B : Nat} {u v : Value} (h : Box2 w B u v) : B < w.heap.size := cell_lt h.1
theorem Box2.grow {w w' : World} {B : Nat} {u v : Value} (h : Box2 w B u v) (hb : Below w.heap.size w w') : Box2 w' B u v := h.keep hb h.lt
theorem Box2.set1 {w : World} {B : Nat} {u v x : Value} (h : Box2 w B u v) : Box2 (w.setCell ⟨B, 1, none⟩ x) B u x := by
  obtain ⟨h1, h2, h3, h4⟩ := h
  exact ⟨by go_simp, by go_simp, by go_simp, by go_simp⟩
theorem Box2.other {w : World} {B B' i : Nat} {u v x : Value} (h : Box2 w B u v) (hne : B ≠ B') : Box2 (w.setCell ⟨B', i, none⟩ x) B u v := by
  obtain ⟨h1, h2, h3, h4⟩ := h
  refine ⟨?_, ?_, ?_, ?_⟩
  · rw [World.cell?_setCell_other _ _ _ _ (fun e => hne (by injection e with e; exact e.symm))]; exact h1
  · rw [World.cell?_setCell_other _ _ _ _ (fun e => hne (by injection e with e; exact e.symm))]; exact h2
  · go_simp
  · go_simp
theorem Box2.alloc {w : World} {B : Nat} {u v : Value} (h : Box2 w B u v) (o : Obj) : Box2 (w.alloc o) B u v := h.grow (G.alloc (G.refl w) o)
theorem Box2.new {w : World} {B : Nat} {u v : Value} {t : TypeId} (hB : B = w.heap.size) : Box2 (w.alloc (.cells #[u, v] t)) B u v := by
  subst hB
  exact ⟨by go_simp, by go_simp, by go_simp, by go_simp⟩
theorem own_setCell {w : World} {base : Nat} {e : TypeId} {size : Nat} {v : Value} {n : Nat} {xs : List Value} (h : w.ownsRow base e size v n xs) {p : Addr} (hp : p.block < base) (u : Value) : (w.setCell p u).ownsRow base e size v n xs := by
  refine ⟨h.1, ?_⟩
  rcases h.2 with h0 | ⟨g, cap, cur, hv, hg, hh, hr⟩
  · exact .inl h0
  · exact .inr ⟨g, cap, cur, hv, hg, by rw [heap_setCell_other _ _ _ _ (by omega)]; exact hh, hr⟩
/-- The slice in the variable's second cell owns the numbers L. -/
def Acc (w : World) (B N : Nat) (u : Value) (k : Nat) (L : List Int) : Prop :=
  ∃ A c, Box2 w B u (.slice A k c) ∧ w.ownsRow N 3 1 (.slice A k c) k (i64s L) ∧ k ≤ c ∧ c ≤ maxLen
theorem Acc.len {w : World} {B N : Nat} {u : Value} {k : Nat} {L : List Int} (h : Acc w B N u k L) : L.length = k := by
  obtain ⟨A, c, _, h, _⟩ := h
  have := h.1
  simpa using this

set_option maxRecDepth 20000 in set_option maxHeartbeats 1000000 in
theorem of_pos (N0 z : Nat) (w : World) (hN : N0 < 9223372036854775808) (hz : z ≤ 1000) : Calls Tryd.prog 23 #[.int .i64 N0, .int .i64 z] w (RetW (N0 * p10 z) w) := by
  obtain ⟨i0, hi0, hz0, hz1, hz2⟩ := info_parts Tryd.infoI
  go_enter Tryd.func23, Tryd.ntmps23
  go_wp2_with fail
  refine wp_name (fun w1 => Below w.heap.size w w1 ∧ w.heap.size + 1 + 1 ≤ w1.heap.size ∧ Box2 w1 w.heap.size (.int .i64 0) (.slice none 0 0) ∧ Box2 w1 (w.heap.size + 1) (.int .i64 1) (.slice none 0 0)) ⟨by repeat (first | with_reducible assumption | with_reducible exact G.refl _ | with_reducible refine G.drew ?_ | with_reducible refine G.drewN ?_ _ | with_reducible refine G.alloc ?_ _ | with_reducible refine Below.setCell ?_ (by first | (simp; done) | (simp; omega)) _ | with_reducible refine G.trans ?_ hb12 | with_reducible refine G.trans ?_ hb11 | with_reducible refine G.trans ?_ hb10 | with_reducible refine G.trans ?_ hb9 | with_reducible refine G.trans ?_ hb8 | with_reducible refine G.trans ?_ hb7 | with_reducible refine G.trans ?_ hb6 | with_reducible refine G.trans ?_ hb5 | with_reducible refine G.trans ?_ hb4 | with_reducible refine G.trans ?_ hb3 | with_reducible refine G.trans ?_ hb2 | with_reducible refine G.trans ?_ hb1 | with_reducible refine G.trans ?_ hb | assumption), by simp, ⟨by go_simp, by go_simp, by go_simp, by go_simp⟩, ⟨by go_simp, by go_simp, by go_simp, by go_simp⟩⟩ ?_
  rintro w1 ⟨hb1, hsz, hR, hX⟩
  go_loopw [6] (fun i wr => ∃ k : Nat, k ≤ z ∧ i = .int .i64 k ∧ Below w.heap.size w wr ∧ w1.heap.size ≤ wr.heap.size ∧ Box2 wr w.heap.size (.int .i64 0) (.slice none 0 0) ∧ Acc wr (w.heap.size + 1) w1.heap.size (.int .i64 1) k (List.replicate k 0)) (fun i _ => z - (intOf i).toNat)
  case atStart => exact ⟨0, Nat.zero_le _, rfl, hb1, Nat.le_refl _, hR, none, 0, hX, World.ownsRow_nil _ _ _ _, Nat.le_refl _, Nat.zero_le _⟩
  case round =>
    obtain ⟨k, hk, rfl, hbr, hsr, hRr, A', c', hXr, hown, hkc, hcm⟩ := hrel
    by_cases hlt : k < z
    · have hrep : Hid (i64s (List.replicate k 0) ++ [.int .i64 0] = i64s (List.replicate (k + 1) 0)) := by unfold Hid; rw [List.replicate_succ']; simp
      obtain ⟨x1, x2, x3, x4⟩ := id hXr
      have ltX := hXr.lt
      go_wp2_with (at_builtin; refine wpList_app _ rfl (.tmp 19) (.tmp 20) _ rfl w1.heap.size 3 i0 _ 1 8 Tryd.underlying31 hi0 hz0 hz1 hz2 rfl Nat.zero_lt_one (.slice A' k c') k (i64s (List.replicate k 0)) rfl (hown.alloc _) (some ⟨wr.heap.size, 0, none⟩) 1 1 [.int .i64 0] rfl (by repeat (first | with_reducible assumption | with_reducible exact Sl.new' (by simp; done) (by simp; done) (by simp; done) | with_reducible refine Sl.drew ?_ | with_reducible refine Sl.drewN ?_ _ | with_reducible refine Sl.alloc ?_ _ | with_reducible refine Sl.grow ?_ hb12 | with_reducible refine Sl.grow ?_ hb11 | with_reducible refine Sl.grow ?_ hb10 | with_reducible refine Sl.grow ?_ hb9 | with_reducible refine Sl.grow ?_ hb8 | with_reducible refine Sl.grow ?_ hb7 | with_reducible refine Sl.grow ?_ hb6 | with_reducible refine Sl.grow ?_ hb5 | with_reducible refine Sl.grow ?_ hb4 | with_reducible refine Sl.grow ?_ hb3 | with_reducible refine Sl.grow ?_ hb2 | with_reducible refine Sl.grow ?_ hb1 | with_reducible refine Sl.grow ?_ hb | assumption)) (by simp [Value.oneCell']) (by show _ ≤ 2 ^ 63 - 1; omega) (by omega) (by simp; omega) ?_; intro A3 c3 w3 hown3 hc3 hm3 hg3; have hb3 : Below w1.heap.size wr w3 := Below.grown ((Below.refl _ _).alloc hsr _) hg3 (by simp; omega) (fun q hq => (hown.lt q hq).1); have hX3 := hXr.keep hb3 (by omega); have hR3 := hRr.keep hb3 (by omega); have hs3 := hb3.size; obtain ⟨y1, y2, y3, y4⟩ := id hX3; have ltX3 := hX3.lt; clear x1 x2 x3 x4)
      go_roundw
      case rel => exact ⟨k + 1, by omega, by go_num, (hbr.trans (hb3.mono (by omega))).setCell (by simp) _, by simpa [World.setCell] using (by omega : w1.heap.size ≤ w3.heap.size), hR3.other (by omega), A3, c3, hX3.set1, by rw [← hrep.out]; exact own_setCell hown3 (by simp; omega) _, hc3, hm3⟩
      case measure => first | (simp [intOf]; done) | (simp [intOf]; omega)
    · have hkz : k = z := by omega
      subst hkz
      clear hR hX hb1
      go_wp2_with fail
      obtain ⟨wo, rfl⟩ : ∃ wo : World, wo = wr := ⟨_, rfl⟩
      go_loopw [0] (fun v wr => ∃ (r : Nat) (D : List Int), v = .int .i64 r ∧ r ≤ N0 ∧ Hid (digs N0 = D ++ digs r) ∧ Below w.heap.size w wr ∧ w1.heap.size ≤ wr.heap.size ∧ Box2 wr w.heap.size (.int .i64 0) (.slice none 0 0) ∧ Acc wr (w.heap.size + 1) w1.heap.size (.int .i64 1) (k + D.length) (List.replicate k 0 ++ D)) (fun v _ => (intOf v).toNat)
      case atStart => exact ⟨N0, [], rfl, Nat.le_refl _, rfl, hbr, hsr, hRr, A', c', hXr, by simpa using hown, hkc, hcm⟩
      case round =>
        obtain ⟨r, D, rfl, hrN, hD, hbr2, hsr2, hRr2, A2, c2, hXr2, hown2, hkc2, hcm2⟩ := hrel
        have hlen : D.length + (digs r).length ≤ 19 := by
          have h1 := len_digs_le (n := N0) (k := 19) (by omega)
          rw [hD.out, List.length_append] at h1
          exact h1
        by_cases hr0 : 0 < r
        · have hdr := digs_pos (n := r) (by omega)
          have hD2 : Hid (digs N0 = (D ++ [((r % 10 : Nat) : Int)]) ++ digs (r / 10)) := by unfold Hid; rw [hD.out, hdr]; simp
          have hl2 : D.length + 1 ≤ 19 := by rw [hdr] at hlen; simp at hlen; omega
          have hlist : Hid (i64s (List.replicate k 0 ++ D) ++ [.int .i64 ((r % 10 : Nat) : Int)] = i64s (List.replicate k 0 ++ (D ++ [((r % 10 : Nat) : Int)]))) := by unfold Hid; simp
          have hlD : (D ++ [((r % 10 : Nat) : Int)]).length = D.length + 1 := by simp
          clear hdr hlen hD
          obtain ⟨x1, x2, x3, x4⟩ := id hXr2
          have ltX := hXr2.lt
          go_wp2_with (at_builtin; refine wpList_app _ rfl (.tmp 26) (.tmp 29) _ rfl w1.heap.size 3 i0 _ 1 8 Tryd.underlying31 hi0 hz0 hz1 hz2 rfl Nat.zero_lt_one (.slice A2 (k + D.length) c2) (k + D.length) (i64s (List.replicate k 0 ++ D)) rfl (hown2.alloc _) (some ⟨wr.heap.size, 0, none⟩) 1 1 [.int .i64 ((r % 10 : Nat) : Int)] rfl (by repeat (first | with_reducible assumption | with_reducible exact Sl.new' (by simp; done) (by simp; done) (by simp; done) | with_reducible refine Sl.drew ?_ | with_reducible refine Sl.drewN ?_ _ | with_reducible refine Sl.alloc ?_ _ | with_reducible refine Sl.grow ?_ hb12 | with_reducible refine Sl.grow ?_ hb11 | with_reducible refine Sl.grow ?_ hb10 | with_reducible refine Sl.grow ?_ hb9 | with_reducible refine Sl.grow ?_ hb8 | with_reducible refine Sl.grow ?_ hb7 | with_reducible refine Sl.grow ?_ hb6 | with_reducible refine Sl.grow ?_ hb5 | with_reducible refine Sl.grow ?_ hb4 | with_reducible refine Sl.grow ?_ hb3 | with_reducible refine Sl.grow ?_ hb2 | with_reducible refine Sl.grow ?_ hb1 | with_reducible refine Sl.grow ?_ hb | assumption)) (by simp [Value.oneCell']) (by show _ ≤ 2 ^ 63 - 1; omega) (by omega) (by simp; omega) ?_; intro A3 c3 w3 hown3 hc3 hm3 hg3; have hb3 : Below w1.heap.size wr w3 := Below.grown ((Below.refl _ _).alloc hsr2 _) hg3 (by simp; omega) (fun q hq => (hown2.lt q hq).1); have hX3 := hXr2.keep hb3 (by omega); have hR3 := hRr2.keep hb3 (by omega); have hs3 := hb3.size; obtain ⟨y1, y2, y3, y4⟩ := id hX3; have ltX3 := hX3.lt; clear x1 x2 x3 x4)
          go_roundw
          case rel => exact ⟨r / 10, D ++ [((r % 10 : Nat) : Int)], by go_num, by omega, hD2, (hbr2.trans (hb3.mono (by omega))).setCell (by simp) _, by simpa [World.setCell] using (by omega : w1.heap.size ≤ w3.heap.size), hR3.other (by omega), by rw [hlD, ← Nat.add_assoc]; exact ⟨A3, c3, hX3.set1, by rw [← hlist.out]; exact own_setCell hown3 (by simp; omega) _, hc3, hm3⟩⟩
          case measure => first | (simp [intOf]; done) | (simp [intOf]; omega)
        · have hr00 : r = 0 := by omega
          subst hr00
          rw [digs_zero, List.append_nil] at hD
          have hDig : Dig (List.replicate k 0 ++ D) := by
            refine Dig.app (fun d hd => ?_) (by rw [← hD.out]; exact dig_digs _)
            have := List.eq_of_mem_replicate hd
            omega
          have hval : valD (List.replicate k 0 ++ D) = N0 * p10 k := by
            rw [valD_app, List.length_replicate, ← hD.out, valD_digs]
            rw [valD_rep, Int.zero_add, Int.mul_comm]
          have hT := Lib.hid (fun w hq => trim_any 1 A2 (k + D.length) c2 (List.replicate k 0 ++ D) w hq hDig hkc2 hcm2)
          have hs1 := Sl.of_own1 hown2
          have ha1 := Abv.of_own hown2
          obtain ⟨x1, x2, x3, x4⟩ := id hXr2
          have ltX := hXr2.lt
          have hres : Hid (tsgn 1 (List.replicate k 0 ++ D) = sgn ((N0 : Int) * p10 k) ∧ (valD (List.replicate k 0 ++ D)).toNat = ((N0 : Int) * p10 k).natAbs) := by
            have hnn := valD_nonneg hDig
            rw [hval] at hnn
            unfold Hid tsgn sgn
            rw [hval]
            refine ⟨?_, by omega⟩
            rw [if_neg (show ¬ ((N0 : Int) * p10 k < 0) by omega)]
          clear hval hDig hD hlen hown2 hown
          go_wp2_with fail
          refine (hT.out _ (by repeat (first | with_reducible assumption | with_reducible exact Sl.new' (by simp; done) (by simp; done) (by simp; done) | with_reducible refine Sl.drew ?_ | with_reducible refine Sl.drewN ?_ _ | with_reducible refine Sl.alloc ?_ _ | with_reducible refine Sl.grow ?_ hb12 | with_reducible refine Sl.grow ?_ hb11 | with_reducible refine Sl.grow ?_ hb10 | with_reducible refine Sl.grow ?_ hb9 | with_reducible refine Sl.grow ?_ hb8 | with_reducible refine Sl.grow ?_ hb7 | with_reducible refine Sl.grow ?_ hb6 | with_reducible refine Sl.grow ?_ hb5 | with_reducible refine Sl.grow ?_ hb4 | with_reducible refine Sl.grow ?_ hb3 | with_reducible refine Sl.grow ?_ hb2 | with_reducible refine Sl.grow ?_ hb1 | with_reducible refine Sl.grow ?_ hb | assumption))).mono ?_
          rintro e w5 ⟨n5, rfl, hs5, hn5, hb5⟩
          rw [hres.out.1, hres.out.2] at *
          obtain ⟨r1, r2, r3, r4⟩ := hRr2.grow hb5
          have ltR := cell_lt r1
          have hs6 := hb5.size
          go_wp2_with fail
          refine bodyPost_ret (v := .agg #[.int .i64 (sgn ((N0 : Int) * p10 k)), .slice A2 n5 c2]) (by simp only [results, Tryd.results23]; go_simp) rfl ⟨A2, n5, c2, rfl, ⟨?_, hn5, hcm2⟩, ha1.mono (by omega), ?_⟩
          · exact Sl.setCell (Sl.setCell hs5 ha1 (by simp; omega) _) ha1 (by simp; omega) _
          · exact ((G.trans hbr2 hb5).setCell (by simp) _).setCell (by simp) _
set_option maxRecDepth 20000 in set_option maxHeartbeats 1000000 in
theorem of_neg (N0 z : Nat) (w : World) (hN : N0 < 9223372036854775808) (hN1 : 0 < N0) (hz : z ≤ 1000) : Calls Tryd.prog 23 #[.int .i64 (-(N0 : Int)), .int .i64 z] w (RetW (-(N0 : Int) * p10 z) w) := by
  have hneg : IntKind.i64.wrap (- -(N0 : Int)) = (N0 : Int) := by rw [Int.neg_neg]; exact IntWalk.i64_in _ (by omega)
  have hlt0 : -(N0 : Int) < 0 := by omega
  obtain ⟨i0, hi0, hz0, hz1, hz2⟩ := info_parts Tryd.infoI
  go_enter Tryd.func23, Tryd.ntmps23
  go_wp2_with fail
  refine wp_name (fun w1 => Below w.heap.size w w1 ∧ w.heap.size + 1 + 1 ≤ w1.heap.size ∧ Box2 w1 w.heap.size (.int .i64 0) (.slice none 0 0) ∧ Box2 w1 (w.heap.size + 1) (.int .i64 (-1)) (.slice none 0 0)) ⟨by repeat (first | with_reducible assumption | with_reducible exact G.refl _ | with_reducible refine G.drew ?_ | with_reducible refine G.drewN ?_ _ | with_reducible refine G.alloc ?_ _ | with_reducible refine Below.setCell ?_ (by first | (simp; done) | (simp; omega)) _ | with_reducible refine G.trans ?_ hb12 | with_reducible refine G.trans ?_ hb11 | with_reducible refine G.trans ?_ hb10 | with_reducible refine G.trans ?_ hb9 | with_reducible refine G.trans ?_ hb8 | with_reducible refine G.trans ?_ hb7 | with_reducible refine G.trans ?_ hb6 | with_reducible refine G.trans ?_ hb5 | with_reducible refine G.trans ?_ hb4 | with_reducible refine G.trans ?_ hb3 | with_reducible refine G.trans ?_ hb2 | with_reducible refine G.trans ?_ hb1 | with_reducible refine G.trans ?_ hb | assumption), by simp, ⟨by go_simp, by go_simp, by go_simp, by go_simp⟩, ⟨by go_simp, by go_simp, by go_simp, by go_simp⟩⟩ ?_
  rintro w1 ⟨hb1, hsz, hR, hX⟩
  go_loopw [6] (fun i wr => ∃ k : Nat, k ≤ z ∧ i = .int .i64 k ∧ Below w.heap.size w wr ∧ w1.heap.size ≤ wr.heap.size ∧ Box2 wr w.heap.size (.int .i64 0) (.slice none 0 0) ∧ Acc wr (w.heap.size + 1) w1.heap.size (.int .i64 (-1)) k (List.replicate k 0)) (fun i _ => z - (intOf i).toNat)
  case atStart => exact ⟨0, Nat.zero_le _, rfl, hb1, Nat.le_refl _, hR, none, 0, hX, World.ownsRow_nil _ _ _ _, Nat.le_refl _, Nat.zero_le _⟩
  case round =>
    obtain ⟨k, hk, rfl, hbr, hsr, hRr, A', c', hXr, hown, hkc, hcm⟩ := hrel
    by_cases hlt : k < z
    · have hrep : Hid (i64s (List.replicate k 0) ++ [.int .i64 0] = i64s (List.replicate (k + 1) 0)) := by unfold Hid; rw [List.replicate_succ']; simp
      obtain ⟨x1, x2, x3, x4⟩ := id hXr
      have ltX := hXr.lt
      go_wp2_with (at_builtin; refine wpList_app _ rfl (.tmp 19) (.tmp 20) _ rfl w1.heap.size 3 i0 _ 1 8 Tryd.underlying31 hi0 hz0 hz1 hz2 rfl Nat.zero_lt_one (.slice A' k c') k (i64s (List.replicate k 0)) rfl (hown.alloc _) (some ⟨wr.heap.size, 0, none⟩) 1 1 [.int .i64 0] rfl (by repeat (first | with_reducible assumption | with_reducible exact Sl.new' (by simp; done) (by simp; done) (by simp; done) | with_reducible refine Sl.drew ?_ | with_reducible refine Sl.drewN ?_ _ | with_reducible refine Sl.alloc ?_ _ | with_reducible refine Sl.grow ?_ hb12 | with_reducible refine Sl.grow ?_ hb11 | with_reducible refine Sl.grow ?_ hb10 | with_reducible refine Sl.grow ?_ hb9 | with_reducible refine Sl.grow ?_ hb8 | with_reducible refine Sl.grow ?_ hb7 | with_reducible refine Sl.grow ?_ hb6 | with_reducible refine Sl.grow ?_ hb5 | with_reducible refine Sl.grow ?_ hb4 | with_reducible refine Sl.grow ?_ hb3 | with_reducible refine Sl.grow ?_ hb2 | with_reducible refine Sl.grow ?_ hb1 | with_reducible refine Sl.grow ?_ hb | assumption)) (by simp [Value.oneCell']) (by show _ ≤ 2 ^ 63 - 1; omega) (by omega) (by simp; omega) ?_; intro A3 c3 w3 hown3 hc3 hm3 hg3; have hb3 : Below w1.heap.size wr w3 := Below.grown ((Below.refl _ _).alloc hsr _) hg3 (by simp; omega) (fun q hq => (hown.lt q hq).1); have hX3 := hXr.keep hb3 (by omega); have hR3 := hRr.keep hb3 (by omega); have hs3 := hb3.size; obtain ⟨y1, y2, y3, y4⟩ := id hX3; have ltX3 := hX3.lt; clear x1 x2 x3 x4)
      go_roundw
      case rel => exact ⟨k + 1, by omega, by go_num, (hbr.trans (hb3.mono (by omega))).setCell (by simp) _, by simpa [World.setCell] using (by omega : w1.heap.size ≤ w3.heap.size), hR3.other (by omega), A3, c3, hX3.set1, by rw [← hrep.out]; exact own_setCell hown3 (by simp; omega) _, hc3, hm3⟩
      case measure => first | (simp [intOf]; done) | (simp [intOf]; omega)
    · have hkz : k = z := by omega
      subst hkz
      clear hR hX hb1
      go_wp2_with fail
      obtain ⟨wo, rfl⟩ : ∃ wo : World, wo = wr := ⟨_, rfl⟩
      go_loopw [0] (fun v wr => ∃ (r : Nat) (D : List Int), v = .int .i64 r ∧ r ≤ N0 ∧ Hid (digs N0 = D ++ digs r) ∧ Below w.heap.size w wr ∧ w1.heap.size ≤ wr.heap.size ∧ Box2 wr w.heap.size (.int .i64 0) (.slice none 0 0) ∧ Acc wr (w.heap.size + 1) w1.heap.size (.int .i64 (-1)) (k + D.length) (List.replicate k 0 ++ D)) (fun v _ => (intOf v).toNat)
      case atStart => exact ⟨N0, [], rfl, Nat.le_refl _, rfl, hbr, hsr, hRr, A', c', hXr, by simpa using hown, hkc, hcm⟩
      case round =>
        obtain ⟨r, D, rfl, hrN, hD, hbr2, hsr2, hRr2, A2, c2, hXr2, hown2, hkc2, hcm2⟩ := hrel
        have hlen : D.length + (digs r).length ≤ 19 := by
          have h1 := len_digs_le (n := N0) (k := 19) (by omega)
          rw [hD.out, List.length_append] at h1
          exact h1
        by_cases hr0 : 0 < r
        · have hdr := digs_pos (n := r) (by omega)
          have hD2 : Hid (digs N0 = (D ++ [((r % 10 : Nat) : Int)]) ++ digs (r / 10)) := by unfold Hid; rw [hD.out, hdr]; simp
          have hl2 : D.length + 1 ≤ 19 := by rw [hdr] at hlen; simp at hlen; omega
          have hlist : Hid (i64s (List.replicate k 0 ++ D) ++ [.int .i64 ((r % 10 : Nat) : Int)] = i64s (List.replicate k 0 ++ (D ++ [((r % 10 : Nat) : Int)]))) := by unfold Hid; simp
          have hlD : (D ++ [((r % 10 : Nat) : Int)]).length = D.length + 1 := by simp
          clear hdr hlen hD
          obtain ⟨x1, x2, x3, x4⟩ := id hXr2
          have ltX := hXr2.lt
          go_wp2_with (at_builtin; refine wpList_app _ rfl (.tmp 26) (.tmp 29) _ rfl w1.heap.size 3 i0 _ 1 8 Tryd.underlying31 hi0 hz0 hz1 hz2 rfl Nat.zero_lt_one (.slice A2 (k + D.length) c2) (k + D.length) (i64s (List.replicate k 0 ++ D)) rfl (hown2.alloc _) (some ⟨wr.heap.size, 0, none⟩) 1 1 [.int .i64 ((r % 10 : Nat) : Int)] rfl (by repeat (first | with_reducible assumption | with_reducible exact Sl.new' (by simp; done) (by simp; done) (by simp; done) | with_reducible refine Sl.drew ?_ | with_reducible refine Sl.drewN ?_ _ | with_reducible refine Sl.alloc ?_ _ | with_reducible refine Sl.grow ?_ hb12 | with_reducible refine Sl.grow ?_ hb11 | with_reducible refine Sl.grow ?_ hb10 | with_reducible refine Sl.grow ?_ hb9 | with_reducible refine Sl.grow ?_ hb8 | with_reducible refine Sl.grow ?_ hb7 | with_reducible refine Sl.grow ?_ hb6 | with_reducible refine Sl.grow ?_ hb5 | with_reducible refine Sl.grow ?_ hb4 | with_reducible refine Sl.grow ?_ hb3 | with_reducible refine Sl.grow ?_ hb2 | with_reducible refine Sl.grow ?_ hb1 | with_reducible refine Sl.grow ?_ hb | assumption)) (by simp [Value.oneCell']) (by show _ ≤ 2 ^ 63 - 1; omega) (by omega) (by simp; omega) ?_; intro A3 c3 w3 hown3 hc3 hm3 hg3; have hb3 : Below w1.heap.size wr w3 := Below.grown ((Below.refl _ _).alloc hsr2 _) hg3 (by simp; omega) (fun q hq => (hown2.lt q hq).1); have hX3 := hXr2.keep hb3 (by omega); have hR3 := hRr2.keep hb3 (by omega); have hs3 := hb3.size; obtain ⟨y1, y2, y3, y4⟩ := id hX3; have ltX3 := hX3.lt; clear x1 x2 x3 x4)
          go_roundw
          case rel => exact ⟨r / 10, D ++ [((r % 10 : Nat) : Int)], by go_num, by omega, hD2, (hbr2.trans (hb3.mono (by omega))).setCell (by simp) _, by simpa [World.setCell] using (by omega : w1.heap.size ≤ w3.heap.size), hR3.other (by omega), by rw [hlD, ← Nat.add_assoc]; exact ⟨A3, c3, hX3.set1, by rw [← hlist.out]; exact own_setCell hown3 (by simp; omega) _, hc3, hm3⟩⟩
          case measure => first | (simp [intOf]; done) | (simp [intOf]; omega)
        · have hr00 : r = 0 := by omega
          subst hr00
          rw [digs_zero, List.append_nil] at hD
          have hDig : Dig (List.replicate k 0 ++ D) := by
            refine Dig.app (fun d hd => ?_) (by rw [← hD.out]; exact dig_digs _)
            have := List.eq_of_mem_replicate hd
            omega
          have hval : valD (List.replicate k 0 ++ D) = N0 * p10 k := by
            rw [valD_app, List.length_replicate, ← hD.out, valD_digs]
            rw [valD_rep, Int.zero_add, Int.mul_comm]
          have hT := Lib.hid (fun w hq => trim_any (-1) A2 (k + D.length) c2 (List.replicate k 0 ++ D) w hq hDig hkc2 hcm2)
          have hs1 := Sl.of_own1 hown2
          have ha1 := Abv.of_own hown2
          obtain ⟨x1, x2, x3, x4⟩ := id hXr2
          have ltX := hXr2.lt
          have hres : Hid (tsgn (-1) (List.replicate k 0 ++ D) = sgn (-(N0 : Int) * p10 k) ∧ (valD (List.replicate k 0 ++ D)).toNat = (-(N0 : Int) * p10 k).natAbs) := by
            have hnn := valD_nonneg hDig
            rw [hval] at hnn
            unfold Hid tsgn sgn
            rw [hval, Int.neg_mul]
            generalize (N0 : Int) * p10 k = X at *
            refine ⟨?_, by omega⟩
            by_cases h0 : X = 0
            · rw [if_pos h0, if_neg (by omega), if_pos (by omega)]
            · rw [if_neg h0, if_pos (by omega)]
          clear hval hDig hD hlen hown2 hown
          go_wp2_with fail
          refine (hT.out _ (by repeat (first | with_reducible assumption | with_reducible exact Sl.new' (by simp; done) (by simp; done) (by simp; done) | with_reducible refine Sl.drew ?_ | with_reducible refine Sl.drewN ?_ _ | with_reducible refine Sl.alloc ?_ _ | with_reducible refine Sl.grow ?_ hb12 | with_reducible refine Sl.grow ?_ hb11 | with_reducible refine Sl.grow ?_ hb10 | with_reducible refine Sl.grow ?_ hb9 | with_reducible refine Sl.grow ?_ hb8 | with_reducible refine Sl.grow ?_ hb7 | with_reducible refine Sl.grow ?_ hb6 | with_reducible refine Sl.grow ?_ hb5 | with_reducible refine Sl.grow ?_ hb4 | with_reducible refine Sl.grow ?_ hb3 | with_reducible refine Sl.grow ?_ hb2 | with_reducible refine Sl.grow ?_ hb1 | with_reducible refine Sl.grow ?_ hb | assumption))).mono ?_
          rintro e w5 ⟨n5, rfl, hs5, hn5, hb5⟩
          rw [hres.out.1, hres.out.2] at *
          obtain ⟨r1, r2, r3, r4⟩ := hRr2.grow hb5
          have ltR := cell_lt r1
          have hs6 := hb5.size
          go_wp2_with fail
          refine bodyPost_ret (v := .agg #[.int .i64 (sgn (-(N0 : Int) * p10 k)), .slice A2 n5 c2]) (by simp only [results, Tryd.results23]; go_simp) rfl ⟨A2, n5, c2, rfl, ⟨?_, hn5, hcm2⟩, ha1.mono (by omega), ?_⟩
          · exact Sl.setCell (Sl.setCell hs5 ha1 (by simp; omega) _) ha1 (by simp; omega) _
          · exact ((G.trans hbr2 hb5).setCell (by simp) _).setCell (by simp) _
theorem of_any (n : Int) (z : Nat) (w : World) (h0 : -9223372036854775808 < n) (h1 : n < 9223372036854775808) (hz : z ≤ 1000) : Calls Tryd.prog 23 #[.int .i64 n, .int .i64 z] w (RetW (n * p10 z) w) := by
  rcases Int.lt_or_le n 0 with h | h
  · obtain ⟨k, rfl⟩ : ∃ k : Nat, n = -(k : Int) := ⟨n.natAbs, by omega⟩
    exact of_neg k z w (by omega) (by omega) hz
  · obtain ⟨k, rfl⟩ : ∃ k : Nat, n = (k : Int) := ⟨n.toNat, by omega⟩
    exact of_pos k z w (by omega) hz
end Go.Proofs.YtoipapcbngknfaaDoor
