/- What the reference's Plus computes, for negative numbers on the left. -/
import Derived.Test.YtoipapcbngknfaaDoorRef3a
namespace Go.Proofs.YtoipapcbngknfaaDoor
set_option linter.unusedVariables false
set_option linter.unnecessarySimpa false
set_option linter.unusedSimpArgs false
open Go.RowKit

set_option maxRecDepth 20000 in set_option maxHeartbeats 2000000 in
theorem plus_mp (A B : Option Addr) (n m c d : Nat) (xs ys : List Int) (w : World) (hx : Sl w A n (i64s xs)) (hy : Sl w B m (i64s ys)) (hdx : Dig xs) (hdy : Dig ys) (hn : n ≤ 1000) (hm : m ≤ 1000) (hge : valD ys ≤ valD xs) :
    Calls Tryd.prog 19 #[.agg #[.int .i64 (-1), .slice A n c], .agg #[.int .i64 1, .slice B m d]] w (RetW ((-1) * (valD xs + (-1) * valD ys)) w) := by
  obtain ⟨i0, hi0, hz0, hz1, hz2⟩ := info_parts Tryd.infoI
  have hlx := Lib.hid hx.len
  have hly := Lib.hid hy.len
  have HX := Lib.hid hdx
  have HY := Lib.hid hdy
  have hcmp : ¬ cmpI (valD xs) (valD ys) < 0 := by unfold cmpI; rw [if_neg (by omega)]; split <;> omega
  have AB := fun w h1 h2 => above_any (-1) 1 A B n m c d xs ys w h1 h2 hdx hdy (by omega) (by omega)
  generalize cmpI (valD xs) (valD ys) = cv at *
  replace AB := Lib.hid AB
  have hV0 : 0 ≤ valD xs + (-1) * valD ys := by have h1 := valD_nonneg hdx; have h2 := valD_nonneg hdy; omega
  have hV := Lib.hid hV0
  have body : ∀ M : Nat, M ≤ 1000 → n ≤ M → m ≤ M → ((m ≤ n ∧ M = n) ∨ (n < m ∧ M = m)) → Calls Tryd.prog 19 #[.agg #[.int .i64 (-1), .slice A n c], .agg #[.int .i64 1, .slice B m d]] w (RetW ((-1) * (valD xs + (-1) * valD ys)) w) := by
    intro M hM hnM hmM hcase
    have hV1 : Hid (valD xs + (-1) * valD ys < p10 (M + 1)) := by
      have h1 := valD_lt hdx
      have h2 := valD_lt hdy
      have h3 := valD_nonneg hdy
      have h4 := p10_mono (show xs.length ≤ M by have := hlx.out; omega)
      have h5 := p10_mono (show ys.length ≤ M by have := hly.out; omega)
      have h6 := p10_pos M
      unfold Hid
      rw [p10_succ]
      omega
    clear hdx hdy hV0 hge
    rcases hcase with ⟨hc1, rfl⟩ | ⟨hc1, rfl⟩
    · have hc2 : (m : Int) ≤ (M : Int) := by omega
      go_enter Tryd.func19, Tryd.ntmps19
      go_wp2_with fail
      refine (AB.out _ (by repeat (first | with_reducible assumption | with_reducible exact Sl.new' (by simp; done) (by simp; done) (by simp; done) | with_reducible refine Sl.drew ?_ | with_reducible refine Sl.drewN ?_ _ | with_reducible refine Sl.alloc ?_ _ | with_reducible refine Sl.grow ?_ hb12 | with_reducible refine Sl.grow ?_ hb11 | with_reducible refine Sl.grow ?_ hb10 | with_reducible refine Sl.grow ?_ hb9 | with_reducible refine Sl.grow ?_ hb8 | with_reducible refine Sl.grow ?_ hb7 | with_reducible refine Sl.grow ?_ hb6 | with_reducible refine Sl.grow ?_ hb5 | with_reducible refine Sl.grow ?_ hb4 | with_reducible refine Sl.grow ?_ hb3 | with_reducible refine Sl.grow ?_ hb2 | with_reducible refine Sl.grow ?_ hb1 | with_reducible refine Sl.grow ?_ hb | assumption)) (by repeat (first | with_reducible assumption | with_reducible exact Sl.new' (by simp; done) (by simp; done) (by simp; done) | with_reducible refine Sl.drew ?_ | with_reducible refine Sl.drewN ?_ _ | with_reducible refine Sl.alloc ?_ _ | with_reducible refine Sl.grow ?_ hb12 | with_reducible refine Sl.grow ?_ hb11 | with_reducible refine Sl.grow ?_ hb10 | with_reducible refine Sl.grow ?_ hb9 | with_reducible refine Sl.grow ?_ hb8 | with_reducible refine Sl.grow ?_ hb7 | with_reducible refine Sl.grow ?_ hb6 | with_reducible refine Sl.grow ?_ hb5 | with_reducible refine Sl.grow ?_ hb4 | with_reducible refine Sl.grow ?_ hb3 | with_reducible refine Sl.grow ?_ hb2 | with_reducible refine Sl.grow ?_ hb1 | with_reducible refine Sl.grow ?_ hb | assumption))).mono ?_
      rintro e w0 ⟨rfl, hb0⟩
      
      replace k0 := G.cell (a := ⟨w.heap.size, 0, none⟩) (v := .int .i64 (-1)) (by go_simp) hb0
      replace k1 := G.cell (a := ⟨w.heap.size, 1, none⟩) (v := .slice A M c) (by go_simp) hb0
      replace k2 := G.cell (a := ⟨w.heap.size + 1, 0, none⟩) (v := .int .i64 1) (by go_simp) hb0
      replace k3 := G.cell (a := ⟨w.heap.size + 1, 1, none⟩) (v := .slice B m d) (by go_simp) hb0
      replace k4 := G.cell (a := ⟨w.heap.size + 1 + 1, 0, none⟩) (v := .int .i64 0) (by go_simp) hb0
      replace k5 := G.cell (a := ⟨w.heap.size + 1 + 1, 1, none⟩) (v := .slice none 0 0) (by go_simp) hb0
      replace lt0 := cell_lt k0
      replace lt1 := cell_lt k1
      replace lt2 := cell_lt k2
      replace lt3 := cell_lt k3
      replace lt4 := cell_lt k4
      replace lt5 := cell_lt k5
      obtain ⟨hc0, hf0⟩ := G.old hb0
      have z0 : w0.frozen? ⟨w.heap.size, 0, none⟩ = false := (hf0 _ _ (by simp; omega)).trans (by go_simp)
      have z1 : w0.frozen? ⟨w.heap.size, 1, none⟩ = false := (hf0 _ _ (by simp; omega)).trans (by go_simp)
      have z2 : w0.frozen? ⟨w.heap.size + 1, 0, none⟩ = false := (hf0 _ _ (by simp)).trans (by go_simp)
      have z3 : w0.frozen? ⟨w.heap.size + 1, 1, none⟩ = false := (hf0 _ _ (by simp)).trans (by go_simp)
      have z4 : w0.frozen? ⟨w.heap.size + 1 + 1, 0, none⟩ = false := (hf0 _ _ (by simp)).trans (by go_simp)
      have z5 : w0.frozen? ⟨w.heap.size + 1 + 1, 1, none⟩ = false := (hf0 _ _ (by simp)).trans (by go_simp)
      have q0 : Box2 w0 w.heap.size (.int .i64 (-1)) (.slice A M c) := ⟨k0, k1, z0, z1⟩
      have q1 : Box2 w0 (w.heap.size + 1) (.int .i64 1) (.slice B m d) := ⟨k2, k3, z2, z3⟩
      have q2 : Box2 w0 (w.heap.size + 1 + 1) (.int .i64 0) (.slice none 0 0) := ⟨k4, k5, z4, z5⟩
      have hbw : Below w.heap.size w w0 := G.trans (by repeat (first | with_reducible assumption | with_reducible exact G.refl _ | with_reducible refine G.drew ?_ | with_reducible refine G.drewN ?_ _ | with_reducible refine G.alloc ?_ _ | with_reducible refine Below.setCell ?_ (by first | (simp; done) | (simp; omega)) _ | with_reducible refine G.trans ?_ hb12 | with_reducible refine G.trans ?_ hb11 | with_reducible refine G.trans ?_ hb10 | with_reducible refine G.trans ?_ hb9 | with_reducible refine G.trans ?_ hb8 | with_reducible refine G.trans ?_ hb7 | with_reducible refine G.trans ?_ hb6 | with_reducible refine G.trans ?_ hb5 | with_reducible refine G.trans ?_ hb4 | with_reducible refine G.trans ?_ hb3 | with_reducible refine G.trans ?_ hb2 | with_reducible refine G.trans ?_ hb1 | with_reducible refine G.trans ?_ hb | assumption)) hb0
      have sz0 := hb0.size
      simp at sz0
      clear hc0 hf0 hb0
      go_wp2_with fail
      obtain ⟨X, hXe⟩ : ∃ X, w0.heap.size = X := ⟨_, rfl⟩
      refine wp_name (fun w1 => Below w.heap.size w w1 ∧ w.heap.size + 1 + 1 < X ∧ X < w1.heap.size ∧ Box2 w1 w.heap.size (.int .i64 (-1)) (.slice A M c) ∧ Box2 w1 (w.heap.size + 1) (.int .i64 1) (.slice B m d) ∧ Box2 w1 (w.heap.size + 1 + 1) (.int .i64 0) (.slice none 0 0) ∧ Box2 w1 X (.int .i64 (-1)) (.slice none 0 0)) ⟨by repeat (first | with_reducible assumption | with_reducible exact G.refl _ | with_reducible refine G.drew ?_ | with_reducible refine G.drewN ?_ _ | with_reducible refine G.alloc ?_ _ | with_reducible refine Below.setCell ?_ (by first | (simp; done) | (simp; omega)) _ | with_reducible refine G.trans ?_ hb12 | with_reducible refine G.trans ?_ hb11 | with_reducible refine G.trans ?_ hb10 | with_reducible refine G.trans ?_ hb9 | with_reducible refine G.trans ?_ hb8 | with_reducible refine G.trans ?_ hb7 | with_reducible refine G.trans ?_ hb6 | with_reducible refine G.trans ?_ hb5 | with_reducible refine G.trans ?_ hb4 | with_reducible refine G.trans ?_ hb3 | with_reducible refine G.trans ?_ hb2 | with_reducible refine G.trans ?_ hb1 | with_reducible refine G.trans ?_ hb | assumption), by rw [← hXe]; omega, by rw [← hXe]; simp, by repeat (first | with_reducible assumption | (exact Box2.new (by simp; done)) | with_reducible refine Box2.alloc ?_ _ | with_reducible refine Box2.grow ?_ hb12 | with_reducible refine Box2.grow ?_ hb5 | with_reducible refine Box2.grow ?_ hb4 | with_reducible refine Box2.grow ?_ hb3 | with_reducible refine Box2.grow ?_ hb2 | with_reducible refine Box2.grow ?_ hb1 | with_reducible refine Box2.grow ?_ hb | assumption), by repeat (first | with_reducible assumption | (exact Box2.new (by simp; done)) | with_reducible refine Box2.alloc ?_ _ | with_reducible refine Box2.grow ?_ hb12 | with_reducible refine Box2.grow ?_ hb5 | with_reducible refine Box2.grow ?_ hb4 | with_reducible refine Box2.grow ?_ hb3 | with_reducible refine Box2.grow ?_ hb2 | with_reducible refine Box2.grow ?_ hb1 | with_reducible refine Box2.grow ?_ hb | assumption), by repeat (first | with_reducible assumption | (exact Box2.new (by simp; done)) | with_reducible refine Box2.alloc ?_ _ | with_reducible refine Box2.grow ?_ hb12 | with_reducible refine Box2.grow ?_ hb5 | with_reducible refine Box2.grow ?_ hb4 | with_reducible refine Box2.grow ?_ hb3 | with_reducible refine Box2.grow ?_ hb2 | with_reducible refine Box2.grow ?_ hb1 | with_reducible refine Box2.grow ?_ hb | assumption), by rw [← hXe]; repeat (first | with_reducible assumption | (exact Box2.new (by simp; done)) | with_reducible refine Box2.alloc ?_ _ | with_reducible refine Box2.grow ?_ hb12 | with_reducible refine Box2.grow ?_ hb5 | with_reducible refine Box2.grow ?_ hb4 | with_reducible refine Box2.grow ?_ hb3 | with_reducible refine Box2.grow ?_ hb2 | with_reducible refine Box2.grow ?_ hb1 | with_reducible refine Box2.grow ?_ hb | assumption)⟩ ?_
      clear k0 k1 k2 k3 k4 k5 lt0 lt1 lt2 lt3 lt4 lt5 z0 z1 z2 z3 z4 z5 q0 q1 q2 hbw sz0
      rintro w1 ⟨hb1, hX2, hXl, hBa, hBb, hBr, hBx⟩
      rw [hXe]
      clear hXe
      have DX := Lib.hid (fun w k hq => digit_any (-1) A M c xs k w hq (by unfold maxLen; omega))
      have DY := Lib.hid (fun w k hq => digit_any 1 B m d ys k w hq (by unfold maxLen; omega))
      go_loopw [6, 7] (fun cv iv wr => ∃ (k : Nat) (cy : Int) (L : List Int), k ≤ M + 1 ∧ iv = .int .i64 k ∧ cv = .int .i64 cy ∧ -1 ≤ cy ∧ cy ≤ 1 ∧ Hid (Dig L ∧ valD L + p10 k * cy = valD (xs.take k) + (-1) * valD (ys.take k)) ∧ Below w.heap.size w wr ∧ w1.heap.size ≤ wr.heap.size ∧ Box2 wr w.heap.size (.int .i64 (-1)) (.slice A M c) ∧ Box2 wr (w.heap.size + 1) (.int .i64 1) (.slice B m d) ∧ Box2 wr (w.heap.size + 1 + 1) (.int .i64 0) (.slice none 0 0) ∧ Acc wr X w1.heap.size (.int .i64 (-1)) k L) (fun _ iv _ => M + 1 - (intOf iv).toNat)
      case atStart => exact ⟨0, 0, [], by omega, rfl, rfl, by omega, by omega, ⟨Dig.nil, by simp [valD]⟩, hb1, Nat.le_refl _, hBa, hBb, hBr, none, 0, hBx, World.ownsRow_nil _ _ _ _, Nat.le_refl _, Nat.zero_le _⟩
      case round =>
        obtain ⟨k, cy, L, hk, rfl, rfl, hc0, hc1', hI, hbr, hsr, hBa', hBb', hBr', A5, c5, hBx', hown, hkc, hcm⟩ := hrel
        have hLk := Lib.hid (show L.length = k by have := hown.1; simpa using this)
        obtain ⟨a0, a1, _, _⟩ := id hBa'
        obtain ⟨b0, b1, _, _⟩ := id hBb'
        have lta := hBa'.lt
        have ltb := hBb'.lt
        by_cases hlt : k < M + 1
        · have hxr : Sl wr A M (i64s xs) := hx.grow hbr
          have hyr : Sl wr B m (i64s ys) := hy.grow hbr
          have hp0 := dg_dig HX.out k
          have hq0 := dg_dig HY.out k
          have hst := Lib.hid (fun cy' e he => plus_step (st := (-1)) (cy' := cy') (e := e) (xs := xs) (ys := ys) hLk.out hI.out.2 he)
          have hDL := Lib.hid hI.out.1
          generalize hp : dg xs k = p at *
          generalize hq : dg ys k = q at *
          have hp' := Lib.hid hp
          have hq' := Lib.hid hq
          obtain ⟨hp1, hp2⟩ := hp0
          obtain ⟨hq1, hq2⟩ := hq0
          have hLi := Lib.hid hI.out
          clear hp hq hI
          go_wp2_with fail
          refine wp_region_ord [(0, 1), (1, 1), (3, 1), (4, 1), (5, 1), (6, 1), (7, 1), (8, 1), (9, 1), (13, 1), (2, 2), (10, 2), (11, 1), (12, 1), (14, 1), (15, 1)] [] 5 (by kernel_rfl) (by decide +kernel) ?_
          simp only [pickO, List.getElem?_cons_succ, List.getElem?_cons_zero]
          intro w0 hG
          (repeat ((first | (with_reducible refine ord_q1 ?_) | (with_reducible refine ord_q0 ?_)); intro K hK; first | (refine Or.inr ⟨?_, ?_⟩; (focus (go_simp; first | done | (simp [undef]; done))); go_simp; (with_reducible refine hK _ ?_); clear hK K) | (refine Or.inl ⟨?_, ?_⟩; (focus (go_simp; done)); apply Exists.intro; refine And.intro ?_ ?_; (focus (first | (intro wq hq; obtain ⟨hcq, hfq⟩ := G.old hq; go_simp; (first | done | exact rfl); done) | (intro wq; go_simp; (first | done | exact rfl); done))); go_simp; (with_reducible refine hK _ ?_); clear hK K) | fail))
          (with_reducible refine ord_run ?_ hG)
          intro K hK
          go_simp
          go_at_call 47; (with_reducible refine (DX.out _ k (hxr.grow hG.b)).mono ?_); rintro e w2 ⟨rfl, hb2⟩; rw [hp'.out]
          replace hG := Grew.trans hG hb2
          (try dsimp only)
          (with_reducible refine hK _ _ hG ?_)
          clear hK K
          (repeat ((first | (with_reducible refine ord_q1 ?_) | (with_reducible refine ord_q0 ?_)); intro K hK; first | (refine Or.inr ⟨?_, ?_⟩; (focus (go_simp; first | done | (simp [undef]; done))); go_simp; (with_reducible refine hK _ ?_); clear hK K) | (refine Or.inl ⟨?_, ?_⟩; (focus (go_simp; done)); apply Exists.intro; refine And.intro ?_ ?_; (focus (first | (intro wq hq; obtain ⟨hcq, hfq⟩ := G.old hq; go_simp; (first | done | exact rfl); done) | (intro wq; go_simp; (first | done | exact rfl); done))); go_simp; (with_reducible refine hK _ ?_); clear hK K) | fail))
          (with_reducible refine ord_run ?_ hG)
          intro K hK
          go_simp
          go_at_call 47; (with_reducible refine (DY.out _ k (hyr.grow hG.b)).mono ?_); rintro e w3 ⟨rfl, hb3⟩; rw [hq'.out]
          replace hG := Grew.trans hG hb3
          (try dsimp only)
          (with_reducible refine hK _ _ hG ?_)
          clear hK K
          (repeat ((first | (with_reducible refine ord_q1 ?_) | (with_reducible refine ord_q0 ?_)); intro K hK; first | (refine Or.inr ⟨?_, ?_⟩; (focus (go_simp; first | done | (simp [undef]; done))); go_simp; (with_reducible refine hK _ ?_); clear hK K) | (refine Or.inl ⟨?_, ?_⟩; (focus (go_simp; done)); apply Exists.intro; refine And.intro ?_ ?_; (focus (first | (intro wq hq; obtain ⟨hcq, hfq⟩ := G.old hq; go_simp; (first | done | exact rfl); done) | (intro wq; go_simp; (first | done | exact rfl); done))); go_simp; (with_reducible refine hK _ ?_); clear hK K) | fail))
          (with_reducible refine ord_nil ?_)
          obtain ⟨D, hD⟩ : ∃ D, p + (-1) * q + cy = D := ⟨_, rfl⟩
          have hDD : IntKind.i64.wrap (IntKind.i64.wrap (p + IntKind.i64.wrap (IntKind.i64.wrap (-1) * q)) + cy) = D := by
            rw [show IntKind.i64.wrap (-1) = (-1) by decide, show IntKind.i64.wrap ((-1) * q) = (-1) * q from IntWalk.i64_in _ (by omega), show IntKind.i64.wrap (p + (-1) * q) = p + (-1) * q from IntWalk.i64_in _ (by omega), show IntKind.i64.wrap (p + (-1) * q + cy) = p + (-1) * q + cy from IntWalk.i64_in _ (by omega), hD]
          have hDb : -10 ≤ D ∧ D ≤ 19 := by omega
          obtain ⟨hDb1, hDb2⟩ := hDb
          have hD' := Lib.hid hD
          replace hst := Lib.hid (fun cy' e (he : e + 10 * cy' = D) => hst.out cy' e (he.trans hD.symm))
          have hbr3 := G.trans hbr hG.b
          have hsr3 := Nat.le_trans hsr hG.b.size
          have hBa3 := hBa'.grow hG.b
          have hBb3 := hBb'.grow hG.b
          have hBr3 := hBr'.grow hG.b
          have hBx3 := hBx'.grow hG.b
          have hown3 := own_grow hown hG.b
          obtain ⟨x1, x2, x3, x4⟩ := id hBx3
          have ltX3 := hBx3.lt
          clear hG hb2 hb3 hown hBa' hBb' hBr' hBx' hbr hsr hxr hyr a0 a1 b0 b1 lta ltb hD hp1 hp2 hq1 hq2
          by_cases hD0 : D < 0
          · skip
            go_wp2_with (at_builtin; refine wpList_app _ rfl (.tmp 70) (.tmp 72) _ rfl w1.heap.size 3 i0 _ 1 8 Tryd.underlying31 hi0 hz0 hz1 hz2 rfl Nat.zero_lt_one (.slice A5 k c5) k (i64s L) rfl (hown3.alloc _) (some ⟨w3.heap.size, 0, none⟩) 1 1 [.int .i64 (D + 10)] rfl (by repeat (first | with_reducible assumption | with_reducible exact Sl.new' (by simp; done) (by simp; done) (by simp; done) | with_reducible refine Sl.drew ?_ | with_reducible refine Sl.drewN ?_ _ | with_reducible refine Sl.alloc ?_ _ | with_reducible refine Sl.grow ?_ hb12 | with_reducible refine Sl.grow ?_ hb11 | with_reducible refine Sl.grow ?_ hb10 | with_reducible refine Sl.grow ?_ hb9 | with_reducible refine Sl.grow ?_ hb8 | with_reducible refine Sl.grow ?_ hb7 | with_reducible refine Sl.grow ?_ hb6 | with_reducible refine Sl.grow ?_ hb5 | with_reducible refine Sl.grow ?_ hb4 | with_reducible refine Sl.grow ?_ hb3 | with_reducible refine Sl.grow ?_ hb2 | with_reducible refine Sl.grow ?_ hb1 | with_reducible refine Sl.grow ?_ hb | assumption)) (by simp [Value.oneCell']) (by show _ ≤ 2 ^ 63 - 1; omega) (by omega) (by simp; omega) ?_; intro A6 c6 w6 hown6 hc6 hm6 hg6; have hb6 : Below w1.heap.size w3 w6 := Below.grown ((Below.refl _ _).alloc hsr3 _) hg6 (by simp; omega) (fun q hq => (hown3.lt q hq).1); have hX6 := hBx3.keep hb6 hXl; have hA6 := hBa3.keep hb6 (by omega); have hC6 := hBb3.keep hb6 (by omega); have hR6 := hBr3.keep hb6 (by omega); have hs6 := hb6.size; obtain ⟨y1, y2, y3, y4⟩ := id hX6; have ltX6 := hX6.lt; clear x1 x2 x3 x4)
            go_roundw
            case rel => exact ⟨k + 1, -1, L ++ [D + 10], by omega, by go_num, rfl, by omega, by omega, ⟨Dig.app hDL.out (Dig.mk (by omega) (by omega) Dig.nil), hst.out (-1) (D + 10) (by omega)⟩, (hbr3.trans (hb6.mono (by omega))).setCell (by simp; omega) _, by simpa [World.setCell] using (by omega : w1.heap.size ≤ w6.heap.size), hA6.other (by omega), hC6.other (by omega), hR6.other (by omega), A6, c6, hX6.set1, by rw [show i64s (L ++ [D + 10]) = i64s L ++ [.int .i64 (D + 10)] by simp]; exact own_setCell hown6 (by simp; omega) _, hc6, hm6⟩
            case measure => first | (simp [intOf]; done) | (simp [intOf]; omega)
          by_cases hD9 : 9 < D
          · skip
            go_wp2_with (at_builtin; refine wpList_app _ rfl (.tmp 70) (.tmp 72) _ rfl w1.heap.size 3 i0 _ 1 8 Tryd.underlying31 hi0 hz0 hz1 hz2 rfl Nat.zero_lt_one (.slice A5 k c5) k (i64s L) rfl (hown3.alloc _) (some ⟨w3.heap.size, 0, none⟩) 1 1 [.int .i64 (D - 10)] rfl (by repeat (first | with_reducible assumption | with_reducible exact Sl.new' (by simp; done) (by simp; done) (by simp; done) | with_reducible refine Sl.drew ?_ | with_reducible refine Sl.drewN ?_ _ | with_reducible refine Sl.alloc ?_ _ | with_reducible refine Sl.grow ?_ hb12 | with_reducible refine Sl.grow ?_ hb11 | with_reducible refine Sl.grow ?_ hb10 | with_reducible refine Sl.grow ?_ hb9 | with_reducible refine Sl.grow ?_ hb8 | with_reducible refine Sl.grow ?_ hb7 | with_reducible refine Sl.grow ?_ hb6 | with_reducible refine Sl.grow ?_ hb5 | with_reducible refine Sl.grow ?_ hb4 | with_reducible refine Sl.grow ?_ hb3 | with_reducible refine Sl.grow ?_ hb2 | with_reducible refine Sl.grow ?_ hb1 | with_reducible refine Sl.grow ?_ hb | assumption)) (by simp [Value.oneCell']) (by show _ ≤ 2 ^ 63 - 1; omega) (by omega) (by simp; omega) ?_; intro A6 c6 w6 hown6 hc6 hm6 hg6; have hb6 : Below w1.heap.size w3 w6 := Below.grown ((Below.refl _ _).alloc hsr3 _) hg6 (by simp; omega) (fun q hq => (hown3.lt q hq).1); have hX6 := hBx3.keep hb6 hXl; have hA6 := hBa3.keep hb6 (by omega); have hC6 := hBb3.keep hb6 (by omega); have hR6 := hBr3.keep hb6 (by omega); have hs6 := hb6.size; obtain ⟨y1, y2, y3, y4⟩ := id hX6; have ltX6 := hX6.lt; clear x1 x2 x3 x4)
            go_roundw
            case rel => exact ⟨k + 1, 1, L ++ [D - 10], by omega, by go_num, rfl, by omega, by omega, ⟨Dig.app hDL.out (Dig.mk (by omega) (by omega) Dig.nil), hst.out (1) (D - 10) (by omega)⟩, (hbr3.trans (hb6.mono (by omega))).setCell (by simp; omega) _, by simpa [World.setCell] using (by omega : w1.heap.size ≤ w6.heap.size), hA6.other (by omega), hC6.other (by omega), hR6.other (by omega), A6, c6, hX6.set1, by rw [show i64s (L ++ [D - 10]) = i64s L ++ [.int .i64 (D - 10)] by simp]; exact own_setCell hown6 (by simp; omega) _, hc6, hm6⟩
            case measure => first | (simp [intOf]; done) | (simp [intOf]; omega)
          · have hD9n : D ≤ 9 := by omega
            go_wp2_with (at_builtin; refine wpList_app _ rfl (.tmp 70) (.tmp 72) _ rfl w1.heap.size 3 i0 _ 1 8 Tryd.underlying31 hi0 hz0 hz1 hz2 rfl Nat.zero_lt_one (.slice A5 k c5) k (i64s L) rfl (hown3.alloc _) (some ⟨w3.heap.size, 0, none⟩) 1 1 [.int .i64 (D)] rfl (by repeat (first | with_reducible assumption | with_reducible exact Sl.new' (by simp; done) (by simp; done) (by simp; done) | with_reducible refine Sl.drew ?_ | with_reducible refine Sl.drewN ?_ _ | with_reducible refine Sl.alloc ?_ _ | with_reducible refine Sl.grow ?_ hb12 | with_reducible refine Sl.grow ?_ hb11 | with_reducible refine Sl.grow ?_ hb10 | with_reducible refine Sl.grow ?_ hb9 | with_reducible refine Sl.grow ?_ hb8 | with_reducible refine Sl.grow ?_ hb7 | with_reducible refine Sl.grow ?_ hb6 | with_reducible refine Sl.grow ?_ hb5 | with_reducible refine Sl.grow ?_ hb4 | with_reducible refine Sl.grow ?_ hb3 | with_reducible refine Sl.grow ?_ hb2 | with_reducible refine Sl.grow ?_ hb1 | with_reducible refine Sl.grow ?_ hb | assumption)) (by simp [Value.oneCell']) (by show _ ≤ 2 ^ 63 - 1; omega) (by omega) (by simp; omega) ?_; intro A6 c6 w6 hown6 hc6 hm6 hg6; have hb6 : Below w1.heap.size w3 w6 := Below.grown ((Below.refl _ _).alloc hsr3 _) hg6 (by simp; omega) (fun q hq => (hown3.lt q hq).1); have hX6 := hBx3.keep hb6 hXl; have hA6 := hBa3.keep hb6 (by omega); have hC6 := hBb3.keep hb6 (by omega); have hR6 := hBr3.keep hb6 (by omega); have hs6 := hb6.size; obtain ⟨y1, y2, y3, y4⟩ := id hX6; have ltX6 := hX6.lt; clear x1 x2 x3 x4)
            go_roundw
            case rel => exact ⟨k + 1, 0, L ++ [D], by omega, by go_num, rfl, by omega, by omega, ⟨Dig.app hDL.out (Dig.mk (by omega) (by omega) Dig.nil), hst.out (0) (D) (by omega)⟩, (hbr3.trans (hb6.mono (by omega))).setCell (by simp; omega) _, by simpa [World.setCell] using (by omega : w1.heap.size ≤ w6.heap.size), hA6.other (by omega), hC6.other (by omega), hR6.other (by omega), A6, c6, hX6.set1, by rw [show i64s (L ++ [D]) = i64s L ++ [.int .i64 (D)] by simp]; exact own_setCell hown6 (by simp; omega) _, hc6, hm6⟩
            case measure => first | (simp [intOf]; done) | (simp [intOf]; omega)
        · have hkM : k = M + 1 := by omega
          subst hkM
          have hLv : Hid (valD L = valD xs + (-1) * valD ys) := by
            have h2 := hI.out.2
            rw [List.take_of_length_le (by have := hlx.out; omega), List.take_of_length_le (by have := hly.out; omega)] at h2
            exact plus_end hI.out.1 hLk.out h2 hV.out hV1.out ⟨hc0, hc1'⟩
          have hT := Lib.hid (fun w hq => trim_any (-1) A5 (M + 1) c5 L w hq hI.out.1 hkc hcm)
          have hres : Hid (tsgn (-1) L = sgn ((-1) * (valD xs + (-1) * valD ys)) ∧ (valD L).toNat = ((-1) * (valD xs + (-1) * valD ys)).natAbs) := by
            unfold Hid tsgn
            rw [hLv.out]
            exact sgn_mul (by omega) hV.out
          have hs1 := Sl.of_own1 hown
          have ha1 := Abv.of_own hown
          obtain ⟨x1, x2, x3, x4⟩ := id hBx'
          have ltX := hBx'.lt
          clear hI hLv hLk hown
          go_wp2_with fail
          refine (hT.out _ (by repeat (first | with_reducible assumption | with_reducible exact Sl.new' (by simp; done) (by simp; done) (by simp; done) | with_reducible refine Sl.drew ?_ | with_reducible refine Sl.drewN ?_ _ | with_reducible refine Sl.alloc ?_ _ | with_reducible refine Sl.grow ?_ hb12 | with_reducible refine Sl.grow ?_ hb11 | with_reducible refine Sl.grow ?_ hb10 | with_reducible refine Sl.grow ?_ hb9 | with_reducible refine Sl.grow ?_ hb8 | with_reducible refine Sl.grow ?_ hb7 | with_reducible refine Sl.grow ?_ hb6 | with_reducible refine Sl.grow ?_ hb5 | with_reducible refine Sl.grow ?_ hb4 | with_reducible refine Sl.grow ?_ hb3 | with_reducible refine Sl.grow ?_ hb2 | with_reducible refine Sl.grow ?_ hb1 | with_reducible refine Sl.grow ?_ hb | assumption))).mono ?_
          rintro e w5 ⟨n5, rfl, hs5, hn5, hb5⟩
          rw [hres.out.1]
          rw [hres.out.2] at hs5
          obtain ⟨r1, r2, r3, r4⟩ := hBr'.grow hb5
          have ltR := cell_lt r1
          have hs6 := hb5.size
          go_wp2_with fail
          refine bodyPost_ret (v := .agg #[.int .i64 (sgn ((-1) * (valD xs + (-1) * valD ys))), .slice A5 n5 c5]) (by simp only [results, Tryd.results19]; go_simp) rfl ⟨A5, n5, c5, rfl, ⟨?_, hn5, hcm⟩, ha1.mono (by omega), ?_⟩
          · exact Sl.setCell (Sl.setCell hs5 ha1 (by simp; omega) _) ha1 (by simp; omega) _
          · exact ((G.trans hbr hb5).setCell (by simp; omega) _).setCell (by simp; omega) _
    · have hc2 : ¬ (M : Int) ≤ (n : Int) := by omega
      go_enter Tryd.func19, Tryd.ntmps19
      go_wp2_with fail
      refine (AB.out _ (by repeat (first | with_reducible assumption | with_reducible exact Sl.new' (by simp; done) (by simp; done) (by simp; done) | with_reducible refine Sl.drew ?_ | with_reducible refine Sl.drewN ?_ _ | with_reducible refine Sl.alloc ?_ _ | with_reducible refine Sl.grow ?_ hb12 | with_reducible refine Sl.grow ?_ hb11 | with_reducible refine Sl.grow ?_ hb10 | with_reducible refine Sl.grow ?_ hb9 | with_reducible refine Sl.grow ?_ hb8 | with_reducible refine Sl.grow ?_ hb7 | with_reducible refine Sl.grow ?_ hb6 | with_reducible refine Sl.grow ?_ hb5 | with_reducible refine Sl.grow ?_ hb4 | with_reducible refine Sl.grow ?_ hb3 | with_reducible refine Sl.grow ?_ hb2 | with_reducible refine Sl.grow ?_ hb1 | with_reducible refine Sl.grow ?_ hb | assumption)) (by repeat (first | with_reducible assumption | with_reducible exact Sl.new' (by simp; done) (by simp; done) (by simp; done) | with_reducible refine Sl.drew ?_ | with_reducible refine Sl.drewN ?_ _ | with_reducible refine Sl.alloc ?_ _ | with_reducible refine Sl.grow ?_ hb12 | with_reducible refine Sl.grow ?_ hb11 | with_reducible refine Sl.grow ?_ hb10 | with_reducible refine Sl.grow ?_ hb9 | with_reducible refine Sl.grow ?_ hb8 | with_reducible refine Sl.grow ?_ hb7 | with_reducible refine Sl.grow ?_ hb6 | with_reducible refine Sl.grow ?_ hb5 | with_reducible refine Sl.grow ?_ hb4 | with_reducible refine Sl.grow ?_ hb3 | with_reducible refine Sl.grow ?_ hb2 | with_reducible refine Sl.grow ?_ hb1 | with_reducible refine Sl.grow ?_ hb | assumption))).mono ?_
      rintro e w0 ⟨rfl, hb0⟩
      
      replace k0 := G.cell (a := ⟨w.heap.size, 0, none⟩) (v := .int .i64 (-1)) (by go_simp) hb0
      replace k1 := G.cell (a := ⟨w.heap.size, 1, none⟩) (v := .slice A n c) (by go_simp) hb0
      replace k2 := G.cell (a := ⟨w.heap.size + 1, 0, none⟩) (v := .int .i64 1) (by go_simp) hb0
      replace k3 := G.cell (a := ⟨w.heap.size + 1, 1, none⟩) (v := .slice B M d) (by go_simp) hb0
      replace k4 := G.cell (a := ⟨w.heap.size + 1 + 1, 0, none⟩) (v := .int .i64 0) (by go_simp) hb0
      replace k5 := G.cell (a := ⟨w.heap.size + 1 + 1, 1, none⟩) (v := .slice none 0 0) (by go_simp) hb0
      replace lt0 := cell_lt k0
      replace lt1 := cell_lt k1
      replace lt2 := cell_lt k2
      replace lt3 := cell_lt k3
      replace lt4 := cell_lt k4
      replace lt5 := cell_lt k5
      obtain ⟨hc0, hf0⟩ := G.old hb0
      have z0 : w0.frozen? ⟨w.heap.size, 0, none⟩ = false := (hf0 _ _ (by simp; omega)).trans (by go_simp)
      have z1 : w0.frozen? ⟨w.heap.size, 1, none⟩ = false := (hf0 _ _ (by simp; omega)).trans (by go_simp)
      have z2 : w0.frozen? ⟨w.heap.size + 1, 0, none⟩ = false := (hf0 _ _ (by simp)).trans (by go_simp)
      have z3 : w0.frozen? ⟨w.heap.size + 1, 1, none⟩ = false := (hf0 _ _ (by simp)).trans (by go_simp)
      have z4 : w0.frozen? ⟨w.heap.size + 1 + 1, 0, none⟩ = false := (hf0 _ _ (by simp)).trans (by go_simp)
      have z5 : w0.frozen? ⟨w.heap.size + 1 + 1, 1, none⟩ = false := (hf0 _ _ (by simp)).trans (by go_simp)
      have q0 : Box2 w0 w.heap.size (.int .i64 (-1)) (.slice A n c) := ⟨k0, k1, z0, z1⟩
      have q1 : Box2 w0 (w.heap.size + 1) (.int .i64 1) (.slice B M d) := ⟨k2, k3, z2, z3⟩
      have q2 : Box2 w0 (w.heap.size + 1 + 1) (.int .i64 0) (.slice none 0 0) := ⟨k4, k5, z4, z5⟩
      have hbw : Below w.heap.size w w0 := G.trans (by repeat (first | with_reducible assumption | with_reducible exact G.refl _ | with_reducible refine G.drew ?_ | with_reducible refine G.drewN ?_ _ | with_reducible refine G.alloc ?_ _ | with_reducible refine Below.setCell ?_ (by first | (simp; done) | (simp; omega)) _ | with_reducible refine G.trans ?_ hb12 | with_reducible refine G.trans ?_ hb11 | with_reducible refine G.trans ?_ hb10 | with_reducible refine G.trans ?_ hb9 | with_reducible refine G.trans ?_ hb8 | with_reducible refine G.trans ?_ hb7 | with_reducible refine G.trans ?_ hb6 | with_reducible refine G.trans ?_ hb5 | with_reducible refine G.trans ?_ hb4 | with_reducible refine G.trans ?_ hb3 | with_reducible refine G.trans ?_ hb2 | with_reducible refine G.trans ?_ hb1 | with_reducible refine G.trans ?_ hb | assumption)) hb0
      have sz0 := hb0.size
      simp at sz0
      clear hc0 hf0 hb0
      go_wp2_with fail
      obtain ⟨X, hXe⟩ : ∃ X, w0.heap.size = X := ⟨_, rfl⟩
      refine wp_name (fun w1 => Below w.heap.size w w1 ∧ w.heap.size + 1 + 1 < X ∧ X < w1.heap.size ∧ Box2 w1 w.heap.size (.int .i64 (-1)) (.slice A n c) ∧ Box2 w1 (w.heap.size + 1) (.int .i64 1) (.slice B M d) ∧ Box2 w1 (w.heap.size + 1 + 1) (.int .i64 0) (.slice none 0 0) ∧ Box2 w1 X (.int .i64 (-1)) (.slice none 0 0)) ⟨by repeat (first | with_reducible assumption | with_reducible exact G.refl _ | with_reducible refine G.drew ?_ | with_reducible refine G.drewN ?_ _ | with_reducible refine G.alloc ?_ _ | with_reducible refine Below.setCell ?_ (by first | (simp; done) | (simp; omega)) _ | with_reducible refine G.trans ?_ hb12 | with_reducible refine G.trans ?_ hb11 | with_reducible refine G.trans ?_ hb10 | with_reducible refine G.trans ?_ hb9 | with_reducible refine G.trans ?_ hb8 | with_reducible refine G.trans ?_ hb7 | with_reducible refine G.trans ?_ hb6 | with_reducible refine G.trans ?_ hb5 | with_reducible refine G.trans ?_ hb4 | with_reducible refine G.trans ?_ hb3 | with_reducible refine G.trans ?_ hb2 | with_reducible refine G.trans ?_ hb1 | with_reducible refine G.trans ?_ hb | assumption), by rw [← hXe]; omega, by rw [← hXe]; simp, by repeat (first | with_reducible assumption | (exact Box2.new (by simp; done)) | with_reducible refine Box2.alloc ?_ _ | with_reducible refine Box2.grow ?_ hb12 | with_reducible refine Box2.grow ?_ hb5 | with_reducible refine Box2.grow ?_ hb4 | with_reducible refine Box2.grow ?_ hb3 | with_reducible refine Box2.grow ?_ hb2 | with_reducible refine Box2.grow ?_ hb1 | with_reducible refine Box2.grow ?_ hb | assumption), by repeat (first | with_reducible assumption | (exact Box2.new (by simp; done)) | with_reducible refine Box2.alloc ?_ _ | with_reducible refine Box2.grow ?_ hb12 | with_reducible refine Box2.grow ?_ hb5 | with_reducible refine Box2.grow ?_ hb4 | with_reducible refine Box2.grow ?_ hb3 | with_reducible refine Box2.grow ?_ hb2 | with_reducible refine Box2.grow ?_ hb1 | with_reducible refine Box2.grow ?_ hb | assumption), by repeat (first | with_reducible assumption | (exact Box2.new (by simp; done)) | with_reducible refine Box2.alloc ?_ _ | with_reducible refine Box2.grow ?_ hb12 | with_reducible refine Box2.grow ?_ hb5 | with_reducible refine Box2.grow ?_ hb4 | with_reducible refine Box2.grow ?_ hb3 | with_reducible refine Box2.grow ?_ hb2 | with_reducible refine Box2.grow ?_ hb1 | with_reducible refine Box2.grow ?_ hb | assumption), by rw [← hXe]; repeat (first | with_reducible assumption | (exact Box2.new (by simp; done)) | with_reducible refine Box2.alloc ?_ _ | with_reducible refine Box2.grow ?_ hb12 | with_reducible refine Box2.grow ?_ hb5 | with_reducible refine Box2.grow ?_ hb4 | with_reducible refine Box2.grow ?_ hb3 | with_reducible refine Box2.grow ?_ hb2 | with_reducible refine Box2.grow ?_ hb1 | with_reducible refine Box2.grow ?_ hb | assumption)⟩ ?_
      clear k0 k1 k2 k3 k4 k5 lt0 lt1 lt2 lt3 lt4 lt5 z0 z1 z2 z3 z4 z5 q0 q1 q2 hbw sz0
      rintro w1 ⟨hb1, hX2, hXl, hBa, hBb, hBr, hBx⟩
      rw [hXe]
      clear hXe
      have DX := Lib.hid (fun w k hq => digit_any (-1) A n c xs k w hq (by unfold maxLen; omega))
      have DY := Lib.hid (fun w k hq => digit_any 1 B M d ys k w hq (by unfold maxLen; omega))
      go_loopw [6, 7] (fun cv iv wr => ∃ (k : Nat) (cy : Int) (L : List Int), k ≤ M + 1 ∧ iv = .int .i64 k ∧ cv = .int .i64 cy ∧ -1 ≤ cy ∧ cy ≤ 1 ∧ Hid (Dig L ∧ valD L + p10 k * cy = valD (xs.take k) + (-1) * valD (ys.take k)) ∧ Below w.heap.size w wr ∧ w1.heap.size ≤ wr.heap.size ∧ Box2 wr w.heap.size (.int .i64 (-1)) (.slice A n c) ∧ Box2 wr (w.heap.size + 1) (.int .i64 1) (.slice B M d) ∧ Box2 wr (w.heap.size + 1 + 1) (.int .i64 0) (.slice none 0 0) ∧ Acc wr X w1.heap.size (.int .i64 (-1)) k L) (fun _ iv _ => M + 1 - (intOf iv).toNat)
      case atStart => exact ⟨0, 0, [], by omega, rfl, rfl, by omega, by omega, ⟨Dig.nil, by simp [valD]⟩, hb1, Nat.le_refl _, hBa, hBb, hBr, none, 0, hBx, World.ownsRow_nil _ _ _ _, Nat.le_refl _, Nat.zero_le _⟩
      case round =>
        obtain ⟨k, cy, L, hk, rfl, rfl, hc0, hc1', hI, hbr, hsr, hBa', hBb', hBr', A5, c5, hBx', hown, hkc, hcm⟩ := hrel
        have hLk := Lib.hid (show L.length = k by have := hown.1; simpa using this)
        obtain ⟨a0, a1, _, _⟩ := id hBa'
        obtain ⟨b0, b1, _, _⟩ := id hBb'
        have lta := hBa'.lt
        have ltb := hBb'.lt
        by_cases hlt : k < M + 1
        · have hxr : Sl wr A n (i64s xs) := hx.grow hbr
          have hyr : Sl wr B M (i64s ys) := hy.grow hbr
          have hp0 := dg_dig HX.out k
          have hq0 := dg_dig HY.out k
          have hst := Lib.hid (fun cy' e he => plus_step (st := (-1)) (cy' := cy') (e := e) (xs := xs) (ys := ys) hLk.out hI.out.2 he)
          have hDL := Lib.hid hI.out.1
          generalize hp : dg xs k = p at *
          generalize hq : dg ys k = q at *
          have hp' := Lib.hid hp
          have hq' := Lib.hid hq
          obtain ⟨hp1, hp2⟩ := hp0
          obtain ⟨hq1, hq2⟩ := hq0
          have hLi := Lib.hid hI.out
          clear hp hq hI
          go_wp2_with fail
          refine wp_region_ord [(0, 1), (1, 1), (3, 1), (4, 1), (5, 1), (6, 1), (7, 1), (8, 1), (9, 1), (13, 1), (2, 2), (10, 2), (11, 1), (12, 1), (14, 1), (15, 1)] [] 5 (by kernel_rfl) (by decide +kernel) ?_
          simp only [pickO, List.getElem?_cons_succ, List.getElem?_cons_zero]
          intro w0 hG
          (repeat ((first | (with_reducible refine ord_q1 ?_) | (with_reducible refine ord_q0 ?_)); intro K hK; first | (refine Or.inr ⟨?_, ?_⟩; (focus (go_simp; first | done | (simp [undef]; done))); go_simp; (with_reducible refine hK _ ?_); clear hK K) | (refine Or.inl ⟨?_, ?_⟩; (focus (go_simp; done)); apply Exists.intro; refine And.intro ?_ ?_; (focus (first | (intro wq hq; obtain ⟨hcq, hfq⟩ := G.old hq; go_simp; (first | done | exact rfl); done) | (intro wq; go_simp; (first | done | exact rfl); done))); go_simp; (with_reducible refine hK _ ?_); clear hK K) | fail))
          (with_reducible refine ord_run ?_ hG)
          intro K hK
          go_simp
          go_at_call 47; (with_reducible refine (DX.out _ k (hxr.grow hG.b)).mono ?_); rintro e w2 ⟨rfl, hb2⟩; rw [hp'.out]
          replace hG := Grew.trans hG hb2
          (try dsimp only)
          (with_reducible refine hK _ _ hG ?_)
          clear hK K
          (repeat ((first | (with_reducible refine ord_q1 ?_) | (with_reducible refine ord_q0 ?_)); intro K hK; first | (refine Or.inr ⟨?_, ?_⟩; (focus (go_simp; first | done | (simp [undef]; done))); go_simp; (with_reducible refine hK _ ?_); clear hK K) | (refine Or.inl ⟨?_, ?_⟩; (focus (go_simp; done)); apply Exists.intro; refine And.intro ?_ ?_; (focus (first | (intro wq hq; obtain ⟨hcq, hfq⟩ := G.old hq; go_simp; (first | done | exact rfl); done) | (intro wq; go_simp; (first | done | exact rfl); done))); go_simp; (with_reducible refine hK _ ?_); clear hK K) | fail))
          (with_reducible refine ord_run ?_ hG)
          intro K hK
          go_simp
          go_at_call 47; (with_reducible refine (DY.out _ k (hyr.grow hG.b)).mono ?_); rintro e w3 ⟨rfl, hb3⟩; rw [hq'.out]
          replace hG := Grew.trans hG hb3
          (try dsimp only)
          (with_reducible refine hK _ _ hG ?_)
          clear hK K
          (repeat ((first | (with_reducible refine ord_q1 ?_) | (with_reducible refine ord_q0 ?_)); intro K hK; first | (refine Or.inr ⟨?_, ?_⟩; (focus (go_simp; first | done | (simp [undef]; done))); go_simp; (with_reducible refine hK _ ?_); clear hK K) | (refine Or.inl ⟨?_, ?_⟩; (focus (go_simp; done)); apply Exists.intro; refine And.intro ?_ ?_; (focus (first | (intro wq hq; obtain ⟨hcq, hfq⟩ := G.old hq; go_simp; (first | done | exact rfl); done) | (intro wq; go_simp; (first | done | exact rfl); done))); go_simp; (with_reducible refine hK _ ?_); clear hK K) | fail))
          (with_reducible refine ord_nil ?_)
          obtain ⟨D, hD⟩ : ∃ D, p + (-1) * q + cy = D := ⟨_, rfl⟩
          have hDD : IntKind.i64.wrap (IntKind.i64.wrap (p + IntKind.i64.wrap (IntKind.i64.wrap (-1) * q)) + cy) = D := by
            rw [show IntKind.i64.wrap (-1) = (-1) by decide, show IntKind.i64.wrap ((-1) * q) = (-1) * q from IntWalk.i64_in _ (by omega), show IntKind.i64.wrap (p + (-1) * q) = p + (-1) * q from IntWalk.i64_in _ (by omega), show IntKind.i64.wrap (p + (-1) * q + cy) = p + (-1) * q + cy from IntWalk.i64_in _ (by omega), hD]
          have hDb : -10 ≤ D ∧ D ≤ 19 := by omega
          obtain ⟨hDb1, hDb2⟩ := hDb
          have hD' := Lib.hid hD
          replace hst := Lib.hid (fun cy' e (he : e + 10 * cy' = D) => hst.out cy' e (he.trans hD.symm))
          have hbr3 := G.trans hbr hG.b
          have hsr3 := Nat.le_trans hsr hG.b.size
          have hBa3 := hBa'.grow hG.b
          have hBb3 := hBb'.grow hG.b
          have hBr3 := hBr'.grow hG.b
          have hBx3 := hBx'.grow hG.b
          have hown3 := own_grow hown hG.b
          obtain ⟨x1, x2, x3, x4⟩ := id hBx3
          have ltX3 := hBx3.lt
          clear hG hb2 hb3 hown hBa' hBb' hBr' hBx' hbr hsr hxr hyr a0 a1 b0 b1 lta ltb hD hp1 hp2 hq1 hq2
          by_cases hD0 : D < 0
          · skip
            go_wp2_with (at_builtin; refine wpList_app _ rfl (.tmp 70) (.tmp 72) _ rfl w1.heap.size 3 i0 _ 1 8 Tryd.underlying31 hi0 hz0 hz1 hz2 rfl Nat.zero_lt_one (.slice A5 k c5) k (i64s L) rfl (hown3.alloc _) (some ⟨w3.heap.size, 0, none⟩) 1 1 [.int .i64 (D + 10)] rfl (by repeat (first | with_reducible assumption | with_reducible exact Sl.new' (by simp; done) (by simp; done) (by simp; done) | with_reducible refine Sl.drew ?_ | with_reducible refine Sl.drewN ?_ _ | with_reducible refine Sl.alloc ?_ _ | with_reducible refine Sl.grow ?_ hb12 | with_reducible refine Sl.grow ?_ hb11 | with_reducible refine Sl.grow ?_ hb10 | with_reducible refine Sl.grow ?_ hb9 | with_reducible refine Sl.grow ?_ hb8 | with_reducible refine Sl.grow ?_ hb7 | with_reducible refine Sl.grow ?_ hb6 | with_reducible refine Sl.grow ?_ hb5 | with_reducible refine Sl.grow ?_ hb4 | with_reducible refine Sl.grow ?_ hb3 | with_reducible refine Sl.grow ?_ hb2 | with_reducible refine Sl.grow ?_ hb1 | with_reducible refine Sl.grow ?_ hb | assumption)) (by simp [Value.oneCell']) (by show _ ≤ 2 ^ 63 - 1; omega) (by omega) (by simp; omega) ?_; intro A6 c6 w6 hown6 hc6 hm6 hg6; have hb6 : Below w1.heap.size w3 w6 := Below.grown ((Below.refl _ _).alloc hsr3 _) hg6 (by simp; omega) (fun q hq => (hown3.lt q hq).1); have hX6 := hBx3.keep hb6 hXl; have hA6 := hBa3.keep hb6 (by omega); have hC6 := hBb3.keep hb6 (by omega); have hR6 := hBr3.keep hb6 (by omega); have hs6 := hb6.size; obtain ⟨y1, y2, y3, y4⟩ := id hX6; have ltX6 := hX6.lt; clear x1 x2 x3 x4)
            go_roundw
            case rel => exact ⟨k + 1, -1, L ++ [D + 10], by omega, by go_num, rfl, by omega, by omega, ⟨Dig.app hDL.out (Dig.mk (by omega) (by omega) Dig.nil), hst.out (-1) (D + 10) (by omega)⟩, (hbr3.trans (hb6.mono (by omega))).setCell (by simp; omega) _, by simpa [World.setCell] using (by omega : w1.heap.size ≤ w6.heap.size), hA6.other (by omega), hC6.other (by omega), hR6.other (by omega), A6, c6, hX6.set1, by rw [show i64s (L ++ [D + 10]) = i64s L ++ [.int .i64 (D + 10)] by simp]; exact own_setCell hown6 (by simp; omega) _, hc6, hm6⟩
            case measure => first | (simp [intOf]; done) | (simp [intOf]; omega)
          by_cases hD9 : 9 < D
          · skip
            go_wp2_with (at_builtin; refine wpList_app _ rfl (.tmp 70) (.tmp 72) _ rfl w1.heap.size 3 i0 _ 1 8 Tryd.underlying31 hi0 hz0 hz1 hz2 rfl Nat.zero_lt_one (.slice A5 k c5) k (i64s L) rfl (hown3.alloc _) (some ⟨w3.heap.size, 0, none⟩) 1 1 [.int .i64 (D - 10)] rfl (by repeat (first | with_reducible assumption | with_reducible exact Sl.new' (by simp; done) (by simp; done) (by simp; done) | with_reducible refine Sl.drew ?_ | with_reducible refine Sl.drewN ?_ _ | with_reducible refine Sl.alloc ?_ _ | with_reducible refine Sl.grow ?_ hb12 | with_reducible refine Sl.grow ?_ hb11 | with_reducible refine Sl.grow ?_ hb10 | with_reducible refine Sl.grow ?_ hb9 | with_reducible refine Sl.grow ?_ hb8 | with_reducible refine Sl.grow ?_ hb7 | with_reducible refine Sl.grow ?_ hb6 | with_reducible refine Sl.grow ?_ hb5 | with_reducible refine Sl.grow ?_ hb4 | with_reducible refine Sl.grow ?_ hb3 | with_reducible refine Sl.grow ?_ hb2 | with_reducible refine Sl.grow ?_ hb1 | with_reducible refine Sl.grow ?_ hb | assumption)) (by simp [Value.oneCell']) (by show _ ≤ 2 ^ 63 - 1; omega) (by omega) (by simp; omega) ?_; intro A6 c6 w6 hown6 hc6 hm6 hg6; have hb6 : Below w1.heap.size w3 w6 := Below.grown ((Below.refl _ _).alloc hsr3 _) hg6 (by simp; omega) (fun q hq => (hown3.lt q hq).1); have hX6 := hBx3.keep hb6 hXl; have hA6 := hBa3.keep hb6 (by omega); have hC6 := hBb3.keep hb6 (by omega); have hR6 := hBr3.keep hb6 (by omega); have hs6 := hb6.size; obtain ⟨y1, y2, y3, y4⟩ := id hX6; have ltX6 := hX6.lt; clear x1 x2 x3 x4)
            go_roundw
            case rel => exact ⟨k + 1, 1, L ++ [D - 10], by omega, by go_num, rfl, by omega, by omega, ⟨Dig.app hDL.out (Dig.mk (by omega) (by omega) Dig.nil), hst.out (1) (D - 10) (by omega)⟩, (hbr3.trans (hb6.mono (by omega))).setCell (by simp; omega) _, by simpa [World.setCell] using (by omega : w1.heap.size ≤ w6.heap.size), hA6.other (by omega), hC6.other (by omega), hR6.other (by omega), A6, c6, hX6.set1, by rw [show i64s (L ++ [D - 10]) = i64s L ++ [.int .i64 (D - 10)] by simp]; exact own_setCell hown6 (by simp; omega) _, hc6, hm6⟩
            case measure => first | (simp [intOf]; done) | (simp [intOf]; omega)
          · have hD9n : D ≤ 9 := by omega
            go_wp2_with (at_builtin; refine wpList_app _ rfl (.tmp 70) (.tmp 72) _ rfl w1.heap.size 3 i0 _ 1 8 Tryd.underlying31 hi0 hz0 hz1 hz2 rfl Nat.zero_lt_one (.slice A5 k c5) k (i64s L) rfl (hown3.alloc _) (some ⟨w3.heap.size, 0, none⟩) 1 1 [.int .i64 (D)] rfl (by repeat (first | with_reducible assumption | with_reducible exact Sl.new' (by simp; done) (by simp; done) (by simp; done) | with_reducible refine Sl.drew ?_ | with_reducible refine Sl.drewN ?_ _ | with_reducible refine Sl.alloc ?_ _ | with_reducible refine Sl.grow ?_ hb12 | with_reducible refine Sl.grow ?_ hb11 | with_reducible refine Sl.grow ?_ hb10 | with_reducible refine Sl.grow ?_ hb9 | with_reducible refine Sl.grow ?_ hb8 | with_reducible refine Sl.grow ?_ hb7 | with_reducible refine Sl.grow ?_ hb6 | with_reducible refine Sl.grow ?_ hb5 | with_reducible refine Sl.grow ?_ hb4 | with_reducible refine Sl.grow ?_ hb3 | with_reducible refine Sl.grow ?_ hb2 | with_reducible refine Sl.grow ?_ hb1 | with_reducible refine Sl.grow ?_ hb | assumption)) (by simp [Value.oneCell']) (by show _ ≤ 2 ^ 63 - 1; omega) (by omega) (by simp; omega) ?_; intro A6 c6 w6 hown6 hc6 hm6 hg6; have hb6 : Below w1.heap.size w3 w6 := Below.grown ((Below.refl _ _).alloc hsr3 _) hg6 (by simp; omega) (fun q hq => (hown3.lt q hq).1); have hX6 := hBx3.keep hb6 hXl; have hA6 := hBa3.keep hb6 (by omega); have hC6 := hBb3.keep hb6 (by omega); have hR6 := hBr3.keep hb6 (by omega); have hs6 := hb6.size; obtain ⟨y1, y2, y3, y4⟩ := id hX6; have ltX6 := hX6.lt; clear x1 x2 x3 x4)
            go_roundw
            case rel => exact ⟨k + 1, 0, L ++ [D], by omega, by go_num, rfl, by omega, by omega, ⟨Dig.app hDL.out (Dig.mk (by omega) (by omega) Dig.nil), hst.out (0) (D) (by omega)⟩, (hbr3.trans (hb6.mono (by omega))).setCell (by simp; omega) _, by simpa [World.setCell] using (by omega : w1.heap.size ≤ w6.heap.size), hA6.other (by omega), hC6.other (by omega), hR6.other (by omega), A6, c6, hX6.set1, by rw [show i64s (L ++ [D]) = i64s L ++ [.int .i64 (D)] by simp]; exact own_setCell hown6 (by simp; omega) _, hc6, hm6⟩
            case measure => first | (simp [intOf]; done) | (simp [intOf]; omega)
        · have hkM : k = M + 1 := by omega
          subst hkM
          have hLv : Hid (valD L = valD xs + (-1) * valD ys) := by
            have h2 := hI.out.2
            rw [List.take_of_length_le (by have := hlx.out; omega), List.take_of_length_le (by have := hly.out; omega)] at h2
            exact plus_end hI.out.1 hLk.out h2 hV.out hV1.out ⟨hc0, hc1'⟩
          have hT := Lib.hid (fun w hq => trim_any (-1) A5 (M + 1) c5 L w hq hI.out.1 hkc hcm)
          have hres : Hid (tsgn (-1) L = sgn ((-1) * (valD xs + (-1) * valD ys)) ∧ (valD L).toNat = ((-1) * (valD xs + (-1) * valD ys)).natAbs) := by
            unfold Hid tsgn
            rw [hLv.out]
            exact sgn_mul (by omega) hV.out
          have hs1 := Sl.of_own1 hown
          have ha1 := Abv.of_own hown
          obtain ⟨x1, x2, x3, x4⟩ := id hBx'
          have ltX := hBx'.lt
          clear hI hLv hLk hown
          go_wp2_with fail
          refine (hT.out _ (by repeat (first | with_reducible assumption | with_reducible exact Sl.new' (by simp; done) (by simp; done) (by simp; done) | with_reducible refine Sl.drew ?_ | with_reducible refine Sl.drewN ?_ _ | with_reducible refine Sl.alloc ?_ _ | with_reducible refine Sl.grow ?_ hb12 | with_reducible refine Sl.grow ?_ hb11 | with_reducible refine Sl.grow ?_ hb10 | with_reducible refine Sl.grow ?_ hb9 | with_reducible refine Sl.grow ?_ hb8 | with_reducible refine Sl.grow ?_ hb7 | with_reducible refine Sl.grow ?_ hb6 | with_reducible refine Sl.grow ?_ hb5 | with_reducible refine Sl.grow ?_ hb4 | with_reducible refine Sl.grow ?_ hb3 | with_reducible refine Sl.grow ?_ hb2 | with_reducible refine Sl.grow ?_ hb1 | with_reducible refine Sl.grow ?_ hb | assumption))).mono ?_
          rintro e w5 ⟨n5, rfl, hs5, hn5, hb5⟩
          rw [hres.out.1]
          rw [hres.out.2] at hs5
          obtain ⟨r1, r2, r3, r4⟩ := hBr'.grow hb5
          have ltR := cell_lt r1
          have hs6 := hb5.size
          go_wp2_with fail
          refine bodyPost_ret (v := .agg #[.int .i64 (sgn ((-1) * (valD xs + (-1) * valD ys))), .slice A5 n5 c5]) (by simp only [results, Tryd.results19]; go_simp) rfl ⟨A5, n5, c5, rfl, ⟨?_, hn5, hcm⟩, ha1.mono (by omega), ?_⟩
          · exact Sl.setCell (Sl.setCell hs5 ha1 (by simp; omega) _) ha1 (by simp; omega) _
          · exact ((G.trans hbr hb5).setCell (by simp; omega) _).setCell (by simp; omega) _
  rcases Nat.lt_or_ge n m with h | h
  · exact body m hm (by omega) (by omega) (.inr ⟨h, rfl⟩)
  · exact body n hn (by omega) (by omega) (.inl ⟨h, rfl⟩)

set_option maxRecDepth 20000 in set_option maxHeartbeats 2000000 in
theorem plus_mm (A B : Option Addr) (n m c d : Nat) (xs ys : List Int) (w : World) (hx : Sl w A n (i64s xs)) (hy : Sl w B m (i64s ys)) (hdx : Dig xs) (hdy : Dig ys) (hn : n ≤ 1000) (hm : m ≤ 1000) :
    Calls Tryd.prog 19 #[.agg #[.int .i64 (-1), .slice A n c], .agg #[.int .i64 (-1), .slice B m d]] w (RetW ((-1) * (valD xs + 1 * valD ys)) w) := by
  obtain ⟨i0, hi0, hz0, hz1, hz2⟩ := info_parts Tryd.infoI
  have hlx := Lib.hid hx.len
  have hly := Lib.hid hy.len
  have HX := Lib.hid hdx
  have HY := Lib.hid hdy
  have hV0 : 0 ≤ valD xs + 1 * valD ys := by have h1 := valD_nonneg hdx; have h2 := valD_nonneg hdy; omega
  have hV := Lib.hid hV0
  have body : ∀ M : Nat, M ≤ 1000 → n ≤ M → m ≤ M → ((m ≤ n ∧ M = n) ∨ (n < m ∧ M = m)) → Calls Tryd.prog 19 #[.agg #[.int .i64 (-1), .slice A n c], .agg #[.int .i64 (-1), .slice B m d]] w (RetW ((-1) * (valD xs + 1 * valD ys)) w) := by
    intro M hM hnM hmM hcase
    have hV1 : Hid (valD xs + 1 * valD ys < p10 (M + 1)) := by
      have h1 := valD_lt hdx
      have h2 := valD_lt hdy
      have h3 := valD_nonneg hdy
      have h4 := p10_mono (show xs.length ≤ M by have := hlx.out; omega)
      have h5 := p10_mono (show ys.length ≤ M by have := hly.out; omega)
      have h6 := p10_pos M
      unfold Hid
      rw [p10_succ]
      omega
    clear hdx hdy hV0
    rcases hcase with ⟨hc1, rfl⟩ | ⟨hc1, rfl⟩
    · have hc2 : (m : Int) ≤ (M : Int) := by omega
      go_enter Tryd.func19, Tryd.ntmps19
      go_wp2_with fail
      obtain ⟨X, hXe⟩ : ∃ X, w.heap.size + 1 + 1 + 1 = X := ⟨_, rfl⟩
      refine wp_name (fun w1 => Below w.heap.size w w1 ∧ w.heap.size + 1 + 1 < X ∧ X < w1.heap.size ∧ Box2 w1 w.heap.size (.int .i64 (-1)) (.slice A M c) ∧ Box2 w1 (w.heap.size + 1) (.int .i64 (-1)) (.slice B m d) ∧ Box2 w1 (w.heap.size + 1 + 1) (.int .i64 0) (.slice none 0 0) ∧ Box2 w1 X (.int .i64 (-1)) (.slice none 0 0)) ⟨by repeat (first | with_reducible assumption | with_reducible exact G.refl _ | with_reducible refine G.drew ?_ | with_reducible refine G.drewN ?_ _ | with_reducible refine G.alloc ?_ _ | with_reducible refine Below.setCell ?_ (by first | (simp; done) | (simp; omega)) _ | with_reducible refine G.trans ?_ hb12 | with_reducible refine G.trans ?_ hb11 | with_reducible refine G.trans ?_ hb10 | with_reducible refine G.trans ?_ hb9 | with_reducible refine G.trans ?_ hb8 | with_reducible refine G.trans ?_ hb7 | with_reducible refine G.trans ?_ hb6 | with_reducible refine G.trans ?_ hb5 | with_reducible refine G.trans ?_ hb4 | with_reducible refine G.trans ?_ hb3 | with_reducible refine G.trans ?_ hb2 | with_reducible refine G.trans ?_ hb1 | with_reducible refine G.trans ?_ hb | assumption), by rw [← hXe]; omega, by rw [← hXe]; simp, by repeat (first | with_reducible assumption | (exact Box2.new (by simp; done)) | with_reducible refine Box2.alloc ?_ _ | with_reducible refine Box2.grow ?_ hb12 | with_reducible refine Box2.grow ?_ hb5 | with_reducible refine Box2.grow ?_ hb4 | with_reducible refine Box2.grow ?_ hb3 | with_reducible refine Box2.grow ?_ hb2 | with_reducible refine Box2.grow ?_ hb1 | with_reducible refine Box2.grow ?_ hb | assumption), by repeat (first | with_reducible assumption | (exact Box2.new (by simp; done)) | with_reducible refine Box2.alloc ?_ _ | with_reducible refine Box2.grow ?_ hb12 | with_reducible refine Box2.grow ?_ hb5 | with_reducible refine Box2.grow ?_ hb4 | with_reducible refine Box2.grow ?_ hb3 | with_reducible refine Box2.grow ?_ hb2 | with_reducible refine Box2.grow ?_ hb1 | with_reducible refine Box2.grow ?_ hb | assumption), by repeat (first | with_reducible assumption | (exact Box2.new (by simp; done)) | with_reducible refine Box2.alloc ?_ _ | with_reducible refine Box2.grow ?_ hb12 | with_reducible refine Box2.grow ?_ hb5 | with_reducible refine Box2.grow ?_ hb4 | with_reducible refine Box2.grow ?_ hb3 | with_reducible refine Box2.grow ?_ hb2 | with_reducible refine Box2.grow ?_ hb1 | with_reducible refine Box2.grow ?_ hb | assumption), by rw [← hXe]; repeat (first | with_reducible assumption | (exact Box2.new (by simp; done)) | with_reducible refine Box2.alloc ?_ _ | with_reducible refine Box2.grow ?_ hb12 | with_reducible refine Box2.grow ?_ hb5 | with_reducible refine Box2.grow ?_ hb4 | with_reducible refine Box2.grow ?_ hb3 | with_reducible refine Box2.grow ?_ hb2 | with_reducible refine Box2.grow ?_ hb1 | with_reducible refine Box2.grow ?_ hb | assumption)⟩ ?_
      skip
      rintro w1 ⟨hb1, hX2, hXl, hBa, hBb, hBr, hBx⟩
      rw [hXe]
      clear hXe
      have DX := Lib.hid (fun w k hq => digit_any (-1) A M c xs k w hq (by unfold maxLen; omega))
      have DY := Lib.hid (fun w k hq => digit_any (-1) B m d ys k w hq (by unfold maxLen; omega))
      go_loopw [6, 7] (fun cv iv wr => ∃ (k : Nat) (cy : Int) (L : List Int), k ≤ M + 1 ∧ iv = .int .i64 k ∧ cv = .int .i64 cy ∧ -1 ≤ cy ∧ cy ≤ 1 ∧ Hid (Dig L ∧ valD L + p10 k * cy = valD (xs.take k) + 1 * valD (ys.take k)) ∧ Below w.heap.size w wr ∧ w1.heap.size ≤ wr.heap.size ∧ Box2 wr w.heap.size (.int .i64 (-1)) (.slice A M c) ∧ Box2 wr (w.heap.size + 1) (.int .i64 (-1)) (.slice B m d) ∧ Box2 wr (w.heap.size + 1 + 1) (.int .i64 0) (.slice none 0 0) ∧ Acc wr X w1.heap.size (.int .i64 (-1)) k L) (fun _ iv _ => M + 1 - (intOf iv).toNat)
      case atStart => exact ⟨0, 0, [], by omega, rfl, rfl, by omega, by omega, ⟨Dig.nil, by simp [valD]⟩, hb1, Nat.le_refl _, hBa, hBb, hBr, none, 0, hBx, World.ownsRow_nil _ _ _ _, Nat.le_refl _, Nat.zero_le _⟩
      case round =>
        obtain ⟨k, cy, L, hk, rfl, rfl, hc0, hc1', hI, hbr, hsr, hBa', hBb', hBr', A5, c5, hBx', hown, hkc, hcm⟩ := hrel
        have hLk := Lib.hid (show L.length = k by have := hown.1; simpa using this)
        obtain ⟨a0, a1, _, _⟩ := id hBa'
        obtain ⟨b0, b1, _, _⟩ := id hBb'
        have lta := hBa'.lt
        have ltb := hBb'.lt
        by_cases hlt : k < M + 1
        · have hxr : Sl wr A M (i64s xs) := hx.grow hbr
          have hyr : Sl wr B m (i64s ys) := hy.grow hbr
          have hp0 := dg_dig HX.out k
          have hq0 := dg_dig HY.out k
          have hst := Lib.hid (fun cy' e he => plus_step (st := 1) (cy' := cy') (e := e) (xs := xs) (ys := ys) hLk.out hI.out.2 he)
          have hDL := Lib.hid hI.out.1
          generalize hp : dg xs k = p at *
          generalize hq : dg ys k = q at *
          have hp' := Lib.hid hp
          have hq' := Lib.hid hq
          obtain ⟨hp1, hp2⟩ := hp0
          obtain ⟨hq1, hq2⟩ := hq0
          have hLi := Lib.hid hI.out
          clear hp hq hI
          go_wp2_with fail
          refine wp_region_ord [(0, 1), (1, 1), (3, 1), (4, 1), (5, 1), (6, 1), (7, 1), (8, 1), (9, 1), (13, 1), (2, 2), (10, 2), (11, 1), (12, 1), (14, 1), (15, 1)] [] 5 (by kernel_rfl) (by decide +kernel) ?_
          simp only [pickO, List.getElem?_cons_succ, List.getElem?_cons_zero]
          intro w0 hG
          (repeat ((first | (with_reducible refine ord_q1 ?_) | (with_reducible refine ord_q0 ?_)); intro K hK; first | (refine Or.inr ⟨?_, ?_⟩; (focus (go_simp; first | done | (simp [undef]; done))); go_simp; (with_reducible refine hK _ ?_); clear hK K) | (refine Or.inl ⟨?_, ?_⟩; (focus (go_simp; done)); apply Exists.intro; refine And.intro ?_ ?_; (focus (first | (intro wq hq; obtain ⟨hcq, hfq⟩ := G.old hq; go_simp; (first | done | exact rfl); done) | (intro wq; go_simp; (first | done | exact rfl); done))); go_simp; (with_reducible refine hK _ ?_); clear hK K) | fail))
          (with_reducible refine ord_run ?_ hG)
          intro K hK
          go_simp
          go_at_call 47; (with_reducible refine (DX.out _ k (hxr.grow hG.b)).mono ?_); rintro e w2 ⟨rfl, hb2⟩; rw [hp'.out]
          replace hG := Grew.trans hG hb2
          (try dsimp only)
          (with_reducible refine hK _ _ hG ?_)
          clear hK K
          (repeat ((first | (with_reducible refine ord_q1 ?_) | (with_reducible refine ord_q0 ?_)); intro K hK; first | (refine Or.inr ⟨?_, ?_⟩; (focus (go_simp; first | done | (simp [undef]; done))); go_simp; (with_reducible refine hK _ ?_); clear hK K) | (refine Or.inl ⟨?_, ?_⟩; (focus (go_simp; done)); apply Exists.intro; refine And.intro ?_ ?_; (focus (first | (intro wq hq; obtain ⟨hcq, hfq⟩ := G.old hq; go_simp; (first | done | exact rfl); done) | (intro wq; go_simp; (first | done | exact rfl); done))); go_simp; (with_reducible refine hK _ ?_); clear hK K) | fail))
          (with_reducible refine ord_run ?_ hG)
          intro K hK
          go_simp
          go_at_call 47; (with_reducible refine (DY.out _ k (hyr.grow hG.b)).mono ?_); rintro e w3 ⟨rfl, hb3⟩; rw [hq'.out]
          replace hG := Grew.trans hG hb3
          (try dsimp only)
          (with_reducible refine hK _ _ hG ?_)
          clear hK K
          (repeat ((first | (with_reducible refine ord_q1 ?_) | (with_reducible refine ord_q0 ?_)); intro K hK; first | (refine Or.inr ⟨?_, ?_⟩; (focus (go_simp; first | done | (simp [undef]; done))); go_simp; (with_reducible refine hK _ ?_); clear hK K) | (refine Or.inl ⟨?_, ?_⟩; (focus (go_simp; done)); apply Exists.intro; refine And.intro ?_ ?_; (focus (first | (intro wq hq; obtain ⟨hcq, hfq⟩ := G.old hq; go_simp; (first | done | exact rfl); done) | (intro wq; go_simp; (first | done | exact rfl); done))); go_simp; (with_reducible refine hK _ ?_); clear hK K) | fail))
          (with_reducible refine ord_nil ?_)
          obtain ⟨D, hD⟩ : ∃ D, p + 1 * q + cy = D := ⟨_, rfl⟩
          have hDD : IntKind.i64.wrap (IntKind.i64.wrap (p + IntKind.i64.wrap (IntKind.i64.wrap 1 * q)) + cy) = D := by
            rw [show IntKind.i64.wrap 1 = 1 by decide, show IntKind.i64.wrap (1 * q) = 1 * q from IntWalk.i64_in _ (by omega), show IntKind.i64.wrap (p + 1 * q) = p + 1 * q from IntWalk.i64_in _ (by omega), show IntKind.i64.wrap (p + 1 * q + cy) = p + 1 * q + cy from IntWalk.i64_in _ (by omega), hD]
          have hDb : -10 ≤ D ∧ D ≤ 19 := by omega
          obtain ⟨hDb1, hDb2⟩ := hDb
          have hD' := Lib.hid hD
          replace hst := Lib.hid (fun cy' e (he : e + 10 * cy' = D) => hst.out cy' e (he.trans hD.symm))
          have hbr3 := G.trans hbr hG.b
          have hsr3 := Nat.le_trans hsr hG.b.size
          have hBa3 := hBa'.grow hG.b
          have hBb3 := hBb'.grow hG.b
          have hBr3 := hBr'.grow hG.b
          have hBx3 := hBx'.grow hG.b
          have hown3 := own_grow hown hG.b
          obtain ⟨x1, x2, x3, x4⟩ := id hBx3
          have ltX3 := hBx3.lt
          clear hG hb2 hb3 hown hBa' hBb' hBr' hBx' hbr hsr hxr hyr a0 a1 b0 b1 lta ltb hD hp1 hp2 hq1 hq2
          by_cases hD0 : D < 0
          · skip
            go_wp2_with (at_builtin; refine wpList_app _ rfl (.tmp 70) (.tmp 72) _ rfl w1.heap.size 3 i0 _ 1 8 Tryd.underlying31 hi0 hz0 hz1 hz2 rfl Nat.zero_lt_one (.slice A5 k c5) k (i64s L) rfl (hown3.alloc _) (some ⟨w3.heap.size, 0, none⟩) 1 1 [.int .i64 (D + 10)] rfl (by repeat (first | with_reducible assumption | with_reducible exact Sl.new' (by simp; done) (by simp; done) (by simp; done) | with_reducible refine Sl.drew ?_ | with_reducible refine Sl.drewN ?_ _ | with_reducible refine Sl.alloc ?_ _ | with_reducible refine Sl.grow ?_ hb12 | with_reducible refine Sl.grow ?_ hb11 | with_reducible refine Sl.grow ?_ hb10 | with_reducible refine Sl.grow ?_ hb9 | with_reducible refine Sl.grow ?_ hb8 | with_reducible refine Sl.grow ?_ hb7 | with_reducible refine Sl.grow ?_ hb6 | with_reducible refine Sl.grow ?_ hb5 | with_reducible refine Sl.grow ?_ hb4 | with_reducible refine Sl.grow ?_ hb3 | with_reducible refine Sl.grow ?_ hb2 | with_reducible refine Sl.grow ?_ hb1 | with_reducible refine Sl.grow ?_ hb | assumption)) (by simp [Value.oneCell']) (by show _ ≤ 2 ^ 63 - 1; omega) (by omega) (by simp; omega) ?_; intro A6 c6 w6 hown6 hc6 hm6 hg6; have hb6 : Below w1.heap.size w3 w6 := Below.grown ((Below.refl _ _).alloc hsr3 _) hg6 (by simp; omega) (fun q hq => (hown3.lt q hq).1); have hX6 := hBx3.keep hb6 hXl; have hA6 := hBa3.keep hb6 (by omega); have hC6 := hBb3.keep hb6 (by omega); have hR6 := hBr3.keep hb6 (by omega); have hs6 := hb6.size; obtain ⟨y1, y2, y3, y4⟩ := id hX6; have ltX6 := hX6.lt; clear x1 x2 x3 x4)
            go_roundw
            case rel => exact ⟨k + 1, -1, L ++ [D + 10], by omega, by go_num, rfl, by omega, by omega, ⟨Dig.app hDL.out (Dig.mk (by omega) (by omega) Dig.nil), hst.out (-1) (D + 10) (by omega)⟩, (hbr3.trans (hb6.mono (by omega))).setCell (by simp; omega) _, by simpa [World.setCell] using (by omega : w1.heap.size ≤ w6.heap.size), hA6.other (by omega), hC6.other (by omega), hR6.other (by omega), A6, c6, hX6.set1, by rw [show i64s (L ++ [D + 10]) = i64s L ++ [.int .i64 (D + 10)] by simp]; exact own_setCell hown6 (by simp; omega) _, hc6, hm6⟩
            case measure => first | (simp [intOf]; done) | (simp [intOf]; omega)
          by_cases hD9 : 9 < D
          · skip
            go_wp2_with (at_builtin; refine wpList_app _ rfl (.tmp 70) (.tmp 72) _ rfl w1.heap.size 3 i0 _ 1 8 Tryd.underlying31 hi0 hz0 hz1 hz2 rfl Nat.zero_lt_one (.slice A5 k c5) k (i64s L) rfl (hown3.alloc _) (some ⟨w3.heap.size, 0, none⟩) 1 1 [.int .i64 (D - 10)] rfl (by repeat (first | with_reducible assumption | with_reducible exact Sl.new' (by simp; done) (by simp; done) (by simp; done) | with_reducible refine Sl.drew ?_ | with_reducible refine Sl.drewN ?_ _ | with_reducible refine Sl.alloc ?_ _ | with_reducible refine Sl.grow ?_ hb12 | with_reducible refine Sl.grow ?_ hb11 | with_reducible refine Sl.grow ?_ hb10 | with_reducible refine Sl.grow ?_ hb9 | with_reducible refine Sl.grow ?_ hb8 | with_reducible refine Sl.grow ?_ hb7 | with_reducible refine Sl.grow ?_ hb6 | with_reducible refine Sl.grow ?_ hb5 | with_reducible refine Sl.grow ?_ hb4 | with_reducible refine Sl.grow ?_ hb3 | with_reducible refine Sl.grow ?_ hb2 | with_reducible refine Sl.grow ?_ hb1 | with_reducible refine Sl.grow ?_ hb | assumption)) (by simp [Value.oneCell']) (by show _ ≤ 2 ^ 63 - 1; omega) (by omega) (by simp; omega) ?_; intro A6 c6 w6 hown6 hc6 hm6 hg6; have hb6 : Below w1.heap.size w3 w6 := Below.grown ((Below.refl _ _).alloc hsr3 _) hg6 (by simp; omega) (fun q hq => (hown3.lt q hq).1); have hX6 := hBx3.keep hb6 hXl; have hA6 := hBa3.keep hb6 (by omega); have hC6 := hBb3.keep hb6 (by omega); have hR6 := hBr3.keep hb6 (by omega); have hs6 := hb6.size; obtain ⟨y1, y2, y3, y4⟩ := id hX6; have ltX6 := hX6.lt; clear x1 x2 x3 x4)
            go_roundw
            case rel => exact ⟨k + 1, 1, L ++ [D - 10], by omega, by go_num, rfl, by omega, by omega, ⟨Dig.app hDL.out (Dig.mk (by omega) (by omega) Dig.nil), hst.out (1) (D - 10) (by omega)⟩, (hbr3.trans (hb6.mono (by omega))).setCell (by simp; omega) _, by simpa [World.setCell] using (by omega : w1.heap.size ≤ w6.heap.size), hA6.other (by omega), hC6.other (by omega), hR6.other (by omega), A6, c6, hX6.set1, by rw [show i64s (L ++ [D - 10]) = i64s L ++ [.int .i64 (D - 10)] by simp]; exact own_setCell hown6 (by simp; omega) _, hc6, hm6⟩
            case measure => first | (simp [intOf]; done) | (simp [intOf]; omega)
          · have hD9n : D ≤ 9 := by omega
            go_wp2_with (at_builtin; refine wpList_app _ rfl (.tmp 70) (.tmp 72) _ rfl w1.heap.size 3 i0 _ 1 8 Tryd.underlying31 hi0 hz0 hz1 hz2 rfl Nat.zero_lt_one (.slice A5 k c5) k (i64s L) rfl (hown3.alloc _) (some ⟨w3.heap.size, 0, none⟩) 1 1 [.int .i64 (D)] rfl (by repeat (first | with_reducible assumption | with_reducible exact Sl.new' (by simp; done) (by simp; done) (by simp; done) | with_reducible refine Sl.drew ?_ | with_reducible refine Sl.drewN ?_ _ | with_reducible refine Sl.alloc ?_ _ | with_reducible refine Sl.grow ?_ hb12 | with_reducible refine Sl.grow ?_ hb11 | with_reducible refine Sl.grow ?_ hb10 | with_reducible refine Sl.grow ?_ hb9 | with_reducible refine Sl.grow ?_ hb8 | with_reducible refine Sl.grow ?_ hb7 | with_reducible refine Sl.grow ?_ hb6 | with_reducible refine Sl.grow ?_ hb5 | with_reducible refine Sl.grow ?_ hb4 | with_reducible refine Sl.grow ?_ hb3 | with_reducible refine Sl.grow ?_ hb2 | with_reducible refine Sl.grow ?_ hb1 | with_reducible refine Sl.grow ?_ hb | assumption)) (by simp [Value.oneCell']) (by show _ ≤ 2 ^ 63 - 1; omega) (by omega) (by simp; omega) ?_; intro A6 c6 w6 hown6 hc6 hm6 hg6; have hb6 : Below w1.heap.size w3 w6 := Below.grown ((Below.refl _ _).alloc hsr3 _) hg6 (by simp; omega) (fun q hq => (hown3.lt q hq).1); have hX6 := hBx3.keep hb6 hXl; have hA6 := hBa3.keep hb6 (by omega); have hC6 := hBb3.keep hb6 (by omega); have hR6 := hBr3.keep hb6 (by omega); have hs6 := hb6.size; obtain ⟨y1, y2, y3, y4⟩ := id hX6; have ltX6 := hX6.lt; clear x1 x2 x3 x4)
            go_roundw
            case rel => exact ⟨k + 1, 0, L ++ [D], by omega, by go_num, rfl, by omega, by omega, ⟨Dig.app hDL.out (Dig.mk (by omega) (by omega) Dig.nil), hst.out (0) (D) (by omega)⟩, (hbr3.trans (hb6.mono (by omega))).setCell (by simp; omega) _, by simpa [World.setCell] using (by omega : w1.heap.size ≤ w6.heap.size), hA6.other (by omega), hC6.other (by omega), hR6.other (by omega), A6, c6, hX6.set1, by rw [show i64s (L ++ [D]) = i64s L ++ [.int .i64 (D)] by simp]; exact own_setCell hown6 (by simp; omega) _, hc6, hm6⟩
            case measure => first | (simp [intOf]; done) | (simp [intOf]; omega)
        · have hkM : k = M + 1 := by omega
          subst hkM
          have hLv : Hid (valD L = valD xs + 1 * valD ys) := by
            have h2 := hI.out.2
            rw [List.take_of_length_le (by have := hlx.out; omega), List.take_of_length_le (by have := hly.out; omega)] at h2
            exact plus_end hI.out.1 hLk.out h2 hV.out hV1.out ⟨hc0, hc1'⟩
          have hT := Lib.hid (fun w hq => trim_any (-1) A5 (M + 1) c5 L w hq hI.out.1 hkc hcm)
          have hres : Hid (tsgn (-1) L = sgn ((-1) * (valD xs + 1 * valD ys)) ∧ (valD L).toNat = ((-1) * (valD xs + 1 * valD ys)).natAbs) := by
            unfold Hid tsgn
            rw [hLv.out]
            exact sgn_mul (by omega) hV.out
          have hs1 := Sl.of_own1 hown
          have ha1 := Abv.of_own hown
          obtain ⟨x1, x2, x3, x4⟩ := id hBx'
          have ltX := hBx'.lt
          clear hI hLv hLk hown
          go_wp2_with fail
          refine (hT.out _ (by repeat (first | with_reducible assumption | with_reducible exact Sl.new' (by simp; done) (by simp; done) (by simp; done) | with_reducible refine Sl.drew ?_ | with_reducible refine Sl.drewN ?_ _ | with_reducible refine Sl.alloc ?_ _ | with_reducible refine Sl.grow ?_ hb12 | with_reducible refine Sl.grow ?_ hb11 | with_reducible refine Sl.grow ?_ hb10 | with_reducible refine Sl.grow ?_ hb9 | with_reducible refine Sl.grow ?_ hb8 | with_reducible refine Sl.grow ?_ hb7 | with_reducible refine Sl.grow ?_ hb6 | with_reducible refine Sl.grow ?_ hb5 | with_reducible refine Sl.grow ?_ hb4 | with_reducible refine Sl.grow ?_ hb3 | with_reducible refine Sl.grow ?_ hb2 | with_reducible refine Sl.grow ?_ hb1 | with_reducible refine Sl.grow ?_ hb | assumption))).mono ?_
          rintro e w5 ⟨n5, rfl, hs5, hn5, hb5⟩
          rw [hres.out.1]
          rw [hres.out.2] at hs5
          obtain ⟨r1, r2, r3, r4⟩ := hBr'.grow hb5
          have ltR := cell_lt r1
          have hs6 := hb5.size
          go_wp2_with fail
          refine bodyPost_ret (v := .agg #[.int .i64 (sgn ((-1) * (valD xs + 1 * valD ys))), .slice A5 n5 c5]) (by simp only [results, Tryd.results19]; go_simp) rfl ⟨A5, n5, c5, rfl, ⟨?_, hn5, hcm⟩, ha1.mono (by omega), ?_⟩
          · exact Sl.setCell (Sl.setCell hs5 ha1 (by simp; omega) _) ha1 (by simp; omega) _
          · exact ((G.trans hbr hb5).setCell (by simp; omega) _).setCell (by simp; omega) _
    · have hc2 : ¬ (M : Int) ≤ (n : Int) := by omega
      go_enter Tryd.func19, Tryd.ntmps19
      go_wp2_with fail
      obtain ⟨X, hXe⟩ : ∃ X, w.heap.size + 1 + 1 + 1 = X := ⟨_, rfl⟩
      refine wp_name (fun w1 => Below w.heap.size w w1 ∧ w.heap.size + 1 + 1 < X ∧ X < w1.heap.size ∧ Box2 w1 w.heap.size (.int .i64 (-1)) (.slice A n c) ∧ Box2 w1 (w.heap.size + 1) (.int .i64 (-1)) (.slice B M d) ∧ Box2 w1 (w.heap.size + 1 + 1) (.int .i64 0) (.slice none 0 0) ∧ Box2 w1 X (.int .i64 (-1)) (.slice none 0 0)) ⟨by repeat (first | with_reducible assumption | with_reducible exact G.refl _ | with_reducible refine G.drew ?_ | with_reducible refine G.drewN ?_ _ | with_reducible refine G.alloc ?_ _ | with_reducible refine Below.setCell ?_ (by first | (simp; done) | (simp; omega)) _ | with_reducible refine G.trans ?_ hb12 | with_reducible refine G.trans ?_ hb11 | with_reducible refine G.trans ?_ hb10 | with_reducible refine G.trans ?_ hb9 | with_reducible refine G.trans ?_ hb8 | with_reducible refine G.trans ?_ hb7 | with_reducible refine G.trans ?_ hb6 | with_reducible refine G.trans ?_ hb5 | with_reducible refine G.trans ?_ hb4 | with_reducible refine G.trans ?_ hb3 | with_reducible refine G.trans ?_ hb2 | with_reducible refine G.trans ?_ hb1 | with_reducible refine G.trans ?_ hb | assumption), by rw [← hXe]; omega, by rw [← hXe]; simp, by repeat (first | with_reducible assumption | (exact Box2.new (by simp; done)) | with_reducible refine Box2.alloc ?_ _ | with_reducible refine Box2.grow ?_ hb12 | with_reducible refine Box2.grow ?_ hb5 | with_reducible refine Box2.grow ?_ hb4 | with_reducible refine Box2.grow ?_ hb3 | with_reducible refine Box2.grow ?_ hb2 | with_reducible refine Box2.grow ?_ hb1 | with_reducible refine Box2.grow ?_ hb | assumption), by repeat (first | with_reducible assumption | (exact Box2.new (by simp; done)) | with_reducible refine Box2.alloc ?_ _ | with_reducible refine Box2.grow ?_ hb12 | with_reducible refine Box2.grow ?_ hb5 | with_reducible refine Box2.grow ?_ hb4 | with_reducible refine Box2.grow ?_ hb3 | with_reducible refine Box2.grow ?_ hb2 | with_reducible refine Box2.grow ?_ hb1 | with_reducible refine Box2.grow ?_ hb | assumption), by repeat (first | with_reducible assumption | (exact Box2.new (by simp; done)) | with_reducible refine Box2.alloc ?_ _ | with_reducible refine Box2.grow ?_ hb12 | with_reducible refine Box2.grow ?_ hb5 | with_reducible refine Box2.grow ?_ hb4 | with_reducible refine Box2.grow ?_ hb3 | with_reducible refine Box2.grow ?_ hb2 | with_reducible refine Box2.grow ?_ hb1 | with_reducible refine Box2.grow ?_ hb | assumption), by rw [← hXe]; repeat (first | with_reducible assumption | (exact Box2.new (by simp; done)) | with_reducible refine Box2.alloc ?_ _ | with_reducible refine Box2.grow ?_ hb12 | with_reducible refine Box2.grow ?_ hb5 | with_reducible refine Box2.grow ?_ hb4 | with_reducible refine Box2.grow ?_ hb3 | with_reducible refine Box2.grow ?_ hb2 | with_reducible refine Box2.grow ?_ hb1 | with_reducible refine Box2.grow ?_ hb | assumption)⟩ ?_
      skip
      rintro w1 ⟨hb1, hX2, hXl, hBa, hBb, hBr, hBx⟩
      rw [hXe]
      clear hXe
      have DX := Lib.hid (fun w k hq => digit_any (-1) A n c xs k w hq (by unfold maxLen; omega))
      have DY := Lib.hid (fun w k hq => digit_any (-1) B M d ys k w hq (by unfold maxLen; omega))
      go_loopw [6, 7] (fun cv iv wr => ∃ (k : Nat) (cy : Int) (L : List Int), k ≤ M + 1 ∧ iv = .int .i64 k ∧ cv = .int .i64 cy ∧ -1 ≤ cy ∧ cy ≤ 1 ∧ Hid (Dig L ∧ valD L + p10 k * cy = valD (xs.take k) + 1 * valD (ys.take k)) ∧ Below w.heap.size w wr ∧ w1.heap.size ≤ wr.heap.size ∧ Box2 wr w.heap.size (.int .i64 (-1)) (.slice A n c) ∧ Box2 wr (w.heap.size + 1) (.int .i64 (-1)) (.slice B M d) ∧ Box2 wr (w.heap.size + 1 + 1) (.int .i64 0) (.slice none 0 0) ∧ Acc wr X w1.heap.size (.int .i64 (-1)) k L) (fun _ iv _ => M + 1 - (intOf iv).toNat)
      case atStart => exact ⟨0, 0, [], by omega, rfl, rfl, by omega, by omega, ⟨Dig.nil, by simp [valD]⟩, hb1, Nat.le_refl _, hBa, hBb, hBr, none, 0, hBx, World.ownsRow_nil _ _ _ _, Nat.le_refl _, Nat.zero_le _⟩
      case round =>
        obtain ⟨k, cy, L, hk, rfl, rfl, hc0, hc1', hI, hbr, hsr, hBa', hBb', hBr', A5, c5, hBx', hown, hkc, hcm⟩ := hrel
        have hLk := Lib.hid (show L.length = k by have := hown.1; simpa using this)
        obtain ⟨a0, a1, _, _⟩ := id hBa'
        obtain ⟨b0, b1, _, _⟩ := id hBb'
        have lta := hBa'.lt
        have ltb := hBb'.lt
        by_cases hlt : k < M + 1
        · have hxr : Sl wr A n (i64s xs) := hx.grow hbr
          have hyr : Sl wr B M (i64s ys) := hy.grow hbr
          have hp0 := dg_dig HX.out k
          have hq0 := dg_dig HY.out k
          have hst := Lib.hid (fun cy' e he => plus_step (st := 1) (cy' := cy') (e := e) (xs := xs) (ys := ys) hLk.out hI.out.2 he)
          have hDL := Lib.hid hI.out.1
          generalize hp : dg xs k = p at *
          generalize hq : dg ys k = q at *
          have hp' := Lib.hid hp
          have hq' := Lib.hid hq
          obtain ⟨hp1, hp2⟩ := hp0
          obtain ⟨hq1, hq2⟩ := hq0
          have hLi := Lib.hid hI.out
          clear hp hq hI
          go_wp2_with fail
          refine wp_region_ord [(0, 1), (1, 1), (3, 1), (4, 1), (5, 1), (6, 1), (7, 1), (8, 1), (9, 1), (13, 1), (2, 2), (10, 2), (11, 1), (12, 1), (14, 1), (15, 1)] [] 5 (by kernel_rfl) (by decide +kernel) ?_
          simp only [pickO, List.getElem?_cons_succ, List.getElem?_cons_zero]
          intro w0 hG
          (repeat ((first | (with_reducible refine ord_q1 ?_) | (with_reducible refine ord_q0 ?_)); intro K hK; first | (refine Or.inr ⟨?_, ?_⟩; (focus (go_simp; first | done | (simp [undef]; done))); go_simp; (with_reducible refine hK _ ?_); clear hK K) | (refine Or.inl ⟨?_, ?_⟩; (focus (go_simp; done)); apply Exists.intro; refine And.intro ?_ ?_; (focus (first | (intro wq hq; obtain ⟨hcq, hfq⟩ := G.old hq; go_simp; (first | done | exact rfl); done) | (intro wq; go_simp; (first | done | exact rfl); done))); go_simp; (with_reducible refine hK _ ?_); clear hK K) | fail))
          (with_reducible refine ord_run ?_ hG)
          intro K hK
          go_simp
          go_at_call 47; (with_reducible refine (DX.out _ k (hxr.grow hG.b)).mono ?_); rintro e w2 ⟨rfl, hb2⟩; rw [hp'.out]
          replace hG := Grew.trans hG hb2
          (try dsimp only)
          (with_reducible refine hK _ _ hG ?_)
          clear hK K
          (repeat ((first | (with_reducible refine ord_q1 ?_) | (with_reducible refine ord_q0 ?_)); intro K hK; first | (refine Or.inr ⟨?_, ?_⟩; (focus (go_simp; first | done | (simp [undef]; done))); go_simp; (with_reducible refine hK _ ?_); clear hK K) | (refine Or.inl ⟨?_, ?_⟩; (focus (go_simp; done)); apply Exists.intro; refine And.intro ?_ ?_; (focus (first | (intro wq hq; obtain ⟨hcq, hfq⟩ := G.old hq; go_simp; (first | done | exact rfl); done) | (intro wq; go_simp; (first | done | exact rfl); done))); go_simp; (with_reducible refine hK _ ?_); clear hK K) | fail))
          (with_reducible refine ord_run ?_ hG)
          intro K hK
          go_simp
          go_at_call 47; (with_reducible refine (DY.out _ k (hyr.grow hG.b)).mono ?_); rintro e w3 ⟨rfl, hb3⟩; rw [hq'.out]
          replace hG := Grew.trans hG hb3
          (try dsimp only)
          (with_reducible refine hK _ _ hG ?_)
          clear hK K
          (repeat ((first | (with_reducible refine ord_q1 ?_) | (with_reducible refine ord_q0 ?_)); intro K hK; first | (refine Or.inr ⟨?_, ?_⟩; (focus (go_simp; first | done | (simp [undef]; done))); go_simp; (with_reducible refine hK _ ?_); clear hK K) | (refine Or.inl ⟨?_, ?_⟩; (focus (go_simp; done)); apply Exists.intro; refine And.intro ?_ ?_; (focus (first | (intro wq hq; obtain ⟨hcq, hfq⟩ := G.old hq; go_simp; (first | done | exact rfl); done) | (intro wq; go_simp; (first | done | exact rfl); done))); go_simp; (with_reducible refine hK _ ?_); clear hK K) | fail))
          (with_reducible refine ord_nil ?_)
          obtain ⟨D, hD⟩ : ∃ D, p + 1 * q + cy = D := ⟨_, rfl⟩
          have hDD : IntKind.i64.wrap (IntKind.i64.wrap (p + IntKind.i64.wrap (IntKind.i64.wrap 1 * q)) + cy) = D := by
            rw [show IntKind.i64.wrap 1 = 1 by decide, show IntKind.i64.wrap (1 * q) = 1 * q from IntWalk.i64_in _ (by omega), show IntKind.i64.wrap (p + 1 * q) = p + 1 * q from IntWalk.i64_in _ (by omega), show IntKind.i64.wrap (p + 1 * q + cy) = p + 1 * q + cy from IntWalk.i64_in _ (by omega), hD]
          have hDb : -10 ≤ D ∧ D ≤ 19 := by omega
          obtain ⟨hDb1, hDb2⟩ := hDb
          have hD' := Lib.hid hD
          replace hst := Lib.hid (fun cy' e (he : e + 10 * cy' = D) => hst.out cy' e (he.trans hD.symm))
          have hbr3 := G.trans hbr hG.b
          have hsr3 := Nat.le_trans hsr hG.b.size
          have hBa3 := hBa'.grow hG.b
          have hBb3 := hBb'.grow hG.b
          have hBr3 := hBr'.grow hG.b
          have hBx3 := hBx'.grow hG.b
          have hown3 := own_grow hown hG.b
          obtain ⟨x1, x2, x3, x4⟩ := id hBx3
          have ltX3 := hBx3.lt
          clear hG hb2 hb3 hown hBa' hBb' hBr' hBx' hbr hsr hxr hyr a0 a1 b0 b1 lta ltb hD hp1 hp2 hq1 hq2
          by_cases hD0 : D < 0
          · skip
            go_wp2_with (at_builtin; refine wpList_app _ rfl (.tmp 70) (.tmp 72) _ rfl w1.heap.size 3 i0 _ 1 8 Tryd.underlying31 hi0 hz0 hz1 hz2 rfl Nat.zero_lt_one (.slice A5 k c5) k (i64s L) rfl (hown3.alloc _) (some ⟨w3.heap.size, 0, none⟩) 1 1 [.int .i64 (D + 10)] rfl (by repeat (first | with_reducible assumption | with_reducible exact Sl.new' (by simp; done) (by simp; done) (by simp; done) | with_reducible refine Sl.drew ?_ | with_reducible refine Sl.drewN ?_ _ | with_reducible refine Sl.alloc ?_ _ | with_reducible refine Sl.grow ?_ hb12 | with_reducible refine Sl.grow ?_ hb11 | with_reducible refine Sl.grow ?_ hb10 | with_reducible refine Sl.grow ?_ hb9 | with_reducible refine Sl.grow ?_ hb8 | with_reducible refine Sl.grow ?_ hb7 | with_reducible refine Sl.grow ?_ hb6 | with_reducible refine Sl.grow ?_ hb5 | with_reducible refine Sl.grow ?_ hb4 | with_reducible refine Sl.grow ?_ hb3 | with_reducible refine Sl.grow ?_ hb2 | with_reducible refine Sl.grow ?_ hb1 | with_reducible refine Sl.grow ?_ hb | assumption)) (by simp [Value.oneCell']) (by show _ ≤ 2 ^ 63 - 1; omega) (by omega) (by simp; omega) ?_; intro A6 c6 w6 hown6 hc6 hm6 hg6; have hb6 : Below w1.heap.size w3 w6 := Below.grown ((Below.refl _ _).alloc hsr3 _) hg6 (by simp; omega) (fun q hq => (hown3.lt q hq).1); have hX6 := hBx3.keep hb6 hXl; have hA6 := hBa3.keep hb6 (by omega); have hC6 := hBb3.keep hb6 (by omega); have hR6 := hBr3.keep hb6 (by omega); have hs6 := hb6.size; obtain ⟨y1, y2, y3, y4⟩ := id hX6; have ltX6 := hX6.lt; clear x1 x2 x3 x4)
            go_roundw
            case rel => exact ⟨k + 1, -1, L ++ [D + 10], by omega, by go_num, rfl, by omega, by omega, ⟨Dig.app hDL.out (Dig.mk (by omega) (by omega) Dig.nil), hst.out (-1) (D + 10) (by omega)⟩, (hbr3.trans (hb6.mono (by omega))).setCell (by simp; omega) _, by simpa [World.setCell] using (by omega : w1.heap.size ≤ w6.heap.size), hA6.other (by omega), hC6.other (by omega), hR6.other (by omega), A6, c6, hX6.set1, by rw [show i64s (L ++ [D + 10]) = i64s L ++ [.int .i64 (D + 10)] by simp]; exact own_setCell hown6 (by simp; omega) _, hc6, hm6⟩
            case measure => first | (simp [intOf]; done) | (simp [intOf]; omega)
          by_cases hD9 : 9 < D
          · skip
            go_wp2_with (at_builtin; refine wpList_app _ rfl (.tmp 70) (.tmp 72) _ rfl w1.heap.size 3 i0 _ 1 8 Tryd.underlying31 hi0 hz0 hz1 hz2 rfl Nat.zero_lt_one (.slice A5 k c5) k (i64s L) rfl (hown3.alloc _) (some ⟨w3.heap.size, 0, none⟩) 1 1 [.int .i64 (D - 10)] rfl (by repeat (first | with_reducible assumption | with_reducible exact Sl.new' (by simp; done) (by simp; done) (by simp; done) | with_reducible refine Sl.drew ?_ | with_reducible refine Sl.drewN ?_ _ | with_reducible refine Sl.alloc ?_ _ | with_reducible refine Sl.grow ?_ hb12 | with_reducible refine Sl.grow ?_ hb11 | with_reducible refine Sl.grow ?_ hb10 | with_reducible refine Sl.grow ?_ hb9 | with_reducible refine Sl.grow ?_ hb8 | with_reducible refine Sl.grow ?_ hb7 | with_reducible refine Sl.grow ?_ hb6 | with_reducible refine Sl.grow ?_ hb5 | with_reducible refine Sl.grow ?_ hb4 | with_reducible refine Sl.grow ?_ hb3 | with_reducible refine Sl.grow ?_ hb2 | with_reducible refine Sl.grow ?_ hb1 | with_reducible refine Sl.grow ?_ hb | assumption)) (by simp [Value.oneCell']) (by show _ ≤ 2 ^ 63 - 1; omega) (by omega) (by simp; omega) ?_; intro A6 c6 w6 hown6 hc6 hm6 hg6; have hb6 : Below w1.heap.size w3 w6 := Below.grown ((Below.refl _ _).alloc hsr3 _) hg6 (by simp; omega) (fun q hq => (hown3.lt q hq).1); have hX6 := hBx3.keep hb6 hXl; have hA6 := hBa3.keep hb6 (by omega); have hC6 := hBb3.keep hb6 (by omega); have hR6 := hBr3.keep hb6 (by omega); have hs6 := hb6.size; obtain ⟨y1, y2, y3, y4⟩ := id hX6; have ltX6 := hX6.lt; clear x1 x2 x3 x4)
            go_roundw
            case rel => exact ⟨k + 1, 1, L ++ [D - 10], by omega, by go_num, rfl, by omega, by omega, ⟨Dig.app hDL.out (Dig.mk (by omega) (by omega) Dig.nil), hst.out (1) (D - 10) (by omega)⟩, (hbr3.trans (hb6.mono (by omega))).setCell (by simp; omega) _, by simpa [World.setCell] using (by omega : w1.heap.size ≤ w6.heap.size), hA6.other (by omega), hC6.other (by omega), hR6.other (by omega), A6, c6, hX6.set1, by rw [show i64s (L ++ [D - 10]) = i64s L ++ [.int .i64 (D - 10)] by simp]; exact own_setCell hown6 (by simp; omega) _, hc6, hm6⟩
            case measure => first | (simp [intOf]; done) | (simp [intOf]; omega)
          · have hD9n : D ≤ 9 := by omega
            go_wp2_with (at_builtin; refine wpList_app _ rfl (.tmp 70) (.tmp 72) _ rfl w1.heap.size 3 i0 _ 1 8 Tryd.underlying31 hi0 hz0 hz1 hz2 rfl Nat.zero_lt_one (.slice A5 k c5) k (i64s L) rfl (hown3.alloc _) (some ⟨w3.heap.size, 0, none⟩) 1 1 [.int .i64 (D)] rfl (by repeat (first | with_reducible assumption | with_reducible exact Sl.new' (by simp; done) (by simp; done) (by simp; done) | with_reducible refine Sl.drew ?_ | with_reducible refine Sl.drewN ?_ _ | with_reducible refine Sl.alloc ?_ _ | with_reducible refine Sl.grow ?_ hb12 | with_reducible refine Sl.grow ?_ hb11 | with_reducible refine Sl.grow ?_ hb10 | with_reducible refine Sl.grow ?_ hb9 | with_reducible refine Sl.grow ?_ hb8 | with_reducible refine Sl.grow ?_ hb7 | with_reducible refine Sl.grow ?_ hb6 | with_reducible refine Sl.grow ?_ hb5 | with_reducible refine Sl.grow ?_ hb4 | with_reducible refine Sl.grow ?_ hb3 | with_reducible refine Sl.grow ?_ hb2 | with_reducible refine Sl.grow ?_ hb1 | with_reducible refine Sl.grow ?_ hb | assumption)) (by simp [Value.oneCell']) (by show _ ≤ 2 ^ 63 - 1; omega) (by omega) (by simp; omega) ?_; intro A6 c6 w6 hown6 hc6 hm6 hg6; have hb6 : Below w1.heap.size w3 w6 := Below.grown ((Below.refl _ _).alloc hsr3 _) hg6 (by simp; omega) (fun q hq => (hown3.lt q hq).1); have hX6 := hBx3.keep hb6 hXl; have hA6 := hBa3.keep hb6 (by omega); have hC6 := hBb3.keep hb6 (by omega); have hR6 := hBr3.keep hb6 (by omega); have hs6 := hb6.size; obtain ⟨y1, y2, y3, y4⟩ := id hX6; have ltX6 := hX6.lt; clear x1 x2 x3 x4)
            go_roundw
            case rel => exact ⟨k + 1, 0, L ++ [D], by omega, by go_num, rfl, by omega, by omega, ⟨Dig.app hDL.out (Dig.mk (by omega) (by omega) Dig.nil), hst.out (0) (D) (by omega)⟩, (hbr3.trans (hb6.mono (by omega))).setCell (by simp; omega) _, by simpa [World.setCell] using (by omega : w1.heap.size ≤ w6.heap.size), hA6.other (by omega), hC6.other (by omega), hR6.other (by omega), A6, c6, hX6.set1, by rw [show i64s (L ++ [D]) = i64s L ++ [.int .i64 (D)] by simp]; exact own_setCell hown6 (by simp; omega) _, hc6, hm6⟩
            case measure => first | (simp [intOf]; done) | (simp [intOf]; omega)
        · have hkM : k = M + 1 := by omega
          subst hkM
          have hLv : Hid (valD L = valD xs + 1 * valD ys) := by
            have h2 := hI.out.2
            rw [List.take_of_length_le (by have := hlx.out; omega), List.take_of_length_le (by have := hly.out; omega)] at h2
            exact plus_end hI.out.1 hLk.out h2 hV.out hV1.out ⟨hc0, hc1'⟩
          have hT := Lib.hid (fun w hq => trim_any (-1) A5 (M + 1) c5 L w hq hI.out.1 hkc hcm)
          have hres : Hid (tsgn (-1) L = sgn ((-1) * (valD xs + 1 * valD ys)) ∧ (valD L).toNat = ((-1) * (valD xs + 1 * valD ys)).natAbs) := by
            unfold Hid tsgn
            rw [hLv.out]
            exact sgn_mul (by omega) hV.out
          have hs1 := Sl.of_own1 hown
          have ha1 := Abv.of_own hown
          obtain ⟨x1, x2, x3, x4⟩ := id hBx'
          have ltX := hBx'.lt
          clear hI hLv hLk hown
          go_wp2_with fail
          refine (hT.out _ (by repeat (first | with_reducible assumption | with_reducible exact Sl.new' (by simp; done) (by simp; done) (by simp; done) | with_reducible refine Sl.drew ?_ | with_reducible refine Sl.drewN ?_ _ | with_reducible refine Sl.alloc ?_ _ | with_reducible refine Sl.grow ?_ hb12 | with_reducible refine Sl.grow ?_ hb11 | with_reducible refine Sl.grow ?_ hb10 | with_reducible refine Sl.grow ?_ hb9 | with_reducible refine Sl.grow ?_ hb8 | with_reducible refine Sl.grow ?_ hb7 | with_reducible refine Sl.grow ?_ hb6 | with_reducible refine Sl.grow ?_ hb5 | with_reducible refine Sl.grow ?_ hb4 | with_reducible refine Sl.grow ?_ hb3 | with_reducible refine Sl.grow ?_ hb2 | with_reducible refine Sl.grow ?_ hb1 | with_reducible refine Sl.grow ?_ hb | assumption))).mono ?_
          rintro e w5 ⟨n5, rfl, hs5, hn5, hb5⟩
          rw [hres.out.1]
          rw [hres.out.2] at hs5
          obtain ⟨r1, r2, r3, r4⟩ := hBr'.grow hb5
          have ltR := cell_lt r1
          have hs6 := hb5.size
          go_wp2_with fail
          refine bodyPost_ret (v := .agg #[.int .i64 (sgn ((-1) * (valD xs + 1 * valD ys))), .slice A5 n5 c5]) (by simp only [results, Tryd.results19]; go_simp) rfl ⟨A5, n5, c5, rfl, ⟨?_, hn5, hcm⟩, ha1.mono (by omega), ?_⟩
          · exact Sl.setCell (Sl.setCell hs5 ha1 (by simp; omega) _) ha1 (by simp; omega) _
          · exact ((G.trans hbr hb5).setCell (by simp; omega) _).setCell (by simp; omega) _
  rcases Nat.lt_or_ge n m with h | h
  · exact body m hm (by omega) (by omega) (.inr ⟨h, rfl⟩)
  · exact body n hn (by omega) (by omega) (.inl ⟨h, rfl⟩)
end Go.Proofs.YtoipapcbngknfaaDoor
