/- What the reference's Times computes. -/
import Derived.Test.YtoipapcbngknfaaDoorRef8a
import Derived.Test.YtoipapcbngknfaaDoorTree
import Derived.Deep.DeepCutAuto
namespace Go.Proofs.YtoipapcbngknfaaDoor
set_option linter.unusedVariables false
set_option linter.unnecessarySimpa false
set_option linter.unusedSimpArgs false
open Go.RowKit

set_option maxRecDepth 20000 in set_option maxHeartbeats 2000000 in
theorem times_any (y z : Int) (A B : Option Addr) (n m c d : Nat) (w : World) (hx : Wd w A n c y) (hy : Wd w B m d z) (hn : n ≤ 100) (hm : m ≤ 100) :
    Calls Tryd.prog 51 #[.agg #[.int .i64 (sgn y), .slice A n c], .agg #[.int .i64 (sgn z), .slice B m d]] w (RetW (y * z) w) := by
  obtain ⟨i0, hi0, hz0, hz1, hz2⟩ := info_parts Tryd.infoI
  have hsl := hx.1
  have htl := hy.1
  have hlx := Lib.hid hsl.len
  have hly := Lib.hid htl.len
  have HX := Lib.hid (dig_digs y.natAbs)
  have HY := Lib.hid (dig_digs z.natAbs)
  have hV1 := Lib.hid (valD_digs y.natAbs)
  have hV2 := Lib.hid (valD_digs z.natAbs)
  have hSP := Lib.hid (sgn_prod y z)
  have hs1 : -1 ≤ sgn y ∧ sgn y ≤ 1 := by rcases sgn_cases y with ⟨e, _⟩ | ⟨e, _⟩ | ⟨e, _⟩ <;> omega
  have hs2 : -1 ≤ sgn z ∧ sgn z ≤ 1 := by rcases sgn_cases z with ⟨e, _⟩ | ⟨e, _⟩ | ⟨e, _⟩ <;> omega
  obtain ⟨st, hst⟩ : ∃ st, sgn y * sgn z = st := ⟨_, rfl⟩
  rw [hst] at hSP
  have hw1 : IntKind.i64.wrap (sgn y * sgn z) = st := by
    rw [← hst]
    apply IntWalk.i64_in
    rcases sgn_cases y with ⟨e, _⟩ | ⟨e, _⟩ | ⟨e, _⟩ <;> rcases sgn_cases z with ⟨e', _⟩ | ⟨e', _⟩ | ⟨e', _⟩ <;> rw [e, e'] <;> decide
  clear hst
  clear hx hy
  generalize hxs : digs y.natAbs = xs at *
  generalize hys : digs z.natAbs = ys at *
  clear hxs hys
  generalize hpp : y * z = pz at *
  clear hpp hs1 hs2
  obtain ⟨N, hN⟩ : ∃ N, n + m + 1 = N := ⟨_, rfl⟩
  have hNw : IntKind.i64.wrap ((n : Int) + (m : Int)) = (n : Int) + (m : Int) := IntWalk.i64_in _ (by omega)
  have hNw2 : IntKind.i64.wrap ((n : Int) + (m : Int) + 1) = (N : Int) := by rw [IntWalk.i64_in _ (by omega)]; omega
  have hmk := fun w => run_makeSlice (P := Tryd.prog) w 31 3 i0 (.int .i64 0) Tryd.underlying31 hi0 hz0 .i64 .i64 N N (by omega) (Int.le_refl _) (by rw [hz1, Int.toNat_natCast]; omega) (by rw [hz2]; omega) (by omega)
  rw [hz1, Int.toNat_natCast, Nat.mul_one, made_row] at hmk
  generalize sgn y = s1 at *
  generalize sgn z = s2 at *
  go_enter Tryd.func51, Tryd.ntmps51
  go_upto_region 1 with (fail)
  go_cut [5] (fun p wx => ∃ X R, p = .pointer (some ⟨X, 0, none⟩) ∧ X ≠ R ∧ w.heap.size + 1 + 1 < X ∧ w.heap.size + 1 + 1 < R ∧ X < wx.heap.size ∧ Box2 wx X (.int .i64 st) (.slice (some ⟨R, 0, none⟩) N N) ∧ Row wx R N (List.replicate N 0) ∧ Below w.heap.size w wx ∧
      Box2 wx w.heap.size (.int .i64 s1) (.slice A n c) ∧ Box2 wx (w.heap.size + 1) (.int .i64 s2) (.slice B m d) ∧ Box2 wx (w.heap.size + 1 + 1) (.int .i64 0) (.slice none 0 0))
  case first =>
    refine wp_region_tree (.quiet 0 1 (.quiet 1 1 (.quiet 2 1 (.quiet 3 1 (.quiet 4 1 (.quiet 5 1 (.quiet 6 1 (.quiet 7 1 (.quiet 8 1 (.quiet 9 1 (.quiet 10 1 (.quiet 11 1 (.quiet 12 1 (.run 13 2 (.quiet 14 1 (.run 15 2 (.run 16 3 .nil .stop) .stop)) (.run 15 2 (.run 13 2 (.quiet 14 1 (.run 16 3 .nil .stop)) .stop) .stop))))))))))))))) [16] 5 (by kernel_rfl) (by decide +kernel) ?_
    simp only [pickT, List.getElem?_cons_succ, List.getElem?_cons_zero]
    intro w0 hG
    have hG0 := hG.b
    have szG := hG0.size
    (try simp at szG)
    (repeat ((first | (with_reducible refine tree_q1 ?_) | (with_reducible refine tree_q0 ?_)); intro K hK; first | (refine Or.inr ⟨?_, ?_⟩; (focus (go_simp; first | done | (simp [undef]; done))); go_simp; (with_reducible refine hK _ ?_); clear hK K) | (refine Or.inl ⟨?_, ?_⟩; (focus (go_simp; done)); apply Exists.intro; refine And.intro ?_ ?_; (focus (first | (intro wq hq; obtain ⟨hcq, hfq⟩ := G.old hq; go_simp; (first | done | exact rfl); done) | (intro wq; go_simp; (first | done | exact rfl); done))); go_simp; (with_reducible refine hK _ ?_); clear hK K) | fail))
    (with_reducible refine tree_run hG ?_ ?_)
    · intro K hK
      go_simp
      replace hG := Grew.alloc hG (.cells (Array.replicate N (.int .i64 0)) 3)
      (with_reducible refine hK _ _ hG ?_)
      clear hK K
      (repeat ((first | (with_reducible refine tree_q1 ?_) | (with_reducible refine tree_q0 ?_)); intro K hK; first | (refine Or.inr ⟨?_, ?_⟩; (focus (go_simp; first | done | (simp [undef]; done))); go_simp; (with_reducible refine hK _ ?_); clear hK K) | (refine Or.inl ⟨?_, ?_⟩; (focus (go_simp; done)); apply Exists.intro; refine And.intro ?_ ?_; (focus (first | (intro wq hq; obtain ⟨hcq, hfq⟩ := G.old hq; go_simp; (first | done | exact rfl); done) | (intro wq; go_simp; (first | done | exact rfl); done))); go_simp; (with_reducible refine hK _ ?_); clear hK K) | fail))
      (with_reducible refine tree_run hG ?_ ?_)
      · intro K hK
        go_simp
        replace hG := Grew.alloc hG (.cells #[.int .i64 0, .slice none 0 0] 33)
        (with_reducible refine hK _ _ hG ?_)
        clear hK K
        (with_reducible refine tree_tail ?_ ?_)
        · intro K hK
          go_simp
          (with_reducible refine hK _ _ ?_)
          clear hK K
          (with_reducible refine tree_nil ?_)
          have hb1 := hG0
          go_wp2_with fail
          go_meet
          first
            | (refine ⟨w0.heap.size + 1, w0.heap.size, rfl, by omega, by omega, by omega, by (first | (simp; done) | (simp; omega)), by repeat (first | with_reducible assumption | (exact Box2.new (by simp; done)) | with_reducible refine Box2.alloc ?_ _ | with_reducible refine Box2.grow ?_ hb12 | with_reducible refine Box2.grow ?_ hb5 | with_reducible refine Box2.grow ?_ hb4 | with_reducible refine Box2.grow ?_ hb3 | with_reducible refine Box2.grow ?_ hb2 | with_reducible refine Box2.grow ?_ hb1 | with_reducible refine Box2.grow ?_ hb | assumption), ?_, by repeat (first | with_reducible assumption | with_reducible exact G.refl _ | with_reducible refine G.drew ?_ | with_reducible refine G.drewN ?_ _ | with_reducible refine G.alloc ?_ _ | with_reducible refine Below.setCell ?_ (by first | (simp; done) | (simp; omega)) _ | with_reducible refine G.trans ?_ hb12 | with_reducible refine G.trans ?_ hb11 | with_reducible refine G.trans ?_ hb10 | with_reducible refine G.trans ?_ hb9 | with_reducible refine G.trans ?_ hb8 | with_reducible refine G.trans ?_ hb7 | with_reducible refine G.trans ?_ hb6 | with_reducible refine G.trans ?_ hb5 | with_reducible refine G.trans ?_ hb4 | with_reducible refine G.trans ?_ hb3 | with_reducible refine G.trans ?_ hb2 | with_reducible refine G.trans ?_ hb1 | with_reducible refine G.trans ?_ hb | assumption), by repeat (first | with_reducible assumption | (exact Box2.new (by simp; done)) | with_reducible refine Box2.alloc ?_ _ | with_reducible refine Box2.grow ?_ hb12 | with_reducible refine Box2.grow ?_ hb5 | with_reducible refine Box2.grow ?_ hb4 | with_reducible refine Box2.grow ?_ hb3 | with_reducible refine Box2.grow ?_ hb2 | with_reducible refine Box2.grow ?_ hb1 | with_reducible refine Box2.grow ?_ hb | assumption), by repeat (first | with_reducible assumption | (exact Box2.new (by simp; done)) | with_reducible refine Box2.alloc ?_ _ | with_reducible refine Box2.grow ?_ hb12 | with_reducible refine Box2.grow ?_ hb5 | with_reducible refine Box2.grow ?_ hb4 | with_reducible refine Box2.grow ?_ hb3 | with_reducible refine Box2.grow ?_ hb2 | with_reducible refine Box2.grow ?_ hb1 | with_reducible refine Box2.grow ?_ hb | assumption), by repeat (first | with_reducible assumption | (exact Box2.new (by simp; done)) | with_reducible refine Box2.alloc ?_ _ | with_reducible refine Box2.grow ?_ hb12 | with_reducible refine Box2.grow ?_ hb5 | with_reducible refine Box2.grow ?_ hb4 | with_reducible refine Box2.grow ?_ hb3 | with_reducible refine Box2.grow ?_ hb2 | with_reducible refine Box2.grow ?_ hb1 | with_reducible refine Box2.grow ?_ hb | assumption)⟩; exact ((Row.new (rep_row N) rfl (by simp)).alloc _); done)
            | (refine ⟨w0.heap.size, w0.heap.size + 1, rfl, by omega, by omega, by omega, by (first | (simp; done) | (simp; omega)), by repeat (first | with_reducible assumption | (exact Box2.new (by simp; done)) | with_reducible refine Box2.alloc ?_ _ | with_reducible refine Box2.grow ?_ hb12 | with_reducible refine Box2.grow ?_ hb5 | with_reducible refine Box2.grow ?_ hb4 | with_reducible refine Box2.grow ?_ hb3 | with_reducible refine Box2.grow ?_ hb2 | with_reducible refine Box2.grow ?_ hb1 | with_reducible refine Box2.grow ?_ hb | assumption), ?_, by repeat (first | with_reducible assumption | with_reducible exact G.refl _ | with_reducible refine G.drew ?_ | with_reducible refine G.drewN ?_ _ | with_reducible refine G.alloc ?_ _ | with_reducible refine Below.setCell ?_ (by first | (simp; done) | (simp; omega)) _ | with_reducible refine G.trans ?_ hb12 | with_reducible refine G.trans ?_ hb11 | with_reducible refine G.trans ?_ hb10 | with_reducible refine G.trans ?_ hb9 | with_reducible refine G.trans ?_ hb8 | with_reducible refine G.trans ?_ hb7 | with_reducible refine G.trans ?_ hb6 | with_reducible refine G.trans ?_ hb5 | with_reducible refine G.trans ?_ hb4 | with_reducible refine G.trans ?_ hb3 | with_reducible refine G.trans ?_ hb2 | with_reducible refine G.trans ?_ hb1 | with_reducible refine G.trans ?_ hb | assumption), by repeat (first | with_reducible assumption | (exact Box2.new (by simp; done)) | with_reducible refine Box2.alloc ?_ _ | with_reducible refine Box2.grow ?_ hb12 | with_reducible refine Box2.grow ?_ hb5 | with_reducible refine Box2.grow ?_ hb4 | with_reducible refine Box2.grow ?_ hb3 | with_reducible refine Box2.grow ?_ hb2 | with_reducible refine Box2.grow ?_ hb1 | with_reducible refine Box2.grow ?_ hb | assumption), by repeat (first | with_reducible assumption | (exact Box2.new (by simp; done)) | with_reducible refine Box2.alloc ?_ _ | with_reducible refine Box2.grow ?_ hb12 | with_reducible refine Box2.grow ?_ hb5 | with_reducible refine Box2.grow ?_ hb4 | with_reducible refine Box2.grow ?_ hb3 | with_reducible refine Box2.grow ?_ hb2 | with_reducible refine Box2.grow ?_ hb1 | with_reducible refine Box2.grow ?_ hb | assumption), by repeat (first | with_reducible assumption | (exact Box2.new (by simp; done)) | with_reducible refine Box2.alloc ?_ _ | with_reducible refine Box2.grow ?_ hb12 | with_reducible refine Box2.grow ?_ hb5 | with_reducible refine Box2.grow ?_ hb4 | with_reducible refine Box2.grow ?_ hb3 | with_reducible refine Box2.grow ?_ hb2 | with_reducible refine Box2.grow ?_ hb1 | with_reducible refine Box2.grow ?_ hb | assumption)⟩; exact Row.new (rep_row N) (by simp) (by simp); done)
            | trace_state
        exact tree_stop
      exact tree_stop
    (with_reducible refine tree_run hG ?_ ?_)
    · intro K hK
      go_simp
      replace hG := Grew.alloc hG (.cells #[.int .i64 0, .slice none 0 0] 33)
      (with_reducible refine hK _ _ hG ?_)
      clear hK K
      (with_reducible refine tree_run hG ?_ ?_)
      · intro K hK
        go_simp
        replace hG := Grew.alloc hG (.cells (Array.replicate N (.int .i64 0)) 3)
        (with_reducible refine hK _ _ hG ?_)
        clear hK K
        (repeat ((first | (with_reducible refine tree_q1 ?_) | (with_reducible refine tree_q0 ?_)); intro K hK; first | (refine Or.inr ⟨?_, ?_⟩; (focus (go_simp; first | done | (simp [undef]; done))); go_simp; (with_reducible refine hK _ ?_); clear hK K) | (refine Or.inl ⟨?_, ?_⟩; (focus (go_simp; done)); apply Exists.intro; refine And.intro ?_ ?_; (focus (first | (intro wq hq; obtain ⟨hcq, hfq⟩ := G.old hq; go_simp; (first | done | exact rfl); done) | (intro wq; go_simp; (first | done | exact rfl); done))); go_simp; (with_reducible refine hK _ ?_); clear hK K) | fail))
        (with_reducible refine tree_tail ?_ ?_)
        · intro K hK
          go_simp
          (with_reducible refine hK _ _ ?_)
          clear hK K
          (with_reducible refine tree_nil ?_)
          have hb1 := hG0
          go_wp2_with fail
          go_meet
          first
            | (refine ⟨w0.heap.size + 1, w0.heap.size, rfl, by omega, by omega, by omega, by (first | (simp; done) | (simp; omega)), by repeat (first | with_reducible assumption | (exact Box2.new (by simp; done)) | with_reducible refine Box2.alloc ?_ _ | with_reducible refine Box2.grow ?_ hb12 | with_reducible refine Box2.grow ?_ hb5 | with_reducible refine Box2.grow ?_ hb4 | with_reducible refine Box2.grow ?_ hb3 | with_reducible refine Box2.grow ?_ hb2 | with_reducible refine Box2.grow ?_ hb1 | with_reducible refine Box2.grow ?_ hb | assumption), ?_, by repeat (first | with_reducible assumption | with_reducible exact G.refl _ | with_reducible refine G.drew ?_ | with_reducible refine G.drewN ?_ _ | with_reducible refine G.alloc ?_ _ | with_reducible refine Below.setCell ?_ (by first | (simp; done) | (simp; omega)) _ | with_reducible refine G.trans ?_ hb12 | with_reducible refine G.trans ?_ hb11 | with_reducible refine G.trans ?_ hb10 | with_reducible refine G.trans ?_ hb9 | with_reducible refine G.trans ?_ hb8 | with_reducible refine G.trans ?_ hb7 | with_reducible refine G.trans ?_ hb6 | with_reducible refine G.trans ?_ hb5 | with_reducible refine G.trans ?_ hb4 | with_reducible refine G.trans ?_ hb3 | with_reducible refine G.trans ?_ hb2 | with_reducible refine G.trans ?_ hb1 | with_reducible refine G.trans ?_ hb | assumption), by repeat (first | with_reducible assumption | (exact Box2.new (by simp; done)) | with_reducible refine Box2.alloc ?_ _ | with_reducible refine Box2.grow ?_ hb12 | with_reducible refine Box2.grow ?_ hb5 | with_reducible refine Box2.grow ?_ hb4 | with_reducible refine Box2.grow ?_ hb3 | with_reducible refine Box2.grow ?_ hb2 | with_reducible refine Box2.grow ?_ hb1 | with_reducible refine Box2.grow ?_ hb | assumption), by repeat (first | with_reducible assumption | (exact Box2.new (by simp; done)) | with_reducible refine Box2.alloc ?_ _ | with_reducible refine Box2.grow ?_ hb12 | with_reducible refine Box2.grow ?_ hb5 | with_reducible refine Box2.grow ?_ hb4 | with_reducible refine Box2.grow ?_ hb3 | with_reducible refine Box2.grow ?_ hb2 | with_reducible refine Box2.grow ?_ hb1 | with_reducible refine Box2.grow ?_ hb | assumption), by repeat (first | with_reducible assumption | (exact Box2.new (by simp; done)) | with_reducible refine Box2.alloc ?_ _ | with_reducible refine Box2.grow ?_ hb12 | with_reducible refine Box2.grow ?_ hb5 | with_reducible refine Box2.grow ?_ hb4 | with_reducible refine Box2.grow ?_ hb3 | with_reducible refine Box2.grow ?_ hb2 | with_reducible refine Box2.grow ?_ hb1 | with_reducible refine Box2.grow ?_ hb | assumption)⟩; exact ((Row.new (rep_row N) rfl (by simp)).alloc _); done)
            | (refine ⟨w0.heap.size, w0.heap.size + 1, rfl, by omega, by omega, by omega, by (first | (simp; done) | (simp; omega)), by repeat (first | with_reducible assumption | (exact Box2.new (by simp; done)) | with_reducible refine Box2.alloc ?_ _ | with_reducible refine Box2.grow ?_ hb12 | with_reducible refine Box2.grow ?_ hb5 | with_reducible refine Box2.grow ?_ hb4 | with_reducible refine Box2.grow ?_ hb3 | with_reducible refine Box2.grow ?_ hb2 | with_reducible refine Box2.grow ?_ hb1 | with_reducible refine Box2.grow ?_ hb | assumption), ?_, by repeat (first | with_reducible assumption | with_reducible exact G.refl _ | with_reducible refine G.drew ?_ | with_reducible refine G.drewN ?_ _ | with_reducible refine G.alloc ?_ _ | with_reducible refine Below.setCell ?_ (by first | (simp; done) | (simp; omega)) _ | with_reducible refine G.trans ?_ hb12 | with_reducible refine G.trans ?_ hb11 | with_reducible refine G.trans ?_ hb10 | with_reducible refine G.trans ?_ hb9 | with_reducible refine G.trans ?_ hb8 | with_reducible refine G.trans ?_ hb7 | with_reducible refine G.trans ?_ hb6 | with_reducible refine G.trans ?_ hb5 | with_reducible refine G.trans ?_ hb4 | with_reducible refine G.trans ?_ hb3 | with_reducible refine G.trans ?_ hb2 | with_reducible refine G.trans ?_ hb1 | with_reducible refine G.trans ?_ hb | assumption), by repeat (first | with_reducible assumption | (exact Box2.new (by simp; done)) | with_reducible refine Box2.alloc ?_ _ | with_reducible refine Box2.grow ?_ hb12 | with_reducible refine Box2.grow ?_ hb5 | with_reducible refine Box2.grow ?_ hb4 | with_reducible refine Box2.grow ?_ hb3 | with_reducible refine Box2.grow ?_ hb2 | with_reducible refine Box2.grow ?_ hb1 | with_reducible refine Box2.grow ?_ hb | assumption), by repeat (first | with_reducible assumption | (exact Box2.new (by simp; done)) | with_reducible refine Box2.alloc ?_ _ | with_reducible refine Box2.grow ?_ hb12 | with_reducible refine Box2.grow ?_ hb5 | with_reducible refine Box2.grow ?_ hb4 | with_reducible refine Box2.grow ?_ hb3 | with_reducible refine Box2.grow ?_ hb2 | with_reducible refine Box2.grow ?_ hb1 | with_reducible refine Box2.grow ?_ hb | assumption), by repeat (first | with_reducible assumption | (exact Box2.new (by simp; done)) | with_reducible refine Box2.alloc ?_ _ | with_reducible refine Box2.grow ?_ hb12 | with_reducible refine Box2.grow ?_ hb5 | with_reducible refine Box2.grow ?_ hb4 | with_reducible refine Box2.grow ?_ hb3 | with_reducible refine Box2.grow ?_ hb2 | with_reducible refine Box2.grow ?_ hb1 | with_reducible refine Box2.grow ?_ hb | assumption)⟩; exact Row.new (rep_row N) (by simp) (by simp); done)
            | trace_state
        exact tree_stop
      exact tree_stop
    exact tree_stop
  case rest =>
    obtain ⟨X, R, rfl, hXR, hX2, hR2, hXl, hBx, hRow, hbw, hBa, hBb, hBr⟩ := hcut
    clear hmk hNw hNw2 hw1 hi0 hz0 hz1 hz2
    have hXR' : R ≠ X := fun e => hXR e.symm
    go_wp2_with fail
    go_loopw [6] (fun iv wr => ∃ (i : Nat) (L : List Int), i ≤ n ∧ iv = .int .i64 i ∧ Hid (Bd (8100 * i) L ∧ valD L = valD (xs.take i) * valD ys) ∧ Row wr R N L ∧ Below w.heap.size w wr ∧ X < wr.heap.size ∧ Box2 wr X (.int .i64 st) (.slice (some ⟨R, 0, none⟩) N N) ∧ Box2 wr w.heap.size (.int .i64 s1) (.slice A n c) ∧ Box2 wr (w.heap.size + 1) (.int .i64 s2) (.slice B m d) ∧ Box2 wr (w.heap.size + 1 + 1) (.int .i64 0) (.slice none 0 0)) (fun iv _ => n - (intOf iv).toNat)
    case atStart => exact ⟨0, List.replicate N 0, by omega, rfl, ⟨Bd.rep N, by rw [valD_rep]; simp [valD]⟩, hRow, hbw, hXl, hBx, hBa, hBb, hBr⟩
    case round =>
      obtain ⟨i, L, hin, rfl, hI, hRr, hbr, hXr, hBx', hBa', hBb', hBr'⟩ := hrel
      obtain ⟨a0, a1, _, _⟩ := id hBa'
      have lta := hBa'.lt
      clear hRow hbw hXl hBx hBa hBb hBr
      by_cases hlt : i < n
      · have hdi := Lib.hid (dg_dig HX.out i)
        go_wp2_with fail
        obtain ⟨wo, rfl⟩ : ∃ wo : World, wo = wr := ⟨_, rfl⟩
        go_loopw [7] (fun kv wr => ∃ (k : Nat) (L : List Int), k ≤ m ∧ kv = .int .i64 k ∧ Hid (Bd (8100 * i + 81 * k) L ∧ valD L = valD (xs.take i) * valD ys + p10 i * (dg xs i * valD (ys.take k))) ∧ Row wr R N L ∧ Below w.heap.size w wr ∧ X < wr.heap.size ∧ Box2 wr X (.int .i64 st) (.slice (some ⟨R, 0, none⟩) N N) ∧ Box2 wr w.heap.size (.int .i64 s1) (.slice A n c) ∧ Box2 wr (w.heap.size + 1) (.int .i64 s2) (.slice B m d) ∧ Box2 wr (w.heap.size + 1 + 1) (.int .i64 0) (.slice none 0 0)) (fun kv _ => m - (intOf kv).toNat)
        case atStart => exact ⟨0, L, by omega, rfl, ⟨fun x hx => by have := hI.out.1 x hx; omega, by rw [hI.out.2]; simp [valD]⟩, hRr, hbr, hXr, hBx', hBa', hBb', hBr'⟩
        case round =>
          obtain ⟨k, L, hkm, rfl, hI, hRr, hbr, hXr, hBx', hBa', hBb', hBr'⟩ := hrel
          obtain ⟨x0, x1, x2, x3⟩ := id hBx'
          obtain ⟨a0, a1, a2, a3⟩ := id hBa'
          obtain ⟨b0, b1, b2, b3⟩ := id hBb'
          have ltx := hBx'.lt
          have lta := hBa'.lt
          have ltb := hBb'.lt
          by_cases hk : k < m
          · have hdk := Lib.hid (dg_dig HY.out k)
            obtain ⟨bA, oA, p, hA, hbA, hp, hcA⟩ := (hsl.grow hbr).at_ hlt
            obtain ⟨bB, oB, q, hB, hbB, hq, hcB⟩ := (htl.grow hbr).at_ hk
            have hpd : dg xs i = p := by unfold dg; rw [List.getD_eq_getElem?_getD, hp]; rfl
            have hqd : dg ys k = q := by unfold dg; rw [List.getD_eq_getElem?_getD, hq]; rfl
            have hikN : i + k < N := by omega
            obtain ⟨v, hv⟩ : ∃ v, L[i + k]? = some v := ⟨L[i + k]'(by rw [hRr.1]; exact hikN), List.getElem?_eq_getElem _⟩
            have hvb := hI.out.1.get hv
            have hcv := hRr.2.2.1 _ _ hv
            have hfz := hRr.2.2.2 (i + k)
            have hltR := hRr.2.1
            have hst := times_step hI.out.2 hv
            have hpq := dig_mul hdi.out hdk.out
            rw [hpd, hqd] at hpq
            have hiw : IntKind.i64.wrap ((i : Int) + (k : Int)) = ((i + k : Nat) : Int) := by rw [IntWalk.i64_in _ (by omega)]; omega
            obtain ⟨g, hg⟩ : ∃ g, p * q = g := ⟨_, rfl⟩
            have hgw : IntKind.i64.wrap (p * q) = g := by rw [hg]; exact IntWalk.i64_in _ (by omega)
            rw [hg] at hpq
            rw [show dg xs i * dg ys k = g by rw [hpd, hqd, hg]] at hst
            have hst' := Lib.hid hst
            have hpq' := Lib.hid hpq
            have hvb' := Lib.hid hvb
            have hBd := Lib.hid hI.out.1
            have hvw : IntKind.i64.wrap (v + g) = v + g := IntWalk.i64_in _ (by omega)
            clear hg hst hpq hvb hp hq hpd hqd hv hI
            subst hA hB
            obtain ⟨J, hJ⟩ : ∃ J, i + k = J := ⟨_, rfl⟩
            simp only [hJ] at hiw hikN hcv hfz hst'
            have hJ' := Lib.hid hJ
            clear hJ
            go_wp2_with fail
            refine wp_region_ord [(0, 1), (1, 1), (2, 1), (3, 1), (4, 1), (5, 1), (6, 1), (7, 1), (8, 1), (9, 1), (10, 1), (11, 1), (12, 1), (13, 1), (14, 1), (15, 1), (16, 1), (17, 1), (18, 1), (19, 1), (20, 1), (21, 1), (22, 1), (23, 1), (24, 1), (25, 3)] [25] 5 (by kernel_rfl) (by decide +kernel) ?_
            simp only [pickO, List.getElem?_cons_succ, List.getElem?_cons_zero]
            intro w0 hG
            (repeat ((first | (with_reducible refine ord_q1 ?_) | (with_reducible refine ord_q0 ?_)); intro K hK; first | (refine Or.inr ⟨?_, ?_⟩; (focus (go_simp; first | done | (simp [undef]; done))); go_simp; (with_reducible refine hK _ ?_); clear hK K) | (refine Or.inl ⟨?_, ?_⟩; (focus (go_simp; done)); apply Exists.intro; refine And.intro ?_ ?_; (focus (first | (intro wq hq; obtain ⟨hcq, hfq⟩ := G.old hq; go_simp; (first | done | exact rfl); done) | (intro wq; go_simp; (first | done | exact rfl); done))); go_simp; (with_reducible refine hK _ ?_); clear hK K) | fail))
            have hbg := hG.b
            have hfz0 := (hbg.frozen (p := ⟨R, J, none⟩) hltR).trans hfz
            have hcv0 := G.cell hcv hbg
            have hszg := hbg.size
            ((with_reducible refine ord_tail ?_); intro K hK; go_simp; (with_reducible refine hK _ _ ?_); clear hK K)
            (with_reducible refine ord_nil ?_)
            have hRg := hRr.grow hbg
            have hbrg := G.trans hbr hbg
            have hBxg := hBx'.grow hbg
            have hBag := hBa'.grow hbg
            have hBbg := hBb'.grow hbg
            have hBrg := hBr'.grow hbg
            clear hG hbg hcv0 hfz0
            go_wp2_with fail
            go_roundw
            case rel => exact ⟨k + 1, L.set J (v + g), by omega, by go_num, ⟨hBd.out.set (by omega) (by have := hvb'.out; have := hpq'.out; omega) (by have := hvb'.out; have := hpq'.out; omega) J, hst'.out⟩, hRg.set hikN _, hbrg.setCell (by simp; omega) _, by simp; omega, hBxg.other hXR, hBag.other (by omega), hBbg.other (by omega), hBrg.other (by omega)⟩
            case measure => first | (simp [intOf]; done) | (simp [intOf]; omega)
          · have hkm' : k = m := by omega
            subst hkm'
            have hnx := Lib.hid (times_next (by have := hly.out; omega) hI.out.2)
            have hBd := Lib.hid hI.out.1
            clear hI
            go_wp2_with fail
            go_roundw
            case rel => exact ⟨i + 1, L, by omega, by go_num, ⟨fun x hx => by have := hBd.out x hx; omega, hnx.out⟩, hRr, hbr, hXr, hBx', hBa', hBb', hBr'⟩
            case measure => first | (simp [intOf]; done) | (simp [intOf]; omega)
      · have hinn : i = n := by omega
        subst hinn
        have hI2 : Hid (Bd 810000 L ∧ valD L = valD xs * valD ys) := ⟨fun x hx => by have := hI.out.1 x hx; omega, by rw [hI.out.2, List.take_of_length_le (by have := hlx.out; omega)]⟩
        clear hI
        go_wp2_with fail
        obtain ⟨wo, rfl⟩ : ∃ wo : World, wo = wr := ⟨_, rfl⟩
        go_loopw [8] (fun iv wr => ∃ (e : Nat) (L : List Int), e < N ∧ iv = .int .i64 e ∧ Hid (Dig (L.take e) ∧ Bd 2000000 L ∧ (∀ j x, e < j → L[j]? = some x → x ≤ 810000) ∧ valD L = valD xs * valD ys) ∧ Row wr R N L ∧ Below w.heap.size w wr ∧ X < wr.heap.size ∧ Box2 wr X (.int .i64 st) (.slice (some ⟨R, 0, none⟩) N N) ∧ Box2 wr w.heap.size (.int .i64 s1) (.slice A i c) ∧ Box2 wr (w.heap.size + 1) (.int .i64 s2) (.slice B m d) ∧ Box2 wr (w.heap.size + 1 + 1) (.int .i64 0) (.slice none 0 0)) (fun iv _ => N - (intOf iv).toNat)
        case atStart => exact ⟨0, L, by omega, rfl, ⟨Dig.nil, fun x hx => by have := hI2.out.1 x hx; omega, fun j x _ hx => (hI2.out.1.get hx).2, hI2.out.2⟩, hRr, hbr, hXr, hBx', hBa', hBb', hBr'⟩
        case round =>
          obtain ⟨e, L, heN, rfl, hI, hRr, hbr, hXr, hBx', hBa', hBb', hBr'⟩ := hrel
          obtain ⟨x0, x1, x2, x3⟩ := id hBx'
          have ltx := hBx'.lt
          by_cases hlt2 : e + 1 < N
          · obtain ⟨a, ha⟩ : ∃ a, L[e]? = some a := ⟨L[e]'(by rw [hRr.1]; exact heN), List.getElem?_eq_getElem _⟩
            obtain ⟨b, hb⟩ : ∃ b, L[e + 1]? = some b := ⟨L[e + 1]'(by rw [hRr.1]; exact hlt2), List.getElem?_eq_getElem _⟩
            have hab := hI.out.2.1.get ha
            have hbb := hI.out.2.1.get hb
            have hbb2 := hI.out.2.2.1 _ _ (by omega) hb
            have hca := hRr.2.2.1 _ _ ha
            have hcb := hRr.2.2.1 _ _ hb
            have hfa := hRr.2.2.2 e
            have hfb := hRr.2.2.2 (e + 1)
            have hltR := hRr.2.1
            have hcs := carry_step ha hb hab.1
            have htm := tmod_bd (n := a) (P := 10) (by omega)
            have htp := tparts a 10
            have htm0 := htm.2.2.1 hab.1
            obtain ⟨qd, hqd⟩ : ∃ qd, a.tdiv 10 = qd := ⟨_, rfl⟩
            obtain ⟨md, hmd⟩ : ∃ md, a.tmod 10 = md := ⟨_, rfl⟩
            have hqw : IntKind.i64.wrap (a.tdiv 10) = qd := by rw [hqd]; exact IntWalk.i64_in _ (by omega)
            have hmw : IntKind.i64.wrap (a.tmod 10) = md := by rw [hmd]; exact IntWalk.i64_in _ (by omega)
            rw [hqd, hmd] at hcs htp
            rw [hmd] at htm htm0
            have hmb : Hid (0 ≤ md ∧ md ≤ 9) := ⟨htm0, by omega⟩
            have hqb : Hid (0 ≤ b + qd ∧ b + qd ≤ 2000000) := ⟨by omega, by omega⟩
            have hsw : IntKind.i64.wrap (b + qd) = b + qd := IntWalk.i64_in _ (by have := hqb.out; omega)
            have hew : IntKind.i64.wrap ((e : Int) + 1) = ((e + 1 : Nat) : Int) := by rw [IntWalk.i64_in _ (by omega)]; omega
            have hcs' := Lib.hid hcs
            have hab' := Lib.hid ha
            have hbb' := Lib.hid hb
            have hI' := Lib.hid hI.out
            have hmd' := Lib.hid hmd
            clear hcs htm htp htm0 hqd hmd hab hbb hbb2 ha hb hI
            go_wp2_with fail
            refine wp_region_ord [(0, 1), (1, 1), (2, 1), (3, 1), (4, 1), (5, 1), (6, 1), (7, 1), (8, 1), (9, 1), (10, 1), (11, 1), (12, 1), (13, 1), (14, 1), (15, 1), (16, 1), (17, 1), (18, 3)] [18] 5 (by kernel_rfl) (by decide +kernel) ?_
            simp only [pickO, List.getElem?_cons_succ, List.getElem?_cons_zero]
            intro w0 hG
            (repeat ((first | (with_reducible refine ord_q1 ?_) | (with_reducible refine ord_q0 ?_)); intro K hK; first | (refine Or.inr ⟨?_, ?_⟩; (focus (go_simp; first | done | (simp [undef]; done))); go_simp; (with_reducible refine hK _ ?_); clear hK K) | (refine Or.inl ⟨?_, ?_⟩; (focus (go_simp; done)); apply Exists.intro; refine And.intro ?_ ?_; (focus (first | (intro wq hq; obtain ⟨hcq, hfq⟩ := G.old hq; go_simp; (first | done | exact rfl); done) | (intro wq; go_simp; (first | done | exact rfl); done))); go_simp; (with_reducible refine hK _ ?_); clear hK K) | fail))
            have hbg := hG.b
            have hfz0 := (hbg.frozen (p := ⟨R, e + 1, none⟩) hltR).trans hfb
            have hcv0 := G.cell hcb hbg
            have hszg := hbg.size
            ((with_reducible refine ord_tail ?_); intro K hK; go_simp; (with_reducible refine hK _ _ ?_); clear hK K)
            (with_reducible refine ord_nil ?_)
            have hRg := hRr.grow hbg
            have hbrg := G.trans hbr hbg
            have hBxg := hBx'.grow hbg
            have hBag := hBa'.grow hbg
            have hBbg := hBb'.grow hbg
            have hBrg := hBr'.grow hbg
            clear hG hbg hcv0 hfz0
            go_wp2_with fail
            refine wp_name (fun w1 => Row w1 R N (L.set (e + 1) (b + qd)) ∧ Below w.heap.size w w1 ∧ X < w1.heap.size ∧ Box2 w1 X (.int .i64 st) (.slice (some ⟨R, 0, none⟩) N N) ∧ Box2 w1 w.heap.size (.int .i64 s1) (.slice A i c) ∧ Box2 w1 (w.heap.size + 1) (.int .i64 s2) (.slice B m d) ∧ Box2 w1 (w.heap.size + 1 + 1) (.int .i64 0) (.slice none 0 0)) ⟨hRg.set hlt2 _, hbrg.setCell (by simp; omega) _, by simp; omega, hBxg.other hXR, hBag.other (by omega), hBbg.other (by omega), hBrg.other (by omega)⟩ ?_
            clear hRr hbr hXr hBx' hBa' hBb' hBr' hRg hbrg hBxg hBag hBbg hBrg hca hcb hfa hfb x0 x1 x2 x3 ltx
            rintro w1 ⟨hRr, hbr, hXr, hBx', hBa', hBb', hBr'⟩
            have hca := hRr.2.2.1 e a (by rw [List.getElem?_set_ne (by omega)]; exact hab'.out)
            have hfa := hRr.2.2.2 e
            have hltR := hRr.2.1
            obtain ⟨x0, x1, x2, x3⟩ := id hBx'
            have ltx := hBx'.lt
            refine wp_region_ord [(0, 1), (1, 1), (2, 1), (3, 1), (4, 1), (5, 1), (6, 1), (7, 1), (8, 1), (9, 1), (10, 3)] [10] 5 (by kernel_rfl) (by decide +kernel) ?_
            simp only [pickO, List.getElem?_cons_succ, List.getElem?_cons_zero]
            intro w0 hG
            (repeat ((first | (with_reducible refine ord_q1 ?_) | (with_reducible refine ord_q0 ?_)); intro K hK; first | (refine Or.inr ⟨?_, ?_⟩; (focus (go_simp; first | done | (simp [undef]; done))); go_simp; (with_reducible refine hK _ ?_); clear hK K) | (refine Or.inl ⟨?_, ?_⟩; (focus (go_simp; done)); apply Exists.intro; refine And.intro ?_ ?_; (focus (first | (intro wq hq; obtain ⟨hcq, hfq⟩ := G.old hq; go_simp; (first | done | exact rfl); done) | (intro wq; go_simp; (first | done | exact rfl); done))); go_simp; (with_reducible refine hK _ ?_); clear hK K) | fail))
            have hbg := hG.b
            have hfz0 := (hbg.frozen (p := ⟨R, e, none⟩) hltR).trans hfa
            have hcv0 := G.cell hca hbg
            have hszg := hbg.size
            ((with_reducible refine ord_tail ?_); intro K hK; go_simp; (with_reducible refine hK _ _ ?_); clear hK K)
            (with_reducible refine ord_nil ?_)
            rw [hmd'.out]
            have hRg := hRr.grow hbg
            have hbrg := G.trans hbr hbg
            have hBxg := hBx'.grow hbg
            have hBag := hBa'.grow hbg
            have hBbg := hBb'.grow hbg
            have hBrg := hBr'.grow hbg
            clear hG hbg hcv0 hfz0
            go_wp2_with fail
            go_roundw
            case rel => exact ⟨e + 1, (L.set (e + 1) (b + qd)).set e md, hlt2, by go_num, ⟨carry_dig hI'.out.1 hmb.out, (hI'.out.2.1.set (Int.le_refl _) hqb.out.1 hqb.out.2 _).set (Int.le_refl _) hmb.out.1 (by have := hmb.out; omega) _, fun j x hj hx => hI'.out.2.2.1 j x (by omega) (by rw [List.getElem?_set_ne (by omega), List.getElem?_set_ne (by omega)] at hx; exact hx), hcs'.out.trans hI'.out.2.2.2⟩, hRg.set heN _, hbrg.setCell (by simp; omega) _, by simp; omega, hBxg.other hXR, hBag.other (by omega), hBbg.other (by omega), hBrg.other (by omega)⟩
            case measure => first | (simp [intOf]; done) | (simp [intOf]; omega)
          · have heN' : N = e + 1 := by omega
            obtain ⟨a, ha⟩ : ∃ a, L[e]? = some a := ⟨L[e]'(by rw [hRr.1]; exact heN), List.getElem?_eq_getElem _⟩
            have hlv := hI.out.2.2.2
            have hdl : Dig L := carry_end (hRr.1.trans heN') hI.out.1 ha (hI.out.2.1.get ha).1 (by rw [hlv]; have := prod_lt HX.out HY.out hlx.out hly.out; rwa [show i + m = e by omega] at this)
            have hcm : N ≤ maxLen := by unfold maxLen; omega
            have hT := Lib.hid (fun w hq => trim_any st (some ⟨R, 0, none⟩) N N L w hq hdl (Nat.le_refl _) hcm)
            have hres : Hid (tsgn st L = sgn pz ∧ (valD L).toNat = pz.natAbs) := by
              unfold Hid tsgn
              rw [hlv, hV1.out, hV2.out]
              exact hSP.out
            clear hI ha hlv hdl heN'
            go_wp2_with fail
            with_reducible refine (hT.out _ hRr.sl).mono ?_
            rintro e5 w5 ⟨n5, rfl, hs5, hn5, hb5⟩
            rw [hres.out.1]
            rw [hres.out.2] at hs5
            obtain ⟨r1, r2, r3, r4⟩ := hBr'.grow hb5
            have ltR := cell_lt r1
            have hs6 := hb5.size
            have ha1 : Abv (w.heap.size + 1 + 1 + 1) (some ⟨R, 0, none⟩) := Abv.some_ (by simp; omega)
            go_wp2_with fail
            refine bodyPost_ret (v := .agg #[.int .i64 (sgn pz), .slice (some ⟨R, 0, none⟩) n5 N]) (by simp only [results, Tryd.results51]; go_simp) rfl ⟨some ⟨R, 0, none⟩, n5, N, rfl, ⟨?_, hn5, hcm⟩, ha1.mono (by omega), ?_⟩
            · exact Sl.setCell (Sl.setCell hs5 ha1 (by first | (simp; done) | (simp; omega)) _) ha1 (by first | (simp; done) | (simp; omega)) _
            · exact ((G.trans hbr hb5).setCell (by first | (simp; done) | (simp; omega)) _).setCell (by first | (simp; done) | (simp; omega)) _
end Go.Proofs.YtoipapcbngknfaaDoor
