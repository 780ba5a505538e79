/- The model's digits and quoteBytes. -/
import Derived.Test.YtmchiibbodllaaaGreatDoorScK
import Derived.Test.YtmchiibbodllaaaGreatDoorRel3
namespace Go.Proofs.YtmchiibbodllaaaGreatDoor
set_option linter.unusedVariables false
set_option linter.unnecessarySimpa false
set_option linter.unusedSimpArgs false
open Go.RowKit

theorem digits_any (w : World) (n : Nat) (h : n < 16) : Calls Tryz.prog 60 #[.int .i64 (n : Int)] w fun e w' => e = .returned (.string (B [hexD n])) ∧ Below w.heap.size w w' := by
  have hn : n = 0 ∨ n = 1 ∨ n = 2 ∨ n = 3 ∨ n = 4 ∨ n = 5 ∨ n = 6 ∨ n = 7 ∨ n = 8 ∨ n = 9 ∨ n = 10 ∨ n = 11 ∨ n = 12 ∨ n = 13 ∨ n = 14 ∨ n = 15 := by omega
  clear h
  rcases hn with rfl | rfl | rfl | rfl | rfl | rfl | rfl | rfl | rfl | rfl | rfl | rfl | rfl | rfl | rfl | rfl
  · go_enter Tryz.func60, Tryz.ntmps60
    go_wp2_with fail
    go_ret
    exact ⟨rfl, G.refl _⟩
  · go_enter Tryz.func60, Tryz.ntmps60
    go_wp2_with fail
    go_ret
    exact ⟨rfl, G.refl _⟩
  · go_enter Tryz.func60, Tryz.ntmps60
    go_wp2_with fail
    go_ret
    exact ⟨rfl, G.refl _⟩
  · go_enter Tryz.func60, Tryz.ntmps60
    go_wp2_with fail
    go_ret
    exact ⟨rfl, G.refl _⟩
  · go_enter Tryz.func60, Tryz.ntmps60
    go_wp2_with fail
    go_ret
    exact ⟨rfl, G.refl _⟩
  · go_enter Tryz.func60, Tryz.ntmps60
    go_wp2_with fail
    go_ret
    exact ⟨rfl, G.refl _⟩
  · go_enter Tryz.func60, Tryz.ntmps60
    go_wp2_with fail
    go_ret
    exact ⟨rfl, G.refl _⟩
  · go_enter Tryz.func60, Tryz.ntmps60
    go_wp2_with fail
    go_ret
    exact ⟨rfl, G.refl _⟩
  · go_enter Tryz.func60, Tryz.ntmps60
    go_wp2_with fail
    go_ret
    exact ⟨rfl, G.refl _⟩
  · go_enter Tryz.func60, Tryz.ntmps60
    go_wp2_with fail
    go_ret
    exact ⟨rfl, G.refl _⟩
  · go_enter Tryz.func60, Tryz.ntmps60
    go_wp2_with fail
    go_ret
    exact ⟨rfl, G.refl _⟩
  · go_enter Tryz.func60, Tryz.ntmps60
    go_wp2_with fail
    go_ret
    exact ⟨rfl, G.refl _⟩
  · go_enter Tryz.func60, Tryz.ntmps60
    go_wp2_with fail
    go_ret
    exact ⟨rfl, G.refl _⟩
  · go_enter Tryz.func60, Tryz.ntmps60
    go_wp2_with fail
    go_ret
    exact ⟨rfl, G.refl _⟩
  · go_enter Tryz.func60, Tryz.ntmps60
    go_wp2_with fail
    go_ret
    exact ⟨rfl, G.refl _⟩
  · go_enter Tryz.func60, Tryz.ntmps60
    go_wp2_with fail
    go_ret
    exact ⟨rfl, G.refl _⟩
theorem qb_take {l : List UInt8} {i : Nat} (h : i < l.length) : qb (l.take i) ++ [hexD (l[i].toNat / 16), hexD (l[i].toNat % 16)] = qb (l.take (i + 1)) := by
  rw [List.take_succ_eq_append_getElem h]
  generalize l.take i = a
  generalize l[i] = c
  induction a with
  | nil => rfl
  | cons x a ih => simp [qb] at ih ⊢; exact ih
set_option maxRecDepth 20000 in set_option maxHeartbeats 4000000 in
theorem qbytesM_any (w : World) (s : ByteArray) (hs : s.size ≤ 100000) : Calls Tryz.prog 35 #[.string s] w fun e w' => e = .returned (.string (B (quoteB s.data.toList))) ∧ Below w.heap.size w w' := by
  obtain ⟨l, hl⟩ : ∃ l, s.data.toList = l := ⟨_, rfl⟩
  have hlen : s.size = l.length := by rw [← hl, Array.length_toList]; rfl
  replace hlen := Lib.hid hlen
  replace hl := Lib.hid hl
  go_enter Tryz.func35, Tryz.ntmps35
  go_wp2_with fail
  have HB := Lib.hid (G.refl w : Below w.heap.size w w)
  go_loopw [3, 4] (fun sv iv wx => ∃ i : Nat, i ≤ s.size ∧ sv = .string (B (120 :: 34 :: qb (l.take i))) ∧ iv = .int .i64 (i : Int) ∧ Hid (Below w.heap.size w wx)) (fun _ iv _ => s.size - (intOf iv).toNat)
  case atStart => exact ⟨0, Nat.zero_le _, rfl, rfl, HB⟩
  case round =>
    clear HB
    obtain ⟨i, hi, rfl, rfl, HB⟩ := hrel
    by_cases hlt : i < s.size
    · have hlt' : (i : Int) < (s.size : Int) := by omega
      have hw2 : IntKind.i64.wrap ((i : Int) + 1) = ((i + 1 : Nat) : Int) := by rw [IntWalk.i64_in _ (by omega)]; omega
      have hlen' := hlen.out
      have hT := qb_take (l := l) (i := i) (by omega)
      obtain ⟨c, hc⟩ : ∃ c, s[i] = c := ⟨_, rfl⟩
      have hc2 : l[i]'(by omega) = c := by have := hl.out; rw [← hc]; subst this; rfl
      rw [hc2] at hT
      clear hc2 hlen'
      have hc3 := c.toNat_lt
      obtain ⟨d1, hd1⟩ : ∃ d, c.toNat / 16 = d := ⟨_, rfl⟩
      obtain ⟨d2, hd2⟩ : ∃ d, c.toNat % 16 = d := ⟨_, rfl⟩
      rw [hd1, hd2] at hT
      have hq : (c.toNat : Int).tdiv 16 = (d1 : Int) := by rw [Int.tdiv_eq_ediv_of_nonneg (by omega)]; omega
      have hq2 : (c.toNat : Int) / 16 = (d1 : Int) := by omega
      have hr : (c.toNat : Int).tmod 16 = (d2 : Int) := by rw [Int.tmod_eq_emod_of_nonneg (by omega)]; omega
      have hr2 : (c.toNat : Int) % 16 = (d2 : Int) := by omega
      have b1 : d1 < 16 := by omega
      have b2 : d2 < 16 := by omega
      have u1 : IntKind.u8.wrap (d1 : Int) = (d1 : Int) := IntWalk.u8_in _ (by omega)
      have u2 : IntKind.u8.wrap (d2 : Int) = (d2 : Int) := IntWalk.u8_in _ (by omega)
      have v1 : IntKind.i64.wrap (d1 : Int) = (d1 : Int) := IntWalk.i64_in _ (by omega)
      have v2 : IntKind.i64.wrap (d2 : Int) = (d2 : Int) := IntWalk.i64_in _ (by omega)
      replace hT := Lib.hid hT
      replace hd1 := Lib.hid hd1
      replace hd2 := Lib.hid hd2
      have hq0 : (qb (l.take i)).length ≤ 200000 := by rw [qb_len, List.length_take]; have := hlen.out; omega
      obtain ⟨P0, hP0⟩ : ∃ P, (120 : UInt8) :: 34 :: qb (l.take i) = P := ⟨_, rfl⟩
      have z0' : P0.length ≤ 200002 := by rw [← hP0]; simp only [List.length_cons]; omega
      obtain ⟨P1, hP1⟩ : ∃ P, P0 ++ [hexD d1] = P := ⟨_, rfl⟩
      obtain ⟨P2, hP2⟩ : ∃ P, P1 ++ [hexD d2] = P := ⟨_, rfl⟩
      obtain ⟨n0, z0⟩ : ∃ n, P0.length = n := ⟨_, rfl⟩
      have z1 : P1.length = n0 + 1 := by rw [← hP1]; simp [z0]
      have z2 : P2.length = n0 + 2 := by rw [← hP2]; simp [z1]
      have y0 : (B P0).size = n0 := by rw [B_size, z0]
      have y1 : (B P1).size = n0 + 1 := by rw [B_size, z1]
      have y2 : (B P2).size = n0 + 2 := by rw [B_size, z2]
      have x1 : (B [hexD d1]).size = 1 := by rw [B_size]; rfl
      have x2 : (B [hexD d2]).size = 1 := by rw [B_size]; rfl
      have j1 : B P0 ++ B [hexD d1] = B P1 := by rw [B_app, hP1]
      have j2 : B P1 ++ B [hexD d2] = B P2 := by rw [B_app, hP2]
      have n0b : n0 ≤ 200002 := by omega
      have e1 : ¬ 9223372036854775807 < n0 + 1 := by omega
      have e2 : ¬ 9223372036854775807 < n0 + 1 + 1 := by omega
      have e3 : ¬ 9223372036854775807 < n0 + 2 := by omega
      replace hT : Hid (120 :: 34 :: qb (l.take (i + 1)) = P2) := by
        have := hT.out
        unfold Hid
        rw [← this, ← hP2, ← hP1, ← hP0]
        simp
      rw [hP0]
      clear hP0 hP1 hP2 z0 z1 z2 z0' hq0
      replace b1 := Lib.hid b1
      replace b2 := Lib.hid b2
      go_wp2_with fail
      refine wp_region_ord [(0, 1), (1, 1), (2, 1), (3, 1), (4, 1), (5, 1), (8, 1), (9, 1), (10, 1), (11, 1), (12, 1), (6, 2), (7, 1), (13, 2), (14, 1), (15, 1)] [] 5 (by kernel_rfl) (by decide +kernel) ?_
      simp only [pickO, List.append_eq, List.cons_append, List.nil_append, List.getElem?_cons_succ, List.getElem?_cons_zero]
      intro w0 hG
      (repeat ((first | (with_reducible refine ord_q1 ?_) | (with_reducible refine ord_q0 ?_)); intro K hK; first | (refine Or.inr ⟨?_, ?_⟩; (focus (go_simp; first | done | (simp [undef]; done))); go_simp; (with_reducible refine hK _ ?_); clear hK K) | (refine Or.inl ⟨?_, ?_⟩; (focus (go_simp; done)); apply Exists.intro; refine And.intro ?_ ?_; (focus (first | (intro wq hq; obtain ⟨hcq, hfq⟩ := G.old hq; go_simp; (first | done | exact rfl); done) | (intro wq; go_simp; (first | done | exact rfl); done))); go_simp; (with_reducible refine hK _ ?_); clear hK K) | fail))
      (with_reducible refine ord_run ?_ hG)
      intro K hK
      go_simp
      go_at_call 60; (with_reducible refine (digits_any _ d1 b1.out).mono ?_); rintro e' w1 ⟨rfl, hb1⟩
      replace hG := Grew.trans hG hb1
      (try dsimp only)
      (with_reducible refine hK _ _ hG ?_)
      clear hK K
      (repeat ((first | (with_reducible refine ord_q1 ?_) | (with_reducible refine ord_q0 ?_)); intro K hK; first | (refine Or.inr ⟨?_, ?_⟩; (focus (go_simp; first | done | (simp [undef]; done))); go_simp; (with_reducible refine hK _ ?_); clear hK K) | (refine Or.inl ⟨?_, ?_⟩; (focus (go_simp; done)); apply Exists.intro; refine And.intro ?_ ?_; (focus (first | (intro wq hq; obtain ⟨hcq, hfq⟩ := G.old hq; go_simp; (first | done | exact rfl); done) | (intro wq; go_simp; (first | done | exact rfl); done))); go_simp; (with_reducible refine hK _ ?_); clear hK K) | fail))
      (repeat ((first | (with_reducible refine ord_q1 ?_) | (with_reducible refine ord_q0 ?_)); intro K hK; first | (refine Or.inr ⟨?_, ?_⟩; (focus (go_simp; first | done | (simp [undef]; done))); go_simp; (with_reducible refine hK _ ?_); clear hK K) | (refine Or.inl ⟨?_, ?_⟩; (focus (go_simp; done)); apply Exists.intro; refine And.intro ?_ ?_; (focus (first | (intro wq hq; obtain ⟨hcq, hfq⟩ := G.old hq; go_simp; (first | done | exact rfl); done) | (intro wq; go_simp; (first | done | exact rfl); done))); go_simp; (with_reducible refine hK _ ?_); clear hK K) | fail))
      (with_reducible refine ord_run ?_ hG)
      intro K hK
      go_simp
      go_at_call 60; (with_reducible refine (digits_any _ d2 b2.out).mono ?_); rintro e' w2 ⟨rfl, hb2⟩
      replace hG := Grew.trans hG hb2
      (try dsimp only)
      (with_reducible refine hK _ _ hG ?_)
      clear hK K
      (repeat ((first | (with_reducible refine ord_q1 ?_) | (with_reducible refine ord_q0 ?_)); intro K hK; first | (refine Or.inr ⟨?_, ?_⟩; (focus (go_simp; first | done | (simp [undef]; done))); go_simp; (with_reducible refine hK _ ?_); clear hK K) | (refine Or.inl ⟨?_, ?_⟩; (focus (go_simp; done)); apply Exists.intro; refine And.intro ?_ ?_; (focus (first | (intro wq hq; obtain ⟨hcq, hfq⟩ := G.old hq; go_simp; (first | done | exact rfl); done) | (intro wq; go_simp; (first | done | exact rfl); done))); go_simp; (with_reducible refine hK _ ?_); clear hK K) | fail))
      (with_reducible refine ord_nil ?_)
      have hbG := hG.b
      clear hG
      go_wp2_with fail
      go_roundw
      case rel =>
        refine ⟨i + 1, by omega, ?_, by go_num, Lib.hid (G.trans HB.out hbG)⟩
        rw [hT.out]
      case measure => simp [intOf]; omega
    · obtain rfl : i = s.size := by omega
      have hT : B (120 :: 34 :: qb (l.take s.size)) ++ ⟨#[34]⟩ = B (quoteB l) := by
        have := hlen.out
        rw [show (⟨#[34]⟩ : ByteArray) = B [34] from rfl, B_app, List.take_of_length_le (by omega)]
        rfl
      have z0 : (B (120 :: 34 :: qb (l.take s.size))).size = 2 * s.size + 2 := by
        have := hlen.out
        rw [B_size, List.take_of_length_le (by omega)]
        simp only [List.length_cons, qb_len]
        omega
      go_wp2_with fail
      go_ret
      refine ⟨?_, HB.out⟩
      rw [hl.out]
      rfl
end Go.Proofs.YtmchiibbodllaaaGreatDoor
