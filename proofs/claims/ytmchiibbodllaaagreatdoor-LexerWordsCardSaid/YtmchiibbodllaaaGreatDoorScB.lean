/- lexer: while, blanks. -/
import Derived.Test.YtmchiibbodllaaaGreatDoorScA
import Derived.Shelf.Abstract
namespace Go.Proofs.YtmchiibbodllaaaGreatDoor
set_option linter.unusedVariables false
set_option linter.unnecessarySimpa false
set_option linter.unusedSimpArgs false
open Go.RowKit

section
variable {w : World} {b : Nat} {s : ByteArray} {i : Nat} {wg e : Int}
set_option maxRecDepth 20000 in set_option maxHeartbeats 1000000 in
theorem while_any (h : Bx w b (scC s i wg e)) (hs : s.size ≤ 100000) (hi : i ≤ s.size) (g : Nat) (p : UInt8 → Bool) (eg : Enters Tryz.prog g)
    (hp : ∀ (c : UInt8) (w : World), Calls Tryz.prog g #[.int .u8 (c.toNat : Int)] w fun e' w' => e' = .returned (.bool (p c)) ∧ Below w.heap.size w w') :
    Calls Tryz.prog 74 #[.pointer (some ⟨b, 0, none⟩), .func (.func g) #[] #[]] w fun e1 w' => e1 = .returned (.string (s.extract i (i + spn p (s.data.toList.drop i)))) ∧ Bx w' b (scC s ((i + spn p (s.data.toList.drop i) : Nat) : Int) wg e) ∧ Chg b b w w' := by
  have H := Lib.hid h
  unfold Enters at eg
  have HP := Lib.hid hp
  have hbd := spn_bd p s.data.toList (i := i) hi
  obtain ⟨n, hn⟩ : ∃ n, i + spn p (s.data.toList.drop i) = n := ⟨_, rfl⟩
  rw [hn] at hbd ⊢
  have hns : n ≤ s.size := hbd
  have hin : i ≤ n := by omega
  replace hn := Lib.hid hn
  clear hbd hp
  obtain ⟨c0, c1, _, _⟩ := h.c4
  have lt := h.lt
  clear h
  go_enter Tryz.func74, Tryz.ntmps74
  go_wp2_with fail
  clear c0 c1 lt
  go_loopw [] (fun wx => ∃ j : Nat, i ≤ j ∧ j ≤ n ∧ Hid (j + spn p (s.data.toList.drop j) = n) ∧ Hid (Bx wx b (scC s j wg e)) ∧ Hid (Chg b b w wx)) (fun wx => n + 1 - (rdI wx ⟨b, 1, none⟩).toNat)
  case atStart => exact ⟨i, Nat.le_refl _, hin, hn, H, Lib.hid (Chg.refl _ _ _)⟩
  case round =>
    obtain ⟨j, hij, hjn, hj, HB, HC⟩ := hrel
    have hm0 := Lib.hid (rdI_at HB.out)
    obtain ⟨c0, c1, c2, c3⟩ := HB.out.c4
    obtain ⟨f0, f1, f2, f3⟩ := HB.out.f4
    have lt := HB.out.lt
    have hj6 : IntKind.i64.wrap ((j : Int) + 1) = ((j + 1 : Nat) : Int) := by rw [IntWalk.i64_in _ (by omega)]; simp
    by_cases hlt : j < s.size
    · have hlt2 : (j : Int) < (s.size : Int) := by omega
      have hnt := nth_idx s hlt
      have hps : Hid (if p (nth s.data.toList j) = true then j + 1 + spn p (s.data.toList.drop (j + 1)) = n else j = n) := by
        have := hj.out
        unfold Hid
        split
        · rename_i hq
          rw [spn_yes hlt hq] at this
          omega
        · rename_i hq
          rw [spn_no (by simpa using hq)] at this
          omega
      obtain ⟨c, hc⟩ : ∃ c, s[j] = c := ⟨_, rfl⟩
      rw [hc] at hnt
      rw [hnt] at hps
      have HQ := Lib.hid (HP.out c)
      obtain ⟨v, hv⟩ : ∃ v, p c = v := ⟨_, rfl⟩
      rw [hv] at hps HQ
      clear hnt hv
      go_wp2_with fail
      refine wp_region_ord [(0, 1), (1, 1), (2, 1), (3, 1), (4, 1), (5, 1), (6, 1), (7, 1), (8, 1), (9, 1), (10, 1), (11, 1), (12, 1), (13, 1), (14, 1), (15, 1), (16, 1), (17, 1), (18, 1), (19, 1), (20, 1), (21, 2), (22, 1)] [] 5 (by kernel_rfl) (by decide +kernel) ?_
      simp only [pickO, List.append_eq, List.cons_append, List.nil_append, List.getElem?_cons_succ, List.getElem?_cons_zero]
      intro w0 hG
      (repeat ((first | (with_reducible refine ord_q1 ?_) | (with_reducible refine ord_q0 ?_)); intro K hK; first | (refine Or.inr ⟨?_, ?_⟩; (focus (go_simp; first | done | (simp [undef]; done))); go_simp; (with_reducible refine hK _ ?_); clear hK K) | (refine Or.inl ⟨?_, ?_⟩; (focus (go_simp; done)); apply Exists.intro; refine And.intro ?_ ?_; (focus (first | (intro wq hq; obtain ⟨hcq, hfq⟩ := G.old hq; go_simp; (first | done | exact rfl); done) | (intro wq; go_simp; (first | done | exact rfl); done))); go_simp; (with_reducible refine hK _ ?_); clear hK K) | fail))
      (with_reducible refine ord_run ?_ hG)
      intro K hK
      go_simp
      go_at_fn g; (with_reducible refine (HQ.out _).mono ?_); rintro e w2 ⟨rfl, hb⟩
      replace hG := Grew.trans hG hb
      (try dsimp only)
      (with_reducible refine hK _ _ hG ?_)
      clear hK K
      (repeat ((first | (with_reducible refine ord_q1 ?_) | (with_reducible refine ord_q0 ?_)); intro K hK; first | (refine Or.inr ⟨?_, ?_⟩; (focus (go_simp; first | done | (simp [undef]; done))); go_simp; (with_reducible refine hK _ ?_); clear hK K) | (refine Or.inl ⟨?_, ?_⟩; (focus (go_simp; done)); apply Exists.intro; refine And.intro ?_ ?_; (focus (first | (intro wq hq; obtain ⟨hcq, hfq⟩ := G.old hq; go_simp; (first | done | exact rfl); done) | (intro wq; go_simp; (first | done | exact rfl); done))); go_simp; (with_reducible refine hK _ ?_); clear hK K) | fail))
      (with_reducible refine ord_nil ?_)
      have hbx := hG.b
      replace HB := Lib.hid (HB.out.grow hbx)
      replace HC := Lib.hid (HC.out.grow hbx)
      clear hG hb c0 c1 c2 c3 f0 f1 f2 f3 lt
      obtain ⟨c0, c1, c2, c3⟩ := HB.out.c4
      obtain ⟨f0, f1, f2, f3⟩ := HB.out.f4
      have lt := HB.out.lt
      cases v
      · have hjn2 : j = n := by simpa using hps.out
        subst hjn2
        have hsl : (i : Int) ≤ (j : Int) := by omega
        have hsl2 : (j : Int) ≤ (s.size : Int) := by omega
        go_wp2_with fail
        refine wp_region_ord [(0, 1), (1, 1), (2, 1), (3, 1), (4, 1), (5, 1), (6, 1), (7, 1), (8, 1), (9, 1), (10, 1)] [] 5 (by kernel_rfl) (by decide +kernel) ?_
        simp only [pickO, List.append_eq, List.cons_append, List.nil_append, List.getElem?_cons_succ, List.getElem?_cons_zero]
        intro w0 hG
        (repeat ((first | (with_reducible refine ord_q1 ?_) | (with_reducible refine ord_q0 ?_)); intro K hK; first | (refine Or.inr ⟨?_, ?_⟩; (focus (go_simp; first | done | (simp [undef]; done))); go_simp; (with_reducible refine hK _ ?_); clear hK K) | (refine Or.inl ⟨?_, ?_⟩; (focus (go_simp; done)); apply Exists.intro; refine And.intro ?_ ?_; (focus (first | (intro wq hq; obtain ⟨hcq, hfq⟩ := G.old hq; go_simp; (first | done | exact rfl); done) | (intro wq; go_simp; (first | done | exact rfl); done))); go_simp; (with_reducible refine hK _ ?_); clear hK K) | fail))
        (with_reducible refine ord_nil ?_)
        have hb3 := hG.b
        go_wp2_with fail
        go_ret
        exact ⟨rfl, HB.out.grow hb3, HC.out.grow hb3⟩
      · have hjn2 : Hid (j + 1 + spn p (s.data.toList.drop (j + 1)) = n) := by
          have := hps.out
          unfold Hid
          simpa using this
        have hle : j + 1 ≤ n := by have := hjn2.out; omega
        go_wp2_with fail
        go_roundw
        case rel => exact ⟨j + 1, by omega, hle, hjn2, Lib.hid (HB.out.put rfl), Lib.hid (HC.out.set1 _ _)⟩
        case measure =>
          rw [rdI_at (i := (j : Int) + 1) (HB.out.put rfl), hm0.out]
          omega
    · have hjs : j = n := by
        have := hj.out
        rw [spn_end p (show s.data.toList.length ≤ j by rw [Array.length_toList]; exact Nat.le_of_not_lt hlt)] at this
        omega
      subst hjs
      have hlt2 : ¬ (j : Int) < (s.size : Int) := by omega
      have hsl : (i : Int) ≤ (j : Int) := by omega
      have hsl2 : (j : Int) ≤ (s.size : Int) := by omega
      go_wp2_with fail
      refine wp_region_ord [(0, 1), (1, 1), (2, 1), (3, 1), (4, 1), (5, 1), (6, 1), (7, 1), (8, 1), (9, 1), (10, 1), (11, 1), (12, 1), (13, 1), (14, 1), (15, 1), (16, 1), (17, 1), (18, 1), (19, 1), (20, 1), (21, 2), (22, 1)] [] 5 (by kernel_rfl) (by decide +kernel) ?_
      simp only [pickO, List.append_eq, List.cons_append, List.nil_append, List.getElem?_cons_succ, List.getElem?_cons_zero]
      intro w0 hG
      (repeat ((first | (with_reducible refine ord_q1 ?_) | (with_reducible refine ord_q0 ?_)); intro K hK; first | (refine Or.inr ⟨?_, ?_⟩; (focus (go_simp; first | done | (simp [undef]; done))); go_simp; (with_reducible refine hK _ ?_); clear hK K) | (refine Or.inl ⟨?_, ?_⟩; (focus (go_simp; done)); apply Exists.intro; refine And.intro ?_ ?_; (focus (first | (intro wq hq; obtain ⟨hcq, hfq⟩ := G.old hq; go_simp; (first | done | exact rfl); done) | (intro wq; go_simp; (first | done | exact rfl); done))); go_simp; (with_reducible refine hK _ ?_); clear hK K) | fail))
      (with_reducible refine ord_skip ?_ hG ?_); (focus (go_simp; first | done | (simp [undef]; done))); intro K hK; go_simp; (with_reducible refine hK _ ?_); clear hK K; (repeat ((first | (with_reducible refine ord_q1 ?_) | (with_reducible refine ord_q0 ?_)); intro K hK; first | (refine Or.inr ⟨?_, ?_⟩; (focus (go_simp; first | done | (simp [undef]; done))); go_simp; (with_reducible refine hK _ ?_); clear hK K) | (refine Or.inl ⟨?_, ?_⟩; (focus (go_simp; done)); apply Exists.intro; refine And.intro ?_ ?_; (focus (first | (intro wq hq; obtain ⟨hcq, hfq⟩ := G.old hq; go_simp; (first | done | exact rfl); done) | (intro wq; go_simp; (first | done | exact rfl); done))); go_simp; (with_reducible refine hK _ ?_); clear hK K) | fail))
      (with_reducible refine ord_nil ?_)
      have hbx := hG.b
      replace HB := Lib.hid (HB.out.grow hbx)
      replace HC := Lib.hid (HC.out.grow hbx)
      clear hG c0 c1 c2 c3 f0 f1 f2 f3 lt
      obtain ⟨c0, c1, c2, c3⟩ := HB.out.c4
      obtain ⟨f0, f1, f2, f3⟩ := HB.out.f4
      have lt := HB.out.lt
      go_wp2_with fail
      refine wp_region_ord [(0, 1), (1, 1), (2, 1), (3, 1), (4, 1), (5, 1), (6, 1), (7, 1), (8, 1), (9, 1), (10, 1)] [] 5 (by kernel_rfl) (by decide +kernel) ?_
      simp only [pickO, List.append_eq, List.cons_append, List.nil_append, List.getElem?_cons_succ, List.getElem?_cons_zero]
      intro w0 hG
      (repeat ((first | (with_reducible refine ord_q1 ?_) | (with_reducible refine ord_q0 ?_)); intro K hK; first | (refine Or.inr ⟨?_, ?_⟩; (focus (go_simp; first | done | (simp [undef]; done))); go_simp; (with_reducible refine hK _ ?_); clear hK K) | (refine Or.inl ⟨?_, ?_⟩; (focus (go_simp; done)); apply Exists.intro; refine And.intro ?_ ?_; (focus (first | (intro wq hq; obtain ⟨hcq, hfq⟩ := G.old hq; go_simp; (first | done | exact rfl); done) | (intro wq; go_simp; (first | done | exact rfl); done))); go_simp; (with_reducible refine hK _ ?_); clear hK K) | fail))
      (with_reducible refine ord_nil ?_)
      have hb3 := hG.b
      go_wp2_with fail
      go_ret
      exact ⟨rfl, HB.out.grow hb3, HC.out.grow hb3⟩
set_option maxRecDepth 20000 in set_option maxHeartbeats 2000000 in
theorem blanks_any (h : Bx w b (scC s i wg e)) (hs : s.size ≤ 100000) (hi : i ≤ s.size) :
    Calls Tryz.prog 48 #[.pointer (some ⟨b, 0, none⟩)] w fun e1 w' => e1 = .returned (.tuple #[]) ∧ Bx w' b (scC s ((i + blk false (s.data.toList.drop i) : Nat) : Int) wg e) ∧ Chg b b w w' := by
  have H := Lib.hid h
  have hbd := blk_bd false s.data.toList (i := i) hi
  obtain ⟨n, hn⟩ : ∃ n, i + blk false (s.data.toList.drop i) = n := ⟨_, rfl⟩
  rw [hn] at hbd ⊢
  have hns : n ≤ s.size := hbd
  have hin : i ≤ n := by omega
  replace hn := Lib.hid hn
  clear hbd h
  go_enter Tryz.func48, Tryz.ntmps48
  go_wp2_with fail
  go_loopw [] (fun wx => ∃ j : Nat, i ≤ j ∧ j ≤ n ∧ Hid (j + blk false (s.data.toList.drop j) = n) ∧ Hid (Bx wx b (scC s j wg e)) ∧ Hid (Chg b b w wx)) (fun wx => n + 1 - (rdI wx ⟨b, 1, none⟩).toNat)
  case atStart => exact ⟨i, Nat.le_refl _, hin, hn, H, Lib.hid (Chg.refl _ _ _)⟩
  case round =>
    obtain ⟨j, hij, hjn, hj, HB, HC⟩ := hrel
    have hm0 := Lib.hid (rdI_at HB.out)
    obtain ⟨c0, c1, c2, c3⟩ := HB.out.c4
    obtain ⟨f0, f1, f2, f3⟩ := HB.out.f4
    have lt := HB.out.lt
    by_cases hlt : j < s.size
    · have hlt2 : (j : Int) < (s.size : Int) := by omega
      have hnt := nth_idx s hlt
      obtain ⟨c, hc⟩ : ∃ c, s[j] = c := ⟨_, rfl⟩
      rw [hc] at hnt
      have hx1 : IntKind.i64.wrap ((j : Int) + 1) = ((j + 1 : Nat) : Int) := by rw [IntWalk.i64_in _ (by omega)]; simp
      have hyes := fun hb => blk_yes (l := s.data.toList) (i := j) hlt hb
      have hsl := fun h0 h1 => blk_slash (l := s.data.toList) (i := j) hlt h0 h1
      have hno := fun hb h0 => blk_no (l := s.data.toList) (i := j) hb h0
      rw [hnt] at hyes hsl hno
      go_wp2_with fail
      refine wp_region_ord [(0, 1), (1, 1), (2, 1), (3, 1), (4, 1), (5, 1), (6, 1), (7, 1), (8, 1), (9, 1)] [] 5 (by kernel_rfl) (by decide +kernel) ?_
      simp only [pickO, List.append_eq, List.cons_append, List.nil_append, List.getElem?_cons_succ, List.getElem?_cons_zero]
      intro w0 hG
      (repeat ((first | (with_reducible refine ord_q1 ?_) | (with_reducible refine ord_q0 ?_)); intro K hK; first | (refine Or.inr ⟨?_, ?_⟩; (focus (go_simp; first | done | (simp [undef]; done))); go_simp; (with_reducible refine hK _ ?_); clear hK K) | (refine Or.inl ⟨?_, ?_⟩; (focus (go_simp; done)); apply Exists.intro; refine And.intro ?_ ?_; (focus (first | (intro wq hq; obtain ⟨hcq, hfq⟩ := G.old hq; go_simp; (first | done | exact rfl); done) | (intro wq; go_simp; (first | done | exact rfl); done))); go_simp; (with_reducible refine hK _ ?_); clear hK K) | fail))
      (with_reducible refine ord_nil ?_)
      have hbx := hG.b; replace HB := Lib.hid (HB.out.grow hbx); replace HC := Lib.hid (HC.out.grow hbx); clear hG c0 c1 c2 c3 f0 f1 f2 f3 lt; obtain ⟨c0, c1, c2, c3⟩ := HB.out.c4; obtain ⟨f0, f1, f2, f3⟩ := HB.out.f4; have lt := HB.out.lt; clear hbx
      go_wp2_with fail
      refine wp_region_ord [(0, 1), (1, 1), (2, 1), (3, 1), (4, 1), (5, 1), (6, 1), (7, 1), (8, 1), (9, 1)] [] 5 (by kernel_rfl) (by decide +kernel) ?_
      simp only [pickO, List.append_eq, List.cons_append, List.nil_append, List.getElem?_cons_succ, List.getElem?_cons_zero]
      intro w0 hG
      (repeat ((first | (with_reducible refine ord_q1 ?_) | (with_reducible refine ord_q0 ?_)); intro K hK; first | (refine Or.inr ⟨?_, ?_⟩; (focus (go_simp; first | done | (simp [undef]; done))); go_simp; (with_reducible refine hK _ ?_); clear hK K) | (refine Or.inl ⟨?_, ?_⟩; (focus (go_simp; done)); apply Exists.intro; refine And.intro ?_ ?_; (focus (first | (intro wq hq; obtain ⟨hcq, hfq⟩ := G.old hq; go_simp; (first | done | exact rfl); done) | (intro wq; go_simp; (first | done | exact rfl); done))); go_simp; (with_reducible refine hK _ ?_); clear hK K) | fail))
      (with_reducible refine ord_nil ?_)
      have hbx := hG.b; replace HB := Lib.hid (HB.out.grow hbx); replace HC := Lib.hid (HC.out.grow hbx); clear hG c0 c1 c2 c3 f0 f1 f2 f3 lt; obtain ⟨c0, c1, c2, c3⟩ := HB.out.c4; obtain ⟨f0, f1, f2, f3⟩ := HB.out.f4; have lt := HB.out.lt; clear hbx
      by_cases hbl : isBl c = true
      · have hn1 := Lib.hid (hyes hbl)
        have hj1 : Hid (j + 1 + blk false (s.data.toList.drop (j + 1)) = n) := by
          have h1 := hj.out
          have h2 := hn1.out
          unfold Hid
          omega
        have hle : j + 1 ≤ n := by have := hj1.out; omega
        have hcs : ((c.toNat : Int) == 32) = true ∨ (((c.toNat : Int) == 32) = false ∧ ((c.toNat : Int) == 9) = true) ∨ (((c.toNat : Int) == 32) = false ∧ ((c.toNat : Int) == 9) = false ∧ ((c.toNat : Int) == 10) = true) := by
          unfold isBl at hbl
          simp only [Bool.or_eq_true, decide_eq_true_eq] at hbl
          simp only [beq_iff_eq, beq_eq_false_iff_ne, ne_eq]
          omega
        clear hyes hsl hno hbl hnt hc
        rcases hcs with h1 | ⟨h0, h1⟩ | ⟨h0, h01, h1⟩ <;>
        · go_wp2_with fail
          go_roundw
          case rel => exact ⟨j + 1, by omega, hle, hj1, Lib.hid (HB.out.put rfl), Lib.hid (HC.out.set1 _ _)⟩
          case measure =>
            rw [rdI_at (i := (j : Int) + 1) (HB.out.put rfl), hm0.out]
            omega
      · have hbf : isBl c = false := by simpa using hbl
        have hcs : ((c.toNat : Int) == 32) = false ∧ ((c.toNat : Int) == 9) = false ∧ ((c.toNat : Int) == 10) = false := by
          unfold isBl at hbf
          simp only [Bool.or_eq_false_iff, decide_eq_false_iff_not] at hbf
          simp only [beq_eq_false_iff_ne, ne_eq]
          omega
        obtain ⟨h32, h9, h10⟩ := hcs
        have hend : ¬ (c.toNat = 47 ∧ (nth s.data.toList (j + 1)).toNat = 47) → Hid (j = n) := fun k => by
          have h1 := hno hbf k
          have h2 := hj.out
          unfold Hid
          omega
        have hgo : c.toNat = 47 → (nth s.data.toList (j + 1)).toNat = 47 → Hid (j + spn notNL (s.data.toList.drop j) + blk false (s.data.toList.drop (j + spn notNL (s.data.toList.drop j))) = n ∧ 1 ≤ spn notNL (s.data.toList.drop j)) := fun k0 k1 => by
          have h1 := hsl k0 k1
          have h2 := hj.out
          have h3 : 1 ≤ spn notNL (s.data.toList.drop j) := spn_pos hlt (by rw [hnt]; unfold notNL; simp [k0])
          unfold Hid
          omega
        have BA := Lib.hid (fun wx hb => byteAt1 (w := wx) (b := b) (s := s) (i := j) (wg := wg) (e := e) hb hs (by omega))
        obtain ⟨d, hd⟩ : ∃ d, nth s.data.toList (j + 1) = d := ⟨_, rfl⟩
        rw [hd] at hend hgo BA
        have hk : (d.toNat = 47) ↔ (((d.toNat : Int) == 47) = true) := by simp only [beq_iff_eq]; omega
        have hk0 : (c.toNat = 47) ↔ (((c.toNat : Int) == 47) = true) := by simp only [beq_iff_eq]; omega
        rw [hk0] at hend hgo
        rw [hk] at hend hgo
        clear hk hk0 hyes hsl hno hbl hnt hc hbf hd
        rcases h47 : ((c.toNat : Int) == 47) with _ | _
        · have hjn2 := hend (by rw [h47]; simp)
          have hjn3 : j = n := hjn2.out
          subst hjn3
          clear hend hgo
          go_wp2_with fail
          (first | go_end0 | refine bodyPost_ret (results_none rfl _ _ _) rfl ?_)
          exact ⟨rfl, HB.out, HC.out⟩
        · go_wp2_with fail
          go_at_call 73
          (with_reducible refine (BA.out _ HB.out).mono ?_)
          rintro e1 w2 ⟨rfl, hb⟩
          replace HB := Lib.hid (HB.out.grow hb)
          replace HC := Lib.hid (HC.out.grow hb)
          clear hb c0 c1 c2 c3 f0 f1 f2 f3 lt
          obtain ⟨c0, c1, c2, c3⟩ := HB.out.c4
          obtain ⟨f0, f1, f2, f3⟩ := HB.out.f4
          have lt := HB.out.lt
          rcases h47d : ((d.toNat : Int) == 47) with _ | _
          · have hjn2 := hend (by rw [h47d]; simp)
            have hjn3 : j = n := hjn2.out
            subst hjn3
            clear hend hgo
            go_wp2_with fail
            (first | go_end0 | refine bodyPost_ret (results_none rfl _ _ _) rfl ?_)
            exact ⟨rfl, HB.out, HC.out⟩
          · have hgo2 := hgo h47 h47d
            clear hend hgo
            obtain ⟨m, hm⟩ : ∃ m, spn notNL (s.data.toList.drop j) = m := ⟨_, rfl⟩
            have hmle := spn_bd notNL s.data.toList (i := j) (Nat.le_of_lt hlt)
            rw [hm] at hgo2 hmle
            have hmle2 : j + m ≤ s.size := hmle
            have hm1 : 1 ≤ m := hgo2.out.2
            have hle : j + m ≤ n := by have := hgo2.out.1; omega
            have hj1 : Hid (j + m + blk false (s.data.toList.drop (j + m)) = n) := hgo2.out.1
            have hx2 := add_nat (i := j) (k := m) rfl (by omega)
            have hidx := idx_nl (s.data.toList.drop j)
            rw [hm, List.length_drop, show s.data.toList.length = s.size from rfl] at hidx
            have IB := Lib.hid (fun w => Tryz.strings_IndexByte (s.extract j s.size) 10 w)
            rw [drop_ext, show ((10 : Int)).toNat.toUInt8 = 10 from rfl] at IB
            have hsub : IntKind.i64.wrap ((s.size : Int) - (j : Int)) = ((s.size - j : Nat) : Int) := by rw [IntWalk.i64_in _ (by omega)]; omega
            have hsl1 : (j : Int) ≤ (s.size : Int) := by omega
            clear hm hgo2 hmle
            by_cases hms : m < s.size - j
            · rw [if_pos hms] at hidx
              rw [hidx] at IB
              have hneg : ¬ ((m : Int) < 0) := by omega
              clear hidx hx1
              go_wp2_with fail
              refine wp_region_ord [(0, 1), (1, 1), (2, 1), (3, 1), (4, 1), (5, 1), (6, 1), (7, 1), (8, 1), (9, 2), (10, 1)] [] 5 (by kernel_rfl) (by decide +kernel) ?_
              simp only [pickO, List.append_eq, List.cons_append, List.nil_append, List.getElem?_cons_succ, List.getElem?_cons_zero]
              intro w0 hG
              (repeat ((first | (with_reducible refine ord_q1 ?_) | (with_reducible refine ord_q0 ?_)); intro K hK; first | (refine Or.inr ⟨?_, ?_⟩; (focus (go_simp; first | done | (simp [undef]; done))); go_simp; (with_reducible refine hK _ ?_); clear hK K) | (refine Or.inl ⟨?_, ?_⟩; (focus (go_simp; done)); apply Exists.intro; refine And.intro ?_ ?_; (focus (first | (intro wq hq; obtain ⟨hcq, hfq⟩ := G.old hq; go_simp; (first | done | exact rfl); done) | (intro wq; go_simp; (first | done | exact rfl); done))); go_simp; (with_reducible refine hK _ ?_); clear hK K) | fail))
              (with_reducible refine ord_run ?_ hG)
              intro K hK
              go_simp
              go_at_call 58; (with_reducible refine (IB.out _).mono ?_); rintro e1 w3 ⟨rfl, rfl⟩; have hb := G.refl w3
              replace hG := Grew.trans hG hb
              (try dsimp only)
              (with_reducible refine hK _ _ hG ?_)
              clear hK K
              (repeat ((first | (with_reducible refine ord_q1 ?_) | (with_reducible refine ord_q0 ?_)); intro K hK; first | (refine Or.inr ⟨?_, ?_⟩; (focus (go_simp; first | done | (simp [undef]; done))); go_simp; (with_reducible refine hK _ ?_); clear hK K) | (refine Or.inl ⟨?_, ?_⟩; (focus (go_simp; done)); apply Exists.intro; refine And.intro ?_ ?_; (focus (first | (intro wq hq; obtain ⟨hcq, hfq⟩ := G.old hq; go_simp; (first | done | exact rfl); done) | (intro wq; go_simp; (first | done | exact rfl); done))); go_simp; (with_reducible refine hK _ ?_); clear hK K) | fail))
              (with_reducible refine ord_nil ?_)
              have hbx := hG.b; replace HB := Lib.hid (HB.out.grow hbx); replace HC := Lib.hid (HC.out.grow hbx); clear hG c0 c1 c2 c3 f0 f1 f2 f3 lt; obtain ⟨c0, c1, c2, c3⟩ := HB.out.c4; obtain ⟨f0, f1, f2, f3⟩ := HB.out.f4; have lt := HB.out.lt; clear hbx
              clear hb
              go_wp2_with fail
              go_roundw
              case rel => exact ⟨j + m, by omega, hle, hj1, Lib.hid (HB.out.put rfl), Lib.hid (HC.out.set1 _ _)⟩
              case measure =>
                rw [rdI_at (i := (j : Int) + (m : Int)) (HB.out.put rfl), hm0.out]
                omega
            · have hme : s.size - j = m := by omega
              rw [if_neg hms] at hidx
              rw [hidx] at IB
              rw [hme] at hsub
              have hneg : ((-1 : Int) < 0) := by omega
              clear hidx hx1
              go_wp2_with fail
              refine wp_region_ord [(0, 1), (1, 1), (2, 1), (3, 1), (4, 1), (5, 1), (6, 1), (7, 1), (8, 1), (9, 2), (10, 1)] [] 5 (by kernel_rfl) (by decide +kernel) ?_
              simp only [pickO, List.append_eq, List.cons_append, List.nil_append, List.getElem?_cons_succ, List.getElem?_cons_zero]
              intro w0 hG
              (repeat ((first | (with_reducible refine ord_q1 ?_) | (with_reducible refine ord_q0 ?_)); intro K hK; first | (refine Or.inr ⟨?_, ?_⟩; (focus (go_simp; first | done | (simp [undef]; done))); go_simp; (with_reducible refine hK _ ?_); clear hK K) | (refine Or.inl ⟨?_, ?_⟩; (focus (go_simp; done)); apply Exists.intro; refine And.intro ?_ ?_; (focus (first | (intro wq hq; obtain ⟨hcq, hfq⟩ := G.old hq; go_simp; (first | done | exact rfl); done) | (intro wq; go_simp; (first | done | exact rfl); done))); go_simp; (with_reducible refine hK _ ?_); clear hK K) | fail))
              (with_reducible refine ord_run ?_ hG)
              intro K hK
              go_simp
              go_at_call 58; (with_reducible refine (IB.out _).mono ?_); rintro e1 w3 ⟨rfl, rfl⟩; have hb := G.refl w3
              replace hG := Grew.trans hG hb
              (try dsimp only)
              (with_reducible refine hK _ _ hG ?_)
              clear hK K
              (repeat ((first | (with_reducible refine ord_q1 ?_) | (with_reducible refine ord_q0 ?_)); intro K hK; first | (refine Or.inr ⟨?_, ?_⟩; (focus (go_simp; first | done | (simp [undef]; done))); go_simp; (with_reducible refine hK _ ?_); clear hK K) | (refine Or.inl ⟨?_, ?_⟩; (focus (go_simp; done)); apply Exists.intro; refine And.intro ?_ ?_; (focus (first | (intro wq hq; obtain ⟨hcq, hfq⟩ := G.old hq; go_simp; (first | done | exact rfl); done) | (intro wq; go_simp; (first | done | exact rfl); done))); go_simp; (with_reducible refine hK _ ?_); clear hK K) | fail))
              (with_reducible refine ord_nil ?_)
              have hbx := hG.b; replace HB := Lib.hid (HB.out.grow hbx); replace HC := Lib.hid (HC.out.grow hbx); clear hG c0 c1 c2 c3 f0 f1 f2 f3 lt; obtain ⟨c0, c1, c2, c3⟩ := HB.out.c4; obtain ⟨f0, f1, f2, f3⟩ := HB.out.f4; have lt := HB.out.lt; clear hbx
              clear hb
              go_wp2_with fail
              refine wp_region_ord [(0, 1), (1, 1), (2, 1), (3, 1), (4, 1), (5, 1), (6, 1), (7, 1), (8, 1), (9, 1), (10, 1)] [] 5 (by kernel_rfl) (by decide +kernel) ?_
              simp only [pickO, List.append_eq, List.cons_append, List.nil_append, List.getElem?_cons_succ, List.getElem?_cons_zero]
              intro w0 hG
              (repeat ((first | (with_reducible refine ord_q1 ?_) | (with_reducible refine ord_q0 ?_)); intro K hK; first | (refine Or.inr ⟨?_, ?_⟩; (focus (go_simp; first | done | (simp [undef]; done))); go_simp; (with_reducible refine hK _ ?_); clear hK K) | (refine Or.inl ⟨?_, ?_⟩; (focus (go_simp; done)); apply Exists.intro; refine And.intro ?_ ?_; (focus (first | (intro wq hq; obtain ⟨hcq, hfq⟩ := G.old hq; go_simp; (first | done | exact rfl); done) | (intro wq; go_simp; (first | done | exact rfl); done))); go_simp; (with_reducible refine hK _ ?_); clear hK K) | fail))
              (with_reducible refine ord_nil ?_)
              have hbx := hG.b; replace HB := Lib.hid (HB.out.grow hbx); replace HC := Lib.hid (HC.out.grow hbx); clear hG c0 c1 c2 c3 f0 f1 f2 f3 lt; obtain ⟨c0, c1, c2, c3⟩ := HB.out.c4; obtain ⟨f0, f1, f2, f3⟩ := HB.out.f4; have lt := HB.out.lt; clear hbx
              go_wp2_with fail
              go_roundw
              case rel => exact ⟨j + m, by omega, hle, hj1, Lib.hid (HB.out.put rfl), Lib.hid (HC.out.set1 _ _)⟩
              case measure =>
                rw [rdI_at (i := (j : Int) + (m : Int)) (HB.out.put rfl), hm0.out]
                omega
    · have hjs : j = n := by
        have := hj.out
        rw [blk_end (show s.data.toList.length ≤ j by rw [Array.length_toList]; exact Nat.le_of_not_lt hlt)] at this
        omega
      subst hjs
      have hlt2 : ¬ (j : Int) < (s.size : Int) := by omega
      go_wp2_with fail
      refine wp_region_ord [(0, 1), (1, 1), (2, 1), (3, 1), (4, 1), (5, 1), (6, 1), (7, 1), (8, 1), (9, 1)] [] 5 (by kernel_rfl) (by decide +kernel) ?_
      simp only [pickO, List.append_eq, List.cons_append, List.nil_append, List.getElem?_cons_succ, List.getElem?_cons_zero]
      intro w0 hG
      (repeat ((first | (with_reducible refine ord_q1 ?_) | (with_reducible refine ord_q0 ?_)); intro K hK; first | (refine Or.inr ⟨?_, ?_⟩; (focus (go_simp; first | done | (simp [undef]; done))); go_simp; (with_reducible refine hK _ ?_); clear hK K) | (refine Or.inl ⟨?_, ?_⟩; (focus (go_simp; done)); apply Exists.intro; refine And.intro ?_ ?_; (focus (first | (intro wq hq; obtain ⟨hcq, hfq⟩ := G.old hq; go_simp; (first | done | exact rfl); done) | (intro wq; go_simp; (first | done | exact rfl); done))); go_simp; (with_reducible refine hK _ ?_); clear hK K) | fail))
      (with_reducible refine ord_nil ?_)
      have hbx := hG.b; replace HB := Lib.hid (HB.out.grow hbx); replace HC := Lib.hid (HC.out.grow hbx); clear hG c0 c1 c2 c3 f0 f1 f2 f3 lt; obtain ⟨c0, c1, c2, c3⟩ := HB.out.c4; obtain ⟨f0, f1, f2, f3⟩ := HB.out.f4; have lt := HB.out.lt; clear hbx
      go_wp2_with fail
      (first | go_end0 | refine bodyPost_ret (results_none rfl _ _ _) rfl ?_)
      exact ⟨rfl, HB.out, HC.out⟩
end
end Go.Proofs.YtmchiibbodllaaaGreatDoor
