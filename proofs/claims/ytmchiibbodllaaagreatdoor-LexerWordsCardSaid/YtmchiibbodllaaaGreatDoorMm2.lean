/- The law's model: escapes, text. -/
import Derived.Test.YtmchiibbodllaaaGreatDoorMm1
import Derived.Test.YtmchiibbodllaaaGreatDoorScF
import Derived.Test.YtmchiibbodllaaaGreatDoorScI
namespace Go.Proofs.YtmchiibbodllaaaGreatDoor
set_option linter.unusedVariables false
set_option linter.unnecessarySimpa false
set_option linter.unusedSimpArgs false
open Go.RowKit

def RetEs (w : World) (b : Nat) (s : ByteArray) (p : Nat) (lv : Value) (tb : Int) (x : Es) (e : Ending) (w' : World) : Prop :=
  Chg b b w w' ∧ match x with
  | .ok n v => e = .returned (.string (B v)) ∧ Bx w' b (mC s ((p + n : Nat) : Int) lv 0 tb)
  | .bad c => e = .returned (.string ⟨#[]⟩) ∧ Bx w' b (mC s (p : Int) lv c tb)
theorem RetEs.bad' {w : World} {b : Nat} {s : ByteArray} {p : Nat} {lv : Value} {tb : Int} {X : Es} {c : Int} {w' : World} (hX : X = .bad c) (hc : Chg b b w w') (hb : Bx w' b (mC s (p : Int) lv c tb)) : RetEs w b s p lv tb X (.returned (.string ⟨#[]⟩)) w' := by
  subst hX
  exact ⟨hc, rfl, hb⟩
theorem RetEs.ok' {w : World} {b : Nat} {s : ByteArray} {p n : Nat} {lv : Value} {tb : Int} {X : Es} {v : List UInt8} {z : ByteArray} {i : Int} {w' : World} (hX : X = .ok n v) (hz : z = B v) (hi : i = ((p + n : Nat) : Int)) (hc : Chg b b w w') (hb : Bx w' b (mC s i lv 0 tb)) : RetEs w b s p lv tb X (.returned (.string z)) w' := by
  subst hX hz hi
  exact ⟨hc, rfl, hb⟩
section
variable {w : World} {b p : Nat} {s : ByteArray} {lv : Value} {tb : Int}
set_option maxRecDepth 20000 in set_option maxHeartbeats 16000000 in
theorem escape_s (h : Bx w b (mC s (p : Int) lv 0 tb)) (hs : s.size ≤ 100000) (hp : p < s.size) (hlt : p + 1 < s.size) {m : UInt8} (hsm : simple (nth s.data.toList (p + 1)) = some m) :
    Calls Tryz.prog 114 #[.pointer (some ⟨b, 0, none⟩)] w (RetEs w b s p lv tb (esc (s.data.toList.drop p))) := by
  have hem := esc_model (s.data.toList.drop p)
  have hes := esc.eq_1 (s.data.toList.drop p)
  rw [nth_drop] at hem hes
  rw [nth_drop, nth_drop, List.drop_drop] at hem
  obtain ⟨X, hX⟩ : ∃ X, esc (s.data.toList.drop p) = X := ⟨_, rfl⟩
  rw [hX] at hem hes ⊢
  clear hX
  obtain ⟨d, hd⟩ : ∃ d, nth s.data.toList (p + 1) = d := ⟨_, rfl⟩
  obtain ⟨g, hg⟩ : ∃ g, nth s.data.toList (p + 2) = g := ⟨_, rfl⟩
  rw [hd] at hem hes hsm
  rw [hg] at hem
  have HD := Lib.hid hd
  have HGg := Lib.hid hg
  have H := Lib.hid h
  have FL := Lib.hid (fun (wx : World) (i k e : Int) (hb : Bx wx b (mC s i lv 0 tb)) => fail_m hb k e)
  have HM := Lib.hid hex_m
  have HH := Lib.hid (fun (wx : World) (i e : Int) (a : Int) (k : Nat) (ha : a = (k : Int)) (hk : k ≤ 1000000) (hb : Bx wx b (mC s i lv e tb)) => here_a hb hs a k ha hk)
  have i0 : ∀ wx : World, (Instr.index 9 (.string ⟨#[34, 92, 110, 114, 116]⟩) (.int .i64 0)).run Tryz.prog wx = .ok (.int .u8 34) wx := fun wx => by kernel_rfl
  have i1 : ∀ wx : World, (Instr.index 9 (.string ⟨#[34, 92, 110, 114, 116]⟩) (.int .i64 1)).run Tryz.prog wx = .ok (.int .u8 92) wx := fun wx => by kernel_rfl
  have i2 : ∀ wx : World, (Instr.index 9 (.string ⟨#[34, 92, 110, 114, 116]⟩) (.int .i64 2)).run Tryz.prog wx = .ok (.int .u8 110) wx := fun wx => by kernel_rfl
  have i3 : ∀ wx : World, (Instr.index 9 (.string ⟨#[34, 92, 110, 114, 116]⟩) (.int .i64 3)).run Tryz.prog wx = .ok (.int .u8 114) wx := fun wx => by kernel_rfl
  have i4 : ∀ wx : World, (Instr.index 9 (.string ⟨#[34, 92, 110, 114, 116]⟩) (.int .i64 4)).run Tryz.prog wx = .ok (.int .u8 116) wx := fun wx => by kernel_rfl
  have hx1 : IntKind.i64.wrap ((p : Int) + 1) = (p : Int) + 1 := IntWalk.i64_in _ (by omega)
  have hx2 : IntKind.i64.wrap ((p : Int) + 2) = (p : Int) + 2 := IntWalk.i64_in _ (by omega)
  have hx3 : IntKind.i64.wrap ((p : Int) + 3) = (p : Int) + 3 := IntWalk.i64_in _ (by omega)
  have hx9 : IntKind.i64.wrap ((p : Int) + 9) = (p : Int) + 9 := IntWalk.i64_in _ (by omega)
  clear h hd hg
  have hlt1 : (p : Int) + 1 < (s.size : Int) := by omega
  have hdi : s[p + 1] = d := by rw [← nth_idx s hlt]; exact HD.out
  have hdt := d.toNat_lt
  have hcase : (d.toNat = 34 ∧ m = 34) ∨ (d.toNat ≠ 34 ∧ d.toNat = 92 ∧ m = 92) ∨ (d.toNat ≠ 34 ∧ d.toNat ≠ 92 ∧ d.toNat = 110 ∧ m = 10) ∨ (d.toNat ≠ 34 ∧ d.toNat ≠ 92 ∧ d.toNat ≠ 110 ∧ d.toNat = 114 ∧ m = 13) ∨ (d.toNat ≠ 34 ∧ d.toNat ≠ 92 ∧ d.toNat ≠ 110 ∧ d.toNat ≠ 114 ∧ d.toNat = 116 ∧ m = 9) := by
    unfold simple at hsm
    by_cases h0 : d.toNat = 34
    · rw [if_pos h0] at hsm; cases hsm; exact .inl ⟨h0, rfl⟩
    · rw [if_neg h0] at hsm
      by_cases h1 : d.toNat = 92
      · rw [if_pos h1] at hsm; cases hsm; exact .inr (.inl ⟨h0, h1, rfl⟩)
      · rw [if_neg h1] at hsm
        by_cases h2 : d.toNat = 110
        · rw [if_pos h2] at hsm; cases hsm; exact .inr (.inr (.inl ⟨h0, h1, h2, rfl⟩))
        · rw [if_neg h2] at hsm
          by_cases h3 : d.toNat = 114
          · rw [if_pos h3] at hsm; cases hsm; exact .inr (.inr (.inr (.inl ⟨h0, h1, h2, h3, rfl⟩)))
          · rw [if_neg h3] at hsm
            by_cases h4 : d.toNat = 116
            · rw [if_pos h4] at hsm; cases hsm; exact .inr (.inr (.inr (.inr ⟨h0, h1, h2, h3, h4, rfl⟩)))
            · rw [if_neg h4] at hsm; cases hsm
  rw [hsm] at hes
  simp only at hes
  have HES := Lib.hid hes
  clear hes hem hsm
  have HB := H
  have HC := Lib.hid (Chg.refl b b w)
  clear H
  (obtain ⟨c0, c1, c2, c3, c4⟩ := HB.out.c5; obtain ⟨f0, f1, f2, f3, f4⟩ := HB.out.f5; have lt := HB.out.lt)
  rcases hcase with ⟨n0, rfl⟩ | ⟨n0, n1, rfl⟩ | ⟨n0, n1, n2, rfl⟩ | ⟨n0, n1, n2, n3, rfl⟩ | ⟨n0, n1, n2, n3, n4, rfl⟩
  · have k0 : ((d.toNat : Int) == 34) = true := by simp; omega
    have ex : (⟨#[34, 92, 10, 13, 9]⟩ : ByteArray).extract 0 1 = ⟨#[34]⟩ := by decide +kernel
    clear n0
    go_enter Tryz.func114, Tryz.ntmps114
    go_wp2_with fail
    refine wp_loop_rounds 6 ?_
    rw [rounds_succ]
    go_wp2_with fail
    refine wp_region_ord [(0, 1), (1, 1), (2, 1), (3, 1), (4, 1), (5, 1), (6, 1), (7, 1), (8, 1), (9, 1), (10, 1), (11, 1), (12, 1), (13, 1), (14, 1), (15, 1), (16, 1), (17, 1), (18, 1), (19, 1), (20, 1)] [] 5 (by kernel_rfl) (by decide +kernel) ?_
    simp only [pickO, List.append_eq, List.cons_append, List.nil_append, List.getElem?_cons_succ, List.getElem?_cons_zero]
    intro w0 hG
    (repeat ((first | (with_reducible refine ord_q1 ?_) | (with_reducible refine ord_q0 ?_)); intro K hK; first | (refine Or.inr ⟨?_, ?_⟩; (focus (go_simp; first | done | (simp [undef]; done))); go_simp; (with_reducible refine hK _ ?_); clear hK K) | (refine Or.inl ⟨?_, ?_⟩; (focus (go_simp; done)); apply Exists.intro; refine And.intro ?_ ?_; (focus (first | (intro wq hq; obtain ⟨hcq, hfq⟩ := G.old hq; go_simp; (first | done | exact rfl); done) | (intro wq; go_simp; (first | done | exact rfl); done))); go_simp; (with_reducible refine hK _ ?_); clear hK K) | fail))
    (with_reducible refine ord_nil ?_)
    have hbx := hG.b; replace HB := Lib.hid (HB.out.grow hbx); replace HC := Lib.hid (HC.out.grow hbx); clear hG hbx; clear c0 c1 c2 c3 c4 f0 f1 f2 f3 f4 lt; (obtain ⟨c0, c1, c2, c3, c4⟩ := HB.out.c5; obtain ⟨f0, f1, f2, f3, f4⟩ := HB.out.f5; have lt := HB.out.lt)
    go_wp2_with fail
    go_ret
    exact RetEs.ok' HES.out rfl (by omega) (HC.out.set1 _ _) (HB.out.put rfl)
  · have k0 : ((d.toNat : Int) == 34) = false := by simp; omega
    have k1 : ((d.toNat : Int) == 92) = true := by simp; omega
    have ex : (⟨#[34, 92, 10, 13, 9]⟩ : ByteArray).extract 1 2 = ⟨#[92]⟩ := by decide +kernel
    clear n0 n1
    go_enter Tryz.func114, Tryz.ntmps114
    go_wp2_with fail
    refine wp_loop_rounds 6 ?_
    rw [rounds_succ]
    go_wp2_with fail
    refine wp_region_ord [(0, 1), (1, 1), (2, 1), (3, 1), (4, 1), (5, 1), (6, 1), (7, 1), (8, 1), (9, 1), (10, 1), (11, 1), (12, 1), (13, 1), (14, 1), (15, 1), (16, 1), (17, 1), (18, 1), (19, 1), (20, 1)] [] 5 (by kernel_rfl) (by decide +kernel) ?_
    simp only [pickO, List.append_eq, List.cons_append, List.nil_append, List.getElem?_cons_succ, List.getElem?_cons_zero]
    intro w0 hG
    (repeat ((first | (with_reducible refine ord_q1 ?_) | (with_reducible refine ord_q0 ?_)); intro K hK; first | (refine Or.inr ⟨?_, ?_⟩; (focus (go_simp; first | done | (simp [undef]; done))); go_simp; (with_reducible refine hK _ ?_); clear hK K) | (refine Or.inl ⟨?_, ?_⟩; (focus (go_simp; done)); apply Exists.intro; refine And.intro ?_ ?_; (focus (first | (intro wq hq; obtain ⟨hcq, hfq⟩ := G.old hq; go_simp; (first | done | exact rfl); done) | (intro wq; go_simp; (first | done | exact rfl); done))); go_simp; (with_reducible refine hK _ ?_); clear hK K) | fail))
    (with_reducible refine ord_nil ?_)
    have hbx := hG.b; replace HB := Lib.hid (HB.out.grow hbx); replace HC := Lib.hid (HC.out.grow hbx); clear hG hbx; clear c0 c1 c2 c3 c4 f0 f1 f2 f3 f4 lt; (obtain ⟨c0, c1, c2, c3, c4⟩ := HB.out.c5; obtain ⟨f0, f1, f2, f3, f4⟩ := HB.out.f5; have lt := HB.out.lt)
    go_wp2_with fail
    rw [rounds_succ]
    go_wp2_with fail
    refine wp_region_ord [(0, 1), (1, 1), (2, 1), (3, 1), (4, 1), (5, 1), (6, 1), (7, 1), (8, 1), (9, 1), (10, 1), (11, 1), (12, 1), (13, 1), (14, 1), (15, 1), (16, 1), (17, 1), (18, 1), (19, 1), (20, 1)] [] 5 (by kernel_rfl) (by decide +kernel) ?_
    simp only [pickO, List.append_eq, List.cons_append, List.nil_append, List.getElem?_cons_succ, List.getElem?_cons_zero]
    intro w0 hG
    (repeat ((first | (with_reducible refine ord_q1 ?_) | (with_reducible refine ord_q0 ?_)); intro K hK; first | (refine Or.inr ⟨?_, ?_⟩; (focus (go_simp; first | done | (simp [undef]; done))); go_simp; (with_reducible refine hK _ ?_); clear hK K) | (refine Or.inl ⟨?_, ?_⟩; (focus (go_simp; done)); apply Exists.intro; refine And.intro ?_ ?_; (focus (first | (intro wq hq; obtain ⟨hcq, hfq⟩ := G.old hq; go_simp; (first | done | exact rfl); done) | (intro wq; go_simp; (first | done | exact rfl); done))); go_simp; (with_reducible refine hK _ ?_); clear hK K) | fail))
    (with_reducible refine ord_nil ?_)
    have hbx := hG.b; replace HB := Lib.hid (HB.out.grow hbx); replace HC := Lib.hid (HC.out.grow hbx); clear hG hbx; clear c0 c1 c2 c3 c4 f0 f1 f2 f3 f4 lt; (obtain ⟨c0, c1, c2, c3, c4⟩ := HB.out.c5; obtain ⟨f0, f1, f2, f3, f4⟩ := HB.out.f5; have lt := HB.out.lt)
    go_wp2_with fail
    go_ret
    exact RetEs.ok' HES.out rfl (by omega) (HC.out.set1 _ _) (HB.out.put rfl)
  · have k0 : ((d.toNat : Int) == 34) = false := by simp; omega
    have k1 : ((d.toNat : Int) == 92) = false := by simp; omega
    have k2 : ((d.toNat : Int) == 110) = true := by simp; omega
    have ex : (⟨#[34, 92, 10, 13, 9]⟩ : ByteArray).extract 2 3 = ⟨#[10]⟩ := by decide +kernel
    clear n0 n1 n2
    go_enter Tryz.func114, Tryz.ntmps114
    go_wp2_with fail
    refine wp_loop_rounds 6 ?_
    rw [rounds_succ]
    go_wp2_with fail
    refine wp_region_ord [(0, 1), (1, 1), (2, 1), (3, 1), (4, 1), (5, 1), (6, 1), (7, 1), (8, 1), (9, 1), (10, 1), (11, 1), (12, 1), (13, 1), (14, 1), (15, 1), (16, 1), (17, 1), (18, 1), (19, 1), (20, 1)] [] 5 (by kernel_rfl) (by decide +kernel) ?_
    simp only [pickO, List.append_eq, List.cons_append, List.nil_append, List.getElem?_cons_succ, List.getElem?_cons_zero]
    intro w0 hG
    (repeat ((first | (with_reducible refine ord_q1 ?_) | (with_reducible refine ord_q0 ?_)); intro K hK; first | (refine Or.inr ⟨?_, ?_⟩; (focus (go_simp; first | done | (simp [undef]; done))); go_simp; (with_reducible refine hK _ ?_); clear hK K) | (refine Or.inl ⟨?_, ?_⟩; (focus (go_simp; done)); apply Exists.intro; refine And.intro ?_ ?_; (focus (first | (intro wq hq; obtain ⟨hcq, hfq⟩ := G.old hq; go_simp; (first | done | exact rfl); done) | (intro wq; go_simp; (first | done | exact rfl); done))); go_simp; (with_reducible refine hK _ ?_); clear hK K) | fail))
    (with_reducible refine ord_nil ?_)
    have hbx := hG.b; replace HB := Lib.hid (HB.out.grow hbx); replace HC := Lib.hid (HC.out.grow hbx); clear hG hbx; clear c0 c1 c2 c3 c4 f0 f1 f2 f3 f4 lt; (obtain ⟨c0, c1, c2, c3, c4⟩ := HB.out.c5; obtain ⟨f0, f1, f2, f3, f4⟩ := HB.out.f5; have lt := HB.out.lt)
    go_wp2_with fail
    rw [rounds_succ]
    go_wp2_with fail
    refine wp_region_ord [(0, 1), (1, 1), (2, 1), (3, 1), (4, 1), (5, 1), (6, 1), (7, 1), (8, 1), (9, 1), (10, 1), (11, 1), (12, 1), (13, 1), (14, 1), (15, 1), (16, 1), (17, 1), (18, 1), (19, 1), (20, 1)] [] 5 (by kernel_rfl) (by decide +kernel) ?_
    simp only [pickO, List.append_eq, List.cons_append, List.nil_append, List.getElem?_cons_succ, List.getElem?_cons_zero]
    intro w0 hG
    (repeat ((first | (with_reducible refine ord_q1 ?_) | (with_reducible refine ord_q0 ?_)); intro K hK; first | (refine Or.inr ⟨?_, ?_⟩; (focus (go_simp; first | done | (simp [undef]; done))); go_simp; (with_reducible refine hK _ ?_); clear hK K) | (refine Or.inl ⟨?_, ?_⟩; (focus (go_simp; done)); apply Exists.intro; refine And.intro ?_ ?_; (focus (first | (intro wq hq; obtain ⟨hcq, hfq⟩ := G.old hq; go_simp; (first | done | exact rfl); done) | (intro wq; go_simp; (first | done | exact rfl); done))); go_simp; (with_reducible refine hK _ ?_); clear hK K) | fail))
    (with_reducible refine ord_nil ?_)
    have hbx := hG.b; replace HB := Lib.hid (HB.out.grow hbx); replace HC := Lib.hid (HC.out.grow hbx); clear hG hbx; clear c0 c1 c2 c3 c4 f0 f1 f2 f3 f4 lt; (obtain ⟨c0, c1, c2, c3, c4⟩ := HB.out.c5; obtain ⟨f0, f1, f2, f3, f4⟩ := HB.out.f5; have lt := HB.out.lt)
    go_wp2_with fail
    rw [rounds_succ]
    go_wp2_with fail
    refine wp_region_ord [(0, 1), (1, 1), (2, 1), (3, 1), (4, 1), (5, 1), (6, 1), (7, 1), (8, 1), (9, 1), (10, 1), (11, 1), (12, 1), (13, 1), (14, 1), (15, 1), (16, 1), (17, 1), (18, 1), (19, 1), (20, 1)] [] 5 (by kernel_rfl) (by decide +kernel) ?_
    simp only [pickO, List.append_eq, List.cons_append, List.nil_append, List.getElem?_cons_succ, List.getElem?_cons_zero]
    intro w0 hG
    (repeat ((first | (with_reducible refine ord_q1 ?_) | (with_reducible refine ord_q0 ?_)); intro K hK; first | (refine Or.inr ⟨?_, ?_⟩; (focus (go_simp; first | done | (simp [undef]; done))); go_simp; (with_reducible refine hK _ ?_); clear hK K) | (refine Or.inl ⟨?_, ?_⟩; (focus (go_simp; done)); apply Exists.intro; refine And.intro ?_ ?_; (focus (first | (intro wq hq; obtain ⟨hcq, hfq⟩ := G.old hq; go_simp; (first | done | exact rfl); done) | (intro wq; go_simp; (first | done | exact rfl); done))); go_simp; (with_reducible refine hK _ ?_); clear hK K) | fail))
    (with_reducible refine ord_nil ?_)
    have hbx := hG.b; replace HB := Lib.hid (HB.out.grow hbx); replace HC := Lib.hid (HC.out.grow hbx); clear hG hbx; clear c0 c1 c2 c3 c4 f0 f1 f2 f3 f4 lt; (obtain ⟨c0, c1, c2, c3, c4⟩ := HB.out.c5; obtain ⟨f0, f1, f2, f3, f4⟩ := HB.out.f5; have lt := HB.out.lt)
    go_wp2_with fail
    go_ret
    exact RetEs.ok' HES.out rfl (by omega) (HC.out.set1 _ _) (HB.out.put rfl)
  · have k0 : ((d.toNat : Int) == 34) = false := by simp; omega
    have k1 : ((d.toNat : Int) == 92) = false := by simp; omega
    have k2 : ((d.toNat : Int) == 110) = false := by simp; omega
    have k3 : ((d.toNat : Int) == 114) = true := by simp; omega
    have ex : (⟨#[34, 92, 10, 13, 9]⟩ : ByteArray).extract 3 4 = ⟨#[13]⟩ := by decide +kernel
    clear n0 n1 n2 n3
    go_enter Tryz.func114, Tryz.ntmps114
    go_wp2_with fail
    refine wp_loop_rounds 6 ?_
    rw [rounds_succ]
    go_wp2_with fail
    refine wp_region_ord [(0, 1), (1, 1), (2, 1), (3, 1), (4, 1), (5, 1), (6, 1), (7, 1), (8, 1), (9, 1), (10, 1), (11, 1), (12, 1), (13, 1), (14, 1), (15, 1), (16, 1), (17, 1), (18, 1), (19, 1), (20, 1)] [] 5 (by kernel_rfl) (by decide +kernel) ?_
    simp only [pickO, List.append_eq, List.cons_append, List.nil_append, List.getElem?_cons_succ, List.getElem?_cons_zero]
    intro w0 hG
    (repeat ((first | (with_reducible refine ord_q1 ?_) | (with_reducible refine ord_q0 ?_)); intro K hK; first | (refine Or.inr ⟨?_, ?_⟩; (focus (go_simp; first | done | (simp [undef]; done))); go_simp; (with_reducible refine hK _ ?_); clear hK K) | (refine Or.inl ⟨?_, ?_⟩; (focus (go_simp; done)); apply Exists.intro; refine And.intro ?_ ?_; (focus (first | (intro wq hq; obtain ⟨hcq, hfq⟩ := G.old hq; go_simp; (first | done | exact rfl); done) | (intro wq; go_simp; (first | done | exact rfl); done))); go_simp; (with_reducible refine hK _ ?_); clear hK K) | fail))
    (with_reducible refine ord_nil ?_)
    have hbx := hG.b; replace HB := Lib.hid (HB.out.grow hbx); replace HC := Lib.hid (HC.out.grow hbx); clear hG hbx; clear c0 c1 c2 c3 c4 f0 f1 f2 f3 f4 lt; (obtain ⟨c0, c1, c2, c3, c4⟩ := HB.out.c5; obtain ⟨f0, f1, f2, f3, f4⟩ := HB.out.f5; have lt := HB.out.lt)
    go_wp2_with fail
    rw [rounds_succ]
    go_wp2_with fail
    refine wp_region_ord [(0, 1), (1, 1), (2, 1), (3, 1), (4, 1), (5, 1), (6, 1), (7, 1), (8, 1), (9, 1), (10, 1), (11, 1), (12, 1), (13, 1), (14, 1), (15, 1), (16, 1), (17, 1), (18, 1), (19, 1), (20, 1)] [] 5 (by kernel_rfl) (by decide +kernel) ?_
    simp only [pickO, List.append_eq, List.cons_append, List.nil_append, List.getElem?_cons_succ, List.getElem?_cons_zero]
    intro w0 hG
    (repeat ((first | (with_reducible refine ord_q1 ?_) | (with_reducible refine ord_q0 ?_)); intro K hK; first | (refine Or.inr ⟨?_, ?_⟩; (focus (go_simp; first | done | (simp [undef]; done))); go_simp; (with_reducible refine hK _ ?_); clear hK K) | (refine Or.inl ⟨?_, ?_⟩; (focus (go_simp; done)); apply Exists.intro; refine And.intro ?_ ?_; (focus (first | (intro wq hq; obtain ⟨hcq, hfq⟩ := G.old hq; go_simp; (first | done | exact rfl); done) | (intro wq; go_simp; (first | done | exact rfl); done))); go_simp; (with_reducible refine hK _ ?_); clear hK K) | fail))
    (with_reducible refine ord_nil ?_)
    have hbx := hG.b; replace HB := Lib.hid (HB.out.grow hbx); replace HC := Lib.hid (HC.out.grow hbx); clear hG hbx; clear c0 c1 c2 c3 c4 f0 f1 f2 f3 f4 lt; (obtain ⟨c0, c1, c2, c3, c4⟩ := HB.out.c5; obtain ⟨f0, f1, f2, f3, f4⟩ := HB.out.f5; have lt := HB.out.lt)
    go_wp2_with fail
    rw [rounds_succ]
    go_wp2_with fail
    refine wp_region_ord [(0, 1), (1, 1), (2, 1), (3, 1), (4, 1), (5, 1), (6, 1), (7, 1), (8, 1), (9, 1), (10, 1), (11, 1), (12, 1), (13, 1), (14, 1), (15, 1), (16, 1), (17, 1), (18, 1), (19, 1), (20, 1)] [] 5 (by kernel_rfl) (by decide +kernel) ?_
    simp only [pickO, List.append_eq, List.cons_append, List.nil_append, List.getElem?_cons_succ, List.getElem?_cons_zero]
    intro w0 hG
    (repeat ((first | (with_reducible refine ord_q1 ?_) | (with_reducible refine ord_q0 ?_)); intro K hK; first | (refine Or.inr ⟨?_, ?_⟩; (focus (go_simp; first | done | (simp [undef]; done))); go_simp; (with_reducible refine hK _ ?_); clear hK K) | (refine Or.inl ⟨?_, ?_⟩; (focus (go_simp; done)); apply Exists.intro; refine And.intro ?_ ?_; (focus (first | (intro wq hq; obtain ⟨hcq, hfq⟩ := G.old hq; go_simp; (first | done | exact rfl); done) | (intro wq; go_simp; (first | done | exact rfl); done))); go_simp; (with_reducible refine hK _ ?_); clear hK K) | fail))
    (with_reducible refine ord_nil ?_)
    have hbx := hG.b; replace HB := Lib.hid (HB.out.grow hbx); replace HC := Lib.hid (HC.out.grow hbx); clear hG hbx; clear c0 c1 c2 c3 c4 f0 f1 f2 f3 f4 lt; (obtain ⟨c0, c1, c2, c3, c4⟩ := HB.out.c5; obtain ⟨f0, f1, f2, f3, f4⟩ := HB.out.f5; have lt := HB.out.lt)
    go_wp2_with fail
    rw [rounds_succ]
    go_wp2_with fail
    refine wp_region_ord [(0, 1), (1, 1), (2, 1), (3, 1), (4, 1), (5, 1), (6, 1), (7, 1), (8, 1), (9, 1), (10, 1), (11, 1), (12, 1), (13, 1), (14, 1), (15, 1), (16, 1), (17, 1), (18, 1), (19, 1), (20, 1)] [] 5 (by kernel_rfl) (by decide +kernel) ?_
    simp only [pickO, List.append_eq, List.cons_append, List.nil_append, List.getElem?_cons_succ, List.getElem?_cons_zero]
    intro w0 hG
    (repeat ((first | (with_reducible refine ord_q1 ?_) | (with_reducible refine ord_q0 ?_)); intro K hK; first | (refine Or.inr ⟨?_, ?_⟩; (focus (go_simp; first | done | (simp [undef]; done))); go_simp; (with_reducible refine hK _ ?_); clear hK K) | (refine Or.inl ⟨?_, ?_⟩; (focus (go_simp; done)); apply Exists.intro; refine And.intro ?_ ?_; (focus (first | (intro wq hq; obtain ⟨hcq, hfq⟩ := G.old hq; go_simp; (first | done | exact rfl); done) | (intro wq; go_simp; (first | done | exact rfl); done))); go_simp; (with_reducible refine hK _ ?_); clear hK K) | fail))
    (with_reducible refine ord_nil ?_)
    have hbx := hG.b; replace HB := Lib.hid (HB.out.grow hbx); replace HC := Lib.hid (HC.out.grow hbx); clear hG hbx; clear c0 c1 c2 c3 c4 f0 f1 f2 f3 f4 lt; (obtain ⟨c0, c1, c2, c3, c4⟩ := HB.out.c5; obtain ⟨f0, f1, f2, f3, f4⟩ := HB.out.f5; have lt := HB.out.lt)
    go_wp2_with fail
    go_ret
    exact RetEs.ok' HES.out rfl (by omega) (HC.out.set1 _ _) (HB.out.put rfl)
  · have k0 : ((d.toNat : Int) == 34) = false := by simp; omega
    have k1 : ((d.toNat : Int) == 92) = false := by simp; omega
    have k2 : ((d.toNat : Int) == 110) = false := by simp; omega
    have k3 : ((d.toNat : Int) == 114) = false := by simp; omega
    have k4 : ((d.toNat : Int) == 116) = true := by simp; omega
    have ex : (⟨#[34, 92, 10, 13, 9]⟩ : ByteArray).extract 4 5 = ⟨#[9]⟩ := by decide +kernel
    clear n0 n1 n2 n3 n4
    go_enter Tryz.func114, Tryz.ntmps114
    go_wp2_with fail
    refine wp_loop_rounds 6 ?_
    rw [rounds_succ]
    go_wp2_with fail
    refine wp_region_ord [(0, 1), (1, 1), (2, 1), (3, 1), (4, 1), (5, 1), (6, 1), (7, 1), (8, 1), (9, 1), (10, 1), (11, 1), (12, 1), (13, 1), (14, 1), (15, 1), (16, 1), (17, 1), (18, 1), (19, 1), (20, 1)] [] 5 (by kernel_rfl) (by decide +kernel) ?_
    simp only [pickO, List.append_eq, List.cons_append, List.nil_append, List.getElem?_cons_succ, List.getElem?_cons_zero]
    intro w0 hG
    (repeat ((first | (with_reducible refine ord_q1 ?_) | (with_reducible refine ord_q0 ?_)); intro K hK; first | (refine Or.inr ⟨?_, ?_⟩; (focus (go_simp; first | done | (simp [undef]; done))); go_simp; (with_reducible refine hK _ ?_); clear hK K) | (refine Or.inl ⟨?_, ?_⟩; (focus (go_simp; done)); apply Exists.intro; refine And.intro ?_ ?_; (focus (first | (intro wq hq; obtain ⟨hcq, hfq⟩ := G.old hq; go_simp; (first | done | exact rfl); done) | (intro wq; go_simp; (first | done | exact rfl); done))); go_simp; (with_reducible refine hK _ ?_); clear hK K) | fail))
    (with_reducible refine ord_nil ?_)
    have hbx := hG.b; replace HB := Lib.hid (HB.out.grow hbx); replace HC := Lib.hid (HC.out.grow hbx); clear hG hbx; clear c0 c1 c2 c3 c4 f0 f1 f2 f3 f4 lt; (obtain ⟨c0, c1, c2, c3, c4⟩ := HB.out.c5; obtain ⟨f0, f1, f2, f3, f4⟩ := HB.out.f5; have lt := HB.out.lt)
    go_wp2_with fail
    rw [rounds_succ]
    go_wp2_with fail
    refine wp_region_ord [(0, 1), (1, 1), (2, 1), (3, 1), (4, 1), (5, 1), (6, 1), (7, 1), (8, 1), (9, 1), (10, 1), (11, 1), (12, 1), (13, 1), (14, 1), (15, 1), (16, 1), (17, 1), (18, 1), (19, 1), (20, 1)] [] 5 (by kernel_rfl) (by decide +kernel) ?_
    simp only [pickO, List.append_eq, List.cons_append, List.nil_append, List.getElem?_cons_succ, List.getElem?_cons_zero]
    intro w0 hG
    (repeat ((first | (with_reducible refine ord_q1 ?_) | (with_reducible refine ord_q0 ?_)); intro K hK; first | (refine Or.inr ⟨?_, ?_⟩; (focus (go_simp; first | done | (simp [undef]; done))); go_simp; (with_reducible refine hK _ ?_); clear hK K) | (refine Or.inl ⟨?_, ?_⟩; (focus (go_simp; done)); apply Exists.intro; refine And.intro ?_ ?_; (focus (first | (intro wq hq; obtain ⟨hcq, hfq⟩ := G.old hq; go_simp; (first | done | exact rfl); done) | (intro wq; go_simp; (first | done | exact rfl); done))); go_simp; (with_reducible refine hK _ ?_); clear hK K) | fail))
    (with_reducible refine ord_nil ?_)
    have hbx := hG.b; replace HB := Lib.hid (HB.out.grow hbx); replace HC := Lib.hid (HC.out.grow hbx); clear hG hbx; clear c0 c1 c2 c3 c4 f0 f1 f2 f3 f4 lt; (obtain ⟨c0, c1, c2, c3, c4⟩ := HB.out.c5; obtain ⟨f0, f1, f2, f3, f4⟩ := HB.out.f5; have lt := HB.out.lt)
    go_wp2_with fail
    rw [rounds_succ]
    go_wp2_with fail
    refine wp_region_ord [(0, 1), (1, 1), (2, 1), (3, 1), (4, 1), (5, 1), (6, 1), (7, 1), (8, 1), (9, 1), (10, 1), (11, 1), (12, 1), (13, 1), (14, 1), (15, 1), (16, 1), (17, 1), (18, 1), (19, 1), (20, 1)] [] 5 (by kernel_rfl) (by decide +kernel) ?_
    simp only [pickO, List.append_eq, List.cons_append, List.nil_append, List.getElem?_cons_succ, List.getElem?_cons_zero]
    intro w0 hG
    (repeat ((first | (with_reducible refine ord_q1 ?_) | (with_reducible refine ord_q0 ?_)); intro K hK; first | (refine Or.inr ⟨?_, ?_⟩; (focus (go_simp; first | done | (simp [undef]; done))); go_simp; (with_reducible refine hK _ ?_); clear hK K) | (refine Or.inl ⟨?_, ?_⟩; (focus (go_simp; done)); apply Exists.intro; refine And.intro ?_ ?_; (focus (first | (intro wq hq; obtain ⟨hcq, hfq⟩ := G.old hq; go_simp; (first | done | exact rfl); done) | (intro wq; go_simp; (first | done | exact rfl); done))); go_simp; (with_reducible refine hK _ ?_); clear hK K) | fail))
    (with_reducible refine ord_nil ?_)
    have hbx := hG.b; replace HB := Lib.hid (HB.out.grow hbx); replace HC := Lib.hid (HC.out.grow hbx); clear hG hbx; clear c0 c1 c2 c3 c4 f0 f1 f2 f3 f4 lt; (obtain ⟨c0, c1, c2, c3, c4⟩ := HB.out.c5; obtain ⟨f0, f1, f2, f3, f4⟩ := HB.out.f5; have lt := HB.out.lt)
    go_wp2_with fail
    rw [rounds_succ]
    go_wp2_with fail
    refine wp_region_ord [(0, 1), (1, 1), (2, 1), (3, 1), (4, 1), (5, 1), (6, 1), (7, 1), (8, 1), (9, 1), (10, 1), (11, 1), (12, 1), (13, 1), (14, 1), (15, 1), (16, 1), (17, 1), (18, 1), (19, 1), (20, 1)] [] 5 (by kernel_rfl) (by decide +kernel) ?_
    simp only [pickO, List.append_eq, List.cons_append, List.nil_append, List.getElem?_cons_succ, List.getElem?_cons_zero]
    intro w0 hG
    (repeat ((first | (with_reducible refine ord_q1 ?_) | (with_reducible refine ord_q0 ?_)); intro K hK; first | (refine Or.inr ⟨?_, ?_⟩; (focus (go_simp; first | done | (simp [undef]; done))); go_simp; (with_reducible refine hK _ ?_); clear hK K) | (refine Or.inl ⟨?_, ?_⟩; (focus (go_simp; done)); apply Exists.intro; refine And.intro ?_ ?_; (focus (first | (intro wq hq; obtain ⟨hcq, hfq⟩ := G.old hq; go_simp; (first | done | exact rfl); done) | (intro wq; go_simp; (first | done | exact rfl); done))); go_simp; (with_reducible refine hK _ ?_); clear hK K) | fail))
    (with_reducible refine ord_nil ?_)
    have hbx := hG.b; replace HB := Lib.hid (HB.out.grow hbx); replace HC := Lib.hid (HC.out.grow hbx); clear hG hbx; clear c0 c1 c2 c3 c4 f0 f1 f2 f3 f4 lt; (obtain ⟨c0, c1, c2, c3, c4⟩ := HB.out.c5; obtain ⟨f0, f1, f2, f3, f4⟩ := HB.out.f5; have lt := HB.out.lt)
    go_wp2_with fail
    rw [rounds_succ]
    go_wp2_with fail
    refine wp_region_ord [(0, 1), (1, 1), (2, 1), (3, 1), (4, 1), (5, 1), (6, 1), (7, 1), (8, 1), (9, 1), (10, 1), (11, 1), (12, 1), (13, 1), (14, 1), (15, 1), (16, 1), (17, 1), (18, 1), (19, 1), (20, 1)] [] 5 (by kernel_rfl) (by decide +kernel) ?_
    simp only [pickO, List.append_eq, List.cons_append, List.nil_append, List.getElem?_cons_succ, List.getElem?_cons_zero]
    intro w0 hG
    (repeat ((first | (with_reducible refine ord_q1 ?_) | (with_reducible refine ord_q0 ?_)); intro K hK; first | (refine Or.inr ⟨?_, ?_⟩; (focus (go_simp; first | done | (simp [undef]; done))); go_simp; (with_reducible refine hK _ ?_); clear hK K) | (refine Or.inl ⟨?_, ?_⟩; (focus (go_simp; done)); apply Exists.intro; refine And.intro ?_ ?_; (focus (first | (intro wq hq; obtain ⟨hcq, hfq⟩ := G.old hq; go_simp; (first | done | exact rfl); done) | (intro wq; go_simp; (first | done | exact rfl); done))); go_simp; (with_reducible refine hK _ ?_); clear hK K) | fail))
    (with_reducible refine ord_nil ?_)
    have hbx := hG.b; replace HB := Lib.hid (HB.out.grow hbx); replace HC := Lib.hid (HC.out.grow hbx); clear hG hbx; clear c0 c1 c2 c3 c4 f0 f1 f2 f3 f4 lt; (obtain ⟨c0, c1, c2, c3, c4⟩ := HB.out.c5; obtain ⟨f0, f1, f2, f3, f4⟩ := HB.out.f5; have lt := HB.out.lt)
    go_wp2_with fail
    go_ret
    exact RetEs.ok' HES.out rfl (by omega) (HC.out.set1 _ _) (HB.out.put rfl)
end
end Go.Proofs.YtmchiibbodllaaaGreatDoor

namespace Go.Proofs.YtmchiibbodllaaaGreatDoor
set_option linter.unusedVariables false
set_option linter.unnecessarySimpa false
set_option linter.unusedSimpArgs false
open Go.RowKit

section
variable {w : World} {b p : Nat} {s : ByteArray} {lv : Value} {tb : Int}
set_option maxRecDepth 20000 in set_option maxHeartbeats 16000000 in
theorem escape_n (h : Bx w b (mC s (p : Int) lv 0 tb)) (hs : s.size ≤ 100000) (hp : p < s.size) (hlt : p + 1 < s.size) (hsm : simple (nth s.data.toList (p + 1)) = none) :
    Calls Tryz.prog 114 #[.pointer (some ⟨b, 0, none⟩)] w (RetEs w b s p lv tb (esc (s.data.toList.drop p))) := by
  have hem := esc_model (s.data.toList.drop p)
  have hes := esc.eq_1 (s.data.toList.drop p)
  rw [nth_drop] at hem hes
  rw [nth_drop, nth_drop, List.drop_drop] at hem
  obtain ⟨X, hX⟩ : ∃ X, esc (s.data.toList.drop p) = X := ⟨_, rfl⟩
  rw [hX] at hem hes ⊢
  clear hX
  obtain ⟨d, hd⟩ : ∃ d, nth s.data.toList (p + 1) = d := ⟨_, rfl⟩
  obtain ⟨g, hg⟩ : ∃ g, nth s.data.toList (p + 2) = g := ⟨_, rfl⟩
  rw [hd] at hem hes hsm
  rw [hg] at hem
  have HD := Lib.hid hd
  have HGg := Lib.hid hg
  have H := Lib.hid h
  have FL := Lib.hid (fun (wx : World) (i k e : Int) (hb : Bx wx b (mC s i lv 0 tb)) => fail_m hb k e)
  have HM := Lib.hid hex_m
  have HH := Lib.hid (fun (wx : World) (i e : Int) (a : Int) (k : Nat) (ha : a = (k : Int)) (hk : k ≤ 1000000) (hb : Bx wx b (mC s i lv e tb)) => here_a hb hs a k ha hk)
  have i0 : ∀ wx : World, (Instr.index 9 (.string ⟨#[34, 92, 110, 114, 116]⟩) (.int .i64 0)).run Tryz.prog wx = .ok (.int .u8 34) wx := fun wx => by kernel_rfl
  have i1 : ∀ wx : World, (Instr.index 9 (.string ⟨#[34, 92, 110, 114, 116]⟩) (.int .i64 1)).run Tryz.prog wx = .ok (.int .u8 92) wx := fun wx => by kernel_rfl
  have i2 : ∀ wx : World, (Instr.index 9 (.string ⟨#[34, 92, 110, 114, 116]⟩) (.int .i64 2)).run Tryz.prog wx = .ok (.int .u8 110) wx := fun wx => by kernel_rfl
  have i3 : ∀ wx : World, (Instr.index 9 (.string ⟨#[34, 92, 110, 114, 116]⟩) (.int .i64 3)).run Tryz.prog wx = .ok (.int .u8 114) wx := fun wx => by kernel_rfl
  have i4 : ∀ wx : World, (Instr.index 9 (.string ⟨#[34, 92, 110, 114, 116]⟩) (.int .i64 4)).run Tryz.prog wx = .ok (.int .u8 116) wx := fun wx => by kernel_rfl
  have hx1 : IntKind.i64.wrap ((p : Int) + 1) = (p : Int) + 1 := IntWalk.i64_in _ (by omega)
  have hx2 : IntKind.i64.wrap ((p : Int) + 2) = (p : Int) + 2 := IntWalk.i64_in _ (by omega)
  have hx3 : IntKind.i64.wrap ((p : Int) + 3) = (p : Int) + 3 := IntWalk.i64_in _ (by omega)
  have hx9 : IntKind.i64.wrap ((p : Int) + 9) = (p : Int) + 9 := IntWalk.i64_in _ (by omega)
  clear h hd hg
  have hlt1 : (p : Int) + 1 < (s.size : Int) := by omega
  have hdi : s[p + 1] = d := by rw [← nth_idx s hlt]; exact HD.out
  have hdt := d.toNat_lt
  have hn : d.toNat ≠ 34 ∧ d.toNat ≠ 92 ∧ d.toNat ≠ 110 ∧ d.toNat ≠ 114 ∧ d.toNat ≠ 116 := by
    unfold simple at hsm
    refine ⟨?_, ?_, ?_, ?_, ?_⟩ <;> (intro h; simp [h] at hsm)
  obtain ⟨n0, n1, n2, n3, n4⟩ := hn
  have k0 : ((d.toNat : Int) == 34) = false := by simp; omega
  have k1 : ((d.toNat : Int) == 92) = false := by simp; omega
  have k2 : ((d.toNat : Int) == 110) = false := by simp; omega
  have k3 : ((d.toNat : Int) == 114) = false := by simp; omega
  have k4 : ((d.toNat : Int) == 116) = false := by simp; omega
  have hem' := hem hsm
  clear hem hes hsm n0 n1 n2 n3 n4
  have HEM := Lib.hid hem'
  clear hem'
  have HB := H
  have HC := Lib.hid (Chg.refl b b w)
  clear H
  (obtain ⟨c0, c1, c2, c3, c4⟩ := HB.out.c5; obtain ⟨f0, f1, f2, f3, f4⟩ := HB.out.f5; have lt := HB.out.lt)
  go_enter Tryz.func114, Tryz.ntmps114
  go_wp2_with fail
  refine wp_loop_rounds 6 ?_
  rw [rounds_succ]
  go_wp2_with fail
  refine wp_region_ord [(0, 1), (1, 1), (2, 1), (3, 1), (4, 1), (5, 1), (6, 1), (7, 1), (8, 1), (9, 1), (10, 1), (11, 1), (12, 1), (13, 1), (14, 1), (15, 1), (16, 1), (17, 1), (18, 1), (19, 1), (20, 1)] [] 5 (by kernel_rfl) (by decide +kernel) ?_
  simp only [pickO, List.append_eq, List.cons_append, List.nil_append, List.getElem?_cons_succ, List.getElem?_cons_zero]
  intro w0 hG
  (repeat ((first | (with_reducible refine ord_q1 ?_) | (with_reducible refine ord_q0 ?_)); intro K hK; first | (refine Or.inr ⟨?_, ?_⟩; (focus (go_simp; first | done | (simp [undef]; done))); go_simp; (with_reducible refine hK _ ?_); clear hK K) | (refine Or.inl ⟨?_, ?_⟩; (focus (go_simp; done)); apply Exists.intro; refine And.intro ?_ ?_; (focus (first | (intro wq hq; obtain ⟨hcq, hfq⟩ := G.old hq; go_simp; (first | done | exact rfl); done) | (intro wq; go_simp; (first | done | exact rfl); done))); go_simp; (with_reducible refine hK _ ?_); clear hK K) | fail))
  (with_reducible refine ord_nil ?_)
  have hbx := hG.b; replace HB := Lib.hid (HB.out.grow hbx); replace HC := Lib.hid (HC.out.grow hbx); clear hG hbx; clear c0 c1 c2 c3 c4 f0 f1 f2 f3 f4 lt; (obtain ⟨c0, c1, c2, c3, c4⟩ := HB.out.c5; obtain ⟨f0, f1, f2, f3, f4⟩ := HB.out.f5; have lt := HB.out.lt)
  go_wp2_with fail
  rw [rounds_succ]
  go_wp2_with fail
  refine wp_region_ord [(0, 1), (1, 1), (2, 1), (3, 1), (4, 1), (5, 1), (6, 1), (7, 1), (8, 1), (9, 1), (10, 1), (11, 1), (12, 1), (13, 1), (14, 1), (15, 1), (16, 1), (17, 1), (18, 1), (19, 1), (20, 1)] [] 5 (by kernel_rfl) (by decide +kernel) ?_
  simp only [pickO, List.append_eq, List.cons_append, List.nil_append, List.getElem?_cons_succ, List.getElem?_cons_zero]
  intro w0 hG
  (repeat ((first | (with_reducible refine ord_q1 ?_) | (with_reducible refine ord_q0 ?_)); intro K hK; first | (refine Or.inr ⟨?_, ?_⟩; (focus (go_simp; first | done | (simp [undef]; done))); go_simp; (with_reducible refine hK _ ?_); clear hK K) | (refine Or.inl ⟨?_, ?_⟩; (focus (go_simp; done)); apply Exists.intro; refine And.intro ?_ ?_; (focus (first | (intro wq hq; obtain ⟨hcq, hfq⟩ := G.old hq; go_simp; (first | done | exact rfl); done) | (intro wq; go_simp; (first | done | exact rfl); done))); go_simp; (with_reducible refine hK _ ?_); clear hK K) | fail))
  (with_reducible refine ord_nil ?_)
  have hbx := hG.b; replace HB := Lib.hid (HB.out.grow hbx); replace HC := Lib.hid (HC.out.grow hbx); clear hG hbx; clear c0 c1 c2 c3 c4 f0 f1 f2 f3 f4 lt; (obtain ⟨c0, c1, c2, c3, c4⟩ := HB.out.c5; obtain ⟨f0, f1, f2, f3, f4⟩ := HB.out.f5; have lt := HB.out.lt)
  go_wp2_with fail
  rw [rounds_succ]
  go_wp2_with fail
  refine wp_region_ord [(0, 1), (1, 1), (2, 1), (3, 1), (4, 1), (5, 1), (6, 1), (7, 1), (8, 1), (9, 1), (10, 1), (11, 1), (12, 1), (13, 1), (14, 1), (15, 1), (16, 1), (17, 1), (18, 1), (19, 1), (20, 1)] [] 5 (by kernel_rfl) (by decide +kernel) ?_
  simp only [pickO, List.append_eq, List.cons_append, List.nil_append, List.getElem?_cons_succ, List.getElem?_cons_zero]
  intro w0 hG
  (repeat ((first | (with_reducible refine ord_q1 ?_) | (with_reducible refine ord_q0 ?_)); intro K hK; first | (refine Or.inr ⟨?_, ?_⟩; (focus (go_simp; first | done | (simp [undef]; done))); go_simp; (with_reducible refine hK _ ?_); clear hK K) | (refine Or.inl ⟨?_, ?_⟩; (focus (go_simp; done)); apply Exists.intro; refine And.intro ?_ ?_; (focus (first | (intro wq hq; obtain ⟨hcq, hfq⟩ := G.old hq; go_simp; (first | done | exact rfl); done) | (intro wq; go_simp; (first | done | exact rfl); done))); go_simp; (with_reducible refine hK _ ?_); clear hK K) | fail))
  (with_reducible refine ord_nil ?_)
  have hbx := hG.b; replace HB := Lib.hid (HB.out.grow hbx); replace HC := Lib.hid (HC.out.grow hbx); clear hG hbx; clear c0 c1 c2 c3 c4 f0 f1 f2 f3 f4 lt; (obtain ⟨c0, c1, c2, c3, c4⟩ := HB.out.c5; obtain ⟨f0, f1, f2, f3, f4⟩ := HB.out.f5; have lt := HB.out.lt)
  go_wp2_with fail
  rw [rounds_succ]
  go_wp2_with fail
  refine wp_region_ord [(0, 1), (1, 1), (2, 1), (3, 1), (4, 1), (5, 1), (6, 1), (7, 1), (8, 1), (9, 1), (10, 1), (11, 1), (12, 1), (13, 1), (14, 1), (15, 1), (16, 1), (17, 1), (18, 1), (19, 1), (20, 1)] [] 5 (by kernel_rfl) (by decide +kernel) ?_
  simp only [pickO, List.append_eq, List.cons_append, List.nil_append, List.getElem?_cons_succ, List.getElem?_cons_zero]
  intro w0 hG
  (repeat ((first | (with_reducible refine ord_q1 ?_) | (with_reducible refine ord_q0 ?_)); intro K hK; first | (refine Or.inr ⟨?_, ?_⟩; (focus (go_simp; first | done | (simp [undef]; done))); go_simp; (with_reducible refine hK _ ?_); clear hK K) | (refine Or.inl ⟨?_, ?_⟩; (focus (go_simp; done)); apply Exists.intro; refine And.intro ?_ ?_; (focus (first | (intro wq hq; obtain ⟨hcq, hfq⟩ := G.old hq; go_simp; (first | done | exact rfl); done) | (intro wq; go_simp; (first | done | exact rfl); done))); go_simp; (with_reducible refine hK _ ?_); clear hK K) | fail))
  (with_reducible refine ord_nil ?_)
  have hbx := hG.b; replace HB := Lib.hid (HB.out.grow hbx); replace HC := Lib.hid (HC.out.grow hbx); clear hG hbx; clear c0 c1 c2 c3 c4 f0 f1 f2 f3 f4 lt; (obtain ⟨c0, c1, c2, c3, c4⟩ := HB.out.c5; obtain ⟨f0, f1, f2, f3, f4⟩ := HB.out.f5; have lt := HB.out.lt)
  go_wp2_with fail
  rw [rounds_succ]
  go_wp2_with fail
  refine wp_region_ord [(0, 1), (1, 1), (2, 1), (3, 1), (4, 1), (5, 1), (6, 1), (7, 1), (8, 1), (9, 1), (10, 1), (11, 1), (12, 1), (13, 1), (14, 1), (15, 1), (16, 1), (17, 1), (18, 1), (19, 1), (20, 1)] [] 5 (by kernel_rfl) (by decide +kernel) ?_
  simp only [pickO, List.append_eq, List.cons_append, List.nil_append, List.getElem?_cons_succ, List.getElem?_cons_zero]
  intro w0 hG
  (repeat ((first | (with_reducible refine ord_q1 ?_) | (with_reducible refine ord_q0 ?_)); intro K hK; first | (refine Or.inr ⟨?_, ?_⟩; (focus (go_simp; first | done | (simp [undef]; done))); go_simp; (with_reducible refine hK _ ?_); clear hK K) | (refine Or.inl ⟨?_, ?_⟩; (focus (go_simp; done)); apply Exists.intro; refine And.intro ?_ ?_; (focus (first | (intro wq hq; obtain ⟨hcq, hfq⟩ := G.old hq; go_simp; (first | done | exact rfl); done) | (intro wq; go_simp; (first | done | exact rfl); done))); go_simp; (with_reducible refine hK _ ?_); clear hK K) | fail))
  (with_reducible refine ord_nil ?_)
  have hbx := hG.b; replace HB := Lib.hid (HB.out.grow hbx); replace HC := Lib.hid (HC.out.grow hbx); clear hG hbx; clear c0 c1 c2 c3 c4 f0 f1 f2 f3 f4 lt; (obtain ⟨c0, c1, c2, c3, c4⟩ := HB.out.c5; obtain ⟨f0, f1, f2, f3, f4⟩ := HB.out.f5; have lt := HB.out.lt)
  go_wp2_with fail
  rw [rounds_succ]
  go_wp2_with fail
  obtain ⟨m6, hm6⟩ : ∃ m6, min 6 (spn isHex (s.data.toList.drop (p + 3))) = m6 := ⟨_, rfl⟩
  obtain ⟨L, hL⟩ : ∃ L, s.data.toList.drop (p + 3) = L := ⟨_, rfl⟩
  have hem2 := HEM.out
  rw [hm6, hL] at hem2
  rw [hL] at hm6
  have hLl : L.length = s.size - (p + 3) := by rw [← hL, List.length_drop]; rfl
  have hLn : ∀ k, nth L k = nth s.data.toList (p + 3 + k) := fun k => by rw [← hL, nth_drop]
  have hm7 : m6 ≤ 6 ∧ m6 ≤ L.length := by have := spn_le isHex L; omega
  have hall : ∀ c ∈ L.take m6, isHex c = true := fun c hc => by
    obtain ⟨k, hk⟩ := List.getElem?_of_mem hc
    rw [List.getElem?_take] at hk
    split at hk
    · have := spn_all (p := isHex) (r := L) (k := k) (by omega)
      rw [nth_get (by have := (List.getElem?_eq_some_iff.1 hk).1; exact this)] at this
      rw [(List.getElem?_eq_some_iff.1 hk).2] at this
      exact this
    · cases hk
  have HPB := Lib.hid (hexN_bd 6 (L.take m6) (by rw [List.length_take]; omega) hall)
  have HM6 := Lib.hid hm6
  have HL := Lib.hid hL
  have HLl := Lib.hid hLl
  have HLn := Lib.hid hLn
  have HE2 := Lib.hid hem2
  clear hm6 hL hLl hLn hem2 HEM hall
  have hm60 := hm7.1
  have hm7L := Lib.hid hm7.2
  clear hm7
  clear c0 c1 c2 c3 c4 f0 f1 f2 f3 f4 lt
  go_loopw [7, 8] (fun av pv wx => ∃ (t q : Nat) (P : Int), t ≤ m6 ∧ Hid (p + 3 + t = q) ∧ q ≤ p + 9 ∧ av = .int .i64 (q : Int) ∧ pv = .int .i64 P ∧ Hid (hexN (L.take t) = P) ∧ Hid (Bx wx b (mC s (p : Int) lv 0 tb)) ∧ Hid (Chg b b w wx)) (fun av _ _ => p + 10 - (intOf av).toNat)
  case atStart => exact ⟨0, p + 3, 0, Nat.zero_le _, rfl, by omega, by go_num, rfl, rfl, HB, HC⟩
  case round =>
    clear HB HC
    obtain ⟨t, q, P, ht, HQ, hq9, rfl, rfl, HPV, HB, HC⟩ := hrel
    have hx1q : IntKind.i64.wrap ((q : Int) + 1) = (q : Int) + 1 := IntWalk.i64_in _ (by omega)
    (obtain ⟨c0, c1, c2, c3, c4⟩ := HB.out.c5; obtain ⟨f0, f1, f2, f3, f4⟩ := HB.out.f5; have lt := HB.out.lt)
    by_cases hq : q < s.size
    · have hq1 : (q : Int) < (s.size : Int) := by omega
      by_cases h9 : q < p + 9
      · have h91 : (q : Int) < (p : Int) + 9 := by omega
        obtain ⟨x, hx⟩ : ∃ c, s[q] = c := ⟨_, rfl⟩
        have hxl : nth L t = x := by rw [HLn.out, HQ.out, nth_idx s hq, hx]
        have HX1 := Lib.hid (HM.out x)
        have hab := hex_bd x
        by_cases hv : hexV x < 0
        · have ht6 : t = m6 := by
            have h1 : isHex (nth L t) = false := by rw [hxl]; unfold isHex; simp; omega
            have h2 : spn isHex L ≤ t := by
              rcases Nat.lt_or_ge t (spn isHex L) with h | h
              · have := spn_all h; rw [h1] at this; cases this
              · exact h
            have := HM6.out
            omega
          have HV := Lib.hid ht6
          obtain ⟨va, hva⟩ : ∃ v, hexV x = v := ⟨_, rfl⟩
          rw [hva] at HX1 hv hab
          clear hva hxl ht6
          go_wp2_with fail
          go_at_call 113
          (with_reducible refine (HX1.out _).mono ?_)
          rintro e1 w3 ⟨rfl, rfl⟩
          go_wp2_with fail
          clear HX1 hv hab h91
          have hE3 := HE2.out
          have hz : p + (3 + m6) = q := by have := HV.out; have := HQ.out; omega
          rw [hz] at hE3
          obtain ⟨y, hy⟩ : ∃ c, nth s.data.toList q = c := ⟨_, rfl⟩
          rw [hy] at hE3
          have HY := Lib.hid hy
          have HPE : Hid (hexN (L.take m6) = P) := by have := HV.out; unfold Hid; rw [← this]; exact HPV.out
          rw [HPE.out] at hE3
          have hpb := HPB.out
          rw [HPE.out] at hpb
          have hpb2 : P < 2147483648 := by omega
          have hmq : (m6 = 0) ↔ q = p + 3 := by omega
          by_cases h117 : d.toNat = 117
          · have kd : ((d.toNat : Int) != 117) = false := by simp [h117]
            by_cases h123 : g.toNat = 123
            · have kg : ((g.toNat : Int) != 123) = false := by simp [h123]
              by_cases h0 : m6 = 0
              · have ka : ((q : Int) == (p : Int) + 3) = true := by simp; omega
                rw [if_pos (.inr (.inr (.inl h0)))] at hE3
                have hXX := Lib.hid hE3
                clear hE3 h0 hmq h117 h123 hy hz
                go_at_call 86
                (with_reducible refine (HH.out _ _ _ _ (p + 1) (by omega) (by omega) HB.out).mono ?_)
                rw [HD.out]
                rintro e1 w6 ⟨rfl, rfl⟩
                go_wp2_with fail
                go_at_call 86
                (with_reducible refine (HH.out _ _ _ _ (p + 2) (by omega) (by omega) HB.out).mono ?_)
                rw [HGg.out]
                rintro e1 w6 ⟨rfl, rfl⟩
                go_wp2_with fail
                go_at_call 55
                (with_reducible refine (FL.out _ _ _ _ HB.out).mono ?_)
                rintro e1 w7 ⟨rfl, hb7, hc7⟩
                go_wp2_with fail
                go_ret
                exact RetEs.bad' hXX.out (HC.out.trans hc7) hb7
              · have ka : ((q : Int) == (p : Int) + 3) = false := by simp; omega
                by_cases h125 : y.toNat = 125
                · have ky : ((y.toNat : Int) != 125) = false := by simp [h125]
                  rw [if_neg (by rintro (h | h | h | h); exact h h117; exact h h123; exact h0 h; exact h h125)] at hE3
                  have EN := Lib.hid (fun wx => encode_any P wx ⟨hpb.1, hpb2⟩)
                  rcases hpt : isPt P with _ | _
                  · rw [hpt, if_neg (by simp)] at hE3
                    rw [hpt, if_neg (by simp)] at EN
                    have hXX := Lib.hid hE3
                    clear hE3 h0 hmq h117 h123 h125 hy hz hpt
                    go_at_call 86
                    (with_reducible refine (HH.out _ _ _ _ (p + 1) (by omega) (by omega) HB.out).mono ?_)
                    rw [HD.out]
                    rintro e1 w6 ⟨rfl, rfl⟩
                    go_wp2_with fail
                    go_at_call 86
                    (with_reducible refine (HH.out _ _ _ _ (p + 2) (by omega) (by omega) HB.out).mono ?_)
                    rw [HGg.out]
                    rintro e1 w6 ⟨rfl, rfl⟩
                    go_wp2_with fail
                    go_at_call 86
                    (with_reducible refine (HH.out _ _ _ _ (q) (by omega) (by omega) HB.out).mono ?_)
                    rw [HY.out]
                    rintro e1 w6 ⟨rfl, rfl⟩
                    go_wp2_with fail
                    go_at_call 107
                    (with_reducible refine (EN.out _).mono ?_)
                    rintro e1 w6 ⟨rfl, rfl⟩
                    go_wp2_with fail
                    go_at_call 55
                    (with_reducible refine (FL.out _ _ _ _ HB.out).mono ?_)
                    rintro e1 w7 ⟨rfl, hb7, hc7⟩
                    go_wp2_with fail
                    go_ret
                    exact RetEs.bad' hXX.out (HC.out.trans hc7) hb7
                  · rw [hpt, if_pos rfl] at hE3
                    rw [hpt, if_pos rfl] at EN
                    have hXX := Lib.hid hE3
                    have hz2 := Lib.hid hz
                    clear hE3 h0 hmq h117 h123 h125 hy hz hpt
                    go_at_call 86
                    (with_reducible refine (HH.out _ _ _ _ (p + 1) (by omega) (by omega) HB.out).mono ?_)
                    rw [HD.out]
                    rintro e1 w6 ⟨rfl, rfl⟩
                    go_wp2_with fail
                    go_at_call 86
                    (with_reducible refine (HH.out _ _ _ _ (p + 2) (by omega) (by omega) HB.out).mono ?_)
                    rw [HGg.out]
                    rintro e1 w6 ⟨rfl, rfl⟩
                    go_wp2_with fail
                    go_at_call 86
                    (with_reducible refine (HH.out _ _ _ _ (q) (by omega) (by omega) HB.out).mono ?_)
                    rw [HY.out]
                    rintro e1 w6 ⟨rfl, rfl⟩
                    go_wp2_with fail
                    go_at_call 107
                    (with_reducible refine (EN.out _).mono ?_)
                    rintro e1 w6 ⟨rfl, rfl⟩
                    go_wp2_with fail
                    go_ret
                    exact RetEs.ok' hXX.out rfl (by have := hz2.out; omega) (HC.out.set1 _ _) (HB.out.put rfl)
                · have ky : ((y.toNat : Int) != 125) = true := by simp; omega
                  rw [if_pos (.inr (.inr (.inr h125)))] at hE3
                  have hXX := Lib.hid hE3
                  clear hE3 h0 hmq h117 h123 h125 hy hz
                  go_at_call 86
                  (with_reducible refine (HH.out _ _ _ _ (p + 1) (by omega) (by omega) HB.out).mono ?_)
                  rw [HD.out]
                  rintro e1 w6 ⟨rfl, rfl⟩
                  go_wp2_with fail
                  go_at_call 86
                  (with_reducible refine (HH.out _ _ _ _ (p + 2) (by omega) (by omega) HB.out).mono ?_)
                  rw [HGg.out]
                  rintro e1 w6 ⟨rfl, rfl⟩
                  go_wp2_with fail
                  go_at_call 86
                  (with_reducible refine (HH.out _ _ _ _ (q) (by omega) (by omega) HB.out).mono ?_)
                  rw [HY.out]
                  rintro e1 w6 ⟨rfl, rfl⟩
                  go_wp2_with fail
                  go_at_call 55
                  (with_reducible refine (FL.out _ _ _ _ HB.out).mono ?_)
                  rintro e1 w7 ⟨rfl, hb7, hc7⟩
                  go_wp2_with fail
                  go_ret
                  exact RetEs.bad' hXX.out (HC.out.trans hc7) hb7
            · have kg : ((g.toNat : Int) != 123) = true := by simp; omega
              rw [if_pos (.inr (.inl h123))] at hE3
              have hXX := Lib.hid hE3
              clear hE3 hmq h117 h123 hy hz
              go_at_call 86
              (with_reducible refine (HH.out _ _ _ _ (p + 1) (by omega) (by omega) HB.out).mono ?_)
              rw [HD.out]
              rintro e1 w6 ⟨rfl, rfl⟩
              go_wp2_with fail
              go_at_call 86
              (with_reducible refine (HH.out _ _ _ _ (p + 2) (by omega) (by omega) HB.out).mono ?_)
              rw [HGg.out]
              rintro e1 w6 ⟨rfl, rfl⟩
              go_wp2_with fail
              go_at_call 55
              (with_reducible refine (FL.out _ _ _ _ HB.out).mono ?_)
              rintro e1 w7 ⟨rfl, hb7, hc7⟩
              go_wp2_with fail
              go_ret
              exact RetEs.bad' hXX.out (HC.out.trans hc7) hb7
          · have kd : ((d.toNat : Int) != 117) = true := by simp; omega
            rw [if_pos (.inl h117)] at hE3
            have hXX := Lib.hid hE3
            clear hE3 hmq h117 hy hz
            go_at_call 86
            (with_reducible refine (HH.out _ _ _ _ (p + 1) (by omega) (by omega) HB.out).mono ?_)
            rw [HD.out]
            rintro e1 w6 ⟨rfl, rfl⟩
            go_wp2_with fail
            go_at_call 55
            (with_reducible refine (FL.out _ _ _ _ HB.out).mono ?_)
            rintro e1 w7 ⟨rfl, hb7, hc7⟩
            go_wp2_with fail
            go_ret
            exact RetEs.bad' hXX.out (HC.out.trans hc7) hb7
        · have ht6 : t + 1 ≤ m6 := by
            have h3 : t < spn isHex L := by
              have hsp : ∀ (k : Nat) (r : List UInt8), k < r.length → (∀ j, j ≤ k → isHex (nth r j) = true) → k < spn isHex r := by
                intro k
                induction k with
                | zero =>
                  intro r hr hj
                  match r, hr with
                  | c :: r, _ =>
                    have := hj 0 (Nat.le_refl 0)
                    unfold spn
                    rw [if_pos (by exact this)]
                    omega
                | succ k ih =>
                  intro r hr hj
                  match r, hr with
                  | c :: r, hr =>
                    have h0 := hj 0 (Nat.zero_le _)
                    unfold spn
                    rw [if_pos (by exact h0)]
                    have := ih r (by simpa using hr) (fun j hjk => by have := hj (j + 1) (by omega); exact this)
                    omega
              refine hsp t L (by have := HLl.out; have := HQ.out; omega) fun j hj => ?_
              rcases Nat.lt_or_ge j t with h | h
              · exact spn_all (by have := HM6.out; omega)
              · have : j = t := by omega
                subst this
                rw [hxl]
                unfold isHex
                simp
                omega
            have := HM6.out
            have := HQ.out
            omega
          have hPb : 0 ≤ P ∧ P < 16777216 := by
            rw [← HPV.out]
            exact hexN_bd 6 (L.take t) (by rw [List.length_take]; omega) (fun c hc => by
              obtain ⟨k, hk⟩ := List.getElem?_of_mem hc
              rw [List.getElem?_take] at hk
              split at hk
              · have := spn_all (p := isHex) (r := L) (k := k) (by have := HM6.out; omega)
                rw [nth_get (by have := (List.getElem?_eq_some_iff.1 hk).1; exact this)] at this
                rw [(List.getElem?_eq_some_iff.1 hk).2] at this
                exact this
              · cases hk)
          have hPN : Hid (hexN (L.take (t + 1)) = 16 * P + hexV x) := by
            have hl := hm7L.out
            unfold Hid
            rw [List.take_succ_eq_append_getElem (by omega), hexN_app, HPV.out, ← nth_get (by omega), hxl]
          obtain ⟨va, hva⟩ : ∃ v, hexV x = v := ⟨_, rfl⟩
          rw [hva] at HX1 hv hab hPN
          have w1 : IntKind.i64.wrap (16 * P) = 16 * P := IntWalk.i64_in _ (by omega)
          have w2 : IntKind.i64.wrap (16 * P + va) = 16 * P + va := IntWalk.i64_in _ (by omega)
          have hv2 : 0 ≤ va := by omega
          clear hva hxl hab hPb
          go_wp2_with fail
          go_at_call 113
          (with_reducible refine (HX1.out _).mono ?_)
          rintro e1 w3 ⟨rfl, rfl⟩
          go_wp2_with fail
          go_at_call 113
          (with_reducible refine (HX1.out _).mono ?_)
          rintro e1 w4 ⟨rfl, rfl⟩
          go_wp2_with fail
          go_roundw
          case rel => exact ⟨t + 1, q + 1, 16 * P + va, ht6, by have := HQ.out; unfold Hid; omega, by omega, by go_num, rfl, hPN, HB, HC⟩
          case measure => simp [intOf]; omega
      · have h91 : ¬ (q : Int) < (p : Int) + 9 := by omega
        have HV : Hid (t = m6) := by unfold Hid; have := HQ.out; omega
        go_wp2_with fail
        clear h91
        have hE3 := HE2.out
        have hz : p + (3 + m6) = q := by have := HV.out; have := HQ.out; omega
        rw [hz] at hE3
        obtain ⟨y, hy⟩ : ∃ c, nth s.data.toList q = c := ⟨_, rfl⟩
        rw [hy] at hE3
        have HY := Lib.hid hy
        have HPE : Hid (hexN (L.take m6) = P) := by have := HV.out; unfold Hid; rw [← this]; exact HPV.out
        rw [HPE.out] at hE3
        have hpb := HPB.out
        rw [HPE.out] at hpb
        have hpb2 : P < 2147483648 := by omega
        have hmq : (m6 = 0) ↔ q = p + 3 := by omega
        by_cases h117 : d.toNat = 117
        · have kd : ((d.toNat : Int) != 117) = false := by simp [h117]
          by_cases h123 : g.toNat = 123
          · have kg : ((g.toNat : Int) != 123) = false := by simp [h123]
            by_cases h0 : m6 = 0
            · have ka : ((q : Int) == (p : Int) + 3) = true := by simp; omega
              rw [if_pos (.inr (.inr (.inl h0)))] at hE3
              have hXX := Lib.hid hE3
              clear hE3 h0 hmq h117 h123 hy hz
              go_at_call 86
              (with_reducible refine (HH.out _ _ _ _ (p + 1) (by omega) (by omega) HB.out).mono ?_)
              rw [HD.out]
              rintro e1 w6 ⟨rfl, rfl⟩
              go_wp2_with fail
              go_at_call 86
              (with_reducible refine (HH.out _ _ _ _ (p + 2) (by omega) (by omega) HB.out).mono ?_)
              rw [HGg.out]
              rintro e1 w6 ⟨rfl, rfl⟩
              go_wp2_with fail
              go_at_call 55
              (with_reducible refine (FL.out _ _ _ _ HB.out).mono ?_)
              rintro e1 w7 ⟨rfl, hb7, hc7⟩
              go_wp2_with fail
              go_ret
              exact RetEs.bad' hXX.out (HC.out.trans hc7) hb7
            · have ka : ((q : Int) == (p : Int) + 3) = false := by simp; omega
              by_cases h125 : y.toNat = 125
              · have ky : ((y.toNat : Int) != 125) = false := by simp [h125]
                rw [if_neg (by rintro (h | h | h | h); exact h h117; exact h h123; exact h0 h; exact h h125)] at hE3
                have EN := Lib.hid (fun wx => encode_any P wx ⟨hpb.1, hpb2⟩)
                rcases hpt : isPt P with _ | _
                · rw [hpt, if_neg (by simp)] at hE3
                  rw [hpt, if_neg (by simp)] at EN
                  have hXX := Lib.hid hE3
                  clear hE3 h0 hmq h117 h123 h125 hy hz hpt
                  go_at_call 86
                  (with_reducible refine (HH.out _ _ _ _ (p + 1) (by omega) (by omega) HB.out).mono ?_)
                  rw [HD.out]
                  rintro e1 w6 ⟨rfl, rfl⟩
                  go_wp2_with fail
                  go_at_call 86
                  (with_reducible refine (HH.out _ _ _ _ (p + 2) (by omega) (by omega) HB.out).mono ?_)
                  rw [HGg.out]
                  rintro e1 w6 ⟨rfl, rfl⟩
                  go_wp2_with fail
                  go_at_call 86
                  (with_reducible refine (HH.out _ _ _ _ (q) (by omega) (by omega) HB.out).mono ?_)
                  rw [HY.out]
                  rintro e1 w6 ⟨rfl, rfl⟩
                  go_wp2_with fail
                  go_at_call 107
                  (with_reducible refine (EN.out _).mono ?_)
                  rintro e1 w6 ⟨rfl, rfl⟩
                  go_wp2_with fail
                  go_at_call 55
                  (with_reducible refine (FL.out _ _ _ _ HB.out).mono ?_)
                  rintro e1 w7 ⟨rfl, hb7, hc7⟩
                  go_wp2_with fail
                  go_ret
                  exact RetEs.bad' hXX.out (HC.out.trans hc7) hb7
                · rw [hpt, if_pos rfl] at hE3
                  rw [hpt, if_pos rfl] at EN
                  have hXX := Lib.hid hE3
                  have hz2 := Lib.hid hz
                  clear hE3 h0 hmq h117 h123 h125 hy hz hpt
                  go_at_call 86
                  (with_reducible refine (HH.out _ _ _ _ (p + 1) (by omega) (by omega) HB.out).mono ?_)
                  rw [HD.out]
                  rintro e1 w6 ⟨rfl, rfl⟩
                  go_wp2_with fail
                  go_at_call 86
                  (with_reducible refine (HH.out _ _ _ _ (p + 2) (by omega) (by omega) HB.out).mono ?_)
                  rw [HGg.out]
                  rintro e1 w6 ⟨rfl, rfl⟩
                  go_wp2_with fail
                  go_at_call 86
                  (with_reducible refine (HH.out _ _ _ _ (q) (by omega) (by omega) HB.out).mono ?_)
                  rw [HY.out]
                  rintro e1 w6 ⟨rfl, rfl⟩
                  go_wp2_with fail
                  go_at_call 107
                  (with_reducible refine (EN.out _).mono ?_)
                  rintro e1 w6 ⟨rfl, rfl⟩
                  go_wp2_with fail
                  go_ret
                  exact RetEs.ok' hXX.out rfl (by have := hz2.out; omega) (HC.out.set1 _ _) (HB.out.put rfl)
              · have ky : ((y.toNat : Int) != 125) = true := by simp; omega
                rw [if_pos (.inr (.inr (.inr h125)))] at hE3
                have hXX := Lib.hid hE3
                clear hE3 h0 hmq h117 h123 h125 hy hz
                go_at_call 86
                (with_reducible refine (HH.out _ _ _ _ (p + 1) (by omega) (by omega) HB.out).mono ?_)
                rw [HD.out]
                rintro e1 w6 ⟨rfl, rfl⟩
                go_wp2_with fail
                go_at_call 86
                (with_reducible refine (HH.out _ _ _ _ (p + 2) (by omega) (by omega) HB.out).mono ?_)
                rw [HGg.out]
                rintro e1 w6 ⟨rfl, rfl⟩
                go_wp2_with fail
                go_at_call 86
                (with_reducible refine (HH.out _ _ _ _ (q) (by omega) (by omega) HB.out).mono ?_)
                rw [HY.out]
                rintro e1 w6 ⟨rfl, rfl⟩
                go_wp2_with fail
                go_at_call 55
                (with_reducible refine (FL.out _ _ _ _ HB.out).mono ?_)
                rintro e1 w7 ⟨rfl, hb7, hc7⟩
                go_wp2_with fail
                go_ret
                exact RetEs.bad' hXX.out (HC.out.trans hc7) hb7
          · have kg : ((g.toNat : Int) != 123) = true := by simp; omega
            rw [if_pos (.inr (.inl h123))] at hE3
            have hXX := Lib.hid hE3
            clear hE3 hmq h117 h123 hy hz
            go_at_call 86
            (with_reducible refine (HH.out _ _ _ _ (p + 1) (by omega) (by omega) HB.out).mono ?_)
            rw [HD.out]
            rintro e1 w6 ⟨rfl, rfl⟩
            go_wp2_with fail
            go_at_call 86
            (with_reducible refine (HH.out _ _ _ _ (p + 2) (by omega) (by omega) HB.out).mono ?_)
            rw [HGg.out]
            rintro e1 w6 ⟨rfl, rfl⟩
            go_wp2_with fail
            go_at_call 55
            (with_reducible refine (FL.out _ _ _ _ HB.out).mono ?_)
            rintro e1 w7 ⟨rfl, hb7, hc7⟩
            go_wp2_with fail
            go_ret
            exact RetEs.bad' hXX.out (HC.out.trans hc7) hb7
        · have kd : ((d.toNat : Int) != 117) = true := by simp; omega
          rw [if_pos (.inl h117)] at hE3
          have hXX := Lib.hid hE3
          clear hE3 hmq h117 hy hz
          go_at_call 86
          (with_reducible refine (HH.out _ _ _ _ (p + 1) (by omega) (by omega) HB.out).mono ?_)
          rw [HD.out]
          rintro e1 w6 ⟨rfl, rfl⟩
          go_wp2_with fail
          go_at_call 55
          (with_reducible refine (FL.out _ _ _ _ HB.out).mono ?_)
          rintro e1 w7 ⟨rfl, hb7, hc7⟩
          go_wp2_with fail
          go_ret
          exact RetEs.bad' hXX.out (HC.out.trans hc7) hb7
    · have hq1 : ¬ (q : Int) < (s.size : Int) := by omega
      have HV : Hid (t = m6) := by unfold Hid; have := HQ.out; have := HLl.out; have := hm7L.out; omega
      go_wp2_with fail
      have hE3 := HE2.out
      have hz : p + (3 + m6) = q := by have := HV.out; have := HQ.out; omega
      rw [hz] at hE3
      obtain ⟨y, hy⟩ : ∃ c, nth s.data.toList q = c := ⟨_, rfl⟩
      rw [hy] at hE3
      have HY := Lib.hid hy
      have HPE : Hid (hexN (L.take m6) = P) := by have := HV.out; unfold Hid; rw [← this]; exact HPV.out
      rw [HPE.out] at hE3
      have hpb := HPB.out
      rw [HPE.out] at hpb
      have hpb2 : P < 2147483648 := by omega
      have hmq : (m6 = 0) ↔ q = p + 3 := by omega
      by_cases h117 : d.toNat = 117
      · have kd : ((d.toNat : Int) != 117) = false := by simp [h117]
        by_cases h123 : g.toNat = 123
        · have kg : ((g.toNat : Int) != 123) = false := by simp [h123]
          by_cases h0 : m6 = 0
          · have ka : ((q : Int) == (p : Int) + 3) = true := by simp; omega
            rw [if_pos (.inr (.inr (.inl h0)))] at hE3
            have hXX := Lib.hid hE3
            clear hE3 h0 hmq h117 h123 hy hz
            go_at_call 86
            (with_reducible refine (HH.out _ _ _ _ (p + 1) (by omega) (by omega) HB.out).mono ?_)
            rw [HD.out]
            rintro e1 w6 ⟨rfl, rfl⟩
            go_wp2_with fail
            go_at_call 86
            (with_reducible refine (HH.out _ _ _ _ (p + 2) (by omega) (by omega) HB.out).mono ?_)
            rw [HGg.out]
            rintro e1 w6 ⟨rfl, rfl⟩
            go_wp2_with fail
            go_at_call 55
            (with_reducible refine (FL.out _ _ _ _ HB.out).mono ?_)
            rintro e1 w7 ⟨rfl, hb7, hc7⟩
            go_wp2_with fail
            go_ret
            exact RetEs.bad' hXX.out (HC.out.trans hc7) hb7
          · have ka : ((q : Int) == (p : Int) + 3) = false := by simp; omega
            by_cases h125 : y.toNat = 125
            · have ky : ((y.toNat : Int) != 125) = false := by simp [h125]
              rw [if_neg (by rintro (h | h | h | h); exact h h117; exact h h123; exact h0 h; exact h h125)] at hE3
              have EN := Lib.hid (fun wx => encode_any P wx ⟨hpb.1, hpb2⟩)
              rcases hpt : isPt P with _ | _
              · rw [hpt, if_neg (by simp)] at hE3
                rw [hpt, if_neg (by simp)] at EN
                have hXX := Lib.hid hE3
                clear hE3 h0 hmq h117 h123 h125 hy hz hpt
                go_at_call 86
                (with_reducible refine (HH.out _ _ _ _ (p + 1) (by omega) (by omega) HB.out).mono ?_)
                rw [HD.out]
                rintro e1 w6 ⟨rfl, rfl⟩
                go_wp2_with fail
                go_at_call 86
                (with_reducible refine (HH.out _ _ _ _ (p + 2) (by omega) (by omega) HB.out).mono ?_)
                rw [HGg.out]
                rintro e1 w6 ⟨rfl, rfl⟩
                go_wp2_with fail
                go_at_call 86
                (with_reducible refine (HH.out _ _ _ _ (q) (by omega) (by omega) HB.out).mono ?_)
                rw [HY.out]
                rintro e1 w6 ⟨rfl, rfl⟩
                go_wp2_with fail
                go_at_call 107
                (with_reducible refine (EN.out _).mono ?_)
                rintro e1 w6 ⟨rfl, rfl⟩
                go_wp2_with fail
                go_at_call 55
                (with_reducible refine (FL.out _ _ _ _ HB.out).mono ?_)
                rintro e1 w7 ⟨rfl, hb7, hc7⟩
                go_wp2_with fail
                go_ret
                exact RetEs.bad' hXX.out (HC.out.trans hc7) hb7
              · rw [hpt, if_pos rfl] at hE3
                rw [hpt, if_pos rfl] at EN
                have hXX := Lib.hid hE3
                have hz2 := Lib.hid hz
                clear hE3 h0 hmq h117 h123 h125 hy hz hpt
                go_at_call 86
                (with_reducible refine (HH.out _ _ _ _ (p + 1) (by omega) (by omega) HB.out).mono ?_)
                rw [HD.out]
                rintro e1 w6 ⟨rfl, rfl⟩
                go_wp2_with fail
                go_at_call 86
                (with_reducible refine (HH.out _ _ _ _ (p + 2) (by omega) (by omega) HB.out).mono ?_)
                rw [HGg.out]
                rintro e1 w6 ⟨rfl, rfl⟩
                go_wp2_with fail
                go_at_call 86
                (with_reducible refine (HH.out _ _ _ _ (q) (by omega) (by omega) HB.out).mono ?_)
                rw [HY.out]
                rintro e1 w6 ⟨rfl, rfl⟩
                go_wp2_with fail
                go_at_call 107
                (with_reducible refine (EN.out _).mono ?_)
                rintro e1 w6 ⟨rfl, rfl⟩
                go_wp2_with fail
                go_ret
                exact RetEs.ok' hXX.out rfl (by have := hz2.out; omega) (HC.out.set1 _ _) (HB.out.put rfl)
            · have ky : ((y.toNat : Int) != 125) = true := by simp; omega
              rw [if_pos (.inr (.inr (.inr h125)))] at hE3
              have hXX := Lib.hid hE3
              clear hE3 h0 hmq h117 h123 h125 hy hz
              go_at_call 86
              (with_reducible refine (HH.out _ _ _ _ (p + 1) (by omega) (by omega) HB.out).mono ?_)
              rw [HD.out]
              rintro e1 w6 ⟨rfl, rfl⟩
              go_wp2_with fail
              go_at_call 86
              (with_reducible refine (HH.out _ _ _ _ (p + 2) (by omega) (by omega) HB.out).mono ?_)
              rw [HGg.out]
              rintro e1 w6 ⟨rfl, rfl⟩
              go_wp2_with fail
              go_at_call 86
              (with_reducible refine (HH.out _ _ _ _ (q) (by omega) (by omega) HB.out).mono ?_)
              rw [HY.out]
              rintro e1 w6 ⟨rfl, rfl⟩
              go_wp2_with fail
              go_at_call 55
              (with_reducible refine (FL.out _ _ _ _ HB.out).mono ?_)
              rintro e1 w7 ⟨rfl, hb7, hc7⟩
              go_wp2_with fail
              go_ret
              exact RetEs.bad' hXX.out (HC.out.trans hc7) hb7
        · have kg : ((g.toNat : Int) != 123) = true := by simp; omega
          rw [if_pos (.inr (.inl h123))] at hE3
          have hXX := Lib.hid hE3
          clear hE3 hmq h117 h123 hy hz
          go_at_call 86
          (with_reducible refine (HH.out _ _ _ _ (p + 1) (by omega) (by omega) HB.out).mono ?_)
          rw [HD.out]
          rintro e1 w6 ⟨rfl, rfl⟩
          go_wp2_with fail
          go_at_call 86
          (with_reducible refine (HH.out _ _ _ _ (p + 2) (by omega) (by omega) HB.out).mono ?_)
          rw [HGg.out]
          rintro e1 w6 ⟨rfl, rfl⟩
          go_wp2_with fail
          go_at_call 55
          (with_reducible refine (FL.out _ _ _ _ HB.out).mono ?_)
          rintro e1 w7 ⟨rfl, hb7, hc7⟩
          go_wp2_with fail
          go_ret
          exact RetEs.bad' hXX.out (HC.out.trans hc7) hb7
      · have kd : ((d.toNat : Int) != 117) = true := by simp; omega
        rw [if_pos (.inl h117)] at hE3
        have hXX := Lib.hid hE3
        clear hE3 hmq h117 hy hz
        go_at_call 86
        (with_reducible refine (HH.out _ _ _ _ (p + 1) (by omega) (by omega) HB.out).mono ?_)
        rw [HD.out]
        rintro e1 w6 ⟨rfl, rfl⟩
        go_wp2_with fail
        go_at_call 55
        (with_reducible refine (FL.out _ _ _ _ HB.out).mono ?_)
        rintro e1 w7 ⟨rfl, hb7, hc7⟩
        go_wp2_with fail
        go_ret
        exact RetEs.bad' hXX.out (HC.out.trans hc7) hb7
end
end Go.Proofs.YtmchiibbodllaaaGreatDoor

namespace Go.Proofs.YtmchiibbodllaaaGreatDoor
set_option linter.unusedVariables false
set_option linter.unnecessarySimpa false
set_option linter.unusedSimpArgs false
open Go.RowKit

section
variable {w : World} {b p : Nat} {s : ByteArray} {lv : Value} {tb : Int}
set_option maxRecDepth 20000 in set_option maxHeartbeats 16000000 in
theorem escape_z (h : Bx w b (mC s (p : Int) lv 0 tb)) (hs : s.size ≤ 100000) (hp : p < s.size) (hlt : ¬ p + 1 < s.size) :
    Calls Tryz.prog 114 #[.pointer (some ⟨b, 0, none⟩)] w (RetEs w b s p lv tb (esc (s.data.toList.drop p))) := by
  have hd0 : nth s.data.toList (p + 1) = 0 := nth_end (by show s.size ≤ p + 1; omega)
  have hX : esc (s.data.toList.drop p) = .bad 13 := by
    have := esc_model (s.data.toList.drop p) (by rw [nth_drop, hd0]; rfl)
    rw [this, nth_drop, hd0, if_pos (.inl (by decide))]
  rw [hX]
  clear hX
  have FL := Lib.hid (fun (wx : World) (i k e : Int) (hb : Bx wx b (mC s i lv 0 tb)) => fail_m hb k e)
  have HH := Lib.hid (fun (wx : World) (i e : Int) (a : Int) (k : Nat) (ha : a = (k : Int)) (hk : k ≤ 1000000) (hb : Bx wx b (mC s i lv e tb)) => here_a hb hs a k ha hk)
  have hx1 : IntKind.i64.wrap ((p : Int) + 1) = (p : Int) + 1 := IntWalk.i64_in _ (by omega)
  have hx2 : IntKind.i64.wrap ((p : Int) + 2) = (p : Int) + 2 := IntWalk.i64_in _ (by omega)
  have hx3 : IntKind.i64.wrap ((p : Int) + 3) = (p : Int) + 3 := IntWalk.i64_in _ (by omega)
  have hx9 : IntKind.i64.wrap ((p : Int) + 9) = (p : Int) + 9 := IntWalk.i64_in _ (by omega)
  have hlt1 : ¬ (p : Int) + 1 < (s.size : Int) := by omega
  have hlt3 : ¬ (p : Int) + 3 < (s.size : Int) := by omega
  have HD := Lib.hid hd0
  have HB := Lib.hid h
  have HC := Lib.hid (Chg.refl b b w)
  clear h hd0
  (obtain ⟨c0, c1, c2, c3, c4⟩ := HB.out.c5; obtain ⟨f0, f1, f2, f3, f4⟩ := HB.out.f5; have lt := HB.out.lt)
  go_enter Tryz.func114, Tryz.ntmps114
  go_wp2_with fail
  refine wp_loop_rounds 6 ?_
  rw [rounds_succ]
  go_wp2_with fail
  refine wp_region_ord [(0, 1), (1, 1), (2, 1), (3, 1), (4, 1), (5, 1), (6, 1), (7, 1), (8, 1), (9, 1), (10, 1), (11, 1), (12, 1), (13, 1), (14, 1), (15, 1), (16, 1), (17, 1), (18, 1), (19, 1), (20, 1)] [] 5 (by kernel_rfl) (by decide +kernel) ?_
  simp only [pickO, List.append_eq, List.cons_append, List.nil_append, List.getElem?_cons_succ, List.getElem?_cons_zero]
  intro w0 hG
  (repeat ((first | (with_reducible refine ord_q1 ?_) | (with_reducible refine ord_q0 ?_)); intro K hK; first | (refine Or.inr ⟨?_, ?_⟩; (focus (go_simp; first | done | (simp [undef]; done))); go_simp; (with_reducible refine hK _ ?_); clear hK K) | (refine Or.inl ⟨?_, ?_⟩; (focus (go_simp; done)); apply Exists.intro; refine And.intro ?_ ?_; (focus (first | (intro wq hq; obtain ⟨hcq, hfq⟩ := G.old hq; go_simp; (first | done | exact rfl); done) | (intro wq; go_simp; (first | done | exact rfl); done))); go_simp; (with_reducible refine hK _ ?_); clear hK K) | fail))
  (with_reducible refine ord_nil ?_)
  have hbx := hG.b; replace HB := Lib.hid (HB.out.grow hbx); replace HC := Lib.hid (HC.out.grow hbx); clear hG hbx; clear c0 c1 c2 c3 c4 f0 f1 f2 f3 f4 lt; (obtain ⟨c0, c1, c2, c3, c4⟩ := HB.out.c5; obtain ⟨f0, f1, f2, f3, f4⟩ := HB.out.f5; have lt := HB.out.lt)
  go_wp2_with fail
  rw [rounds_succ]
  go_wp2_with fail
  refine wp_region_ord [(0, 1), (1, 1), (2, 1), (3, 1), (4, 1), (5, 1), (6, 1), (7, 1), (8, 1), (9, 1), (10, 1), (11, 1), (12, 1), (13, 1), (14, 1), (15, 1), (16, 1), (17, 1), (18, 1), (19, 1), (20, 1)] [] 5 (by kernel_rfl) (by decide +kernel) ?_
  simp only [pickO, List.append_eq, List.cons_append, List.nil_append, List.getElem?_cons_succ, List.getElem?_cons_zero]
  intro w0 hG
  (repeat ((first | (with_reducible refine ord_q1 ?_) | (with_reducible refine ord_q0 ?_)); intro K hK; first | (refine Or.inr ⟨?_, ?_⟩; (focus (go_simp; first | done | (simp [undef]; done))); go_simp; (with_reducible refine hK _ ?_); clear hK K) | (refine Or.inl ⟨?_, ?_⟩; (focus (go_simp; done)); apply Exists.intro; refine And.intro ?_ ?_; (focus (first | (intro wq hq; obtain ⟨hcq, hfq⟩ := G.old hq; go_simp; (first | done | exact rfl); done) | (intro wq; go_simp; (first | done | exact rfl); done))); go_simp; (with_reducible refine hK _ ?_); clear hK K) | fail))
  (with_reducible refine ord_nil ?_)
  have hbx := hG.b; replace HB := Lib.hid (HB.out.grow hbx); replace HC := Lib.hid (HC.out.grow hbx); clear hG hbx; clear c0 c1 c2 c3 c4 f0 f1 f2 f3 f4 lt; (obtain ⟨c0, c1, c2, c3, c4⟩ := HB.out.c5; obtain ⟨f0, f1, f2, f3, f4⟩ := HB.out.f5; have lt := HB.out.lt)
  go_wp2_with fail
  rw [rounds_succ]
  go_wp2_with fail
  refine wp_region_ord [(0, 1), (1, 1), (2, 1), (3, 1), (4, 1), (5, 1), (6, 1), (7, 1), (8, 1), (9, 1), (10, 1), (11, 1), (12, 1), (13, 1), (14, 1), (15, 1), (16, 1), (17, 1), (18, 1), (19, 1), (20, 1)] [] 5 (by kernel_rfl) (by decide +kernel) ?_
  simp only [pickO, List.append_eq, List.cons_append, List.nil_append, List.getElem?_cons_succ, List.getElem?_cons_zero]
  intro w0 hG
  (repeat ((first | (with_reducible refine ord_q1 ?_) | (with_reducible refine ord_q0 ?_)); intro K hK; first | (refine Or.inr ⟨?_, ?_⟩; (focus (go_simp; first | done | (simp [undef]; done))); go_simp; (with_reducible refine hK _ ?_); clear hK K) | (refine Or.inl ⟨?_, ?_⟩; (focus (go_simp; done)); apply Exists.intro; refine And.intro ?_ ?_; (focus (first | (intro wq hq; obtain ⟨hcq, hfq⟩ := G.old hq; go_simp; (first | done | exact rfl); done) | (intro wq; go_simp; (first | done | exact rfl); done))); go_simp; (with_reducible refine hK _ ?_); clear hK K) | fail))
  (with_reducible refine ord_nil ?_)
  have hbx := hG.b; replace HB := Lib.hid (HB.out.grow hbx); replace HC := Lib.hid (HC.out.grow hbx); clear hG hbx; clear c0 c1 c2 c3 c4 f0 f1 f2 f3 f4 lt; (obtain ⟨c0, c1, c2, c3, c4⟩ := HB.out.c5; obtain ⟨f0, f1, f2, f3, f4⟩ := HB.out.f5; have lt := HB.out.lt)
  go_wp2_with fail
  rw [rounds_succ]
  go_wp2_with fail
  refine wp_region_ord [(0, 1), (1, 1), (2, 1), (3, 1), (4, 1), (5, 1), (6, 1), (7, 1), (8, 1), (9, 1), (10, 1), (11, 1), (12, 1), (13, 1), (14, 1), (15, 1), (16, 1), (17, 1), (18, 1), (19, 1), (20, 1)] [] 5 (by kernel_rfl) (by decide +kernel) ?_
  simp only [pickO, List.append_eq, List.cons_append, List.nil_append, List.getElem?_cons_succ, List.getElem?_cons_zero]
  intro w0 hG
  (repeat ((first | (with_reducible refine ord_q1 ?_) | (with_reducible refine ord_q0 ?_)); intro K hK; first | (refine Or.inr ⟨?_, ?_⟩; (focus (go_simp; first | done | (simp [undef]; done))); go_simp; (with_reducible refine hK _ ?_); clear hK K) | (refine Or.inl ⟨?_, ?_⟩; (focus (go_simp; done)); apply Exists.intro; refine And.intro ?_ ?_; (focus (first | (intro wq hq; obtain ⟨hcq, hfq⟩ := G.old hq; go_simp; (first | done | exact rfl); done) | (intro wq; go_simp; (first | done | exact rfl); done))); go_simp; (with_reducible refine hK _ ?_); clear hK K) | fail))
  (with_reducible refine ord_nil ?_)
  have hbx := hG.b; replace HB := Lib.hid (HB.out.grow hbx); replace HC := Lib.hid (HC.out.grow hbx); clear hG hbx; clear c0 c1 c2 c3 c4 f0 f1 f2 f3 f4 lt; (obtain ⟨c0, c1, c2, c3, c4⟩ := HB.out.c5; obtain ⟨f0, f1, f2, f3, f4⟩ := HB.out.f5; have lt := HB.out.lt)
  go_wp2_with fail
  rw [rounds_succ]
  go_wp2_with fail
  refine wp_region_ord [(0, 1), (1, 1), (2, 1), (3, 1), (4, 1), (5, 1), (6, 1), (7, 1), (8, 1), (9, 1), (10, 1), (11, 1), (12, 1), (13, 1), (14, 1), (15, 1), (16, 1), (17, 1), (18, 1), (19, 1), (20, 1)] [] 5 (by kernel_rfl) (by decide +kernel) ?_
  simp only [pickO, List.append_eq, List.cons_append, List.nil_append, List.getElem?_cons_succ, List.getElem?_cons_zero]
  intro w0 hG
  (repeat ((first | (with_reducible refine ord_q1 ?_) | (with_reducible refine ord_q0 ?_)); intro K hK; first | (refine Or.inr ⟨?_, ?_⟩; (focus (go_simp; first | done | (simp [undef]; done))); go_simp; (with_reducible refine hK _ ?_); clear hK K) | (refine Or.inl ⟨?_, ?_⟩; (focus (go_simp; done)); apply Exists.intro; refine And.intro ?_ ?_; (focus (first | (intro wq hq; obtain ⟨hcq, hfq⟩ := G.old hq; go_simp; (first | done | exact rfl); done) | (intro wq; go_simp; (first | done | exact rfl); done))); go_simp; (with_reducible refine hK _ ?_); clear hK K) | fail))
  (with_reducible refine ord_nil ?_)
  have hbx := hG.b; replace HB := Lib.hid (HB.out.grow hbx); replace HC := Lib.hid (HC.out.grow hbx); clear hG hbx; clear c0 c1 c2 c3 c4 f0 f1 f2 f3 f4 lt; (obtain ⟨c0, c1, c2, c3, c4⟩ := HB.out.c5; obtain ⟨f0, f1, f2, f3, f4⟩ := HB.out.f5; have lt := HB.out.lt)
  go_wp2_with fail
  rw [rounds_succ]
  go_wp2_with fail
  refine wp_loop_rounds 1 ?_
  rw [rounds_succ]
  go_wp2_with fail
  go_at_call 86
  (with_reducible refine (HH.out _ _ _ _ (p + 1) (by omega) (by omega) HB.out).mono ?_)
  rw [HD.out]
  rintro e1 w6 ⟨rfl, rfl⟩
  go_wp2_with fail
  go_at_call 55
  (with_reducible refine (FL.out _ _ _ _ HB.out).mono ?_)
  rintro e1 w7 ⟨rfl, hb7, hc7⟩
  go_wp2_with fail
  go_ret
  exact RetEs.bad' rfl (HC.out.trans hc7) hb7
end
end Go.Proofs.YtmchiibbodllaaaGreatDoor

namespace Go.Proofs.YtmchiibbodllaaaGreatDoor
set_option linter.unusedVariables false
set_option linter.unnecessarySimpa false
set_option linter.unusedSimpArgs false
open Go.RowKit

theorem escape_m {w : World} {b p : Nat} {s : ByteArray} {lv : Value} {tb : Int} (h : Bx w b (mC s (p : Int) lv 0 tb)) (hs : s.size ≤ 100000) (hp : p < s.size) :
    Calls Tryz.prog 114 #[.pointer (some ⟨b, 0, none⟩)] w (RetEs w b s p lv tb (esc (s.data.toList.drop p))) := by
  by_cases hlt : p + 1 < s.size
  · rcases hsm : simple (nth s.data.toList (p + 1)) with _ | m
    · exact escape_n h hs hp hlt hsm
    · exact escape_s h hs hp hlt hsm
  · exact escape_z h hs hp hlt
def GoM (s : ByteArray) (b f : Nat) (lv : Value) (tb : Int) (X : Bd) (acc : List UInt8) (wx : World) : Prop :=
  ∃ (p q F : Nat), p ≤ s.size ∧ f + q = p ∧ (s.data.toList.drop f).length < q + F ∧ acc.length ≤ q ∧ strB F (s.data.toList.drop f) q acc = X ∧ Bx wx b (mC s (p : Int) lv 0 tb)
def BadM (s : ByteArray) (b f : Nat) (lv : Value) (tb : Int) (X : Bd) (wx : World) : Prop :=
  ∃ (o p : Nat) (c : Int), c ≠ 0 ∧ f + o = p ∧ X = .bad o c ∧ Bx wx b (mC s (p : Int) lv c tb)
def msM (n b : Nat) (wx : World) : Nat := if rdI wx ⟨b, 3, none⟩ = 0 then n + 2 - (rdI wx ⟨b, 1, none⟩).toNat else 0
theorem msM_go {n b : Nat} {wx : World} {s : ByteArray} {p : Nat} {lv : Value} {tb : Int} (h : Bx wx b (mC s (p : Int) lv 0 tb)) : msM n b wx = n + 2 - p := by
  unfold msM
  rw [rdI_of h.c5.2.2.2.1, rdI_of h.c5.2.1]
  simp
theorem msM_bad {n b : Nat} {wx : World} {s : ByteArray} {i : Int} {lv : Value} {c tb : Int} (h : Bx wx b (mC s i lv c tb)) (hc : c ≠ 0) : msM n b wx = 0 := by
  unfold msM
  rw [rdI_of h.c5.2.2.2.1, if_neg hc]
section
variable {w : World} {b f q0 : Nat} {s : ByteArray} {lv : Value} {tb : Int}
set_option maxRecDepth 20000 in set_option maxHeartbeats 8000000 in
theorem text_m (hE : Env w) (hgb : ¬ GB b) (h : Bx w b (mC s ((f + q0 : Nat) : Int) lv 0 tb)) (hs : s.size ≤ 100000) (hf : f + q0 ≤ s.size) :
    Calls Tryz.prog 89 #[.pointer (some ⟨b, 0, none⟩)] w (RetBd w b s f lv tb (strB ((s.data.toList.drop f).length + 1) (s.data.toList.drop f) q0 [])) := by
  have hrl : Hid ((s.data.toList.drop f).length = s.size - f) := by unfold Hid; rw [List.length_drop]; rfl
  obtain ⟨X, hX⟩ : ∃ X, strB ((s.data.toList.drop f).length + 1) (s.data.toList.drop f) q0 [] = X := ⟨_, rfl⟩
  rw [hX]
  have hst : Hid (GoM s b f lv tb X [] w) := ⟨f + q0, q0, _, hf, rfl, by omega, Nat.zero_le _, hX, h⟩
  have HE := Lib.hid hE
  have FL := Lib.hid (fun (wx : World) (i k e : Int) (hb : Bx wx b (mC s i lv 0 tb)) => fail_m hb k e)
  clear hX h hE
  go_enter Tryz.func89, Tryz.ntmps89
  go_wp2_with fail
  go_loopw [3] (fun sv wx => ∃ acc : List UInt8, sv = .string (B acc) ∧ Hid (GoM s b f lv tb X acc wx ∨ BadM s b f lv tb X wx) ∧ Hid (Chg b b w wx)) (fun _ wx => msM s.size b wx)
  case atStart => exact ⟨[], rfl, Lib.hid (.inl hst.out), Lib.hid (Chg.refl _ _ _)⟩
  case round =>
    clear hst
    obtain ⟨acc, rfl, HH, HC⟩ := hrel
    rcases HH.out with hgo | hbd
    · obtain ⟨p, q, F, hp, hfq, hF, hal, hX, hbx⟩ := hgo
      have HB := Lib.hid hbx
      have hm0 := Lib.hid (msM_go (n := s.size) hbx)
      obtain ⟨F, rfl⟩ : ∃ g, F = g + 1 := ⟨F - 1, by have := hrl.out; omega⟩
      rw [strB_step F, nth_drop, List.drop_drop, hfq] at hX
      have HFQ := Lib.hid hfq
      have HF := Lib.hid hF
      have HAL := Lib.hid hal
      have hxp : IntKind.i64.wrap ((p : Int) + 1) = (p : Int) + 1 := IntWalk.i64_in _ (by omega)
      obtain ⟨n0, z0⟩ : ∃ n, acc.length = n := ⟨_, rfl⟩
      have hn0 : n0 ≤ 100000 := by omega
      have y0 : (B acc).size = n0 := by rw [B_size, z0]
      clear hbx HH hF hal
      (obtain ⟨c0, c1, c2, c3, c4⟩ := HB.out.c5; obtain ⟨f0, f1, f2, f3, f4⟩ := HB.out.f5; have lt := HB.out.lt)
      by_cases hend : s.size ≤ p
      · have hend' : (s.size : Int) ≤ (p : Int) := by omega
        rw [if_pos (by have := hrl.out; omega)] at hX
        have hX' := Lib.hid hX.symm
        have hrf : Hid (f + (s.data.toList.drop f).length = s.size) := by have := hrl.out; unfold Hid; omega
        clear hX hfq
        go_wp2_with fail
        refine wp_region_ord [(0, 1), (1, 1), (2, 1), (3, 1), (4, 1), (5, 1), (6, 1), (7, 1), (8, 1), (9, 1)] [] 5 (by kernel_rfl) (by decide +kernel) ?_
        simp only [pickO, List.append_eq, List.cons_append, List.nil_append, List.getElem?_cons_succ, List.getElem?_cons_zero]
        intro w0 hG
        (repeat ((first | (with_reducible refine ord_q1 ?_) | (with_reducible refine ord_q0 ?_)); intro K hK; first | (refine Or.inr ⟨?_, ?_⟩; (focus (go_simp; first | done | (simp [undef]; done))); go_simp; (with_reducible refine hK _ ?_); clear hK K) | (refine Or.inl ⟨?_, ?_⟩; (focus (go_simp; done)); apply Exists.intro; refine And.intro ?_ ?_; (focus (first | (intro wq hq; obtain ⟨hcq, hfq⟩ := G.old hq; go_simp; (first | done | exact rfl); done) | (intro wq; go_simp; (first | done | exact rfl); done))); go_simp; (with_reducible refine hK _ ?_); clear hK K) | fail))
        (with_reducible refine ord_nil ?_)
        have hbx := hG.b; replace HB := Lib.hid (HB.out.grow hbx); replace HC := Lib.hid (HC.out.grow hbx); clear hG hbx; clear c0 c1 c2 c3 c4 f0 f1 f2 f3 f4 lt; (obtain ⟨c0, c1, c2, c3, c4⟩ := HB.out.c5; obtain ⟨f0, f1, f2, f3, f4⟩ := HB.out.f5; have lt := HB.out.lt)
        go_wp2_with fail
        go_at_call 55
        (with_reducible refine (FL.out _ _ _ _ HB.out).mono ?_)
        rintro e1 w4 ⟨rfl, hb4, hc4⟩
        go_wp2_with fail
        go_ret
        exact RetBd.bad hX'.out hrf.out (HC.out.trans hc4) hb4
      · have hend' : ¬ (s.size : Int) ≤ (p : Int) := by omega
        have hend2 : (p : Int) < (s.size : Int) := by omega
        have hps : p < s.size := by omega
        have hnp := nth_idx s hps
        obtain ⟨d, hd⟩ : ∃ d, s[p] = d := ⟨_, rfl⟩
        rw [hd] at hnp
        rw [if_neg (by have := hrl.out; omega), hnp] at hX
        clear hnp
        by_cases h34 : d.toNat = 34
        · have k34 : ((d.toNat : Int) == 34) = true := by simp [h34]
          rw [if_pos h34] at hX
          have hX' := Lib.hid hX.symm
          clear hX h34 hfq
          go_wp2_with fail
          refine wp_region_ord [(0, 1), (1, 1), (2, 1), (3, 1), (4, 1), (5, 1), (6, 1), (7, 1), (8, 1), (9, 1)] [] 5 (by kernel_rfl) (by decide +kernel) ?_
          simp only [pickO, List.append_eq, List.cons_append, List.nil_append, List.getElem?_cons_succ, List.getElem?_cons_zero]
          intro w0 hG
          (repeat ((first | (with_reducible refine ord_q1 ?_) | (with_reducible refine ord_q0 ?_)); intro K hK; first | (refine Or.inr ⟨?_, ?_⟩; (focus (go_simp; first | done | (simp [undef]; done))); go_simp; (with_reducible refine hK _ ?_); clear hK K) | (refine Or.inl ⟨?_, ?_⟩; (focus (go_simp; done)); apply Exists.intro; refine And.intro ?_ ?_; (focus (first | (intro wq hq; obtain ⟨hcq, hfq⟩ := G.old hq; go_simp; (first | done | exact rfl); done) | (intro wq; go_simp; (first | done | exact rfl); done))); go_simp; (with_reducible refine hK _ ?_); clear hK K) | fail))
          (with_reducible refine ord_nil ?_)
          have hbx := hG.b; replace HB := Lib.hid (HB.out.grow hbx); replace HC := Lib.hid (HC.out.grow hbx); clear hG hbx; clear c0 c1 c2 c3 c4 f0 f1 f2 f3 f4 lt; (obtain ⟨c0, c1, c2, c3, c4⟩ := HB.out.c5; obtain ⟨f0, f1, f2, f3, f4⟩ := HB.out.f5; have lt := HB.out.lt)
          go_wp2_with fail
          refine wp_region_ord [(0, 1), (1, 1), (2, 1), (3, 1), (4, 1), (5, 1), (6, 1), (7, 1), (8, 1), (9, 1)] [] 5 (by kernel_rfl) (by decide +kernel) ?_
          simp only [pickO, List.append_eq, List.cons_append, List.nil_append, List.getElem?_cons_succ, List.getElem?_cons_zero]
          intro w0 hG
          (repeat ((first | (with_reducible refine ord_q1 ?_) | (with_reducible refine ord_q0 ?_)); intro K hK; first | (refine Or.inr ⟨?_, ?_⟩; (focus (go_simp; first | done | (simp [undef]; done))); go_simp; (with_reducible refine hK _ ?_); clear hK K) | (refine Or.inl ⟨?_, ?_⟩; (focus (go_simp; done)); apply Exists.intro; refine And.intro ?_ ?_; (focus (first | (intro wq hq; obtain ⟨hcq, hfq⟩ := G.old hq; go_simp; (first | done | exact rfl); done) | (intro wq; go_simp; (first | done | exact rfl); done))); go_simp; (with_reducible refine hK _ ?_); clear hK K) | fail))
          (with_reducible refine ord_nil ?_)
          have hbx := hG.b; replace HB := Lib.hid (HB.out.grow hbx); replace HC := Lib.hid (HC.out.grow hbx); clear hG hbx; clear c0 c1 c2 c3 c4 f0 f1 f2 f3 f4 lt; (obtain ⟨c0, c1, c2, c3, c4⟩ := HB.out.c5; obtain ⟨f0, f1, f2, f3, f4⟩ := HB.out.f5; have lt := HB.out.lt)
          go_wp2_with fail
          go_ret
          exact RetBd.ok hX'.out (p := p + 1) (by have := HFQ.out; omega) (HC.out.set1 _ _) (HB.out.put rfl)
        · have k34 : ((d.toNat : Int) == 34) = false := by simp; omega
          rw [if_neg h34] at hX
          clear h34
          by_cases h92 : d.toNat = 92
          · have l32 : ¬ (d.toNat : Int) < 32 := by omega
            have k127 : ((d.toNat : Int) == 127) = false := by simp; omega
            have k92 : ((d.toNat : Int) == 92) = true := by simp [h92]
            rw [if_pos h92] at hX
            have ES := Lib.hid (fun (wx : World) (hb : Bx wx b (mC s (p : Int) lv 0 tb)) => escape_m hb hs hps)
            have hin := esc_bd (q := s.data.toList.drop p) (by rw [List.length_drop]; show 1 ≤ s.size - p; omega)
            clear h92
            go_wp2_with fail
            refine wp_region_ord [(0, 1), (1, 1), (2, 1), (3, 1), (4, 1), (5, 1), (6, 1), (7, 1), (8, 1), (9, 1)] [] 5 (by kernel_rfl) (by decide +kernel) ?_
            simp only [pickO, List.append_eq, List.cons_append, List.nil_append, List.getElem?_cons_succ, List.getElem?_cons_zero]
            intro w0 hG
            (repeat ((first | (with_reducible refine ord_q1 ?_) | (with_reducible refine ord_q0 ?_)); intro K hK; first | (refine Or.inr ⟨?_, ?_⟩; (focus (go_simp; first | done | (simp [undef]; done))); go_simp; (with_reducible refine hK _ ?_); clear hK K) | (refine Or.inl ⟨?_, ?_⟩; (focus (go_simp; done)); apply Exists.intro; refine And.intro ?_ ?_; (focus (first | (intro wq hq; obtain ⟨hcq, hfq⟩ := G.old hq; go_simp; (first | done | exact rfl); done) | (intro wq; go_simp; (first | done | exact rfl); done))); go_simp; (with_reducible refine hK _ ?_); clear hK K) | fail))
            (with_reducible refine ord_nil ?_)
            have hbx := hG.b; replace HB := Lib.hid (HB.out.grow hbx); replace HC := Lib.hid (HC.out.grow hbx); clear hG hbx; clear c0 c1 c2 c3 c4 f0 f1 f2 f3 f4 lt; (obtain ⟨c0, c1, c2, c3, c4⟩ := HB.out.c5; obtain ⟨f0, f1, f2, f3, f4⟩ := HB.out.f5; have lt := HB.out.lt)
            go_wp2_with fail
            refine wp_region_ord [(0, 1), (1, 1), (2, 1), (3, 1), (4, 1), (5, 1), (6, 1), (7, 1), (8, 1), (9, 1)] [] 5 (by kernel_rfl) (by decide +kernel) ?_
            simp only [pickO, List.append_eq, List.cons_append, List.nil_append, List.getElem?_cons_succ, List.getElem?_cons_zero]
            intro w0 hG
            (repeat ((first | (with_reducible refine ord_q1 ?_) | (with_reducible refine ord_q0 ?_)); intro K hK; first | (refine Or.inr ⟨?_, ?_⟩; (focus (go_simp; first | done | (simp [undef]; done))); go_simp; (with_reducible refine hK _ ?_); clear hK K) | (refine Or.inl ⟨?_, ?_⟩; (focus (go_simp; done)); apply Exists.intro; refine And.intro ?_ ?_; (focus (first | (intro wq hq; obtain ⟨hcq, hfq⟩ := G.old hq; go_simp; (first | done | exact rfl); done) | (intro wq; go_simp; (first | done | exact rfl); done))); go_simp; (with_reducible refine hK _ ?_); clear hK K) | fail))
            (with_reducible refine ord_nil ?_)
            have hbx := hG.b; replace HB := Lib.hid (HB.out.grow hbx); replace HC := Lib.hid (HC.out.grow hbx); clear hG hbx; clear c0 c1 c2 c3 c4 f0 f1 f2 f3 f4 lt; (obtain ⟨c0, c1, c2, c3, c4⟩ := HB.out.c5; obtain ⟨f0, f1, f2, f3, f4⟩ := HB.out.f5; have lt := HB.out.lt)
            go_wp2_with fail
            go_at_call 114
            (with_reducible refine (ES.out _ HB.out).mono ?_)
            rcases hes : esc (s.data.toList.drop p) with ⟨n, v⟩ | ⟨c⟩
            · rw [hes] at hX hin
              have hn2 : n ≤ s.size - p := by have := hin.2; rwa [List.length_drop] at this
              have hvl := escLen hes
              have hn3 := hin.1
              simp only at hX
              rintro e1 w4 ⟨hc4, rfl, hb4⟩
              obtain ⟨P2, hP2⟩ : ∃ P, acc ++ v = P := ⟨_, rfl⟩
              rw [hP2] at hX
              have j2 : B acc ++ B v = B P2 := by rw [B_app, hP2]
              obtain ⟨n1, z1⟩ : ∃ n, v.length = n := ⟨_, rfl⟩
              have y1 : (B v).size = n1 := by rw [B_size, z1]
              have g2 : ¬ 9223372036854775807 < n0 + n1 := by omega
              have hgo : Hid (GoM s b f lv tb X P2 w4) := ⟨p + n, q + n, F, by omega, by omega, by have := HF.out; omega, by rw [← hP2, List.length_append]; have := HAL.out; omega, hX, hb4⟩
              have hms : Hid (msM s.size b w4 = s.size + 2 - (p + n)) := msM_go hb4
              have hn4 : 2 ≤ n := hn3
              have HC4 := Lib.hid (HC.out.trans hc4)
              clear hX hin hes hvl hn3 hP2 z1 z0 hc4 hb4 hfq
              go_wp2_with fail
              go_roundw
              case rel => exact ⟨P2, rfl, Lib.hid (.inl hgo.out), HC4⟩
              case measure =>
                rw [hms.out, hm0.out]
                omega
            · rw [hes] at hX hin
              simp only at hX
              rintro e1 w4 ⟨hc4, rfl, hb4⟩
              have hc0 : c ≠ 0 := hin
              have j2 : B acc ++ ⟨#[]⟩ = B acc := by rw [show (⟨#[]⟩ : ByteArray) = B [] from rfl, B_app, List.append_nil]
              have g2 : ¬ 9223372036854775807 < n0 + 0 := by omega
              have g3 : ¬ 9223372036854775807 < n0 := by omega
              have hgo : Hid (BadM s b f lv tb X w4) := ⟨q, p, c, hc0, HFQ.out, hX.symm, hb4⟩
              have hms : Hid (msM s.size b w4 = 0) := msM_bad hb4 hc0
              have HC4 := Lib.hid (HC.out.trans hc4)
              clear hX hin hes z0 hc4 hb4 hc0 hfq
              go_wp2_with fail
              go_roundw
              case rel => exact ⟨acc, rfl, Lib.hid (.inr hgo.out), HC4⟩
              case measure =>
                rw [hms.out, hm0.out]
                omega
          · have k92 : ((d.toNat : Int) == 92) = false := by simp; omega
            rw [if_neg h92] at hX
            clear h92
            by_cases hct : d.toNat < 32 ∨ d.toNat = 127
            · rw [if_pos hct] at hX
              have hX' := Lib.hid hX.symm
              have hkk : ((d.toNat : Int) < 32) ∨ (¬ (d.toNat : Int) < 32 ∧ ((d.toNat : Int) == 127) = true) := by
                by_cases hx32 : d.toNat < 32
                · exact .inl (by omega)
                · exact .inr ⟨by omega, by rw [show d.toNat = 127 by omega]; rfl⟩
              clear hX hct hfq
              go_wp2_with fail
              refine wp_region_ord [(0, 1), (1, 1), (2, 1), (3, 1), (4, 1), (5, 1), (6, 1), (7, 1), (8, 1), (9, 1)] [] 5 (by kernel_rfl) (by decide +kernel) ?_
              simp only [pickO, List.append_eq, List.cons_append, List.nil_append, List.getElem?_cons_succ, List.getElem?_cons_zero]
              intro w0 hG
              (repeat ((first | (with_reducible refine ord_q1 ?_) | (with_reducible refine ord_q0 ?_)); intro K hK; first | (refine Or.inr ⟨?_, ?_⟩; (focus (go_simp; first | done | (simp [undef]; done))); go_simp; (with_reducible refine hK _ ?_); clear hK K) | (refine Or.inl ⟨?_, ?_⟩; (focus (go_simp; done)); apply Exists.intro; refine And.intro ?_ ?_; (focus (first | (intro wq hq; obtain ⟨hcq, hfq⟩ := G.old hq; go_simp; (first | done | exact rfl); done) | (intro wq; go_simp; (first | done | exact rfl); done))); go_simp; (with_reducible refine hK _ ?_); clear hK K) | fail))
              (with_reducible refine ord_nil ?_)
              have hbx := hG.b; replace HB := Lib.hid (HB.out.grow hbx); replace HC := Lib.hid (HC.out.grow hbx); clear hG hbx; clear c0 c1 c2 c3 c4 f0 f1 f2 f3 f4 lt; (obtain ⟨c0, c1, c2, c3, c4⟩ := HB.out.c5; obtain ⟨f0, f1, f2, f3, f4⟩ := HB.out.f5; have lt := HB.out.lt)
              go_wp2_with fail
              refine wp_region_ord [(0, 1), (1, 1), (2, 1), (3, 1), (4, 1), (5, 1), (6, 1), (7, 1), (8, 1), (9, 1)] [] 5 (by kernel_rfl) (by decide +kernel) ?_
              simp only [pickO, List.append_eq, List.cons_append, List.nil_append, List.getElem?_cons_succ, List.getElem?_cons_zero]
              intro w0 hG
              (repeat ((first | (with_reducible refine ord_q1 ?_) | (with_reducible refine ord_q0 ?_)); intro K hK; first | (refine Or.inr ⟨?_, ?_⟩; (focus (go_simp; first | done | (simp [undef]; done))); go_simp; (with_reducible refine hK _ ?_); clear hK K) | (refine Or.inl ⟨?_, ?_⟩; (focus (go_simp; done)); apply Exists.intro; refine And.intro ?_ ?_; (focus (first | (intro wq hq; obtain ⟨hcq, hfq⟩ := G.old hq; go_simp; (first | done | exact rfl); done) | (intro wq; go_simp; (first | done | exact rfl); done))); go_simp; (with_reducible refine hK _ ?_); clear hK K) | fail))
              (with_reducible refine ord_nil ?_)
              have hbx := hG.b; replace HB := Lib.hid (HB.out.grow hbx); replace HC := Lib.hid (HC.out.grow hbx); clear hG hbx; clear c0 c1 c2 c3 c4 f0 f1 f2 f3 f4 lt; (obtain ⟨c0, c1, c2, c3, c4⟩ := HB.out.c5; obtain ⟨f0, f1, f2, f3, f4⟩ := HB.out.f5; have lt := HB.out.lt)
              rcases hkk with l32 | ⟨l32, k127⟩
              all_goals
                go_wp2_with fail
                go_at_call 55
                (with_reducible refine (FL.out _ _ _ _ HB.out).mono ?_)
                rintro e1 w4 ⟨rfl, hb4, hc4⟩
                have hgo : Hid (BadM s b f lv tb X w4) := ⟨q, p, 6, by decide, HFQ.out, hX'.out, hb4⟩
                have hms : Hid (msM s.size b w4 = 0) := msM_bad hb4 (by decide)
                have HC4 := Lib.hid (HC.out.trans hc4)
                clear hb4 hc4
                go_wp2_with fail
                go_roundw
                case rel => exact ⟨acc, rfl, Lib.hid (.inr hgo.out), HC4⟩
                case measure =>
                  rw [hms.out, hm0.out]
                  omega
            · have l32 : ¬ (d.toNat : Int) < 32 := by omega
              have k127 : ((d.toNat : Int) == 127) = false := by simp; omega
              rw [if_neg hct] at hX
              have hne : s.data.toList.drop p ≠ [] := fun e => by have := congrArg List.length e; rw [List.length_drop] at this; simp at this; have : s.data.toList.length = s.size := rfl; omega
              have hbdd := dec_bd hne
              rw [List.length_drop, show s.data.toList.length = s.size from rfl] at hbdd
              clear hct hne
              by_cases hdb : decBad (s.data.toList.drop p)
              · rw [if_pos hdb] at hX
                have hX' := Lib.hid hX.symm
                have DE := Lib.hid (fun wx he => (decode_any (w := wx) he s p (by omega)).mono fun e w' h => (⟨h.1.1 hdb, h.2⟩ : e = .returned (.tuple #[.int .i64 0, .int .i64 0, .int .i64 16]) ∧ Below wx.heap.size wx w'))
                clear hX hbdd hdb hfq
                go_wp2_with fail
                refine wp_region_ord [(0, 1), (1, 1), (2, 1), (3, 1), (4, 1), (5, 1), (6, 1), (7, 1), (8, 1), (9, 1)] [] 5 (by kernel_rfl) (by decide +kernel) ?_
                simp only [pickO, List.append_eq, List.cons_append, List.nil_append, List.getElem?_cons_succ, List.getElem?_cons_zero]
                intro w0 hG
                (repeat ((first | (with_reducible refine ord_q1 ?_) | (with_reducible refine ord_q0 ?_)); intro K hK; first | (refine Or.inr ⟨?_, ?_⟩; (focus (go_simp; first | done | (simp [undef]; done))); go_simp; (with_reducible refine hK _ ?_); clear hK K) | (refine Or.inl ⟨?_, ?_⟩; (focus (go_simp; done)); apply Exists.intro; refine And.intro ?_ ?_; (focus (first | (intro wq hq; obtain ⟨hcq, hfq⟩ := G.old hq; go_simp; (first | done | exact rfl); done) | (intro wq; go_simp; (first | done | exact rfl); done))); go_simp; (with_reducible refine hK _ ?_); clear hK K) | fail))
                (with_reducible refine ord_nil ?_)
                have hbx := hG.b; replace HB := Lib.hid (HB.out.grow hbx); replace HC := Lib.hid (HC.out.grow hbx); clear hG hbx; clear c0 c1 c2 c3 c4 f0 f1 f2 f3 f4 lt; (obtain ⟨c0, c1, c2, c3, c4⟩ := HB.out.c5; obtain ⟨f0, f1, f2, f3, f4⟩ := HB.out.f5; have lt := HB.out.lt)
                go_wp2_with fail
                refine wp_region_ord [(0, 1), (1, 1), (2, 1), (3, 1), (4, 1), (5, 1), (6, 1), (7, 1), (8, 1), (9, 1)] [] 5 (by kernel_rfl) (by decide +kernel) ?_
                simp only [pickO, List.append_eq, List.cons_append, List.nil_append, List.getElem?_cons_succ, List.getElem?_cons_zero]
                intro w0 hG
                (repeat ((first | (with_reducible refine ord_q1 ?_) | (with_reducible refine ord_q0 ?_)); intro K hK; first | (refine Or.inr ⟨?_, ?_⟩; (focus (go_simp; first | done | (simp [undef]; done))); go_simp; (with_reducible refine hK _ ?_); clear hK K) | (refine Or.inl ⟨?_, ?_⟩; (focus (go_simp; done)); apply Exists.intro; refine And.intro ?_ ?_; (focus (first | (intro wq hq; obtain ⟨hcq, hfq⟩ := G.old hq; go_simp; (first | done | exact rfl); done) | (intro wq; go_simp; (first | done | exact rfl); done))); go_simp; (with_reducible refine hK _ ?_); clear hK K) | fail))
                (with_reducible refine ord_nil ?_)
                have hbx := hG.b; replace HB := Lib.hid (HB.out.grow hbx); replace HC := Lib.hid (HC.out.grow hbx); clear hG hbx; clear c0 c1 c2 c3 c4 f0 f1 f2 f3 f4 lt; (obtain ⟨c0, c1, c2, c3, c4⟩ := HB.out.c5; obtain ⟨f0, f1, f2, f3, f4⟩ := HB.out.f5; have lt := HB.out.lt)
                go_wp2_with fail
                have HE2 := Lib.hid (HE.out.chg HC.out hgb hgb)
                refine wp_region_ord [(0, 1), (1, 1), (2, 1), (3, 1), (4, 1), (5, 1), (6, 1), (7, 1), (8, 2), (9, 1), (10, 1), (11, 1), (12, 1), (13, 1), (14, 1), (15, 1)] [] 5 (by kernel_rfl) (by decide +kernel) ?_
                simp only [pickO, List.append_eq, List.cons_append, List.nil_append, List.getElem?_cons_succ, List.getElem?_cons_zero]
                intro w0 hG
                (repeat ((first | (with_reducible refine ord_q1 ?_) | (with_reducible refine ord_q0 ?_)); intro K hK; first | (refine Or.inr ⟨?_, ?_⟩; (focus (go_simp; first | done | (simp [undef]; done))); go_simp; (with_reducible refine hK _ ?_); clear hK K) | (refine Or.inl ⟨?_, ?_⟩; (focus (go_simp; done)); apply Exists.intro; refine And.intro ?_ ?_; (focus (first | (intro wq hq; obtain ⟨hcq, hfq⟩ := G.old hq; go_simp; (first | done | exact rfl); done) | (intro wq; go_simp; (first | done | exact rfl); done))); go_simp; (with_reducible refine hK _ ?_); clear hK K) | fail))
                (with_reducible refine ord_run ?_ hG)
                intro K hK
                go_simp
                go_at_call 81; (with_reducible refine (DE.out _ (HE2.out.grow hG.b)).mono ?_); rintro e1 w2 ⟨rfl, hb⟩
                replace hG := Grew.trans hG hb
                (try dsimp only)
                (with_reducible refine hK _ _ hG ?_)
                clear hK K
                (repeat ((first | (with_reducible refine ord_q1 ?_) | (with_reducible refine ord_q0 ?_)); intro K hK; first | (refine Or.inr ⟨?_, ?_⟩; (focus (go_simp; first | done | (simp [undef]; done))); go_simp; (with_reducible refine hK _ ?_); clear hK K) | (refine Or.inl ⟨?_, ?_⟩; (focus (go_simp; done)); apply Exists.intro; refine And.intro ?_ ?_; (focus (first | (intro wq hq; obtain ⟨hcq, hfq⟩ := G.old hq; go_simp; (first | done | exact rfl); done) | (intro wq; go_simp; (first | done | exact rfl); done))); go_simp; (with_reducible refine hK _ ?_); clear hK K) | fail))
                (with_reducible refine ord_nil ?_)
                have hbx := hG.b; replace HB := Lib.hid (HB.out.grow hbx); replace HC := Lib.hid (HC.out.grow hbx); clear hG hbx; clear c0 c1 c2 c3 c4 f0 f1 f2 f3 f4 lt; (obtain ⟨c0, c1, c2, c3, c4⟩ := HB.out.c5; obtain ⟨f0, f1, f2, f3, f4⟩ := HB.out.f5; have lt := HB.out.lt)
                clear hb
                go_wp2_with fail
                refine wp_region_ord [(0, 1), (1, 1), (2, 1), (3, 1), (4, 1), (5, 1), (6, 1), (7, 1), (8, 1), (9, 1), (10, 1), (11, 1), (12, 1), (13, 1), (14, 1), (15, 1), (16, 1), (17, 1), (18, 1), (19, 1)] [] 5 (by kernel_rfl) (by decide +kernel) ?_
                simp only [pickO, List.append_eq, List.cons_append, List.nil_append, List.getElem?_cons_succ, List.getElem?_cons_zero]
                intro w0 hG
                (repeat ((first | (with_reducible refine ord_q1 ?_) | (with_reducible refine ord_q0 ?_)); intro K hK; first | (refine Or.inr ⟨?_, ?_⟩; (focus (go_simp; first | done | (simp [undef]; done))); go_simp; (with_reducible refine hK _ ?_); clear hK K) | (refine Or.inl ⟨?_, ?_⟩; (focus (go_simp; done)); apply Exists.intro; refine And.intro ?_ ?_; (focus (first | (intro wq hq; obtain ⟨hcq, hfq⟩ := G.old hq; go_simp; (first | done | exact rfl); done) | (intro wq; go_simp; (first | done | exact rfl); done))); go_simp; (with_reducible refine hK _ ?_); clear hK K) | fail))
                (with_reducible refine ord_nil ?_)
                have hbx := hG.b; replace HB := Lib.hid (HB.out.grow hbx); replace HC := Lib.hid (HC.out.grow hbx); clear hG hbx; clear c0 c1 c2 c3 c4 f0 f1 f2 f3 f4 lt; (obtain ⟨c0, c1, c2, c3, c4⟩ := HB.out.c5; obtain ⟨f0, f1, f2, f3, f4⟩ := HB.out.f5; have lt := HB.out.lt)
                go_wp2_with fail
                go_at_call 55
                (with_reducible refine (FL.out _ _ _ _ HB.out).mono ?_)
                rintro e1 w4 ⟨rfl, hb4, hc4⟩
                go_wp2_with fail
                go_ret
                exact RetBd.bad hX'.out HFQ.out (HC.out.trans hc4) hb4
              · rw [if_neg hdb] at hX
                have DE := Lib.hid (fun wx he => (decode_any (w := wx) he s p (by omega)).mono fun e w' h => (⟨h.1.2 hdb, h.2⟩ : e = .returned (.tuple #[.int .i64 (dec (s.data.toList.drop p)).1, .int .i64 (dec (s.data.toList.drop p)).2, .int .i64 0]) ∧ Below wx.heap.size wx w'))
                obtain ⟨n, hn⟩ : ∃ n, (dec (s.data.toList.drop p)).2 = n := ⟨_, rfl⟩
                obtain ⟨rn, hrn⟩ : ∃ n, (dec (s.data.toList.drop p)).1 = n := ⟨_, rfl⟩
                rw [hn] at hX DE hbdd
                rw [hrn] at DE
                obtain ⟨hn1, hn2⟩ := hbdd
                obtain ⟨v, hv⟩ : ∃ v, (s.data.toList.drop p).take n = v := ⟨_, rfl⟩
                rw [hv] at hX
                have hvl : v.length = n := by rw [← hv, List.length_take, List.length_drop, show s.data.toList.length = s.size from rfl]; omega
                have ex := ext_take s p n
                rw [hv] at ex
                obtain ⟨P2, hP2⟩ : ∃ P, acc ++ v = P := ⟨_, rfl⟩
                rw [hP2] at hX
                have j2 : B acc ++ B v = B P2 := by rw [B_app, hP2]
                have y1 : (B v).size = n := by rw [B_size, hvl]
                have g2 : ¬ 9223372036854775807 < n0 + n := by omega
                have hXX := Lib.hid hX
                have hP2l : Hid (P2.length ≤ q + n) := by unfold Hid; rw [← hP2, List.length_append, hvl]; have := HAL.out; omega
                have q1 : ¬ (n : Int) < 1 := by omega
                have q2 : IntKind.i64.wrap ((s.size : Int) - (p : Int)) = (s.size : Int) - (p : Int) := IntWalk.i64_in _ (by omega)
                have q3 : ¬ (s.size : Int) - (p : Int) < (n : Int) := by omega
                obtain ⟨z, hz⟩ : ∃ z, p + n = z := ⟨_, rfl⟩
                rw [hz] at ex
                have q4 : IntKind.i64.wrap ((p : Int) + (n : Int)) = (z : Int) := by rw [IntWalk.i64_in _ (by omega)]; omega
                have q5 : (p : Int) ≤ (z : Int) := by omega
                have q6 : (z : Int) ≤ (s.size : Int) := by omega
                have HZ := Lib.hid hz
                have HN := Lib.hid (And.intro hn1 hn2)
                clear hX hdb hn hrn hv hvl hP2 z0 hn1 hn2 hfq hxp hz
                go_wp2_with fail
                refine wp_region_ord [(0, 1), (1, 1), (2, 1), (3, 1), (4, 1), (5, 1), (6, 1), (7, 1), (8, 1), (9, 1)] [] 5 (by kernel_rfl) (by decide +kernel) ?_
                simp only [pickO, List.append_eq, List.cons_append, List.nil_append, List.getElem?_cons_succ, List.getElem?_cons_zero]
                intro w0 hG
                (repeat ((first | (with_reducible refine ord_q1 ?_) | (with_reducible refine ord_q0 ?_)); intro K hK; first | (refine Or.inr ⟨?_, ?_⟩; (focus (go_simp; first | done | (simp [undef]; done))); go_simp; (with_reducible refine hK _ ?_); clear hK K) | (refine Or.inl ⟨?_, ?_⟩; (focus (go_simp; done)); apply Exists.intro; refine And.intro ?_ ?_; (focus (first | (intro wq hq; obtain ⟨hcq, hfq⟩ := G.old hq; go_simp; (first | done | exact rfl); done) | (intro wq; go_simp; (first | done | exact rfl); done))); go_simp; (with_reducible refine hK _ ?_); clear hK K) | fail))
                (with_reducible refine ord_nil ?_)
                have hbx := hG.b; replace HB := Lib.hid (HB.out.grow hbx); replace HC := Lib.hid (HC.out.grow hbx); clear hG hbx; clear c0 c1 c2 c3 c4 f0 f1 f2 f3 f4 lt; (obtain ⟨c0, c1, c2, c3, c4⟩ := HB.out.c5; obtain ⟨f0, f1, f2, f3, f4⟩ := HB.out.f5; have lt := HB.out.lt)
                go_wp2_with fail
                refine wp_region_ord [(0, 1), (1, 1), (2, 1), (3, 1), (4, 1), (5, 1), (6, 1), (7, 1), (8, 1), (9, 1)] [] 5 (by kernel_rfl) (by decide +kernel) ?_
                simp only [pickO, List.append_eq, List.cons_append, List.nil_append, List.getElem?_cons_succ, List.getElem?_cons_zero]
                intro w0 hG
                (repeat ((first | (with_reducible refine ord_q1 ?_) | (with_reducible refine ord_q0 ?_)); intro K hK; first | (refine Or.inr ⟨?_, ?_⟩; (focus (go_simp; first | done | (simp [undef]; done))); go_simp; (with_reducible refine hK _ ?_); clear hK K) | (refine Or.inl ⟨?_, ?_⟩; (focus (go_simp; done)); apply Exists.intro; refine And.intro ?_ ?_; (focus (first | (intro wq hq; obtain ⟨hcq, hfq⟩ := G.old hq; go_simp; (first | done | exact rfl); done) | (intro wq; go_simp; (first | done | exact rfl); done))); go_simp; (with_reducible refine hK _ ?_); clear hK K) | fail))
                (with_reducible refine ord_nil ?_)
                have hbx := hG.b; replace HB := Lib.hid (HB.out.grow hbx); replace HC := Lib.hid (HC.out.grow hbx); clear hG hbx; clear c0 c1 c2 c3 c4 f0 f1 f2 f3 f4 lt; (obtain ⟨c0, c1, c2, c3, c4⟩ := HB.out.c5; obtain ⟨f0, f1, f2, f3, f4⟩ := HB.out.f5; have lt := HB.out.lt)
                go_wp2_with fail
                have HE2 := Lib.hid (HE.out.chg HC.out hgb hgb)
                refine wp_region_ord [(0, 1), (1, 1), (2, 1), (3, 1), (4, 1), (5, 1), (6, 1), (7, 1), (8, 2), (9, 1), (10, 1), (11, 1), (12, 1), (13, 1), (14, 1), (15, 1)] [] 5 (by kernel_rfl) (by decide +kernel) ?_
                simp only [pickO, List.append_eq, List.cons_append, List.nil_append, List.getElem?_cons_succ, List.getElem?_cons_zero]
                intro w0 hG
                (repeat ((first | (with_reducible refine ord_q1 ?_) | (with_reducible refine ord_q0 ?_)); intro K hK; first | (refine Or.inr ⟨?_, ?_⟩; (focus (go_simp; first | done | (simp [undef]; done))); go_simp; (with_reducible refine hK _ ?_); clear hK K) | (refine Or.inl ⟨?_, ?_⟩; (focus (go_simp; done)); apply Exists.intro; refine And.intro ?_ ?_; (focus (first | (intro wq hq; obtain ⟨hcq, hfq⟩ := G.old hq; go_simp; (first | done | exact rfl); done) | (intro wq; go_simp; (first | done | exact rfl); done))); go_simp; (with_reducible refine hK _ ?_); clear hK K) | fail))
                (with_reducible refine ord_run ?_ hG)
                intro K hK
                go_simp
                go_at_call 81; (with_reducible refine (DE.out _ (HE2.out.grow hG.b)).mono ?_); rintro e1 w2 ⟨rfl, hb⟩
                replace hG := Grew.trans hG hb
                (try dsimp only)
                (with_reducible refine hK _ _ hG ?_)
                clear hK K
                (repeat ((first | (with_reducible refine ord_q1 ?_) | (with_reducible refine ord_q0 ?_)); intro K hK; first | (refine Or.inr ⟨?_, ?_⟩; (focus (go_simp; first | done | (simp [undef]; done))); go_simp; (with_reducible refine hK _ ?_); clear hK K) | (refine Or.inl ⟨?_, ?_⟩; (focus (go_simp; done)); apply Exists.intro; refine And.intro ?_ ?_; (focus (first | (intro wq hq; obtain ⟨hcq, hfq⟩ := G.old hq; go_simp; (first | done | exact rfl); done) | (intro wq; go_simp; (first | done | exact rfl); done))); go_simp; (with_reducible refine hK _ ?_); clear hK K) | fail))
                (with_reducible refine ord_nil ?_)
                have hbx := hG.b; replace HB := Lib.hid (HB.out.grow hbx); replace HC := Lib.hid (HC.out.grow hbx); clear hG hbx; clear c0 c1 c2 c3 c4 f0 f1 f2 f3 f4 lt; (obtain ⟨c0, c1, c2, c3, c4⟩ := HB.out.c5; obtain ⟨f0, f1, f2, f3, f4⟩ := HB.out.f5; have lt := HB.out.lt)
                clear hb
                go_wp2_with fail
                refine wp_region_ord [(0, 1), (1, 1), (2, 1), (3, 1), (4, 1), (5, 1), (6, 1), (7, 1), (8, 1), (9, 1), (10, 1), (11, 1), (12, 1), (13, 1), (14, 1), (15, 1), (16, 1), (17, 1), (18, 1), (19, 1)] [] 5 (by kernel_rfl) (by decide +kernel) ?_
                simp only [pickO, List.append_eq, List.cons_append, List.nil_append, List.getElem?_cons_succ, List.getElem?_cons_zero]
                intro w0 hG
                (repeat ((first | (with_reducible refine ord_q1 ?_) | (with_reducible refine ord_q0 ?_)); intro K hK; first | (refine Or.inr ⟨?_, ?_⟩; (focus (go_simp; first | done | (simp [undef]; done))); go_simp; (with_reducible refine hK _ ?_); clear hK K) | (refine Or.inl ⟨?_, ?_⟩; (focus (go_simp; done)); apply Exists.intro; refine And.intro ?_ ?_; (focus (first | (intro wq hq; obtain ⟨hcq, hfq⟩ := G.old hq; go_simp; (first | done | exact rfl); done) | (intro wq; go_simp; (first | done | exact rfl); done))); go_simp; (with_reducible refine hK _ ?_); clear hK K) | fail))
                (with_reducible refine ord_nil ?_)
                have hbx := hG.b; replace HB := Lib.hid (HB.out.grow hbx); replace HC := Lib.hid (HC.out.grow hbx); clear hG hbx; clear c0 c1 c2 c3 c4 f0 f1 f2 f3 f4 lt; (obtain ⟨c0, c1, c2, c3, c4⟩ := HB.out.c5; obtain ⟨f0, f1, f2, f3, f4⟩ := HB.out.f5; have lt := HB.out.lt)
                go_wp2_with fail
                refine wp_region_ord [(0, 1), (1, 1), (2, 1), (3, 1), (4, 1), (5, 1), (6, 1), (7, 1), (8, 1), (9, 1), (10, 1), (11, 1), (12, 1), (13, 1), (14, 1), (15, 1), (16, 1), (17, 1)] [] 5 (by kernel_rfl) (by decide +kernel) ?_
                simp only [pickO, List.append_eq, List.cons_append, List.nil_append, List.getElem?_cons_succ, List.getElem?_cons_zero]
                intro w0 hG
                (repeat ((first | (with_reducible refine ord_q1 ?_) | (with_reducible refine ord_q0 ?_)); intro K hK; first | (refine Or.inr ⟨?_, ?_⟩; (focus (go_simp; first | done | (simp [undef]; done))); go_simp; (with_reducible refine hK _ ?_); clear hK K) | (refine Or.inl ⟨?_, ?_⟩; (focus (go_simp; done)); apply Exists.intro; refine And.intro ?_ ?_; (focus (first | (intro wq hq; obtain ⟨hcq, hfq⟩ := G.old hq; go_simp; (first | done | exact rfl); done) | (intro wq; go_simp; (first | done | exact rfl); done))); go_simp; (with_reducible refine hK _ ?_); clear hK K) | fail))
                (with_reducible refine ord_nil ?_)
                have hbx := hG.b; replace HB := Lib.hid (HB.out.grow hbx); replace HC := Lib.hid (HC.out.grow hbx); clear hG hbx; clear c0 c1 c2 c3 c4 f0 f1 f2 f3 f4 lt; (obtain ⟨c0, c1, c2, c3, c4⟩ := HB.out.c5; obtain ⟨f0, f1, f2, f3, f4⟩ := HB.out.f5; have lt := HB.out.lt)
                go_wp2_with fail
                go_roundw
                case rel => exact ⟨P2, rfl, Lib.hid (.inl ⟨z, q + n, F, by omega, by have := HFQ.out; have := HZ.out; omega, by have := HF.out; have := HN.out; omega, hP2l.out, hXX.out, HB.out.put rfl⟩), Lib.hid (HC.out.set1 _ _)⟩
                case measure =>
                  rw [msM_go (p := z) (Bx.put (i := 1) (v := .int .i64 (z : Int)) HB.out rfl), hm0.out]
                  have := HN.out
                  have := HZ.out
                  omega
    · obtain ⟨o, p, c, hc0, hop, hX, hbx⟩ := hbd
      have HB := Lib.hid hbx
      have kc : (c == 0) = false := by simp [hc0]
      have hX' := Lib.hid hX
      have hop' := Lib.hid hop
      clear HH hX hop hbx
      (obtain ⟨c0, c1, c2, c3, c4⟩ := HB.out.c5; obtain ⟨f0, f1, f2, f3, f4⟩ := HB.out.f5; have lt := HB.out.lt)
      go_wp2_with fail
      go_ret
      exact RetBd.bad hX'.out hop'.out HC.out HB.out
end
end Go.Proofs.YtmchiibbodllaaaGreatDoor
