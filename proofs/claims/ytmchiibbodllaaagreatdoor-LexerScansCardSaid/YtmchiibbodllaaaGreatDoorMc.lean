/- The law's model: bytes. -/
import Derived.Test.YtmchiibbodllaaaGreatDoorMb
import Derived.Test.YtmchiibbodllaaaGreatDoorQtB
namespace Go.Proofs.YtmchiibbodllaaaGreatDoor
set_option linter.unusedVariables false
set_option linter.unnecessarySimpa false
set_option linter.unusedSimpArgs false
open Go.RowKit

theorem Chg.grown {b r : Nat} {a w w' : World} {row : Option Nat} (h : Chg b r a w) (hg : w.grownBy w' row) (hr : ∀ k, row = some k → a.heap.size ≤ k) : Chg b r a w' :=
  ⟨Below.grown h.1 hg (Nat.zero_le _) (fun _ _ => Nat.zero_le _), h.2.grown hg (fun k hk => .inl (hr k hk))⟩
theorem Bx.grown {w w' : World} {B : Nat} {l : List Value} {row : Option Nat} (h : Bx w B l) (hg : w.grownBy w' row) (hr : row ≠ some B) : Bx w' B l := h.block hg.size (hg.block B h.lt (fun e => hr e.symm))
/-- What a reader of a value leaves. -/
def RetBd (w : World) (b : Nat) (s : ByteArray) (f : Nat) (lv : Value) (tb : Int) (x : Bd) (e : Ending) (w' : World) : Prop :=
  Chg b b w w' ∧ match x with
  | .ok n v => e = .returned (.string (B v)) ∧ Bx w' b (mC s ((f + n : Nat) : Int) lv 0 tb)
  | .bad o c => e = .returned (.string ⟨#[]⟩) ∧ Bx w' b (mC s ((f + o : Nat) : Int) lv c tb)
theorem RetBd.bad {w : World} {b : Nat} {s : ByteArray} {f : Nat} {lv : Value} {tb : Int} {X : Bd} {o p : Nat} {c : Int} {w' : World} (hX : X = .bad o c) (hp : f + o = p) (hc : Chg b b w w') (hb : Bx w' b (mC s (p : Int) lv c tb)) : RetBd w b s f lv tb X (.returned (.string ⟨#[]⟩)) w' := by
  subst hX hp
  exact ⟨hc, rfl, hb⟩
theorem RetBd.ok {w : World} {b : Nat} {s : ByteArray} {f : Nat} {lv : Value} {tb : Int} {X : Bd} {n p : Nat} {v : List UInt8} {w' : World} (hX : X = .ok n v) (hp : f + n = p) (hc : Chg b b w w') (hb : Bx w' b (mC s (p : Int) lv 0 tb)) : RetBd w b s f lv tb X (.returned (.string (B v))) w' := by
  subst hX hp
  exact ⟨hc, rfl, hb⟩
theorem conv_own {w : World} {base : Nat} {A : Option Addr} {n c : Nat} {l : List UInt8} (h : w.ownsRow base 5 1 (.slice A n c) n (u8s l)) (h0 : n = 0 → A = none ∧ c = 0) :
    (convert 63 9 (.slice A n c)).run Tryz.prog w = .ok (.string (B l)) w := by
  have hl : l.length = n := by have := h.1; unfold u8s at this; rw [List.length_map, Nat.mul_one] at this; exact this
  rcases n with _ | n
  · obtain ⟨rfl, rfl⟩ := h0 rfl
    have : l = [] := List.eq_nil_of_length_eq_zero hl
    subst this
    have CV0 : ∀ wz : World, (convert 63 9 (.slice none 0 0)).run Tryz.prog wz = .ok (.string (B [])) wz := fun wz => by kernel_rfl
    exact CV0 w
  · exact conv_back hl h
section
variable {w : World} {b f q0 : Nat} {s : ByteArray} {lv : Value} {tb : Int}
set_option maxRecDepth 20000 in set_option maxHeartbeats 8000000 in
theorem bytes_m (h : Bx w b (mC s ((f + q0 : Nat) : Int) lv 0 tb)) (hs : s.size ≤ 100000) (hf : f + q0 ≤ s.size) :
    Calls Tryz.prog 87 #[.pointer (some ⟨b, 0, none⟩)] w (RetBd w b s f lv tb (hexP ((s.data.toList.drop f).length + 1) (s.data.toList.drop f) q0 [])) := by
  have hbw := h.lt
  obtain ⟨r, hr⟩ : ∃ r, s.data.toList.drop f = r := ⟨_, rfl⟩
  have hrl : r.length = s.size - f := by rw [← hr, List.length_drop]; rfl
  rw [hr]
  have hnt : ∀ k, nth r k = nth s.data.toList (f + k) := fun k => by rw [← hr, nth_drop]
  obtain ⟨X, hX⟩ : ∃ X, hexP (r.length + 1) r q0 [] = X := ⟨_, rfl⟩
  rw [hX]
  obtain ⟨p0, hp0⟩ : ∃ p, f + q0 = p := ⟨_, rfl⟩
  rw [hp0] at h hf
  have H := Lib.hid h
  have HX := Lib.hid hX
  have HP := Lib.hid hp0
  have HF : Hid (r.length < q0 + (r.length + 1)) := by unfold Hid; omega
  have HNT := Lib.hid hnt
  have HRL := Lib.hid hrl
  obtain ⟨iU, hUi, hU0, hU1, hU2⟩ := info_parts infoU8q
  have FL := Lib.hid (fun (wx : World) (i k e : Int) (hb : Bx wx b (mC s i lv 0 tb)) => fail_m hb k e)
  have HM := Lib.hid hex_m
  clear hX hp0 hnt hr h hrl
  go_enter Tryz.func87, Tryz.ntmps87
  go_wp2_with fail
  go_loopw [3] (fun sv wx => ∃ (p q F : Nat) (acc : List UInt8) (A : Option Addr) (n c : Nat), p ≤ s.size ∧ Hid (f + q = p) ∧ Hid (r.length < q + F) ∧ sv = .slice A n c ∧ Hid (hexP F r q acc = X) ∧ Hid (wx.ownsRow w.heap.size 5 1 (.slice A n c) n (u8s acc)) ∧ Hid (n = 0 → A = none ∧ c = 0) ∧ n ≤ p ∧ Hid (Bx wx b (mC s (p : Int) lv 0 tb)) ∧ Hid (Chg b b w wx)) (fun _ wx => s.size + 1 - (rdI wx ⟨b, 1, none⟩).toNat)
  case atStart => exact ⟨p0, q0, _, [], none, 0, 0, hf, HP, HF, rfl, HX, ⟨rfl, .inl ⟨rfl, rfl⟩⟩, fun _ => ⟨rfl, rfl⟩, Nat.zero_le _, H, Lib.hid (Chg.refl _ _ _)⟩
  case round =>
    clear H HX HP HF
    obtain ⟨p, q, F, acc, A, n, c, hp, HP, HF, rfl, HX, HO, HZ, hnp, HB, HC⟩ := hrel
    have hm0 := Lib.hid (rdI_of HB.out.c5.2.1)
    have hX := HX.out
    obtain ⟨F', rfl⟩ : ∃ F', F = F' + 1 := ⟨F - 1, by have := HF.out; have := HP.out; have := HRL.out; omega⟩
    rw [hexP, HNT.out, HNT.out, ← Nat.add_assoc, HP.out] at hX
    have hrp : r.length ≤ q ↔ s.size ≤ p := by have := HP.out; have := HRL.out; omega
    have hrp1 : r.length ≤ q + 1 ↔ s.size ≤ p + 1 := by have := HP.out; have := HRL.out; omega
    have hnl : acc.length = n := by have := HO.out.1; unfold u8s at this; rw [List.length_map, Nat.mul_one] at this; exact this
    simp only [hrp, hrp1] at hX
    have hrf : Hid (f + r.length = s.size) := by have := HP.out; have := HRL.out; unfold Hid; omega
    clear hrp hrp1 HX
    (obtain ⟨c0, c1, c2, c3, c4⟩ := HB.out.c5; obtain ⟨f0, f1, f2, f3, f4⟩ := HB.out.f5; have lt := HB.out.lt)
    by_cases hlt : p < s.size
    · have hlt2 : ¬ (s.size : Int) ≤ (p : Int) := by omega
      have hlt3 : (p : Int) < (s.size : Int) := by omega
      rw [if_neg (by omega), nth_idx s hlt] at hX
      obtain ⟨x, hx⟩ : ∃ c, s[p] = c := ⟨_, rfl⟩
      rw [hx] at hX
      have hx1 : IntKind.i64.wrap ((p : Int) + 1) = ((p + 1 : Nat) : Int) := by rw [IntWalk.i64_in _ (by omega)]; simp
      go_wp2_with fail
      refine wp_region_ord [(0, 1), (1, 1), (2, 1), (3, 1), (4, 1), (5, 1), (6, 1), (7, 1), (8, 1), (9, 1)] [] 5 (by kernel_rfl) (by decide +kernel) ?_
      simp only [pickO, List.append_eq, List.cons_append, List.nil_append, List.getElem?_cons_succ, List.getElem?_cons_zero]
      intro w0 hG
      (repeat ((first | (with_reducible refine ord_q1 ?_) | (with_reducible refine ord_q0 ?_)); intro K hK; first | (refine Or.inr ⟨?_, ?_⟩; (focus (go_simp; first | done | (simp [undef]; done))); go_simp; (with_reducible refine hK _ ?_); clear hK K) | (refine Or.inl ⟨?_, ?_⟩; (focus (go_simp; done)); apply Exists.intro; refine And.intro ?_ ?_; (focus (first | (intro wq hq; obtain ⟨hcq, hfq⟩ := G.old hq; go_simp; (first | done | exact rfl); done) | (intro wq; go_simp; (first | done | exact rfl); done))); go_simp; (with_reducible refine hK _ ?_); clear hK K) | fail))
      (with_reducible refine ord_nil ?_)
      have hb1 := hG.b
      replace HO := Lib.hid (own_grow HO.out hb1)
      clear hb1
      have hbx := hG.b; replace HB := Lib.hid (HB.out.grow hbx); replace HC := Lib.hid (HC.out.grow hbx); clear hG hbx; clear c0 c1 c2 c3 c4 f0 f1 f2 f3 f4 lt; (obtain ⟨c0, c1, c2, c3, c4⟩ := HB.out.c5; obtain ⟨f0, f1, f2, f3, f4⟩ := HB.out.f5; have lt := HB.out.lt)
      by_cases h34 : x.toNat = 34
      · have k34 : ((x.toNat : Int) == 34) = true := by rw [h34]; rfl
        rw [if_pos h34] at hX
        have hX' := Lib.hid hX.symm
        clear h34 hX
        go_wp2_with fail
        refine wp_region_ord [(0, 1), (1, 1), (2, 1), (3, 1), (4, 1), (5, 1), (6, 1), (7, 1), (8, 1), (9, 1)] [] 5 (by kernel_rfl) (by decide +kernel) ?_
        simp only [pickO, List.append_eq, List.cons_append, List.nil_append, List.getElem?_cons_succ, List.getElem?_cons_zero]
        intro w0 hG
        (repeat ((first | (with_reducible refine ord_q1 ?_) | (with_reducible refine ord_q0 ?_)); intro K hK; first | (refine Or.inr ⟨?_, ?_⟩; (focus (go_simp; first | done | (simp [undef]; done))); go_simp; (with_reducible refine hK _ ?_); clear hK K) | (refine Or.inl ⟨?_, ?_⟩; (focus (go_simp; done)); apply Exists.intro; refine And.intro ?_ ?_; (focus (first | (intro wq hq; obtain ⟨hcq, hfq⟩ := G.old hq; go_simp; (first | done | exact rfl); done) | (intro wq; go_simp; (first | done | exact rfl); done))); go_simp; (with_reducible refine hK _ ?_); clear hK K) | fail))
        (with_reducible refine ord_nil ?_)
        have hb1 := hG.b
        replace HO := Lib.hid (own_grow HO.out hb1)
        clear hb1
        have hbx := hG.b; replace HB := Lib.hid (HB.out.grow hbx); replace HC := Lib.hid (HC.out.grow hbx); clear hG hbx; clear c0 c1 c2 c3 c4 f0 f1 f2 f3 f4 lt; (obtain ⟨c0, c1, c2, c3, c4⟩ := HB.out.c5; obtain ⟨f0, f1, f2, f3, f4⟩ := HB.out.f5; have lt := HB.out.lt)
        have hown1 := own_keep HO.out ((Keeps.refl _ _).setCell (p := ⟨b, 1, none⟩) (show ¬ w.heap.size ≤ b by omega) (.int .i64 ((p : Int) + 1)))
        have CV := conv_own hown1 HZ.out
        clear hown1
        go_wp2_with fail
        go_ret
        exact RetBd.ok hX'.out (p := p + 1) (by have := HP.out; omega) (HC.out.set1 _ _) (HB.out.put rfl)
      · have k34 : ((x.toNat : Int) == 34) = false := by simp; omega
        rw [if_neg h34] at hX
        have HX1 := Lib.hid (HM.out x)
        obtain ⟨va, hva⟩ : ∃ v, hexV x = v := ⟨_, rfl⟩
        have hab := hex_bd x
        rw [hva] at hX HX1 hab
        clear h34
        by_cases ha : va < 0
        · rw [if_pos ha] at hX
          have hX' := Lib.hid hX.symm
          clear hX hva
          go_wp2_with fail
          refine wp_region_ord [(0, 1), (1, 1), (2, 1), (3, 1), (4, 1), (5, 1), (6, 1), (7, 1), (8, 1), (9, 1)] [] 5 (by kernel_rfl) (by decide +kernel) ?_
          simp only [pickO, List.append_eq, List.cons_append, List.nil_append, List.getElem?_cons_succ, List.getElem?_cons_zero]
          intro w0 hG
          (repeat ((first | (with_reducible refine ord_q1 ?_) | (with_reducible refine ord_q0 ?_)); intro K hK; first | (refine Or.inr ⟨?_, ?_⟩; (focus (go_simp; first | done | (simp [undef]; done))); go_simp; (with_reducible refine hK _ ?_); clear hK K) | (refine Or.inl ⟨?_, ?_⟩; (focus (go_simp; done)); apply Exists.intro; refine And.intro ?_ ?_; (focus (first | (intro wq hq; obtain ⟨hcq, hfq⟩ := G.old hq; go_simp; (first | done | exact rfl); done) | (intro wq; go_simp; (first | done | exact rfl); done))); go_simp; (with_reducible refine hK _ ?_); clear hK K) | fail))
          (with_reducible refine ord_nil ?_)
          have hbx := hG.b; replace HB := Lib.hid (HB.out.grow hbx); replace HC := Lib.hid (HC.out.grow hbx); clear hG hbx; clear c0 c1 c2 c3 c4 f0 f1 f2 f3 f4 lt; (obtain ⟨c0, c1, c2, c3, c4⟩ := HB.out.c5; obtain ⟨f0, f1, f2, f3, f4⟩ := HB.out.f5; have lt := HB.out.lt)
          go_wp2_with fail
          refine wp_region_ord [(0, 1), (1, 1), (2, 1), (3, 1), (4, 1), (5, 1), (6, 1), (7, 1), (8, 1), (9, 2), (10, 1)] [] 5 (by kernel_rfl) (by decide +kernel) ?_
          simp only [pickO, List.append_eq, List.cons_append, List.nil_append, List.getElem?_cons_succ, List.getElem?_cons_zero]
          intro w0 hG
          (repeat ((first | (with_reducible refine ord_q1 ?_) | (with_reducible refine ord_q0 ?_)); intro K hK; first | (refine Or.inr ⟨?_, ?_⟩; (focus (go_simp; first | done | (simp [undef]; done))); go_simp; (with_reducible refine hK _ ?_); clear hK K) | (refine Or.inl ⟨?_, ?_⟩; (focus (go_simp; done)); apply Exists.intro; refine And.intro ?_ ?_; (focus (first | (intro wq hq; obtain ⟨hcq, hfq⟩ := G.old hq; go_simp; (first | done | exact rfl); done) | (intro wq; go_simp; (first | done | exact rfl); done))); go_simp; (with_reducible refine hK _ ?_); clear hK K) | fail))
          (with_reducible refine ord_run ?_ hG)
          intro K hK
          go_simp
          go_at_call 113; (with_reducible refine (HX1.out _).mono ?_); rintro e1 w3 ⟨rfl, rfl⟩; have hb := G.refl w3
          replace hG := Grew.trans hG hb
          (try dsimp only)
          (with_reducible refine hK _ _ hG ?_)
          clear hK K
          (repeat ((first | (with_reducible refine ord_q1 ?_) | (with_reducible refine ord_q0 ?_)); intro K hK; first | (refine Or.inr ⟨?_, ?_⟩; (focus (go_simp; first | done | (simp [undef]; done))); go_simp; (with_reducible refine hK _ ?_); clear hK K) | (refine Or.inl ⟨?_, ?_⟩; (focus (go_simp; done)); apply Exists.intro; refine And.intro ?_ ?_; (focus (first | (intro wq hq; obtain ⟨hcq, hfq⟩ := G.old hq; go_simp; (first | done | exact rfl); done) | (intro wq; go_simp; (first | done | exact rfl); done))); go_simp; (with_reducible refine hK _ ?_); clear hK K) | fail))
          (with_reducible refine ord_nil ?_)
          have hbx := hG.b; replace HB := Lib.hid (HB.out.grow hbx); replace HC := Lib.hid (HC.out.grow hbx); clear hG hbx; clear c0 c1 c2 c3 c4 f0 f1 f2 f3 f4 lt; (obtain ⟨c0, c1, c2, c3, c4⟩ := HB.out.c5; obtain ⟨f0, f1, f2, f3, f4⟩ := HB.out.f5; have lt := HB.out.lt)
          clear hb
          go_wp2_with fail
          go_at_call 55
          (with_reducible refine (FL.out _ _ _ _ HB.out).mono ?_)
          rintro e1 w4 ⟨rfl, hb4, hc4⟩
          go_wp2_with fail
          go_ret
          exact RetBd.bad hX'.out HP.out (HC.out.trans hc4) hb4
        · rw [if_neg ha] at hX
          go_wp2_with fail
          refine wp_region_ord [(0, 1), (1, 1), (2, 1), (3, 1), (4, 1), (5, 1), (6, 1), (7, 1), (8, 1), (9, 1)] [] 5 (by kernel_rfl) (by decide +kernel) ?_
          simp only [pickO, List.append_eq, List.cons_append, List.nil_append, List.getElem?_cons_succ, List.getElem?_cons_zero]
          intro w0 hG
          (repeat ((first | (with_reducible refine ord_q1 ?_) | (with_reducible refine ord_q0 ?_)); intro K hK; first | (refine Or.inr ⟨?_, ?_⟩; (focus (go_simp; first | done | (simp [undef]; done))); go_simp; (with_reducible refine hK _ ?_); clear hK K) | (refine Or.inl ⟨?_, ?_⟩; (focus (go_simp; done)); apply Exists.intro; refine And.intro ?_ ?_; (focus (first | (intro wq hq; obtain ⟨hcq, hfq⟩ := G.old hq; go_simp; (first | done | exact rfl); done) | (intro wq; go_simp; (first | done | exact rfl); done))); go_simp; (with_reducible refine hK _ ?_); clear hK K) | fail))
          (with_reducible refine ord_nil ?_)
          have hb1 := hG.b
          replace HO := Lib.hid (own_grow HO.out hb1)
          clear hb1
          have hbx := hG.b; replace HB := Lib.hid (HB.out.grow hbx); replace HC := Lib.hid (HC.out.grow hbx); clear hG hbx; clear c0 c1 c2 c3 c4 f0 f1 f2 f3 f4 lt; (obtain ⟨c0, c1, c2, c3, c4⟩ := HB.out.c5; obtain ⟨f0, f1, f2, f3, f4⟩ := HB.out.f5; have lt := HB.out.lt)
          go_wp2_with fail
          refine wp_region_ord [(0, 1), (1, 1), (2, 1), (3, 1), (4, 1), (5, 1), (6, 1), (7, 1), (8, 1), (9, 2), (10, 1)] [] 5 (by kernel_rfl) (by decide +kernel) ?_
          simp only [pickO, List.append_eq, List.cons_append, List.nil_append, List.getElem?_cons_succ, List.getElem?_cons_zero]
          intro w0 hG
          (repeat ((first | (with_reducible refine ord_q1 ?_) | (with_reducible refine ord_q0 ?_)); intro K hK; first | (refine Or.inr ⟨?_, ?_⟩; (focus (go_simp; first | done | (simp [undef]; done))); go_simp; (with_reducible refine hK _ ?_); clear hK K) | (refine Or.inl ⟨?_, ?_⟩; (focus (go_simp; done)); apply Exists.intro; refine And.intro ?_ ?_; (focus (first | (intro wq hq; obtain ⟨hcq, hfq⟩ := G.old hq; go_simp; (first | done | exact rfl); done) | (intro wq; go_simp; (first | done | exact rfl); done))); go_simp; (with_reducible refine hK _ ?_); clear hK K) | fail))
          (with_reducible refine ord_run ?_ hG)
          intro K hK
          go_simp
          go_at_call 113; (with_reducible refine (HX1.out _).mono ?_); rintro e1 w3 ⟨rfl, rfl⟩; have hb := G.refl w3
          replace hG := Grew.trans hG hb
          (try dsimp only)
          (with_reducible refine hK _ _ hG ?_)
          clear hK K
          (repeat ((first | (with_reducible refine ord_q1 ?_) | (with_reducible refine ord_q0 ?_)); intro K hK; first | (refine Or.inr ⟨?_, ?_⟩; (focus (go_simp; first | done | (simp [undef]; done))); go_simp; (with_reducible refine hK _ ?_); clear hK K) | (refine Or.inl ⟨?_, ?_⟩; (focus (go_simp; done)); apply Exists.intro; refine And.intro ?_ ?_; (focus (first | (intro wq hq; obtain ⟨hcq, hfq⟩ := G.old hq; go_simp; (first | done | exact rfl); done) | (intro wq; go_simp; (first | done | exact rfl); done))); go_simp; (with_reducible refine hK _ ?_); clear hK K) | fail))
          (with_reducible refine ord_nil ?_)
          have hb1 := hG.b
          replace HO := Lib.hid (own_grow HO.out hb1)
          clear hb1
          have hbx := hG.b; replace HB := Lib.hid (HB.out.grow hbx); replace HC := Lib.hid (HC.out.grow hbx); clear hG hbx; clear c0 c1 c2 c3 c4 f0 f1 f2 f3 f4 lt; (obtain ⟨c0, c1, c2, c3, c4⟩ := HB.out.c5; obtain ⟨f0, f1, f2, f3, f4⟩ := HB.out.f5; have lt := HB.out.lt)
          clear hb
          go_upto_region 14 with fail
          refine wp_name (fun wx => Hid (Bx wx b (mC s ((p + 1 : Nat) : Int) lv 0 tb)) ∧ Hid (Chg b b w wx) ∧ Hid (wx.ownsRow w.heap.size 5 1 (.slice A n c) n (u8s acc))) ⟨HB.out.put rfl, HC.out.set1 _ _, own_keep HO.out ((Keeps.refl _ _).setCell (p := ⟨b, 1, none⟩) (show ¬ w.heap.size ≤ b by omega) (.int .i64 ((p : Int) + 1)))⟩ ?_
          clear HB HC HO
          clear c0 c1 c2 c3 c4 f0 f1 f2 f3 f4 lt
          rintro w5 ⟨HB, HC, HO⟩
          obtain ⟨p1, hp1⟩ : ∃ p1, p + 1 = p1 := ⟨_, rfl⟩
          rw [hp1] at HB hX
          have HP1 := Lib.hid hp1
          have HQ1 : Hid (f + (q + 1) = p1) := by unfold Hid; have := HP.out; omega
          have hp1s : p1 ≤ s.size := by omega
          clear hp1 hx1 hlt2 hlt3
          (obtain ⟨c0, c1, c2, c3, c4⟩ := HB.out.c5; obtain ⟨f0, f1, f2, f3, f4⟩ := HB.out.f5; have lt := HB.out.lt)
          by_cases hlt : p1 < s.size
          · have hlt2 : ¬ (s.size : Int) ≤ (p1 : Int) := by omega
            have hlt3 : (p1 : Int) < (s.size : Int) := by omega
            have hx1 : IntKind.i64.wrap ((p1 : Int) + 1) = ((p1 + 1 : Nat) : Int) := by rw [IntWalk.i64_in _ (by omega)]; simp
            rw [if_neg (by omega), nth_idx s hlt] at hX
            obtain ⟨y, hy⟩ : ∃ c, s[p1] = c := ⟨_, rfl⟩
            rw [hy] at hX
            have HX2 := Lib.hid (HM.out y)
            obtain ⟨vb, hvb⟩ : ∃ v, hexV y = v := ⟨_, rfl⟩
            have hbb := hex_bd y
            rw [hvb] at hX HX2 hbb
            by_cases hb0 : vb < 0
            · rw [if_pos hb0] at hX
              have hX' := Lib.hid hX.symm
              clear hX hva hvb hx1
              go_wp2_with fail
              refine wp_region_ord [(0, 1), (1, 1), (2, 1), (3, 1), (4, 1), (5, 1), (6, 1), (7, 1), (8, 1), (9, 1)] [] 5 (by kernel_rfl) (by decide +kernel) ?_
              simp only [pickO, List.append_eq, List.cons_append, List.nil_append, List.getElem?_cons_succ, List.getElem?_cons_zero]
              intro w0 hG
              (repeat ((first | (with_reducible refine ord_q1 ?_) | (with_reducible refine ord_q0 ?_)); intro K hK; first | (refine Or.inr ⟨?_, ?_⟩; (focus (go_simp; first | done | (simp [undef]; done))); go_simp; (with_reducible refine hK _ ?_); clear hK K) | (refine Or.inl ⟨?_, ?_⟩; (focus (go_simp; done)); apply Exists.intro; refine And.intro ?_ ?_; (focus (first | (intro wq hq; obtain ⟨hcq, hfq⟩ := G.old hq; go_simp; (first | done | exact rfl); done) | (intro wq; go_simp; (first | done | exact rfl); done))); go_simp; (with_reducible refine hK _ ?_); clear hK K) | fail))
              (with_reducible refine ord_nil ?_)
              have hbx := hG.b; replace HB := Lib.hid (HB.out.grow hbx); replace HC := Lib.hid (HC.out.grow hbx); clear hG hbx; clear c0 c1 c2 c3 c4 f0 f1 f2 f3 f4 lt; (obtain ⟨c0, c1, c2, c3, c4⟩ := HB.out.c5; obtain ⟨f0, f1, f2, f3, f4⟩ := HB.out.f5; have lt := HB.out.lt)
              go_wp2_with fail
              refine wp_region_ord [(0, 1), (1, 1), (2, 1), (3, 1), (4, 1), (5, 1), (6, 1), (7, 1), (8, 1), (9, 2), (10, 1)] [] 5 (by kernel_rfl) (by decide +kernel) ?_
              simp only [pickO, List.append_eq, List.cons_append, List.nil_append, List.getElem?_cons_succ, List.getElem?_cons_zero]
              intro w0 hG
              (repeat ((first | (with_reducible refine ord_q1 ?_) | (with_reducible refine ord_q0 ?_)); intro K hK; first | (refine Or.inr ⟨?_, ?_⟩; (focus (go_simp; first | done | (simp [undef]; done))); go_simp; (with_reducible refine hK _ ?_); clear hK K) | (refine Or.inl ⟨?_, ?_⟩; (focus (go_simp; done)); apply Exists.intro; refine And.intro ?_ ?_; (focus (first | (intro wq hq; obtain ⟨hcq, hfq⟩ := G.old hq; go_simp; (first | done | exact rfl); done) | (intro wq; go_simp; (first | done | exact rfl); done))); go_simp; (with_reducible refine hK _ ?_); clear hK K) | fail))
              (with_reducible refine ord_run ?_ hG)
              intro K hK
              go_simp
              go_at_call 113; (with_reducible refine (HX2.out _).mono ?_); rintro e1 w3 ⟨rfl, rfl⟩; have hb := G.refl w3
              replace hG := Grew.trans hG hb
              (try dsimp only)
              (with_reducible refine hK _ _ hG ?_)
              clear hK K
              (repeat ((first | (with_reducible refine ord_q1 ?_) | (with_reducible refine ord_q0 ?_)); intro K hK; first | (refine Or.inr ⟨?_, ?_⟩; (focus (go_simp; first | done | (simp [undef]; done))); go_simp; (with_reducible refine hK _ ?_); clear hK K) | (refine Or.inl ⟨?_, ?_⟩; (focus (go_simp; done)); apply Exists.intro; refine And.intro ?_ ?_; (focus (first | (intro wq hq; obtain ⟨hcq, hfq⟩ := G.old hq; go_simp; (first | done | exact rfl); done) | (intro wq; go_simp; (first | done | exact rfl); done))); go_simp; (with_reducible refine hK _ ?_); clear hK K) | fail))
              (with_reducible refine ord_nil ?_)
              have hbx := hG.b; replace HB := Lib.hid (HB.out.grow hbx); replace HC := Lib.hid (HC.out.grow hbx); clear hG hbx; clear c0 c1 c2 c3 c4 f0 f1 f2 f3 f4 lt; (obtain ⟨c0, c1, c2, c3, c4⟩ := HB.out.c5; obtain ⟨f0, f1, f2, f3, f4⟩ := HB.out.f5; have lt := HB.out.lt)
              clear hb
              go_wp2_with fail
              go_at_call 55
              (with_reducible refine (FL.out _ _ _ _ HB.out).mono ?_)
              rintro e1 w4 ⟨rfl, hb4, hc4⟩
              go_wp2_with fail
              go_ret
              exact RetBd.bad hX'.out HQ1.out (HC.out.trans hc4) hb4
            · rw [if_neg hb0] at hX
              obtain ⟨z, hz⟩ : ∃ z, UInt8.ofNat (16 * va + vb).toNat = z := ⟨_, rfl⟩
              rw [hz] at hX
              have hzz : 16 * va + vb = (z.toNat : Int) := by
                rw [← hz, UInt8.toNat_ofNat_of_lt' (show (16 * va + vb).toNat < 256 by omega)]
                omega
              have HX' := Lib.hid hX
              have m1 : IntKind.i64.wrap (16 * va) = 16 * va := IntWalk.i64_in _ (by omega)
              have m2 : IntKind.i64.wrap (16 * va + vb) = 16 * va + vb := IntWalk.i64_in _ (by omega)
              have m3 : IntKind.u8.wrap (16 * va + vb) = 16 * va + vb := IntWalk.u8_in _ (by omega)
              have HZZ := Lib.hid hzz
              have hT : Hid (u8s acc ++ [.int .u8 (16 * va + vb)] = u8s (acc ++ [z])) := by unfold Hid; rw [hzz, u8s_app]; rfl
              clear hX hva hvb hz hzz hab hbb
              go_wp2_with fail
              refine wp_region_ord [(0, 1), (1, 1), (2, 1), (3, 1), (4, 1), (5, 1), (6, 1), (7, 1), (8, 1), (9, 1)] [] 5 (by kernel_rfl) (by decide +kernel) ?_
              simp only [pickO, List.append_eq, List.cons_append, List.nil_append, List.getElem?_cons_succ, List.getElem?_cons_zero]
              intro w0 hG
              (repeat ((first | (with_reducible refine ord_q1 ?_) | (with_reducible refine ord_q0 ?_)); intro K hK; first | (refine Or.inr ⟨?_, ?_⟩; (focus (go_simp; first | done | (simp [undef]; done))); go_simp; (with_reducible refine hK _ ?_); clear hK K) | (refine Or.inl ⟨?_, ?_⟩; (focus (go_simp; done)); apply Exists.intro; refine And.intro ?_ ?_; (focus (first | (intro wq hq; obtain ⟨hcq, hfq⟩ := G.old hq; go_simp; (first | done | exact rfl); done) | (intro wq; go_simp; (first | done | exact rfl); done))); go_simp; (with_reducible refine hK _ ?_); clear hK K) | fail))
              (with_reducible refine ord_nil ?_)
              have hb1 := hG.b
              replace HO := Lib.hid (own_grow HO.out hb1)
              clear hb1
              have hbx := hG.b; replace HB := Lib.hid (HB.out.grow hbx); replace HC := Lib.hid (HC.out.grow hbx); clear hG hbx; clear c0 c1 c2 c3 c4 f0 f1 f2 f3 f4 lt; (obtain ⟨c0, c1, c2, c3, c4⟩ := HB.out.c5; obtain ⟨f0, f1, f2, f3, f4⟩ := HB.out.f5; have lt := HB.out.lt)
              go_wp2_with fail
              refine wp_region_ord [(0, 1), (1, 1), (2, 1), (3, 1), (4, 1), (5, 1), (6, 1), (7, 1), (8, 1), (9, 2), (10, 1)] [] 5 (by kernel_rfl) (by decide +kernel) ?_
              simp only [pickO, List.append_eq, List.cons_append, List.nil_append, List.getElem?_cons_succ, List.getElem?_cons_zero]
              intro w0 hG
              (repeat ((first | (with_reducible refine ord_q1 ?_) | (with_reducible refine ord_q0 ?_)); intro K hK; first | (refine Or.inr ⟨?_, ?_⟩; (focus (go_simp; first | done | (simp [undef]; done))); go_simp; (with_reducible refine hK _ ?_); clear hK K) | (refine Or.inl ⟨?_, ?_⟩; (focus (go_simp; done)); apply Exists.intro; refine And.intro ?_ ?_; (focus (first | (intro wq hq; obtain ⟨hcq, hfq⟩ := G.old hq; go_simp; (first | done | exact rfl); done) | (intro wq; go_simp; (first | done | exact rfl); done))); go_simp; (with_reducible refine hK _ ?_); clear hK K) | fail))
              (with_reducible refine ord_run ?_ hG)
              intro K hK
              go_simp
              go_at_call 113; (with_reducible refine (HX2.out _).mono ?_); rintro e1 w3 ⟨rfl, rfl⟩; have hb := G.refl w3
              replace hG := Grew.trans hG hb
              (try dsimp only)
              (with_reducible refine hK _ _ hG ?_)
              clear hK K
              (repeat ((first | (with_reducible refine ord_q1 ?_) | (with_reducible refine ord_q0 ?_)); intro K hK; first | (refine Or.inr ⟨?_, ?_⟩; (focus (go_simp; first | done | (simp [undef]; done))); go_simp; (with_reducible refine hK _ ?_); clear hK K) | (refine Or.inl ⟨?_, ?_⟩; (focus (go_simp; done)); apply Exists.intro; refine And.intro ?_ ?_; (focus (first | (intro wq hq; obtain ⟨hcq, hfq⟩ := G.old hq; go_simp; (first | done | exact rfl); done) | (intro wq; go_simp; (first | done | exact rfl); done))); go_simp; (with_reducible refine hK _ ?_); clear hK K) | fail))
              (with_reducible refine ord_nil ?_)
              have hb1 := hG.b
              replace HO := Lib.hid (own_grow HO.out hb1)
              clear hb1
              have hbx := hG.b; replace HB := Lib.hid (HB.out.grow hbx); replace HC := Lib.hid (HC.out.grow hbx); clear hG hbx; clear c0 c1 c2 c3 c4 f0 f1 f2 f3 f4 lt; (obtain ⟨c0, c1, c2, c3, c4⟩ := HB.out.c5; obtain ⟨f0, f1, f2, f3, f4⟩ := HB.out.f5; have lt := HB.out.lt)
              clear hb
              have hob := HO.out.lt
              go_wp2_with (at_builtin; apply stopHere)
              apply Lib.hid
              (refine wpList_app _ rfl (.tmp 107) (.tmp 113) _ rfl w.heap.size 5 iU _ 1 1 Tryz.underlying63 hUi hU0 hU1 hU2 rfl Nat.zero_lt_one _ n _ rfl (own_grow HO.out (G.alloc (G.refl w3) _)) (some ⟨w3.heap.size, 0, none⟩) 1 1 [.int .u8 (16 * va + vb)] rfl (Sl.new rfl rfl) (by simp [Value.oneCell']) (by show _ ≤ 2 ^ 63 - 1; omega) (by omega) (by have := HC.out.size; simp; omega) ?_; intro A3 cc3 w8 hown5 hc5 hm5 hg5; rw [hT.out] at hown5; refine wpList_nm (fun wx => Hid (wx.ownsRow w.heap.size 5 1 (.slice A3 (n + 1) cc3) (n + 1) (u8s (acc ++ [z]))) ∧ Hid (Bx wx b (mC s (p1 : Int) lv 0 tb)) ∧ Hid (Chg b b w wx)) ⟨hown5, (HB.out.alloc _).grown hg5 (fun e => by have := (hob _ e).1; omega), (HC.out.alloc _).grown hg5 (fun k hk => (hob k hk).1)⟩ ?_)
              clear hown5 hc5 hm5 hg5 HB HC HO hob
              clear c0 c1 c2 c3 c4 f0 f1 f2 f3 f4 lt
              rintro w9 ⟨HO, HB, HC⟩
              (obtain ⟨c0, c1, c2, c3, c4⟩ := HB.out.c5; obtain ⟨f0, f1, f2, f3, f4⟩ := HB.out.f5; have lt := HB.out.lt)
              go_wp2_with fail
              go_roundw
              case rel => exact ⟨p1 + 1, q + 2, F', acc ++ [z], A3, n + 1, cc3, by omega, by have := HQ1.out; unfold Hid; omega, by have := HF.out; unfold Hid; omega, rfl, HX', own_keep HO.out ((Keeps.refl _ _).setCell (p := ⟨b, 1, none⟩) (show ¬ w.heap.size ≤ b by omega) (.int .i64 ((p1 : Int) + 1))), fun h => by omega, by have := HP1.out; omega, Lib.hid (HB.out.put rfl), Lib.hid (HC.out.set1 _ _)⟩
              case measure =>
                rw [rdI_of (Bx.put (i := 1) (v := .int .i64 ((p1 : Int) + 1)) HB.out rfl).c5.2.1, hm0.out]
                have := HP1.out
                omega
          · have hlt2 : (s.size : Int) ≤ (p1 : Int) := by omega
            rw [if_pos (by omega)] at hX
            have hX' := Lib.hid hX.symm
            clear hX
            go_wp2_with fail
            refine wp_region_ord [(0, 1), (1, 1), (2, 1), (3, 1), (4, 1), (5, 1), (6, 1), (7, 1), (8, 1), (9, 1)] [] 5 (by kernel_rfl) (by decide +kernel) ?_
            simp only [pickO, List.append_eq, List.cons_append, List.nil_append, List.getElem?_cons_succ, List.getElem?_cons_zero]
            intro w0 hG
            (repeat ((first | (with_reducible refine ord_q1 ?_) | (with_reducible refine ord_q0 ?_)); intro K hK; first | (refine Or.inr ⟨?_, ?_⟩; (focus (go_simp; first | done | (simp [undef]; done))); go_simp; (with_reducible refine hK _ ?_); clear hK K) | (refine Or.inl ⟨?_, ?_⟩; (focus (go_simp; done)); apply Exists.intro; refine And.intro ?_ ?_; (focus (first | (intro wq hq; obtain ⟨hcq, hfq⟩ := G.old hq; go_simp; (first | done | exact rfl); done) | (intro wq; go_simp; (first | done | exact rfl); done))); go_simp; (with_reducible refine hK _ ?_); clear hK K) | fail))
            (with_reducible refine ord_nil ?_)
            have hbx := hG.b; replace HB := Lib.hid (HB.out.grow hbx); replace HC := Lib.hid (HC.out.grow hbx); clear hG hbx; clear c0 c1 c2 c3 c4 f0 f1 f2 f3 f4 lt; (obtain ⟨c0, c1, c2, c3, c4⟩ := HB.out.c5; obtain ⟨f0, f1, f2, f3, f4⟩ := HB.out.f5; have lt := HB.out.lt)
            go_wp2_with fail
            go_at_call 55
            (with_reducible refine (FL.out _ _ _ _ HB.out).mono ?_)
            rintro e1 w4 ⟨rfl, hb4, hc4⟩
            go_wp2_with fail
            go_ret
            exact RetBd.bad hX'.out hrf.out (HC.out.trans hc4) hb4
    · have hlt2 : (s.size : Int) ≤ (p : Int) := by omega
      rw [if_pos (by omega)] at hX
      have hX' := Lib.hid hX.symm
      clear hX
      go_wp2_with fail
      refine wp_region_ord [(0, 1), (1, 1), (2, 1), (3, 1), (4, 1), (5, 1), (6, 1), (7, 1), (8, 1), (9, 1)] [] 5 (by kernel_rfl) (by decide +kernel) ?_
      simp only [pickO, List.append_eq, List.cons_append, List.nil_append, List.getElem?_cons_succ, List.getElem?_cons_zero]
      intro w0 hG
      (repeat ((first | (with_reducible refine ord_q1 ?_) | (with_reducible refine ord_q0 ?_)); intro K hK; first | (refine Or.inr ⟨?_, ?_⟩; (focus (go_simp; first | done | (simp [undef]; done))); go_simp; (with_reducible refine hK _ ?_); clear hK K) | (refine Or.inl ⟨?_, ?_⟩; (focus (go_simp; done)); apply Exists.intro; refine And.intro ?_ ?_; (focus (first | (intro wq hq; obtain ⟨hcq, hfq⟩ := G.old hq; go_simp; (first | done | exact rfl); done) | (intro wq; go_simp; (first | done | exact rfl); done))); go_simp; (with_reducible refine hK _ ?_); clear hK K) | fail))
      (with_reducible refine ord_nil ?_)
      have hbx := hG.b; replace HB := Lib.hid (HB.out.grow hbx); replace HC := Lib.hid (HC.out.grow hbx); clear hG hbx; clear c0 c1 c2 c3 c4 f0 f1 f2 f3 f4 lt; (obtain ⟨c0, c1, c2, c3, c4⟩ := HB.out.c5; obtain ⟨f0, f1, f2, f3, f4⟩ := HB.out.f5; have lt := HB.out.lt)
      go_wp2_with fail
      go_at_call 55
      (with_reducible refine (FL.out _ _ _ _ HB.out).mono ?_)
      rintro e1 w4 ⟨rfl, hb4, hc4⟩
      go_wp2_with fail
      go_ret
      exact RetBd.bad hX'.out hrf.out (HC.out.trans hc4) hb4
end
end Go.Proofs.YtmchiibbodllaaaGreatDoor
