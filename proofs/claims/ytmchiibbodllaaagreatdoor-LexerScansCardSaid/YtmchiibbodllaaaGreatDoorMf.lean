/- The law's model: text. -/
import Derived.Test.YtmchiibbodllaaaGreatDoorMe
import Derived.Test.YtmchiibbodllaaaGreatDoorMz
import Derived.Test.YtmchiibbodllaaaGreatDoorScF
import Derived.Test.YtmchiibbodllaaaGreatDoorScI
namespace Go.Proofs.YtmchiibbodllaaaGreatDoor
set_option linter.unusedVariables false
set_option linter.unnecessarySimpa false
set_option linter.unusedSimpArgs false
open Go.RowKit

theorem escape_m {w : World} {b p : Nat} {s : ByteArray} {lv : Value} {tb : Int} (h : Bx w b (mC s (p : Int) lv 0 tb)) (hs : s.size ≤ 100000) (hp : p < s.size) :
    Calls Tryz.prog 114 #[.pointer (some ⟨b, 0, none⟩)] w (RetEs w b s p lv tb (esc (s.data.toList.drop p))) := by
  by_cases hlt : p + 1 < s.size
  · rcases hsm : simple (nth s.data.toList (p + 1)) with _ | m
    · exact escape_n h hs hp hlt hsm
    · exact escape_s h hs hp hlt hsm
  · exact escape_z h hs hp hlt
def GoM (s : ByteArray) (b f : Nat) (lv : Value) (tb : Int) (X : Bd) (acc : List UInt8) (wx : World) : Prop :=
  ∃ (p q F : Nat), p ≤ s.size ∧ f + q = p ∧ (s.data.toList.drop f).length < q + F ∧ acc.length ≤ q ∧ strB F (s.data.toList.drop f) q acc = X ∧ Bx wx b (mC s (p : Int) lv 0 tb)
def BadM (s : ByteArray) (b f : Nat) (lv : Value) (tb : Int) (X : Bd) (wx : World) : Prop :=
  ∃ (o p : Nat) (c : Int), c ≠ 0 ∧ f + o = p ∧ X = .bad o c ∧ Bx wx b (mC s (p : Int) lv c tb)
def msM (n b : Nat) (wx : World) : Nat := if rdI wx ⟨b, 3, none⟩ = 0 then n + 2 - (rdI wx ⟨b, 1, none⟩).toNat else 0
theorem msM_go {n b : Nat} {wx : World} {s : ByteArray} {p : Nat} {lv : Value} {tb : Int} (h : Bx wx b (mC s (p : Int) lv 0 tb)) : msM n b wx = n + 2 - p := by
  unfold msM
  rw [rdI_of h.c5.2.2.2.1, rdI_of h.c5.2.1]
  simp
theorem msM_bad {n b : Nat} {wx : World} {s : ByteArray} {i : Int} {lv : Value} {c tb : Int} (h : Bx wx b (mC s i lv c tb)) (hc : c ≠ 0) : msM n b wx = 0 := by
  unfold msM
  rw [rdI_of h.c5.2.2.2.1, if_neg hc]
section
variable {w : World} {b f q0 : Nat} {s : ByteArray} {lv : Value} {tb : Int}
set_option maxRecDepth 20000 in set_option maxHeartbeats 8000000 in
theorem text_m (hE : Env w) (hgb : ¬ GB b) (h : Bx w b (mC s ((f + q0 : Nat) : Int) lv 0 tb)) (hs : s.size ≤ 100000) (hf : f + q0 ≤ s.size) :
    Calls Tryz.prog 89 #[.pointer (some ⟨b, 0, none⟩)] w (RetBd w b s f lv tb (strB ((s.data.toList.drop f).length + 1) (s.data.toList.drop f) q0 [])) := by
  have hrl : Hid ((s.data.toList.drop f).length = s.size - f) := by unfold Hid; rw [List.length_drop]; rfl
  obtain ⟨X, hX⟩ : ∃ X, strB ((s.data.toList.drop f).length + 1) (s.data.toList.drop f) q0 [] = X := ⟨_, rfl⟩
  rw [hX]
  have hst : Hid (GoM s b f lv tb X [] w) := ⟨f + q0, q0, _, hf, rfl, by omega, Nat.zero_le _, hX, h⟩
  have HE := Lib.hid hE
  have FL := Lib.hid (fun (wx : World) (i k e : Int) (hb : Bx wx b (mC s i lv 0 tb)) => fail_m hb k e)
  clear hX h hE
  go_enter Tryz.func89, Tryz.ntmps89
  go_wp2_with fail
  go_loopw [3] (fun sv wx => ∃ acc : List UInt8, sv = .string (B acc) ∧ Hid (GoM s b f lv tb X acc wx ∨ BadM s b f lv tb X wx) ∧ Hid (Chg b b w wx)) (fun _ wx => msM s.size b wx)
  case atStart => exact ⟨[], rfl, Lib.hid (.inl hst.out), Lib.hid (Chg.refl _ _ _)⟩
  case round =>
    clear hst
    obtain ⟨acc, rfl, HH, HC⟩ := hrel
    rcases HH.out with hgo | hbd
    · obtain ⟨p, q, F, hp, hfq, hF, hal, hX, hbx⟩ := hgo
      have HB := Lib.hid hbx
      have hm0 := Lib.hid (msM_go (n := s.size) hbx)
      obtain ⟨F, rfl⟩ : ∃ g, F = g + 1 := ⟨F - 1, by have := hrl.out; omega⟩
      rw [strB_step F, nth_drop, List.drop_drop, hfq] at hX
      have HFQ := Lib.hid hfq
      have HF := Lib.hid hF
      have HAL := Lib.hid hal
      have hxp : IntKind.i64.wrap ((p : Int) + 1) = (p : Int) + 1 := IntWalk.i64_in _ (by omega)
      obtain ⟨n0, z0⟩ : ∃ n, acc.length = n := ⟨_, rfl⟩
      have hn0 : n0 ≤ 100000 := by omega
      have y0 : (B acc).size = n0 := by rw [B_size, z0]
      clear hbx HH hF hal
      (obtain ⟨c0, c1, c2, c3, c4⟩ := HB.out.c5; obtain ⟨f0, f1, f2, f3, f4⟩ := HB.out.f5; have lt := HB.out.lt)
      by_cases hend : s.size ≤ p
      · have hend' : (s.size : Int) ≤ (p : Int) := by omega
        rw [if_pos (by have := hrl.out; omega)] at hX
        have hX' := Lib.hid hX.symm
        have hrf : Hid (f + (s.data.toList.drop f).length = s.size) := by have := hrl.out; unfold Hid; omega
        clear hX hfq
        go_wp2_with fail
        refine wp_region_ord [(0, 1), (1, 1), (2, 1), (3, 1), (4, 1), (5, 1), (6, 1), (7, 1), (8, 1), (9, 1)] [] 5 (by kernel_rfl) (by decide +kernel) ?_
        simp only [pickO, List.append_eq, List.cons_append, List.nil_append, List.getElem?_cons_succ, List.getElem?_cons_zero]
        intro w0 hG
        (repeat ((first | (with_reducible refine ord_q1 ?_) | (with_reducible refine ord_q0 ?_)); intro K hK; first | (refine Or.inr ⟨?_, ?_⟩; (focus (go_simp; first | done | (simp [undef]; done))); go_simp; (with_reducible refine hK _ ?_); clear hK K) | (refine Or.inl ⟨?_, ?_⟩; (focus (go_simp; done)); apply Exists.intro; refine And.intro ?_ ?_; (focus (first | (intro wq hq; obtain ⟨hcq, hfq⟩ := G.old hq; go_simp; (first | done | exact rfl); done) | (intro wq; go_simp; (first | done | exact rfl); done))); go_simp; (with_reducible refine hK _ ?_); clear hK K) | fail))
        (with_reducible refine ord_nil ?_)
        have hbx := hG.b; replace HB := Lib.hid (HB.out.grow hbx); replace HC := Lib.hid (HC.out.grow hbx); clear hG hbx; clear c0 c1 c2 c3 c4 f0 f1 f2 f3 f4 lt; (obtain ⟨c0, c1, c2, c3, c4⟩ := HB.out.c5; obtain ⟨f0, f1, f2, f3, f4⟩ := HB.out.f5; have lt := HB.out.lt)
        go_wp2_with fail
        go_at_call 55
        (with_reducible refine (FL.out _ _ _ _ HB.out).mono ?_)
        rintro e1 w4 ⟨rfl, hb4, hc4⟩
        go_wp2_with fail
        go_ret
        exact RetBd.bad hX'.out hrf.out (HC.out.trans hc4) hb4
      · have hend' : ¬ (s.size : Int) ≤ (p : Int) := by omega
        have hend2 : (p : Int) < (s.size : Int) := by omega
        have hps : p < s.size := by omega
        have hnp := nth_idx s hps
        obtain ⟨d, hd⟩ : ∃ d, s[p] = d := ⟨_, rfl⟩
        rw [hd] at hnp
        rw [if_neg (by have := hrl.out; omega), hnp] at hX
        clear hnp
        by_cases h34 : d.toNat = 34
        · have k34 : ((d.toNat : Int) == 34) = true := by simp [h34]
          rw [if_pos h34] at hX
          have hX' := Lib.hid hX.symm
          clear hX h34 hfq
          go_wp2_with fail
          refine wp_region_ord [(0, 1), (1, 1), (2, 1), (3, 1), (4, 1), (5, 1), (6, 1), (7, 1), (8, 1), (9, 1)] [] 5 (by kernel_rfl) (by decide +kernel) ?_
          simp only [pickO, List.append_eq, List.cons_append, List.nil_append, List.getElem?_cons_succ, List.getElem?_cons_zero]
          intro w0 hG
          (repeat ((first | (with_reducible refine ord_q1 ?_) | (with_reducible refine ord_q0 ?_)); intro K hK; first | (refine Or.inr ⟨?_, ?_⟩; (focus (go_simp; first | done | (simp [undef]; done))); go_simp; (with_reducible refine hK _ ?_); clear hK K) | (refine Or.inl ⟨?_, ?_⟩; (focus (go_simp; done)); apply Exists.intro; refine And.intro ?_ ?_; (focus (first | (intro wq hq; obtain ⟨hcq, hfq⟩ := G.old hq; go_simp; (first | done | exact rfl); done) | (intro wq; go_simp; (first | done | exact rfl); done))); go_simp; (with_reducible refine hK _ ?_); clear hK K) | fail))
          (with_reducible refine ord_nil ?_)
          have hbx := hG.b; replace HB := Lib.hid (HB.out.grow hbx); replace HC := Lib.hid (HC.out.grow hbx); clear hG hbx; clear c0 c1 c2 c3 c4 f0 f1 f2 f3 f4 lt; (obtain ⟨c0, c1, c2, c3, c4⟩ := HB.out.c5; obtain ⟨f0, f1, f2, f3, f4⟩ := HB.out.f5; have lt := HB.out.lt)
          go_wp2_with fail
          refine wp_region_ord [(0, 1), (1, 1), (2, 1), (3, 1), (4, 1), (5, 1), (6, 1), (7, 1), (8, 1), (9, 1)] [] 5 (by kernel_rfl) (by decide +kernel) ?_
          simp only [pickO, List.append_eq, List.cons_append, List.nil_append, List.getElem?_cons_succ, List.getElem?_cons_zero]
          intro w0 hG
          (repeat ((first | (with_reducible refine ord_q1 ?_) | (with_reducible refine ord_q0 ?_)); intro K hK; first | (refine Or.inr ⟨?_, ?_⟩; (focus (go_simp; first | done | (simp [undef]; done))); go_simp; (with_reducible refine hK _ ?_); clear hK K) | (refine Or.inl ⟨?_, ?_⟩; (focus (go_simp; done)); apply Exists.intro; refine And.intro ?_ ?_; (focus (first | (intro wq hq; obtain ⟨hcq, hfq⟩ := G.old hq; go_simp; (first | done | exact rfl); done) | (intro wq; go_simp; (first | done | exact rfl); done))); go_simp; (with_reducible refine hK _ ?_); clear hK K) | fail))
          (with_reducible refine ord_nil ?_)
          have hbx := hG.b; replace HB := Lib.hid (HB.out.grow hbx); replace HC := Lib.hid (HC.out.grow hbx); clear hG hbx; clear c0 c1 c2 c3 c4 f0 f1 f2 f3 f4 lt; (obtain ⟨c0, c1, c2, c3, c4⟩ := HB.out.c5; obtain ⟨f0, f1, f2, f3, f4⟩ := HB.out.f5; have lt := HB.out.lt)
          go_wp2_with fail
          go_ret
          exact RetBd.ok hX'.out (p := p + 1) (by have := HFQ.out; omega) (HC.out.set1 _ _) (HB.out.put rfl)
        · have k34 : ((d.toNat : Int) == 34) = false := by simp; omega
          rw [if_neg h34] at hX
          clear h34
          by_cases h92 : d.toNat = 92
          · have l32 : ¬ (d.toNat : Int) < 32 := by omega
            have k127 : ((d.toNat : Int) == 127) = false := by simp; omega
            have k92 : ((d.toNat : Int) == 92) = true := by simp [h92]
            rw [if_pos h92] at hX
            have ES := Lib.hid (fun (wx : World) (hb : Bx wx b (mC s (p : Int) lv 0 tb)) => escape_m hb hs hps)
            have hin := esc_bd (q := s.data.toList.drop p) (by rw [List.length_drop]; show 1 ≤ s.size - p; omega)
            clear h92
            go_wp2_with fail
            refine wp_region_ord [(0, 1), (1, 1), (2, 1), (3, 1), (4, 1), (5, 1), (6, 1), (7, 1), (8, 1), (9, 1)] [] 5 (by kernel_rfl) (by decide +kernel) ?_
            simp only [pickO, List.append_eq, List.cons_append, List.nil_append, List.getElem?_cons_succ, List.getElem?_cons_zero]
            intro w0 hG
            (repeat ((first | (with_reducible refine ord_q1 ?_) | (with_reducible refine ord_q0 ?_)); intro K hK; first | (refine Or.inr ⟨?_, ?_⟩; (focus (go_simp; first | done | (simp [undef]; done))); go_simp; (with_reducible refine hK _ ?_); clear hK K) | (refine Or.inl ⟨?_, ?_⟩; (focus (go_simp; done)); apply Exists.intro; refine And.intro ?_ ?_; (focus (first | (intro wq hq; obtain ⟨hcq, hfq⟩ := G.old hq; go_simp; (first | done | exact rfl); done) | (intro wq; go_simp; (first | done | exact rfl); done))); go_simp; (with_reducible refine hK _ ?_); clear hK K) | fail))
            (with_reducible refine ord_nil ?_)
            have hbx := hG.b; replace HB := Lib.hid (HB.out.grow hbx); replace HC := Lib.hid (HC.out.grow hbx); clear hG hbx; clear c0 c1 c2 c3 c4 f0 f1 f2 f3 f4 lt; (obtain ⟨c0, c1, c2, c3, c4⟩ := HB.out.c5; obtain ⟨f0, f1, f2, f3, f4⟩ := HB.out.f5; have lt := HB.out.lt)
            go_wp2_with fail
            refine wp_region_ord [(0, 1), (1, 1), (2, 1), (3, 1), (4, 1), (5, 1), (6, 1), (7, 1), (8, 1), (9, 1)] [] 5 (by kernel_rfl) (by decide +kernel) ?_
            simp only [pickO, List.append_eq, List.cons_append, List.nil_append, List.getElem?_cons_succ, List.getElem?_cons_zero]
            intro w0 hG
            (repeat ((first | (with_reducible refine ord_q1 ?_) | (with_reducible refine ord_q0 ?_)); intro K hK; first | (refine Or.inr ⟨?_, ?_⟩; (focus (go_simp; first | done | (simp [undef]; done))); go_simp; (with_reducible refine hK _ ?_); clear hK K) | (refine Or.inl ⟨?_, ?_⟩; (focus (go_simp; done)); apply Exists.intro; refine And.intro ?_ ?_; (focus (first | (intro wq hq; obtain ⟨hcq, hfq⟩ := G.old hq; go_simp; (first | done | exact rfl); done) | (intro wq; go_simp; (first | done | exact rfl); done))); go_simp; (with_reducible refine hK _ ?_); clear hK K) | fail))
            (with_reducible refine ord_nil ?_)
            have hbx := hG.b; replace HB := Lib.hid (HB.out.grow hbx); replace HC := Lib.hid (HC.out.grow hbx); clear hG hbx; clear c0 c1 c2 c3 c4 f0 f1 f2 f3 f4 lt; (obtain ⟨c0, c1, c2, c3, c4⟩ := HB.out.c5; obtain ⟨f0, f1, f2, f3, f4⟩ := HB.out.f5; have lt := HB.out.lt)
            go_wp2_with fail
            go_at_call 114
            (with_reducible refine (ES.out _ HB.out).mono ?_)
            rcases hes : esc (s.data.toList.drop p) with ⟨n, v⟩ | ⟨c⟩
            · rw [hes] at hX hin
              have hn2 : n ≤ s.size - p := by have := hin.2; rwa [List.length_drop] at this
              have hvl := escLen hes
              have hn3 := hin.1
              simp only at hX
              rintro e1 w4 ⟨hc4, rfl, hb4⟩
              obtain ⟨P2, hP2⟩ : ∃ P, acc ++ v = P := ⟨_, rfl⟩
              rw [hP2] at hX
              have j2 : B acc ++ B v = B P2 := by rw [B_app, hP2]
              obtain ⟨n1, z1⟩ : ∃ n, v.length = n := ⟨_, rfl⟩
              have y1 : (B v).size = n1 := by rw [B_size, z1]
              have g2 : ¬ 9223372036854775807 < n0 + n1 := by omega
              have hgo : Hid (GoM s b f lv tb X P2 w4) := ⟨p + n, q + n, F, by omega, by omega, by have := HF.out; omega, by rw [← hP2, List.length_append]; have := HAL.out; omega, hX, hb4⟩
              have hms : Hid (msM s.size b w4 = s.size + 2 - (p + n)) := msM_go hb4
              have hn4 : 2 ≤ n := hn3
              have HC4 := Lib.hid (HC.out.trans hc4)
              clear hX hin hes hvl hn3 hP2 z1 z0 hc4 hb4 hfq
              go_wp2_with fail
              go_roundw
              case rel => exact ⟨P2, rfl, Lib.hid (.inl hgo.out), HC4⟩
              case measure =>
                rw [hms.out, hm0.out]
                omega
            · rw [hes] at hX hin
              simp only at hX
              rintro e1 w4 ⟨hc4, rfl, hb4⟩
              have hc0 : c ≠ 0 := hin
              have j2 : B acc ++ ⟨#[]⟩ = B acc := by rw [show (⟨#[]⟩ : ByteArray) = B [] from rfl, B_app, List.append_nil]
              have g2 : ¬ 9223372036854775807 < n0 + 0 := by omega
              have g3 : ¬ 9223372036854775807 < n0 := by omega
              have hgo : Hid (BadM s b f lv tb X w4) := ⟨q, p, c, hc0, HFQ.out, hX.symm, hb4⟩
              have hms : Hid (msM s.size b w4 = 0) := msM_bad hb4 hc0
              have HC4 := Lib.hid (HC.out.trans hc4)
              clear hX hin hes z0 hc4 hb4 hc0 hfq
              go_wp2_with fail
              go_roundw
              case rel => exact ⟨acc, rfl, Lib.hid (.inr hgo.out), HC4⟩
              case measure =>
                rw [hms.out, hm0.out]
                omega
          · have k92 : ((d.toNat : Int) == 92) = false := by simp; omega
            rw [if_neg h92] at hX
            clear h92
            by_cases hct : d.toNat < 32 ∨ d.toNat = 127
            · rw [if_pos hct] at hX
              have hX' := Lib.hid hX.symm
              have hkk : ((d.toNat : Int) < 32) ∨ (¬ (d.toNat : Int) < 32 ∧ ((d.toNat : Int) == 127) = true) := by
                by_cases hx32 : d.toNat < 32
                · exact .inl (by omega)
                · exact .inr ⟨by omega, by rw [show d.toNat = 127 by omega]; rfl⟩
              clear hX hct hfq
              go_wp2_with fail
              refine wp_region_ord [(0, 1), (1, 1), (2, 1), (3, 1), (4, 1), (5, 1), (6, 1), (7, 1), (8, 1), (9, 1)] [] 5 (by kernel_rfl) (by decide +kernel) ?_
              simp only [pickO, List.append_eq, List.cons_append, List.nil_append, List.getElem?_cons_succ, List.getElem?_cons_zero]
              intro w0 hG
              (repeat ((first | (with_reducible refine ord_q1 ?_) | (with_reducible refine ord_q0 ?_)); intro K hK; first | (refine Or.inr ⟨?_, ?_⟩; (focus (go_simp; first | done | (simp [undef]; done))); go_simp; (with_reducible refine hK _ ?_); clear hK K) | (refine Or.inl ⟨?_, ?_⟩; (focus (go_simp; done)); apply Exists.intro; refine And.intro ?_ ?_; (focus (first | (intro wq hq; obtain ⟨hcq, hfq⟩ := G.old hq; go_simp; (first | done | exact rfl); done) | (intro wq; go_simp; (first | done | exact rfl); done))); go_simp; (with_reducible refine hK _ ?_); clear hK K) | fail))
              (with_reducible refine ord_nil ?_)
              have hbx := hG.b; replace HB := Lib.hid (HB.out.grow hbx); replace HC := Lib.hid (HC.out.grow hbx); clear hG hbx; clear c0 c1 c2 c3 c4 f0 f1 f2 f3 f4 lt; (obtain ⟨c0, c1, c2, c3, c4⟩ := HB.out.c5; obtain ⟨f0, f1, f2, f3, f4⟩ := HB.out.f5; have lt := HB.out.lt)
              go_wp2_with fail
              refine wp_region_ord [(0, 1), (1, 1), (2, 1), (3, 1), (4, 1), (5, 1), (6, 1), (7, 1), (8, 1), (9, 1)] [] 5 (by kernel_rfl) (by decide +kernel) ?_
              simp only [pickO, List.append_eq, List.cons_append, List.nil_append, List.getElem?_cons_succ, List.getElem?_cons_zero]
              intro w0 hG
              (repeat ((first | (with_reducible refine ord_q1 ?_) | (with_reducible refine ord_q0 ?_)); intro K hK; first | (refine Or.inr ⟨?_, ?_⟩; (focus (go_simp; first | done | (simp [undef]; done))); go_simp; (with_reducible refine hK _ ?_); clear hK K) | (refine Or.inl ⟨?_, ?_⟩; (focus (go_simp; done)); apply Exists.intro; refine And.intro ?_ ?_; (focus (first | (intro wq hq; obtain ⟨hcq, hfq⟩ := G.old hq; go_simp; (first | done | exact rfl); done) | (intro wq; go_simp; (first | done | exact rfl); done))); go_simp; (with_reducible refine hK _ ?_); clear hK K) | fail))
              (with_reducible refine ord_nil ?_)
              have hbx := hG.b; replace HB := Lib.hid (HB.out.grow hbx); replace HC := Lib.hid (HC.out.grow hbx); clear hG hbx; clear c0 c1 c2 c3 c4 f0 f1 f2 f3 f4 lt; (obtain ⟨c0, c1, c2, c3, c4⟩ := HB.out.c5; obtain ⟨f0, f1, f2, f3, f4⟩ := HB.out.f5; have lt := HB.out.lt)
              rcases hkk with l32 | ⟨l32, k127⟩
              all_goals
                go_wp2_with fail
                go_at_call 55
                (with_reducible refine (FL.out _ _ _ _ HB.out).mono ?_)
                rintro e1 w4 ⟨rfl, hb4, hc4⟩
                have hgo : Hid (BadM s b f lv tb X w4) := ⟨q, p, 6, by decide, HFQ.out, hX'.out, hb4⟩
                have hms : Hid (msM s.size b w4 = 0) := msM_bad hb4 (by decide)
                have HC4 := Lib.hid (HC.out.trans hc4)
                clear hb4 hc4
                go_wp2_with fail
                go_roundw
                case rel => exact ⟨acc, rfl, Lib.hid (.inr hgo.out), HC4⟩
                case measure =>
                  rw [hms.out, hm0.out]
                  omega
            · have l32 : ¬ (d.toNat : Int) < 32 := by omega
              have k127 : ((d.toNat : Int) == 127) = false := by simp; omega
              rw [if_neg hct] at hX
              have hne : s.data.toList.drop p ≠ [] := fun e => by have := congrArg List.length e; rw [List.length_drop] at this; simp at this; have : s.data.toList.length = s.size := rfl; omega
              have hbdd := dec_bd hne
              rw [List.length_drop, show s.data.toList.length = s.size from rfl] at hbdd
              clear hct hne
              by_cases hdb : decBad (s.data.toList.drop p)
              · rw [if_pos hdb] at hX
                have hX' := Lib.hid hX.symm
                have DE := Lib.hid (fun wx he => (decode_any (w := wx) he s p (by omega)).mono fun e w' h => (⟨h.1.1 hdb, h.2⟩ : e = .returned (.tuple #[.int .i64 0, .int .i64 0, .int .i64 16]) ∧ Below wx.heap.size wx w'))
                clear hX hbdd hdb hfq
                go_wp2_with fail
                refine wp_region_ord [(0, 1), (1, 1), (2, 1), (3, 1), (4, 1), (5, 1), (6, 1), (7, 1), (8, 1), (9, 1)] [] 5 (by kernel_rfl) (by decide +kernel) ?_
                simp only [pickO, List.append_eq, List.cons_append, List.nil_append, List.getElem?_cons_succ, List.getElem?_cons_zero]
                intro w0 hG
                (repeat ((first | (with_reducible refine ord_q1 ?_) | (with_reducible refine ord_q0 ?_)); intro K hK; first | (refine Or.inr ⟨?_, ?_⟩; (focus (go_simp; first | done | (simp [undef]; done))); go_simp; (with_reducible refine hK _ ?_); clear hK K) | (refine Or.inl ⟨?_, ?_⟩; (focus (go_simp; done)); apply Exists.intro; refine And.intro ?_ ?_; (focus (first | (intro wq hq; obtain ⟨hcq, hfq⟩ := G.old hq; go_simp; (first | done | exact rfl); done) | (intro wq; go_simp; (first | done | exact rfl); done))); go_simp; (with_reducible refine hK _ ?_); clear hK K) | fail))
                (with_reducible refine ord_nil ?_)
                have hbx := hG.b; replace HB := Lib.hid (HB.out.grow hbx); replace HC := Lib.hid (HC.out.grow hbx); clear hG hbx; clear c0 c1 c2 c3 c4 f0 f1 f2 f3 f4 lt; (obtain ⟨c0, c1, c2, c3, c4⟩ := HB.out.c5; obtain ⟨f0, f1, f2, f3, f4⟩ := HB.out.f5; have lt := HB.out.lt)
                go_wp2_with fail
                refine wp_region_ord [(0, 1), (1, 1), (2, 1), (3, 1), (4, 1), (5, 1), (6, 1), (7, 1), (8, 1), (9, 1)] [] 5 (by kernel_rfl) (by decide +kernel) ?_
                simp only [pickO, List.append_eq, List.cons_append, List.nil_append, List.getElem?_cons_succ, List.getElem?_cons_zero]
                intro w0 hG
                (repeat ((first | (with_reducible refine ord_q1 ?_) | (with_reducible refine ord_q0 ?_)); intro K hK; first | (refine Or.inr ⟨?_, ?_⟩; (focus (go_simp; first | done | (simp [undef]; done))); go_simp; (with_reducible refine hK _ ?_); clear hK K) | (refine Or.inl ⟨?_, ?_⟩; (focus (go_simp; done)); apply Exists.intro; refine And.intro ?_ ?_; (focus (first | (intro wq hq; obtain ⟨hcq, hfq⟩ := G.old hq; go_simp; (first | done | exact rfl); done) | (intro wq; go_simp; (first | done | exact rfl); done))); go_simp; (with_reducible refine hK _ ?_); clear hK K) | fail))
                (with_reducible refine ord_nil ?_)
                have hbx := hG.b; replace HB := Lib.hid (HB.out.grow hbx); replace HC := Lib.hid (HC.out.grow hbx); clear hG hbx; clear c0 c1 c2 c3 c4 f0 f1 f2 f3 f4 lt; (obtain ⟨c0, c1, c2, c3, c4⟩ := HB.out.c5; obtain ⟨f0, f1, f2, f3, f4⟩ := HB.out.f5; have lt := HB.out.lt)
                go_wp2_with fail
                have HE2 := Lib.hid (HE.out.chg HC.out hgb hgb)
                refine wp_region_ord [(0, 1), (1, 1), (2, 1), (3, 1), (4, 1), (5, 1), (6, 1), (7, 1), (8, 2), (9, 1), (10, 1), (11, 1), (12, 1), (13, 1), (14, 1), (15, 1)] [] 5 (by kernel_rfl) (by decide +kernel) ?_
                simp only [pickO, List.append_eq, List.cons_append, List.nil_append, List.getElem?_cons_succ, List.getElem?_cons_zero]
                intro w0 hG
                (repeat ((first | (with_reducible refine ord_q1 ?_) | (with_reducible refine ord_q0 ?_)); intro K hK; first | (refine Or.inr ⟨?_, ?_⟩; (focus (go_simp; first | done | (simp [undef]; done))); go_simp; (with_reducible refine hK _ ?_); clear hK K) | (refine Or.inl ⟨?_, ?_⟩; (focus (go_simp; done)); apply Exists.intro; refine And.intro ?_ ?_; (focus (first | (intro wq hq; obtain ⟨hcq, hfq⟩ := G.old hq; go_simp; (first | done | exact rfl); done) | (intro wq; go_simp; (first | done | exact rfl); done))); go_simp; (with_reducible refine hK _ ?_); clear hK K) | fail))
                (with_reducible refine ord_run ?_ hG)
                intro K hK
                go_simp
                go_at_call 81; (with_reducible refine (DE.out _ (HE2.out.grow hG.b)).mono ?_); rintro e1 w2 ⟨rfl, hb⟩
                replace hG := Grew.trans hG hb
                (try dsimp only)
                (with_reducible refine hK _ _ hG ?_)
                clear hK K
                (repeat ((first | (with_reducible refine ord_q1 ?_) | (with_reducible refine ord_q0 ?_)); intro K hK; first | (refine Or.inr ⟨?_, ?_⟩; (focus (go_simp; first | done | (simp [undef]; done))); go_simp; (with_reducible refine hK _ ?_); clear hK K) | (refine Or.inl ⟨?_, ?_⟩; (focus (go_simp; done)); apply Exists.intro; refine And.intro ?_ ?_; (focus (first | (intro wq hq; obtain ⟨hcq, hfq⟩ := G.old hq; go_simp; (first | done | exact rfl); done) | (intro wq; go_simp; (first | done | exact rfl); done))); go_simp; (with_reducible refine hK _ ?_); clear hK K) | fail))
                (with_reducible refine ord_nil ?_)
                have hbx := hG.b; replace HB := Lib.hid (HB.out.grow hbx); replace HC := Lib.hid (HC.out.grow hbx); clear hG hbx; clear c0 c1 c2 c3 c4 f0 f1 f2 f3 f4 lt; (obtain ⟨c0, c1, c2, c3, c4⟩ := HB.out.c5; obtain ⟨f0, f1, f2, f3, f4⟩ := HB.out.f5; have lt := HB.out.lt)
                clear hb
                go_wp2_with fail
                refine wp_region_ord [(0, 1), (1, 1), (2, 1), (3, 1), (4, 1), (5, 1), (6, 1), (7, 1), (8, 1), (9, 1), (10, 1), (11, 1), (12, 1), (13, 1), (14, 1), (15, 1), (16, 1), (17, 1), (18, 1), (19, 1)] [] 5 (by kernel_rfl) (by decide +kernel) ?_
                simp only [pickO, List.append_eq, List.cons_append, List.nil_append, List.getElem?_cons_succ, List.getElem?_cons_zero]
                intro w0 hG
                (repeat ((first | (with_reducible refine ord_q1 ?_) | (with_reducible refine ord_q0 ?_)); intro K hK; first | (refine Or.inr ⟨?_, ?_⟩; (focus (go_simp; first | done | (simp [undef]; done))); go_simp; (with_reducible refine hK _ ?_); clear hK K) | (refine Or.inl ⟨?_, ?_⟩; (focus (go_simp; done)); apply Exists.intro; refine And.intro ?_ ?_; (focus (first | (intro wq hq; obtain ⟨hcq, hfq⟩ := G.old hq; go_simp; (first | done | exact rfl); done) | (intro wq; go_simp; (first | done | exact rfl); done))); go_simp; (with_reducible refine hK _ ?_); clear hK K) | fail))
                (with_reducible refine ord_nil ?_)
                have hbx := hG.b; replace HB := Lib.hid (HB.out.grow hbx); replace HC := Lib.hid (HC.out.grow hbx); clear hG hbx; clear c0 c1 c2 c3 c4 f0 f1 f2 f3 f4 lt; (obtain ⟨c0, c1, c2, c3, c4⟩ := HB.out.c5; obtain ⟨f0, f1, f2, f3, f4⟩ := HB.out.f5; have lt := HB.out.lt)
                go_wp2_with fail
                go_at_call 55
                (with_reducible refine (FL.out _ _ _ _ HB.out).mono ?_)
                rintro e1 w4 ⟨rfl, hb4, hc4⟩
                go_wp2_with fail
                go_ret
                exact RetBd.bad hX'.out HFQ.out (HC.out.trans hc4) hb4
              · rw [if_neg hdb] at hX
                have DE := Lib.hid (fun wx he => (decode_any (w := wx) he s p (by omega)).mono fun e w' h => (⟨h.1.2 hdb, h.2⟩ : e = .returned (.tuple #[.int .i64 (dec (s.data.toList.drop p)).1, .int .i64 (dec (s.data.toList.drop p)).2, .int .i64 0]) ∧ Below wx.heap.size wx w'))
                obtain ⟨n, hn⟩ : ∃ n, (dec (s.data.toList.drop p)).2 = n := ⟨_, rfl⟩
                obtain ⟨rn, hrn⟩ : ∃ n, (dec (s.data.toList.drop p)).1 = n := ⟨_, rfl⟩
                rw [hn] at hX DE hbdd
                rw [hrn] at DE
                obtain ⟨hn1, hn2⟩ := hbdd
                obtain ⟨v, hv⟩ : ∃ v, (s.data.toList.drop p).take n = v := ⟨_, rfl⟩
                rw [hv] at hX
                have hvl : v.length = n := by rw [← hv, List.length_take, List.length_drop, show s.data.toList.length = s.size from rfl]; omega
                have ex := ext_take s p n
                rw [hv] at ex
                obtain ⟨P2, hP2⟩ : ∃ P, acc ++ v = P := ⟨_, rfl⟩
                rw [hP2] at hX
                have j2 : B acc ++ B v = B P2 := by rw [B_app, hP2]
                have y1 : (B v).size = n := by rw [B_size, hvl]
                have g2 : ¬ 9223372036854775807 < n0 + n := by omega
                have hXX := Lib.hid hX
                have hP2l : Hid (P2.length ≤ q + n) := by unfold Hid; rw [← hP2, List.length_append, hvl]; have := HAL.out; omega
                have q1 : ¬ (n : Int) < 1 := by omega
                have q2 : IntKind.i64.wrap ((s.size : Int) - (p : Int)) = (s.size : Int) - (p : Int) := IntWalk.i64_in _ (by omega)
                have q3 : ¬ (s.size : Int) - (p : Int) < (n : Int) := by omega
                obtain ⟨z, hz⟩ : ∃ z, p + n = z := ⟨_, rfl⟩
                rw [hz] at ex
                have q4 : IntKind.i64.wrap ((p : Int) + (n : Int)) = (z : Int) := by rw [IntWalk.i64_in _ (by omega)]; omega
                have q5 : (p : Int) ≤ (z : Int) := by omega
                have q6 : (z : Int) ≤ (s.size : Int) := by omega
                have HZ := Lib.hid hz
                have HN := Lib.hid (And.intro hn1 hn2)
                clear hX hdb hn hrn hv hvl hP2 z0 hn1 hn2 hfq hxp hz
                go_wp2_with fail
                refine wp_region_ord [(0, 1), (1, 1), (2, 1), (3, 1), (4, 1), (5, 1), (6, 1), (7, 1), (8, 1), (9, 1)] [] 5 (by kernel_rfl) (by decide +kernel) ?_
                simp only [pickO, List.append_eq, List.cons_append, List.nil_append, List.getElem?_cons_succ, List.getElem?_cons_zero]
                intro w0 hG
                (repeat ((first | (with_reducible refine ord_q1 ?_) | (with_reducible refine ord_q0 ?_)); intro K hK; first | (refine Or.inr ⟨?_, ?_⟩; (focus (go_simp; first | done | (simp [undef]; done))); go_simp; (with_reducible refine hK _ ?_); clear hK K) | (refine Or.inl ⟨?_, ?_⟩; (focus (go_simp; done)); apply Exists.intro; refine And.intro ?_ ?_; (focus (first | (intro wq hq; obtain ⟨hcq, hfq⟩ := G.old hq; go_simp; (first | done | exact rfl); done) | (intro wq; go_simp; (first | done | exact rfl); done))); go_simp; (with_reducible refine hK _ ?_); clear hK K) | fail))
                (with_reducible refine ord_nil ?_)
                have hbx := hG.b; replace HB := Lib.hid (HB.out.grow hbx); replace HC := Lib.hid (HC.out.grow hbx); clear hG hbx; clear c0 c1 c2 c3 c4 f0 f1 f2 f3 f4 lt; (obtain ⟨c0, c1, c2, c3, c4⟩ := HB.out.c5; obtain ⟨f0, f1, f2, f3, f4⟩ := HB.out.f5; have lt := HB.out.lt)
                go_wp2_with fail
                refine wp_region_ord [(0, 1), (1, 1), (2, 1), (3, 1), (4, 1), (5, 1), (6, 1), (7, 1), (8, 1), (9, 1)] [] 5 (by kernel_rfl) (by decide +kernel) ?_
                simp only [pickO, List.append_eq, List.cons_append, List.nil_append, List.getElem?_cons_succ, List.getElem?_cons_zero]
                intro w0 hG
                (repeat ((first | (with_reducible refine ord_q1 ?_) | (with_reducible refine ord_q0 ?_)); intro K hK; first | (refine Or.inr ⟨?_, ?_⟩; (focus (go_simp; first | done | (simp [undef]; done))); go_simp; (with_reducible refine hK _ ?_); clear hK K) | (refine Or.inl ⟨?_, ?_⟩; (focus (go_simp; done)); apply Exists.intro; refine And.intro ?_ ?_; (focus (first | (intro wq hq; obtain ⟨hcq, hfq⟩ := G.old hq; go_simp; (first | done | exact rfl); done) | (intro wq; go_simp; (first | done | exact rfl); done))); go_simp; (with_reducible refine hK _ ?_); clear hK K) | fail))
                (with_reducible refine ord_nil ?_)
                have hbx := hG.b; replace HB := Lib.hid (HB.out.grow hbx); replace HC := Lib.hid (HC.out.grow hbx); clear hG hbx; clear c0 c1 c2 c3 c4 f0 f1 f2 f3 f4 lt; (obtain ⟨c0, c1, c2, c3, c4⟩ := HB.out.c5; obtain ⟨f0, f1, f2, f3, f4⟩ := HB.out.f5; have lt := HB.out.lt)
                go_wp2_with fail
                have HE2 := Lib.hid (HE.out.chg HC.out hgb hgb)
                refine wp_region_ord [(0, 1), (1, 1), (2, 1), (3, 1), (4, 1), (5, 1), (6, 1), (7, 1), (8, 2), (9, 1), (10, 1), (11, 1), (12, 1), (13, 1), (14, 1), (15, 1)] [] 5 (by kernel_rfl) (by decide +kernel) ?_
                simp only [pickO, List.append_eq, List.cons_append, List.nil_append, List.getElem?_cons_succ, List.getElem?_cons_zero]
                intro w0 hG
                (repeat ((first | (with_reducible refine ord_q1 ?_) | (with_reducible refine ord_q0 ?_)); intro K hK; first | (refine Or.inr ⟨?_, ?_⟩; (focus (go_simp; first | done | (simp [undef]; done))); go_simp; (with_reducible refine hK _ ?_); clear hK K) | (refine Or.inl ⟨?_, ?_⟩; (focus (go_simp; done)); apply Exists.intro; refine And.intro ?_ ?_; (focus (first | (intro wq hq; obtain ⟨hcq, hfq⟩ := G.old hq; go_simp; (first | done | exact rfl); done) | (intro wq; go_simp; (first | done | exact rfl); done))); go_simp; (with_reducible refine hK _ ?_); clear hK K) | fail))
                (with_reducible refine ord_run ?_ hG)
                intro K hK
                go_simp
                go_at_call 81; (with_reducible refine (DE.out _ (HE2.out.grow hG.b)).mono ?_); rintro e1 w2 ⟨rfl, hb⟩
                replace hG := Grew.trans hG hb
                (try dsimp only)
                (with_reducible refine hK _ _ hG ?_)
                clear hK K
                (repeat ((first | (with_reducible refine ord_q1 ?_) | (with_reducible refine ord_q0 ?_)); intro K hK; first | (refine Or.inr ⟨?_, ?_⟩; (focus (go_simp; first | done | (simp [undef]; done))); go_simp; (with_reducible refine hK _ ?_); clear hK K) | (refine Or.inl ⟨?_, ?_⟩; (focus (go_simp; done)); apply Exists.intro; refine And.intro ?_ ?_; (focus (first | (intro wq hq; obtain ⟨hcq, hfq⟩ := G.old hq; go_simp; (first | done | exact rfl); done) | (intro wq; go_simp; (first | done | exact rfl); done))); go_simp; (with_reducible refine hK _ ?_); clear hK K) | fail))
                (with_reducible refine ord_nil ?_)
                have hbx := hG.b; replace HB := Lib.hid (HB.out.grow hbx); replace HC := Lib.hid (HC.out.grow hbx); clear hG hbx; clear c0 c1 c2 c3 c4 f0 f1 f2 f3 f4 lt; (obtain ⟨c0, c1, c2, c3, c4⟩ := HB.out.c5; obtain ⟨f0, f1, f2, f3, f4⟩ := HB.out.f5; have lt := HB.out.lt)
                clear hb
                go_wp2_with fail
                refine wp_region_ord [(0, 1), (1, 1), (2, 1), (3, 1), (4, 1), (5, 1), (6, 1), (7, 1), (8, 1), (9, 1), (10, 1), (11, 1), (12, 1), (13, 1), (14, 1), (15, 1), (16, 1), (17, 1), (18, 1), (19, 1)] [] 5 (by kernel_rfl) (by decide +kernel) ?_
                simp only [pickO, List.append_eq, List.cons_append, List.nil_append, List.getElem?_cons_succ, List.getElem?_cons_zero]
                intro w0 hG
                (repeat ((first | (with_reducible refine ord_q1 ?_) | (with_reducible refine ord_q0 ?_)); intro K hK; first | (refine Or.inr ⟨?_, ?_⟩; (focus (go_simp; first | done | (simp [undef]; done))); go_simp; (with_reducible refine hK _ ?_); clear hK K) | (refine Or.inl ⟨?_, ?_⟩; (focus (go_simp; done)); apply Exists.intro; refine And.intro ?_ ?_; (focus (first | (intro wq hq; obtain ⟨hcq, hfq⟩ := G.old hq; go_simp; (first | done | exact rfl); done) | (intro wq; go_simp; (first | done | exact rfl); done))); go_simp; (with_reducible refine hK _ ?_); clear hK K) | fail))
                (with_reducible refine ord_nil ?_)
                have hbx := hG.b; replace HB := Lib.hid (HB.out.grow hbx); replace HC := Lib.hid (HC.out.grow hbx); clear hG hbx; clear c0 c1 c2 c3 c4 f0 f1 f2 f3 f4 lt; (obtain ⟨c0, c1, c2, c3, c4⟩ := HB.out.c5; obtain ⟨f0, f1, f2, f3, f4⟩ := HB.out.f5; have lt := HB.out.lt)
                go_wp2_with fail
                refine wp_region_ord [(0, 1), (1, 1), (2, 1), (3, 1), (4, 1), (5, 1), (6, 1), (7, 1), (8, 1), (9, 1), (10, 1), (11, 1), (12, 1), (13, 1), (14, 1), (15, 1), (16, 1), (17, 1)] [] 5 (by kernel_rfl) (by decide +kernel) ?_
                simp only [pickO, List.append_eq, List.cons_append, List.nil_append, List.getElem?_cons_succ, List.getElem?_cons_zero]
                intro w0 hG
                (repeat ((first | (with_reducible refine ord_q1 ?_) | (with_reducible refine ord_q0 ?_)); intro K hK; first | (refine Or.inr ⟨?_, ?_⟩; (focus (go_simp; first | done | (simp [undef]; done))); go_simp; (with_reducible refine hK _ ?_); clear hK K) | (refine Or.inl ⟨?_, ?_⟩; (focus (go_simp; done)); apply Exists.intro; refine And.intro ?_ ?_; (focus (first | (intro wq hq; obtain ⟨hcq, hfq⟩ := G.old hq; go_simp; (first | done | exact rfl); done) | (intro wq; go_simp; (first | done | exact rfl); done))); go_simp; (with_reducible refine hK _ ?_); clear hK K) | fail))
                (with_reducible refine ord_nil ?_)
                have hbx := hG.b; replace HB := Lib.hid (HB.out.grow hbx); replace HC := Lib.hid (HC.out.grow hbx); clear hG hbx; clear c0 c1 c2 c3 c4 f0 f1 f2 f3 f4 lt; (obtain ⟨c0, c1, c2, c3, c4⟩ := HB.out.c5; obtain ⟨f0, f1, f2, f3, f4⟩ := HB.out.f5; have lt := HB.out.lt)
                go_wp2_with fail
                go_roundw
                case rel => exact ⟨P2, rfl, Lib.hid (.inl ⟨z, q + n, F, by omega, by have := HFQ.out; have := HZ.out; omega, by have := HF.out; have := HN.out; omega, hP2l.out, hXX.out, HB.out.put rfl⟩), Lib.hid (HC.out.set1 _ _)⟩
                case measure =>
                  rw [msM_go (p := z) (Bx.put (i := 1) (v := .int .i64 (z : Int)) HB.out rfl), hm0.out]
                  have := HN.out
                  have := HZ.out
                  omega
    · obtain ⟨o, p, c, hc0, hop, hX, hbx⟩ := hbd
      have HB := Lib.hid hbx
      have kc : (c == 0) = false := by simp [hc0]
      have hX' := Lib.hid hX
      have hop' := Lib.hid hop
      clear HH hX hop hbx
      (obtain ⟨c0, c1, c2, c3, c4⟩ := HB.out.c5; obtain ⟨f0, f1, f2, f3, f4⟩ := HB.out.f5; have lt := HB.out.lt)
      go_wp2_with fail
      go_ret
      exact RetBd.bad hX'.out hop'.out HC.out HB.out
end
end Go.Proofs.YtmchiibbodllaaaGreatDoor
