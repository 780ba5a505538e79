/- The law's model: places, blanks, bytes. -/
import Derived.Test.YtmchiibbodllaaaGreatDoorTk
import Derived.Test.YtmchiibbodllaaaGreatDoorQtB
namespace Go.Proofs.YtmchiibbodllaaaGreatDoor
set_option linter.unusedVariables false
set_option linter.unnecessarySimpa false
set_option linter.unusedSimpArgs false
open Go.RowKit

/-- The cells of the model's scan. -/
def mC (s : ByteArray) (i : Int) (l : Value) (e tb : Int) : List Value := [.string s, .int .i64 i, l, .int .i64 e, .int .i64 tb]
theorem Bx.c5 {w : World} {B : Nat} {a b c d e : Value} (x : Bx w B [a, b, c, d, e]) : w.cell? ⟨B, 0, none⟩ = some a ∧ w.cell? ⟨B, 1, none⟩ = some b ∧ w.cell? ⟨B, 2, none⟩ = some c ∧ w.cell? ⟨B, 3, none⟩ = some d ∧ w.cell? ⟨B, 4, none⟩ = some e :=
  ⟨(x.2 0 _ rfl).1, (x.2 1 _ rfl).1, (x.2 2 _ rfl).1, (x.2 3 _ rfl).1, (x.2 4 _ rfl).1⟩
theorem Bx.f5 {w : World} {B : Nat} {a b c d e : Value} (x : Bx w B [a, b, c, d, e]) : w.frozen? ⟨B, 0, none⟩ = false ∧ w.frozen? ⟨B, 1, none⟩ = false ∧ w.frozen? ⟨B, 2, none⟩ = false ∧ w.frozen? ⟨B, 3, none⟩ = false ∧ w.frozen? ⟨B, 4, none⟩ = false :=
  ⟨(x.2 0 _ rfl).2, (x.2 1 _ rfl).2, (x.2 2 _ rfl).2, (x.2 3 _ rfl).2, (x.2 4 _ rfl).2⟩
theorem wrapN {i k q : Nat} (h : i + k = q) (hq : q ≤ 1000000) : IntKind.i64.wrap ((i : Int) + (k : Int)) = (q : Int) := add_nat h hq
section
variable {w : World} {b : Nat} {s : ByteArray} {i : Int} {lv : Value} {e tb : Int}
set_option maxRecDepth 20000 in set_option maxHeartbeats 400000 in
theorem here_m (h : Bx w b (mC s i lv e tb)) (hs : s.size ≤ 100000) (k : Nat) (hk : k ≤ 1000000) :
    Calls Tryz.prog 86 #[.pointer (some ⟨b, 0, none⟩), .int .i64 (k : Int)] w fun e' w' => e' = .returned (.int .u8 ((nth s.data.toList k).toNat : Int)) ∧ w' = w := by
  obtain ⟨c0, c1, c2, c3, c4⟩ := h.c5
  have lt := h.lt
  clear h
  by_cases hlt : k < s.size
  · rw [nth_idx s hlt]
    obtain ⟨c, hc⟩ : ∃ c, s[k] = c := ⟨_, rfl⟩
    rw [hc]
    have hlt2 : (k : Int) < (s.size : Int) := by omega
    go_enter Tryz.func86, Tryz.ntmps86
    go_wp2_with fail
    go_ret
    exact ⟨rfl, rfl⟩
  · rw [nth_end (show s.data.toList.length ≤ k by rw [Array.length_toList]; exact Nat.le_of_not_lt hlt)]
    have hlt2 : ¬ (k : Int) < (s.size : Int) := by omega
    go_enter Tryz.func86, Tryz.ntmps86
    go_wp2_with fail
    go_ret
    exact ⟨rfl, rfl⟩
theorem here_a (h : Bx w b (mC s i lv e tb)) (hs : s.size ≤ 100000) (a : Int) (k : Nat) (ha : a = (k : Int)) (hk : k ≤ 1000000) :
    Calls Tryz.prog 86 #[.pointer (some ⟨b, 0, none⟩), .int .i64 a] w fun e' w' => e' = .returned (.int .u8 ((nth s.data.toList k).toNat : Int)) ∧ w' = w := by
  subst ha
  exact here_m h hs k hk
set_option maxRecDepth 20000 in set_option maxHeartbeats 400000 in
theorem fail_m (h : Bx w b (mC s i lv 0 tb)) (k e' : Int) : Calls Tryz.prog 55 #[.pointer (some ⟨b, 0, none⟩), .int .i64 k, .int .i64 e'] w fun e1 w' => e1 = .returned (.tuple #[]) ∧ Bx w' b (mC s k lv e' tb) ∧ Chg b b w w' := by
  obtain ⟨c0, c1, c2, c3, c4⟩ := h.c5
  obtain ⟨f0, f1, f2, f3, f4⟩ := h.f5
  have lt := h.lt
  have H := Lib.hid h
  clear h
  go_enter Tryz.func55, Tryz.ntmps55
  go_wp2_with fail
  go_end0
  exact ⟨rfl, (H.out.put rfl).put rfl, ((Chg.refl b b w).set1 _ _).set1 _ _⟩
set_option maxRecDepth 20000 in set_option maxHeartbeats 400000 in
theorem letter_m (c : UInt8) (w : World) : Calls Tryz.prog 90 #[.int .u8 (c.toNat : Int)] w fun e w' => e = .returned (.bool (isLet c)) ∧ w' = w := by
  have hb : isLet c = (decide ((97 : Int) ≤ (c.toNat : Int)) && decide ((c.toNat : Int) ≤ 122) || decide ((65 : Int) ≤ (c.toNat : Int)) && decide ((c.toNat : Int) ≤ 90)) := by
    unfold isLet
    congr 1 <;> congr 1 <;> exact decide_eq_decide.2 (by omega)
  rw [hb]
  generalize (c.toNat : Int) = x
  clear hb
  have key : ∀ v : Bool, (decide ((97 : Int) ≤ x) && decide (x ≤ 122) || decide ((65 : Int) ≤ x) && decide (x ≤ 90)) = v → Calls Tryz.prog 90 #[.int .u8 x] w fun e w' => e = .returned (.bool v) ∧ w' = w := by
    intro v hv
    go_enter Tryz.func90, Tryz.ntmps90
    by_cases h1 : (97 : Int) ≤ x <;> by_cases h2 : x ≤ 122 <;> by_cases h3 : (65 : Int) ≤ x <;> by_cases h4 : x ≤ 90 <;> simp only [h1, h2, h3, h4, decide_true, decide_false, Bool.and_self, Bool.or_false, Bool.and_false, Bool.and_true, Bool.false_and, Bool.or_self, Bool.true_or, Bool.or_true, Bool.false_or] at hv <;> subst hv <;> first | omega | (go_wp2_with fail; go_ret; exact ⟨rfl, rfl⟩)
  exact key _ rfl
set_option maxRecDepth 20000 in set_option maxHeartbeats 400000 in
theorem digit_m (c : UInt8) (w : World) : Calls Tryz.prog 91 #[.int .u8 (c.toNat : Int)] w fun e w' => e = .returned (.bool (isDig c)) ∧ w' = w := by
  have hb : isDig c = (decide ((48 : Int) ≤ (c.toNat : Int)) && decide ((c.toNat : Int) ≤ 57)) := by
    unfold isDig
    congr 1 <;> exact decide_eq_decide.2 (by omega)
  rw [hb]
  generalize (c.toNat : Int) = x
  clear hb
  go_enter Tryz.func91, Tryz.ntmps91
  by_cases h1 : (48 : Int) ≤ x
  · by_cases h2 : x ≤ 57
    · go_wp2_with fail
      go_ret
      exact ⟨by simp [h1, h2], rfl⟩
    · go_wp2_with fail
      go_ret
      exact ⟨by simp [h1, h2], rfl⟩
  · go_wp2_with fail
    go_ret
    exact ⟨by rw [decide_eq_false (show ¬ (48 : Int) ≤ x by omega)]; rfl, rfl⟩
set_option maxRecDepth 20000 in set_option maxHeartbeats 400000 in
theorem hex_m (c : UInt8) (w : World) : Calls Tryz.prog 113 #[.int .u8 (c.toNat : Int)] w fun e w' => e = .returned (.int .i64 (hexV c)) ∧ w' = w := by
  have D := Lib.hid (fun w => digit_m c w)
  have hd := c.toNat_lt
  obtain ⟨v, hv⟩ : ∃ v, isDig c = v := ⟨_, rfl⟩
  rw [hv] at D
  have hv' : v = true ↔ (48 ≤ c.toNat ∧ c.toNat ≤ 57) := by rw [← hv]; unfold isDig; simp
  have hh := hexV.eq_1 c
  obtain ⟨x, hx⟩ : ∃ x : Nat, c.toNat = x := ⟨_, rfl⟩
  rw [hx] at hv' hd hh D ⊢
  obtain ⟨y, hy⟩ : ∃ y, hexV c = y := ⟨_, rfl⟩
  rw [hy] at hh ⊢
  clear hv hx hy
  have k1 : x ≤ 255 := by omega
  clear hd
  cases v
  · have hn : ¬ (48 ≤ x ∧ x ≤ 57) := fun h => by simpa using hv'.2 h
    rw [if_neg hn] at hh
    clear hv'
    by_cases h1 : 97 ≤ x ∧ x ≤ 102
    · rw [if_pos h1] at hh
      have l1 : (97 : Int) ≤ (x : Int) := by omega
      have l2 : (x : Int) ≤ 102 := by omega
      have n1 : IntKind.u8.wrap ((x : Int) - 97) = (x : Int) - 97 := IntWalk.u8_in _ (by omega)
      have n2 : IntKind.i64.wrap ((x : Int) - 97) = (x : Int) - 97 := IntWalk.i64_in _ (by omega)
      have n3 : IntKind.i64.wrap ((x : Int) - 97 + 10) = (x : Int) - 97 + 10 := IntWalk.i64_in _ (by omega)
      have hr : Hid (y = (x : Int) - 97 + 10) := by unfold Hid; omega
      clear hh h1 hn
      go_enter Tryz.func113, Tryz.ntmps113
      go_wp2_with fail
      go_at_call 91
      (with_reducible refine (D.out _).mono ?_)
      rintro e1 w1 ⟨rfl, rfl⟩
      go_wp2_with fail
      go_ret
      rw [hr.out]
      exact ⟨rfl, rfl⟩
    · rw [if_neg h1] at hh
      by_cases h2 : 65 ≤ x ∧ x ≤ 70
      · rw [if_pos h2] at hh
        have l1 : ¬ (97 : Int) ≤ (x : Int) := by omega
        have l2 : (65 : Int) ≤ (x : Int) := by omega
        have l3 : (x : Int) ≤ 70 := by omega
        have n1 : IntKind.u8.wrap ((x : Int) - 65) = (x : Int) - 65 := IntWalk.u8_in _ (by omega)
        have n2 : IntKind.i64.wrap ((x : Int) - 65) = (x : Int) - 65 := IntWalk.i64_in _ (by omega)
        have n3 : IntKind.i64.wrap ((x : Int) - 65 + 10) = (x : Int) - 65 + 10 := IntWalk.i64_in _ (by omega)
        have hr : Hid (y = (x : Int) - 65 + 10) := by unfold Hid; omega
        clear hh h1 h2 hn
        go_enter Tryz.func113, Tryz.ntmps113
        go_wp2_with fail
        go_at_call 91
        (with_reducible refine (D.out _).mono ?_)
        rintro e1 w1 ⟨rfl, rfl⟩
        go_wp2_with fail
        go_ret
        rw [hr.out]
        exact ⟨rfl, rfl⟩
      · rw [if_neg h2] at hh
        have hr : Hid (y = -1) := hh
        have hc : (¬ (97 : Int) ≤ (x : Int) ∧ ¬ (65 : Int) ≤ (x : Int)) ∨ (¬ (97 : Int) ≤ (x : Int) ∧ (65 : Int) ≤ (x : Int) ∧ ¬ (x : Int) ≤ 70) ∨ ((97 : Int) ≤ (x : Int) ∧ ¬ (x : Int) ≤ 102 ∧ (65 : Int) ≤ (x : Int) ∧ ¬ (x : Int) ≤ 70) := by omega
        clear hh h1 h2 hn
        rcases hc with ⟨l1, l2⟩ | ⟨l1, l2, l3⟩ | ⟨l1, l2, l3, l4⟩ <;>
        · go_enter Tryz.func113, Tryz.ntmps113
          go_wp2_with fail
          go_at_call 91
          (with_reducible refine (D.out _).mono ?_)
          rintro e1 w1 ⟨rfl, rfl⟩
          go_wp2_with fail
          go_ret
          rw [hr.out]
          exact ⟨rfl, rfl⟩
  · have h1 := hv'.1 rfl
    rw [if_pos h1] at hh
    have n1 : IntKind.u8.wrap ((x : Int) - 48) = (x : Int) - 48 := IntWalk.u8_in _ (by omega)
    have n2 : IntKind.i64.wrap ((x : Int) - 48) = (x : Int) - 48 := IntWalk.i64_in _ (by omega)
    have hr : Hid (y = (x : Int) - 48) := hh
    clear hh h1 hv'
    go_enter Tryz.func113, Tryz.ntmps113
    go_wp2_with fail
    go_at_call 91
    (with_reducible refine (D.out _).mono ?_)
    rintro e1 w1 ⟨rfl, rfl⟩
    go_wp2_with fail
    go_ret
    rw [hr.out]
    exact ⟨rfl, rfl⟩
set_option maxRecDepth 20000 in set_option maxHeartbeats 2000000 in
theorem place_m (h : Bx w b (mC s i lv e tb)) (hs : s.size ≤ 100000) (k : Nat) (hk : k ≤ s.size) :
    Calls Tryz.prog 54 #[.pointer (some ⟨b, 0, none⟩), .int .i64 (k : Int)] w fun e' w' => e' = .returned (.tuple #[.int .i64 (lnc s.data.toList k).1, .int .i64 (lnc s.data.toList k).2]) ∧ w' = w := by
  obtain ⟨c0, c1, c2, c3, c4⟩ := h.c5
  have lt := h.lt
  clear h
  go_enter Tryz.func54, Tryz.ntmps54
  go_wp2_with fail
  have H0 : Hid (lc (s.data.toList.take 0) = (1, 1)) := rfl
  go_loopw [6, 7, 8] (fun pv qv jv wx => ∃ j p q : Nat, j ≤ k ∧ pv = .int .i64 (p : Int) ∧ qv = .int .i64 (q : Int) ∧ jv = .int .i64 (j : Int) ∧ Hid (lc (s.data.toList.take j) = (p, q)) ∧ w = wx) (fun _ _ jv _ => k - (intOf jv).toNat)
  case atStart => exact ⟨0, 1, 1, Nat.zero_le _, rfl, rfl, rfl, H0, rfl⟩
  case round =>
    clear H0
    obtain ⟨j, p, q, hj, rfl, rfl, rfl, HP, rfl⟩ := hrel
    by_cases hlt : j < k
    · have hlt1 : (j : Int) < (k : Int) := by omega
      have hlt2 : (j : Int) < (s.size : Int) := by omega
      have hjs : j < s.size := by omega
      have hbd := lc_bd (s.data.toList.take j)
      rw [HP.out, List.length_take] at hbd
      dsimp only at hbd
      have hst := lc_take (l := s.data.toList) (i := j) hjs
      rw [HP.out, nth_idx s hjs] at hst
      obtain ⟨c, hc⟩ : ∃ c, s[j] = c := ⟨_, rfl⟩
      rw [hc] at hst
      have hw2 : IntKind.i64.wrap ((j : Int) + 1) = ((j + 1 : Nat) : Int) := by rw [IntWalk.i64_in _ (by omega)]; omega
      have hw3 : IntKind.i64.wrap ((q : Int) + 1) = ((q + 1 : Nat) : Int) := by rw [IntWalk.i64_in _ (by omega)]; omega
      have hw4 : IntKind.i64.wrap ((p : Int) + 1) = ((p + 1 : Nat) : Int) := by rw [IntWalk.i64_in _ (by omega)]; omega
      unfold lcF at hst
      clear hbd HP
      by_cases h10 : c.toNat = 10
      · have k10 : ((c.toNat : Int) == 10) = true := by rw [h10]; rfl
        rw [if_pos h10] at hst
        replace hst := Lib.hid hst
        clear h10
        go_wp2_with fail
        go_roundw
        case rel => exact ⟨j + 1, p + 1, 1, by omega, by go_num, rfl, by go_num, hst, trivial⟩
        case measure => simp [intOf]; omega
      · have k10 : ((c.toNat : Int) == 10) = false := by simp; omega
        rw [if_neg h10] at hst
        replace hst := Lib.hid hst
        clear h10
        go_wp2_with fail
        go_roundw
        case rel => exact ⟨j + 1, p, q + 1, by omega, rfl, by go_num, by go_num, hst, trivial⟩
        case measure => simp [intOf]; omega
    · obtain rfl : j = k := by omega
      have HR : Hid (lnc s.data.toList j = ((p : Int), (q : Int))) := by unfold Hid lnc; rw [HP.out]
      go_wp2_with fail
      refine bodyPost_ret (v := .tuple #[.int .i64 (p : Int), .int .i64 (q : Int)]) (by simp only [results, Tryz.results54]; go_simp) rfl ⟨?_, rfl⟩
      rw [HR.out]
end
end Go.Proofs.YtmchiibbodllaaaGreatDoor

namespace Go.Proofs.YtmchiibbodllaaaGreatDoor
set_option linter.unusedVariables false
set_option linter.unnecessarySimpa false
set_option linter.unusedSimpArgs false
open Go.RowKit

section
variable {w : World} {b : Nat} {s : ByteArray} {i : Nat} {lv : Value} {e tb : Int}
set_option maxRecDepth 20000 in set_option maxHeartbeats 4000000 in
theorem blanks_m (h : Bx w b (mC s i lv e tb)) (hs : s.size ≤ 100000) (hi : i ≤ s.size) :
    Calls Tryz.prog 53 #[.pointer (some ⟨b, 0, none⟩)] w fun e1 w' => e1 = .returned (.tuple #[]) ∧ Bx w' b (mC s ((i + blk false (s.data.toList.drop i) : Nat) : Int) lv e tb) ∧ Chg b b w w' := by
  have H := Lib.hid h
  have hbd := blk_bd false s.data.toList (i := i) hi
  obtain ⟨n, hn⟩ : ∃ n, i + blk false (s.data.toList.drop i) = n := ⟨_, rfl⟩
  rw [hn] at hbd ⊢
  have hns : n ≤ s.size := hbd
  have hin : i ≤ n := by omega
  replace hn := Lib.hid hn
  clear hbd h
  go_enter Tryz.func53, Tryz.ntmps53
  go_wp2_with fail
  go_loopw [] (fun wx => ∃ j : Nat, i ≤ j ∧ j ≤ n ∧ Hid (j + blk false (s.data.toList.drop j) = n) ∧ Hid (Bx wx b (mC s j lv e tb)) ∧ Hid (Chg b b w wx)) (fun wx => n + 1 - (rdI wx ⟨b, 1, none⟩).toNat)
  case atStart => exact ⟨i, Nat.le_refl _, hin, hn, H, Lib.hid (Chg.refl _ _ _)⟩
  case round =>
    obtain ⟨j, hij, hjn, hj, HB, HC⟩ := hrel
    have hm0 := Lib.hid (rdI_of HB.out.c5.2.1)
    (obtain ⟨c0, c1, c2, c3, c4⟩ := HB.out.c5; obtain ⟨f0, f1, f2, f3, f4⟩ := HB.out.f5; have lt := HB.out.lt)
    by_cases hlt : j < s.size
    · have hlt2 : (j : Int) < (s.size : Int) := by omega
      have hnt := nth_idx s hlt
      obtain ⟨c, hc⟩ : ∃ c, s[j] = c := ⟨_, rfl⟩
      rw [hc] at hnt
      have hx1 : IntKind.i64.wrap ((j : Int) + 1) = ((j + 1 : Nat) : Int) := by rw [IntWalk.i64_in _ (by omega)]; simp
      have hyes := fun hb => blk_yes (l := s.data.toList) (i := j) hlt hb
      have hsl := fun h0 h1 => blk_slash (l := s.data.toList) (i := j) hlt h0 h1
      have hno := fun hb h0 => blk_no (l := s.data.toList) (i := j) hb h0
      rw [hnt] at hyes hsl hno
      go_wp2_with fail
      refine wp_region_ord [(0, 1), (1, 1), (2, 1), (3, 1), (4, 1), (5, 1), (6, 1), (7, 1), (8, 1), (9, 1)] [] 5 (by kernel_rfl) (by decide +kernel) ?_
      simp only [pickO, List.append_eq, List.cons_append, List.nil_append, List.getElem?_cons_succ, List.getElem?_cons_zero]
      intro w0 hG
      (repeat ((first | (with_reducible refine ord_q1 ?_) | (with_reducible refine ord_q0 ?_)); intro K hK; first | (refine Or.inr ⟨?_, ?_⟩; (focus (go_simp; first | done | (simp [undef]; done))); go_simp; (with_reducible refine hK _ ?_); clear hK K) | (refine Or.inl ⟨?_, ?_⟩; (focus (go_simp; done)); apply Exists.intro; refine And.intro ?_ ?_; (focus (first | (intro wq hq; obtain ⟨hcq, hfq⟩ := G.old hq; go_simp; (first | done | exact rfl); done) | (intro wq; go_simp; (first | done | exact rfl); done))); go_simp; (with_reducible refine hK _ ?_); clear hK K) | fail))
      (with_reducible refine ord_nil ?_)
      have hbx := hG.b; replace HB := Lib.hid (HB.out.grow hbx); replace HC := Lib.hid (HC.out.grow hbx); clear hG hbx; clear c0 c1 c2 c3 c4 f0 f1 f2 f3 f4 lt; (obtain ⟨c0, c1, c2, c3, c4⟩ := HB.out.c5; obtain ⟨f0, f1, f2, f3, f4⟩ := HB.out.f5; have lt := HB.out.lt)
      by_cases hbl : isBl c = true
      · have hn1 := Lib.hid (hyes hbl)
        have hj1 : Hid (j + 1 + blk false (s.data.toList.drop (j + 1)) = n) := by
          have h1 := hj.out
          have h2 := hn1.out
          unfold Hid
          omega
        have hle : j + 1 ≤ n := by have := hj1.out; omega
        have hcs : ((c.toNat : Int) == 32) = true ∨ (((c.toNat : Int) == 32) = false ∧ ((c.toNat : Int) == 9) = true) ∨ (((c.toNat : Int) == 32) = false ∧ ((c.toNat : Int) == 9) = false ∧ ((c.toNat : Int) == 10) = true) := by
          unfold isBl at hbl
          simp only [Bool.or_eq_true, decide_eq_true_eq] at hbl
          simp only [beq_iff_eq, beq_eq_false_iff_ne, ne_eq]
          omega
        clear hyes hsl hno hbl hnt
        rcases hcs with h1 | ⟨h0, h1⟩ | ⟨h0, h01, h1⟩ <;>
        · go_wp2_with fail
          refine wp_region_ord [(0, 1), (1, 1), (2, 1), (3, 1), (4, 1), (5, 1), (6, 1), (7, 1), (8, 1), (9, 1), (10, 1), (11, 1), (12, 1), (13, 1), (14, 1), (15, 1), (16, 1), (17, 1), (18, 1), (19, 1), (20, 1), (21, 1), (22, 1), (23, 1), (24, 1), (25, 1), (26, 1), (27, 1), (28, 1), (29, 1), (30, 1), (31, 1), (32, 1), (33, 1), (34, 1)] [] 5 (by kernel_rfl) (by decide +kernel) ?_
          simp only [pickO, List.append_eq, List.cons_append, List.nil_append, List.getElem?_cons_succ, List.getElem?_cons_zero]
          intro w0 hG
          (repeat ((first | (with_reducible refine ord_q1 ?_) | (with_reducible refine ord_q0 ?_)); intro K hK; first | (refine Or.inr ⟨?_, ?_⟩; (focus (go_simp; first | done | (simp [undef]; done))); go_simp; (with_reducible refine hK _ ?_); clear hK K) | (refine Or.inl ⟨?_, ?_⟩; (focus (go_simp; done)); apply Exists.intro; refine And.intro ?_ ?_; (focus (first | (intro wq hq; obtain ⟨hcq, hfq⟩ := G.old hq; go_simp; (first | done | exact rfl); done) | (intro wq; go_simp; (first | done | exact rfl); done))); go_simp; (with_reducible refine hK _ ?_); clear hK K) | fail))
          (with_reducible refine ord_nil ?_)
          have hbx := hG.b; replace HB := Lib.hid (HB.out.grow hbx); replace HC := Lib.hid (HC.out.grow hbx); clear hG hbx; clear c0 c1 c2 c3 c4 f0 f1 f2 f3 f4 lt; (obtain ⟨c0, c1, c2, c3, c4⟩ := HB.out.c5; obtain ⟨f0, f1, f2, f3, f4⟩ := HB.out.f5; have lt := HB.out.lt)
          go_wp2_with fail
          go_roundw
          case rel => exact ⟨j + 1, by omega, hle, hj1, Lib.hid (HB.out.put rfl), Lib.hid (HC.out.set1 _ _)⟩
          case measure =>
            rw [rdI_of (Bx.put (i := 1) (v := .int .i64 ((j : Int) + 1)) HB.out rfl).c5.2.1, hm0.out]
            omega
      · have hbf : isBl c = false := by simpa using hbl
        have hcs : ((c.toNat : Int) == 32) = false ∧ ((c.toNat : Int) == 9) = false ∧ ((c.toNat : Int) == 10) = false := by
          unfold isBl at hbf
          simp only [Bool.or_eq_false_iff, decide_eq_false_iff_not] at hbf
          simp only [beq_eq_false_iff_ne, ne_eq]
          omega
        obtain ⟨h32, h9, h10⟩ := hcs
        have hend : ¬ (c.toNat = 47 ∧ (nth s.data.toList (j + 1)).toNat = 47) → Hid (j = n) := fun k => by
          have h1 := hno hbf k
          have h2 := hj.out
          unfold Hid
          omega
        have hgo : c.toNat = 47 → (nth s.data.toList (j + 1)).toNat = 47 → Hid (j + spn notNL (s.data.toList.drop j) + blk false (s.data.toList.drop (j + spn notNL (s.data.toList.drop j))) = n ∧ 1 ≤ spn notNL (s.data.toList.drop j)) := fun k0 k1 => by
          have h1 := hsl k0 k1
          have h2 := hj.out
          have h3 : 1 ≤ spn notNL (s.data.toList.drop j) := spn_pos hlt (by rw [hnt]; unfold notNL; simp [k0])
          unfold Hid
          omega
        have BA := Lib.hid (fun wx hb => here_a (w := wx) (b := b) (s := s) (i := (j : Int)) (lv := lv) (e := e) (tb := tb) hb hs ((j : Int) + 1) (j + 1) (by omega) (by omega))
        obtain ⟨d, hd⟩ : ∃ d, nth s.data.toList (j + 1) = d := ⟨_, rfl⟩
        rw [hd] at hend hgo BA
        have hk : (d.toNat = 47) ↔ (((d.toNat : Int) == 47) = true) := by simp only [beq_iff_eq]; omega
        have hk0 : (c.toNat = 47) ↔ (((c.toNat : Int) == 47) = true) := by simp only [beq_iff_eq]; omega
        rw [hk0] at hend hgo
        rw [hk] at hend hgo
        clear hk hk0 hyes hsl hno hbl hnt hbf hd
        go_wp2_with fail
        refine wp_region_ord [(0, 1), (1, 1), (2, 1), (3, 1), (4, 1), (5, 1), (6, 1), (7, 1), (8, 1), (9, 1), (10, 1), (11, 1), (12, 1), (13, 1), (14, 1), (15, 1), (16, 1), (17, 1), (18, 1), (19, 1), (20, 1), (21, 1), (22, 1), (23, 1), (24, 1), (25, 1), (26, 1), (27, 1), (28, 1), (29, 1), (30, 1), (31, 1), (32, 1), (33, 1), (34, 1)] [] 5 (by kernel_rfl) (by decide +kernel) ?_
        simp only [pickO, List.append_eq, List.cons_append, List.nil_append, List.getElem?_cons_succ, List.getElem?_cons_zero]
        intro w0 hG
        (repeat ((first | (with_reducible refine ord_q1 ?_) | (with_reducible refine ord_q0 ?_)); intro K hK; first | (refine Or.inr ⟨?_, ?_⟩; (focus (go_simp; first | done | (simp [undef]; done))); go_simp; (with_reducible refine hK _ ?_); clear hK K) | (refine Or.inl ⟨?_, ?_⟩; (focus (go_simp; done)); apply Exists.intro; refine And.intro ?_ ?_; (focus (first | (intro wq hq; obtain ⟨hcq, hfq⟩ := G.old hq; go_simp; (first | done | exact rfl); done) | (intro wq; go_simp; (first | done | exact rfl); done))); go_simp; (with_reducible refine hK _ ?_); clear hK K) | fail))
        (with_reducible refine ord_nil ?_)
        have hbx := hG.b; replace HB := Lib.hid (HB.out.grow hbx); replace HC := Lib.hid (HC.out.grow hbx); clear hG hbx; clear c0 c1 c2 c3 c4 f0 f1 f2 f3 f4 lt; (obtain ⟨c0, c1, c2, c3, c4⟩ := HB.out.c5; obtain ⟨f0, f1, f2, f3, f4⟩ := HB.out.f5; have lt := HB.out.lt)
        rcases h47 : ((c.toNat : Int) == 47) with _ | _
        · have hjn2 := hend (by rw [h47]; simp)
          have hjn3 : j = n := hjn2.out
          subst hjn3
          clear hend hgo
          go_wp2_with fail
          refine wp_region_ord [(0, 1), (1, 1), (2, 1), (3, 1), (4, 1), (5, 1), (6, 1), (7, 1), (8, 1), (9, 1), (10, 1), (11, 1), (12, 1), (13, 1), (14, 1), (15, 1), (16, 1), (17, 2), (18, 1), (19, 1), (20, 1)] [] 5 (by kernel_rfl) (by decide +kernel) ?_
          simp only [pickO, List.append_eq, List.cons_append, List.nil_append, List.getElem?_cons_succ, List.getElem?_cons_zero]
          intro w0 hG
          (repeat ((first | (with_reducible refine ord_q1 ?_) | (with_reducible refine ord_q0 ?_)); intro K hK; first | (refine Or.inr ⟨?_, ?_⟩; (focus (go_simp; first | done | (simp [undef]; done))); go_simp; (with_reducible refine hK _ ?_); clear hK K) | (refine Or.inl ⟨?_, ?_⟩; (focus (go_simp; done)); apply Exists.intro; refine And.intro ?_ ?_; (focus (first | (intro wq hq; obtain ⟨hcq, hfq⟩ := G.old hq; go_simp; (first | done | exact rfl); done) | (intro wq; go_simp; (first | done | exact rfl); done))); go_simp; (with_reducible refine hK _ ?_); clear hK K) | fail))
          (with_reducible refine ord_skip ?_ hG ?_); (focus (go_simp; first | done | (simp [undef]; done))); intro K hK; go_simp; (with_reducible refine hK _ ?_); clear hK K; (repeat ((first | (with_reducible refine ord_q1 ?_) | (with_reducible refine ord_q0 ?_)); intro K hK; first | (refine Or.inr ⟨?_, ?_⟩; (focus (go_simp; first | done | (simp [undef]; done))); go_simp; (with_reducible refine hK _ ?_); clear hK K) | (refine Or.inl ⟨?_, ?_⟩; (focus (go_simp; done)); apply Exists.intro; refine And.intro ?_ ?_; (focus (first | (intro wq hq; obtain ⟨hcq, hfq⟩ := G.old hq; go_simp; (first | done | exact rfl); done) | (intro wq; go_simp; (first | done | exact rfl); done))); go_simp; (with_reducible refine hK _ ?_); clear hK K) | fail))
          (with_reducible refine ord_nil ?_)
          have hbx := hG.b; replace HB := Lib.hid (HB.out.grow hbx); replace HC := Lib.hid (HC.out.grow hbx); clear hG hbx; clear c0 c1 c2 c3 c4 f0 f1 f2 f3 f4 lt; (obtain ⟨c0, c1, c2, c3, c4⟩ := HB.out.c5; obtain ⟨f0, f1, f2, f3, f4⟩ := HB.out.f5; have lt := HB.out.lt)
          go_wp2_with fail
          (first | go_end0 | refine bodyPost_ret (results_none rfl _ _ _) rfl ?_)
          exact ⟨rfl, HB.out, HC.out⟩
        · go_wp2_with fail
          refine wp_region_ord [(0, 1), (1, 1), (2, 1), (3, 1), (4, 1), (5, 1), (6, 1), (7, 1), (8, 1), (9, 1), (10, 1), (11, 1), (12, 1), (13, 1), (14, 1), (15, 1), (16, 1), (17, 2), (18, 1), (19, 1), (20, 1)] [] 5 (by kernel_rfl) (by decide +kernel) ?_
          simp only [pickO, List.append_eq, List.cons_append, List.nil_append, List.getElem?_cons_succ, List.getElem?_cons_zero]
          intro w0 hG
          (repeat ((first | (with_reducible refine ord_q1 ?_) | (with_reducible refine ord_q0 ?_)); intro K hK; first | (refine Or.inr ⟨?_, ?_⟩; (focus (go_simp; first | done | (simp [undef]; done))); go_simp; (with_reducible refine hK _ ?_); clear hK K) | (refine Or.inl ⟨?_, ?_⟩; (focus (go_simp; done)); apply Exists.intro; refine And.intro ?_ ?_; (focus (first | (intro wq hq; obtain ⟨hcq, hfq⟩ := G.old hq; go_simp; (first | done | exact rfl); done) | (intro wq; go_simp; (first | done | exact rfl); done))); go_simp; (with_reducible refine hK _ ?_); clear hK K) | fail))
          (with_reducible refine ord_run ?_ hG)
          intro K hK
          go_simp
          go_at_call 86; (with_reducible refine (BA.out _ (HB.out.grow hG.b)).mono ?_); rintro e1 w3 ⟨rfl, rfl⟩; have hb := G.refl w3
          replace hG := Grew.trans hG hb
          (try dsimp only)
          (with_reducible refine hK _ _ hG ?_)
          clear hK K
          (repeat ((first | (with_reducible refine ord_q1 ?_) | (with_reducible refine ord_q0 ?_)); intro K hK; first | (refine Or.inr ⟨?_, ?_⟩; (focus (go_simp; first | done | (simp [undef]; done))); go_simp; (with_reducible refine hK _ ?_); clear hK K) | (refine Or.inl ⟨?_, ?_⟩; (focus (go_simp; done)); apply Exists.intro; refine And.intro ?_ ?_; (focus (first | (intro wq hq; obtain ⟨hcq, hfq⟩ := G.old hq; go_simp; (first | done | exact rfl); done) | (intro wq; go_simp; (first | done | exact rfl); done))); go_simp; (with_reducible refine hK _ ?_); clear hK K) | fail))
          (with_reducible refine ord_nil ?_)
          have hbx := hG.b; replace HB := Lib.hid (HB.out.grow hbx); replace HC := Lib.hid (HC.out.grow hbx); clear hG hbx; clear c0 c1 c2 c3 c4 f0 f1 f2 f3 f4 lt; (obtain ⟨c0, c1, c2, c3, c4⟩ := HB.out.c5; obtain ⟨f0, f1, f2, f3, f4⟩ := HB.out.f5; have lt := HB.out.lt)
          clear hb
          rcases h47d : ((d.toNat : Int) == 47) with _ | _
          · have hjn2 := hend (by rw [h47d]; simp)
            have hjn3 : j = n := hjn2.out
            subst hjn3
            clear hend hgo
            go_wp2_with fail
            (first | go_end0 | refine bodyPost_ret (results_none rfl _ _ _) rfl ?_)
            exact ⟨rfl, HB.out, HC.out⟩
          · have hgo2 := hgo h47 h47d
            clear hend hgo BA hx1 hc
            obtain ⟨m, hm⟩ : ∃ m, j + spn notNL (s.data.toList.drop j) = m := ⟨_, rfl⟩
            have hmle := spn_bd notNL s.data.toList (i := j) (Nat.le_of_lt hlt)
            rw [hm] at hgo2 hmle
            have hmle2 : m ≤ s.size := hmle
            have hm1 : j + 1 ≤ m := by have := hgo2.out.2; omega
            have hle : m ≤ n := by have := hgo2.out.1; omega
            have hj1 : Hid (m + blk false (s.data.toList.drop m) = n) := hgo2.out.1
            replace hm := Lib.hid hm
            clear hgo2 hmle hlt hlt2
            go_wp2_with fail
            clear c0 c1 c2 c3 c4 f0 f1 f2 f3 f4 lt
            go_loopw [] (fun wx => ∃ q : Nat, j ≤ q ∧ q ≤ m ∧ Hid (q + spn notNL (s.data.toList.drop q) = m) ∧ Hid (Bx wx b (mC s q lv e tb)) ∧ Hid (Chg b b w wx)) (fun wx => m + 1 - (rdI wx ⟨b, 1, none⟩).toNat)
            case atStart => exact ⟨j, Nat.le_refl _, by omega, hm, HB, HC⟩
            case round =>
              clear HB HC
              obtain ⟨q, hjq, hqm, hq, HB, HC⟩ := hrel
              have hmq := Lib.hid (rdI_of HB.out.c5.2.1)
              (obtain ⟨c0, c1, c2, c3, c4⟩ := HB.out.c5; obtain ⟨f0, f1, f2, f3, f4⟩ := HB.out.f5; have lt := HB.out.lt)
              by_cases hlt : q < s.size
              · have hlt2 : (q : Int) < (s.size : Int) := by omega
                have hx1 : IntKind.i64.wrap ((q : Int) + 1) = ((q + 1 : Nat) : Int) := by rw [IntWalk.i64_in _ (by omega)]; simp
                have hnq := nth_idx s hlt
                obtain ⟨c9, hc9⟩ : ∃ c, s[q] = c := ⟨_, rfl⟩
                rw [hc9] at hnq
                have hqq := hq.out
                by_cases hq10 : c9.toNat = 10
                · have k10 : ((c9.toNat : Int) != 10) = false := by simp [hq10]
                  have hqe : q = m := by rw [spn_no (by rw [hnq]; unfold notNL; simp [hq10])] at hqq; omega
                  subst hqe
                  clear hqq hq10 hnq
                  go_wp2_with fail
                  refine wp_region_ord [(0, 1), (1, 1), (2, 1), (3, 1), (4, 1), (5, 1), (6, 1), (7, 1), (8, 1), (9, 1), (10, 1), (11, 1), (12, 1), (13, 1), (14, 1), (15, 1), (16, 1), (17, 1), (18, 1), (19, 1), (20, 1), (21, 1)] [] 5 (by kernel_rfl) (by decide +kernel) ?_
                  simp only [pickO, List.append_eq, List.cons_append, List.nil_append, List.getElem?_cons_succ, List.getElem?_cons_zero]
                  intro w0 hG
                  (repeat ((first | (with_reducible refine ord_q1 ?_) | (with_reducible refine ord_q0 ?_)); intro K hK; first | (refine Or.inr ⟨?_, ?_⟩; (focus (go_simp; first | done | (simp [undef]; done))); go_simp; (with_reducible refine hK _ ?_); clear hK K) | (refine Or.inl ⟨?_, ?_⟩; (focus (go_simp; done)); apply Exists.intro; refine And.intro ?_ ?_; (focus (first | (intro wq hq; obtain ⟨hcq, hfq⟩ := G.old hq; go_simp; (first | done | exact rfl); done) | (intro wq; go_simp; (first | done | exact rfl); done))); go_simp; (with_reducible refine hK _ ?_); clear hK K) | fail))
                  (with_reducible refine ord_nil ?_)
                  have hbx := hG.b; replace HB := Lib.hid (HB.out.grow hbx); replace HC := Lib.hid (HC.out.grow hbx); clear hG hbx; clear c0 c1 c2 c3 c4 f0 f1 f2 f3 f4 lt; (obtain ⟨c0, c1, c2, c3, c4⟩ := HB.out.c5; obtain ⟨f0, f1, f2, f3, f4⟩ := HB.out.f5; have lt := HB.out.lt)
                  go_wp2_with fail
                  go_roundw
                  case rel => exact ⟨q, by omega, hle, hj1, HB, HC⟩
                  case measure =>
                    rw [rdI_of HB.out.c5.2.1, hm0.out]
                    omega
                · have k10 : ((c9.toNat : Int) != 10) = true := by simp; omega
                  have hq1 : Hid (q + 1 + spn notNL (s.data.toList.drop (q + 1)) = m) := by rw [spn_yes hlt (by rw [hnq]; unfold notNL; simp [hq10])] at hqq; unfold Hid; omega
                  have hq2 : q + 1 ≤ m := by have := hq1.out; omega
                  clear hqq hq10 hnq
                  go_wp2_with fail
                  refine wp_region_ord [(0, 1), (1, 1), (2, 1), (3, 1), (4, 1), (5, 1), (6, 1), (7, 1), (8, 1), (9, 1), (10, 1), (11, 1), (12, 1), (13, 1), (14, 1), (15, 1), (16, 1), (17, 1), (18, 1), (19, 1), (20, 1), (21, 1)] [] 5 (by kernel_rfl) (by decide +kernel) ?_
                  simp only [pickO, List.append_eq, List.cons_append, List.nil_append, List.getElem?_cons_succ, List.getElem?_cons_zero]
                  intro w0 hG
                  (repeat ((first | (with_reducible refine ord_q1 ?_) | (with_reducible refine ord_q0 ?_)); intro K hK; first | (refine Or.inr ⟨?_, ?_⟩; (focus (go_simp; first | done | (simp [undef]; done))); go_simp; (with_reducible refine hK _ ?_); clear hK K) | (refine Or.inl ⟨?_, ?_⟩; (focus (go_simp; done)); apply Exists.intro; refine And.intro ?_ ?_; (focus (first | (intro wq hq; obtain ⟨hcq, hfq⟩ := G.old hq; go_simp; (first | done | exact rfl); done) | (intro wq; go_simp; (first | done | exact rfl); done))); go_simp; (with_reducible refine hK _ ?_); clear hK K) | fail))
                  (with_reducible refine ord_nil ?_)
                  have hbx := hG.b; replace HB := Lib.hid (HB.out.grow hbx); replace HC := Lib.hid (HC.out.grow hbx); clear hG hbx; clear c0 c1 c2 c3 c4 f0 f1 f2 f3 f4 lt; (obtain ⟨c0, c1, c2, c3, c4⟩ := HB.out.c5; obtain ⟨f0, f1, f2, f3, f4⟩ := HB.out.f5; have lt := HB.out.lt)
                  go_wp2_with fail
                  go_roundw
                  case rel => exact ⟨q + 1, by omega, hq2, hq1, Lib.hid (HB.out.put rfl), Lib.hid (HC.out.set1 _ _)⟩
                  case measure =>
                    rw [rdI_of (Bx.put (i := 1) (v := .int .i64 ((q : Int) + 1)) HB.out rfl).c5.2.1, hmq.out]
                    omega
              · have hqe : q = m := by
                  have hqq := hq.out
                  rw [spn_end _ (show s.data.toList.length ≤ q by rw [Array.length_toList]; exact Nat.le_of_not_lt hlt)] at hqq
                  omega
                subst hqe
                have hlt2 : ¬ (q : Int) < (s.size : Int) := by omega
                go_wp2_with fail
                refine wp_region_ord [(0, 1), (1, 1), (2, 1), (3, 1), (4, 1), (5, 1), (6, 1), (7, 1), (8, 1), (9, 1), (10, 1), (11, 1), (12, 1), (13, 1), (14, 1), (15, 1), (16, 1), (17, 1), (18, 1), (19, 1), (20, 1), (21, 1)] [] 5 (by kernel_rfl) (by decide +kernel) ?_
                simp only [pickO, List.append_eq, List.cons_append, List.nil_append, List.getElem?_cons_succ, List.getElem?_cons_zero]
                intro w0 hG
                (repeat ((first | (with_reducible refine ord_q1 ?_) | (with_reducible refine ord_q0 ?_)); intro K hK; first | (refine Or.inr ⟨?_, ?_⟩; (focus (go_simp; first | done | (simp [undef]; done))); go_simp; (with_reducible refine hK _ ?_); clear hK K) | (refine Or.inl ⟨?_, ?_⟩; (focus (go_simp; done)); apply Exists.intro; refine And.intro ?_ ?_; (focus (first | (intro wq hq; obtain ⟨hcq, hfq⟩ := G.old hq; go_simp; (first | done | exact rfl); done) | (intro wq; go_simp; (first | done | exact rfl); done))); go_simp; (with_reducible refine hK _ ?_); clear hK K) | fail))
                (with_reducible refine ord_nil ?_)
                have hbx := hG.b; replace HB := Lib.hid (HB.out.grow hbx); replace HC := Lib.hid (HC.out.grow hbx); clear hG hbx; clear c0 c1 c2 c3 c4 f0 f1 f2 f3 f4 lt; (obtain ⟨c0, c1, c2, c3, c4⟩ := HB.out.c5; obtain ⟨f0, f1, f2, f3, f4⟩ := HB.out.f5; have lt := HB.out.lt)
                go_wp2_with fail
                go_roundw
                case rel => exact ⟨q, by omega, hle, hj1, HB, HC⟩
                case measure =>
                  rw [rdI_of HB.out.c5.2.1, hm0.out]
                  omega
    · have hjs : j = n := by
        have := hj.out
        rw [blk_end (show s.data.toList.length ≤ j by rw [Array.length_toList]; exact Nat.le_of_not_lt hlt)] at this
        omega
      subst hjs
      have hlt2 : ¬ (j : Int) < (s.size : Int) := by omega
      go_wp2_with fail
      refine wp_region_ord [(0, 1), (1, 1), (2, 1), (3, 1), (4, 1), (5, 1), (6, 1), (7, 1), (8, 1), (9, 1)] [] 5 (by kernel_rfl) (by decide +kernel) ?_
      simp only [pickO, List.append_eq, List.cons_append, List.nil_append, List.getElem?_cons_succ, List.getElem?_cons_zero]
      intro w0 hG
      (repeat ((first | (with_reducible refine ord_q1 ?_) | (with_reducible refine ord_q0 ?_)); intro K hK; first | (refine Or.inr ⟨?_, ?_⟩; (focus (go_simp; first | done | (simp [undef]; done))); go_simp; (with_reducible refine hK _ ?_); clear hK K) | (refine Or.inl ⟨?_, ?_⟩; (focus (go_simp; done)); apply Exists.intro; refine And.intro ?_ ?_; (focus (first | (intro wq hq; obtain ⟨hcq, hfq⟩ := G.old hq; go_simp; (first | done | exact rfl); done) | (intro wq; go_simp; (first | done | exact rfl); done))); go_simp; (with_reducible refine hK _ ?_); clear hK K) | fail))
      (with_reducible refine ord_nil ?_)
      have hbx := hG.b; replace HB := Lib.hid (HB.out.grow hbx); replace HC := Lib.hid (HC.out.grow hbx); clear hG hbx; clear c0 c1 c2 c3 c4 f0 f1 f2 f3 f4 lt; (obtain ⟨c0, c1, c2, c3, c4⟩ := HB.out.c5; obtain ⟨f0, f1, f2, f3, f4⟩ := HB.out.f5; have lt := HB.out.lt)
      go_wp2_with fail
      (first | go_end0 | refine bodyPost_ret (results_none rfl _ _ _) rfl ?_)
      exact ⟨rfl, HB.out, HC.out⟩
end
end Go.Proofs.YtmchiibbodllaaaGreatDoor

namespace Go.Proofs.YtmchiibbodllaaaGreatDoor
set_option linter.unusedVariables false
set_option linter.unnecessarySimpa false
set_option linter.unusedSimpArgs false
open Go.RowKit

theorem Chg.grown {b r : Nat} {a w w' : World} {row : Option Nat} (h : Chg b r a w) (hg : w.grownBy w' row) (hr : ∀ k, row = some k → a.heap.size ≤ k) : Chg b r a w' :=
  ⟨Below.grown h.1 hg (Nat.zero_le _) (fun _ _ => Nat.zero_le _), h.2.grown hg (fun k hk => .inl (hr k hk))⟩
theorem Bx.grown {w w' : World} {B : Nat} {l : List Value} {row : Option Nat} (h : Bx w B l) (hg : w.grownBy w' row) (hr : row ≠ some B) : Bx w' B l := h.block hg.size (hg.block B h.lt (fun e => hr e.symm))
/-- What a reader of a value leaves. -/
def RetBd (w : World) (b : Nat) (s : ByteArray) (f : Nat) (lv : Value) (tb : Int) (x : Bd) (e : Ending) (w' : World) : Prop :=
  Chg b b w w' ∧ match x with
  | .ok n v => e = .returned (.string (B v)) ∧ Bx w' b (mC s ((f + n : Nat) : Int) lv 0 tb)
  | .bad o c => e = .returned (.string ⟨#[]⟩) ∧ Bx w' b (mC s ((f + o : Nat) : Int) lv c tb)
theorem RetBd.bad {w : World} {b : Nat} {s : ByteArray} {f : Nat} {lv : Value} {tb : Int} {X : Bd} {o p : Nat} {c : Int} {w' : World} (hX : X = .bad o c) (hp : f + o = p) (hc : Chg b b w w') (hb : Bx w' b (mC s (p : Int) lv c tb)) : RetBd w b s f lv tb X (.returned (.string ⟨#[]⟩)) w' := by
  subst hX hp
  exact ⟨hc, rfl, hb⟩
theorem RetBd.ok {w : World} {b : Nat} {s : ByteArray} {f : Nat} {lv : Value} {tb : Int} {X : Bd} {n p : Nat} {v : List UInt8} {w' : World} (hX : X = .ok n v) (hp : f + n = p) (hc : Chg b b w w') (hb : Bx w' b (mC s (p : Int) lv 0 tb)) : RetBd w b s f lv tb X (.returned (.string (B v))) w' := by
  subst hX hp
  exact ⟨hc, rfl, hb⟩
theorem conv_own {w : World} {base : Nat} {A : Option Addr} {n c : Nat} {l : List UInt8} (h : w.ownsRow base 5 1 (.slice A n c) n (u8s l)) (h0 : n = 0 → A = none ∧ c = 0) :
    (convert 63 9 (.slice A n c)).run Tryz.prog w = .ok (.string (B l)) w := by
  have hl : l.length = n := by have := h.1; unfold u8s at this; rw [List.length_map, Nat.mul_one] at this; exact this
  rcases n with _ | n
  · obtain ⟨rfl, rfl⟩ := h0 rfl
    have : l = [] := List.eq_nil_of_length_eq_zero hl
    subst this
    have CV0 : ∀ wz : World, (convert 63 9 (.slice none 0 0)).run Tryz.prog wz = .ok (.string (B [])) wz := fun wz => by kernel_rfl
    exact CV0 w
  · exact conv_back hl h
section
variable {w : World} {b f q0 : Nat} {s : ByteArray} {lv : Value} {tb : Int}
set_option maxRecDepth 20000 in set_option maxHeartbeats 8000000 in
theorem bytes_m (h : Bx w b (mC s ((f + q0 : Nat) : Int) lv 0 tb)) (hs : s.size ≤ 100000) (hf : f + q0 ≤ s.size) :
    Calls Tryz.prog 87 #[.pointer (some ⟨b, 0, none⟩)] w (RetBd w b s f lv tb (hexP ((s.data.toList.drop f).length + 1) (s.data.toList.drop f) q0 [])) := by
  have hbw := h.lt
  obtain ⟨r, hr⟩ : ∃ r, s.data.toList.drop f = r := ⟨_, rfl⟩
  have hrl : r.length = s.size - f := by rw [← hr, List.length_drop]; rfl
  rw [hr]
  have hnt : ∀ k, nth r k = nth s.data.toList (f + k) := fun k => by rw [← hr, nth_drop]
  obtain ⟨X, hX⟩ : ∃ X, hexP (r.length + 1) r q0 [] = X := ⟨_, rfl⟩
  rw [hX]
  obtain ⟨p0, hp0⟩ : ∃ p, f + q0 = p := ⟨_, rfl⟩
  rw [hp0] at h hf
  have H := Lib.hid h
  have HX := Lib.hid hX
  have HP := Lib.hid hp0
  have HF : Hid (r.length < q0 + (r.length + 1)) := by unfold Hid; omega
  have HNT := Lib.hid hnt
  have HRL := Lib.hid hrl
  obtain ⟨iU, hUi, hU0, hU1, hU2⟩ := info_parts infoU8q
  have FL := Lib.hid (fun (wx : World) (i k e : Int) (hb : Bx wx b (mC s i lv 0 tb)) => fail_m hb k e)
  have HM := Lib.hid hex_m
  clear hX hp0 hnt hr h hrl
  go_enter Tryz.func87, Tryz.ntmps87
  go_wp2_with fail
  go_loopw [3] (fun sv wx => ∃ (p q F : Nat) (acc : List UInt8) (A : Option Addr) (n c : Nat), p ≤ s.size ∧ Hid (f + q = p) ∧ Hid (r.length < q + F) ∧ sv = .slice A n c ∧ Hid (hexP F r q acc = X) ∧ Hid (wx.ownsRow w.heap.size 5 1 (.slice A n c) n (u8s acc)) ∧ Hid (n = 0 → A = none ∧ c = 0) ∧ n ≤ p ∧ Hid (Bx wx b (mC s (p : Int) lv 0 tb)) ∧ Hid (Chg b b w wx)) (fun _ wx => s.size + 1 - (rdI wx ⟨b, 1, none⟩).toNat)
  case atStart => exact ⟨p0, q0, _, [], none, 0, 0, hf, HP, HF, rfl, HX, ⟨rfl, .inl ⟨rfl, rfl⟩⟩, fun _ => ⟨rfl, rfl⟩, Nat.zero_le _, H, Lib.hid (Chg.refl _ _ _)⟩
  case round =>
    clear H HX HP HF
    obtain ⟨p, q, F, acc, A, n, c, hp, HP, HF, rfl, HX, HO, HZ, hnp, HB, HC⟩ := hrel
    have hm0 := Lib.hid (rdI_of HB.out.c5.2.1)
    have hX := HX.out
    obtain ⟨F', rfl⟩ : ∃ F', F = F' + 1 := ⟨F - 1, by have := HF.out; have := HP.out; have := HRL.out; omega⟩
    rw [hexP, HNT.out, HNT.out, ← Nat.add_assoc, HP.out] at hX
    have hrp : r.length ≤ q ↔ s.size ≤ p := by have := HP.out; have := HRL.out; omega
    have hrp1 : r.length ≤ q + 1 ↔ s.size ≤ p + 1 := by have := HP.out; have := HRL.out; omega
    have hnl : acc.length = n := by have := HO.out.1; unfold u8s at this; rw [List.length_map, Nat.mul_one] at this; exact this
    simp only [hrp, hrp1] at hX
    have hrf : Hid (f + r.length = s.size) := by have := HP.out; have := HRL.out; unfold Hid; omega
    clear hrp hrp1 HX
    (obtain ⟨c0, c1, c2, c3, c4⟩ := HB.out.c5; obtain ⟨f0, f1, f2, f3, f4⟩ := HB.out.f5; have lt := HB.out.lt)
    by_cases hlt : p < s.size
    · have hlt2 : ¬ (s.size : Int) ≤ (p : Int) := by omega
      have hlt3 : (p : Int) < (s.size : Int) := by omega
      rw [if_neg (by omega), nth_idx s hlt] at hX
      obtain ⟨x, hx⟩ : ∃ c, s[p] = c := ⟨_, rfl⟩
      rw [hx] at hX
      have hx1 : IntKind.i64.wrap ((p : Int) + 1) = ((p + 1 : Nat) : Int) := by rw [IntWalk.i64_in _ (by omega)]; simp
      go_wp2_with fail
      refine wp_region_ord [(0, 1), (1, 1), (2, 1), (3, 1), (4, 1), (5, 1), (6, 1), (7, 1), (8, 1), (9, 1)] [] 5 (by kernel_rfl) (by decide +kernel) ?_
      simp only [pickO, List.append_eq, List.cons_append, List.nil_append, List.getElem?_cons_succ, List.getElem?_cons_zero]
      intro w0 hG
      (repeat ((first | (with_reducible refine ord_q1 ?_) | (with_reducible refine ord_q0 ?_)); intro K hK; first | (refine Or.inr ⟨?_, ?_⟩; (focus (go_simp; first | done | (simp [undef]; done))); go_simp; (with_reducible refine hK _ ?_); clear hK K) | (refine Or.inl ⟨?_, ?_⟩; (focus (go_simp; done)); apply Exists.intro; refine And.intro ?_ ?_; (focus (first | (intro wq hq; obtain ⟨hcq, hfq⟩ := G.old hq; go_simp; (first | done | exact rfl); done) | (intro wq; go_simp; (first | done | exact rfl); done))); go_simp; (with_reducible refine hK _ ?_); clear hK K) | fail))
      (with_reducible refine ord_nil ?_)
      have hb1 := hG.b
      replace HO := Lib.hid (own_grow HO.out hb1)
      clear hb1
      have hbx := hG.b; replace HB := Lib.hid (HB.out.grow hbx); replace HC := Lib.hid (HC.out.grow hbx); clear hG hbx; clear c0 c1 c2 c3 c4 f0 f1 f2 f3 f4 lt; (obtain ⟨c0, c1, c2, c3, c4⟩ := HB.out.c5; obtain ⟨f0, f1, f2, f3, f4⟩ := HB.out.f5; have lt := HB.out.lt)
      by_cases h34 : x.toNat = 34
      · have k34 : ((x.toNat : Int) == 34) = true := by rw [h34]; rfl
        rw [if_pos h34] at hX
        have hX' := Lib.hid hX.symm
        clear h34 hX
        go_wp2_with fail
        refine wp_region_ord [(0, 1), (1, 1), (2, 1), (3, 1), (4, 1), (5, 1), (6, 1), (7, 1), (8, 1), (9, 1)] [] 5 (by kernel_rfl) (by decide +kernel) ?_
        simp only [pickO, List.append_eq, List.cons_append, List.nil_append, List.getElem?_cons_succ, List.getElem?_cons_zero]
        intro w0 hG
        (repeat ((first | (with_reducible refine ord_q1 ?_) | (with_reducible refine ord_q0 ?_)); intro K hK; first | (refine Or.inr ⟨?_, ?_⟩; (focus (go_simp; first | done | (simp [undef]; done))); go_simp; (with_reducible refine hK _ ?_); clear hK K) | (refine Or.inl ⟨?_, ?_⟩; (focus (go_simp; done)); apply Exists.intro; refine And.intro ?_ ?_; (focus (first | (intro wq hq; obtain ⟨hcq, hfq⟩ := G.old hq; go_simp; (first | done | exact rfl); done) | (intro wq; go_simp; (first | done | exact rfl); done))); go_simp; (with_reducible refine hK _ ?_); clear hK K) | fail))
        (with_reducible refine ord_nil ?_)
        have hb1 := hG.b
        replace HO := Lib.hid (own_grow HO.out hb1)
        clear hb1
        have hbx := hG.b; replace HB := Lib.hid (HB.out.grow hbx); replace HC := Lib.hid (HC.out.grow hbx); clear hG hbx; clear c0 c1 c2 c3 c4 f0 f1 f2 f3 f4 lt; (obtain ⟨c0, c1, c2, c3, c4⟩ := HB.out.c5; obtain ⟨f0, f1, f2, f3, f4⟩ := HB.out.f5; have lt := HB.out.lt)
        have hown1 := own_keep HO.out ((Keeps.refl _ _).setCell (p := ⟨b, 1, none⟩) (show ¬ w.heap.size ≤ b by omega) (.int .i64 ((p : Int) + 1)))
        have CV := conv_own hown1 HZ.out
        clear hown1
        go_wp2_with fail
        go_ret
        exact RetBd.ok hX'.out (p := p + 1) (by have := HP.out; omega) (HC.out.set1 _ _) (HB.out.put rfl)
      · have k34 : ((x.toNat : Int) == 34) = false := by simp; omega
        rw [if_neg h34] at hX
        have HX1 := Lib.hid (HM.out x)
        obtain ⟨va, hva⟩ : ∃ v, hexV x = v := ⟨_, rfl⟩
        have hab := hex_bd x
        rw [hva] at hX HX1 hab
        clear h34
        by_cases ha : va < 0
        · rw [if_pos ha] at hX
          have hX' := Lib.hid hX.symm
          clear hX hva
          go_wp2_with fail
          refine wp_region_ord [(0, 1), (1, 1), (2, 1), (3, 1), (4, 1), (5, 1), (6, 1), (7, 1), (8, 1), (9, 1)] [] 5 (by kernel_rfl) (by decide +kernel) ?_
          simp only [pickO, List.append_eq, List.cons_append, List.nil_append, List.getElem?_cons_succ, List.getElem?_cons_zero]
          intro w0 hG
          (repeat ((first | (with_reducible refine ord_q1 ?_) | (with_reducible refine ord_q0 ?_)); intro K hK; first | (refine Or.inr ⟨?_, ?_⟩; (focus (go_simp; first | done | (simp [undef]; done))); go_simp; (with_reducible refine hK _ ?_); clear hK K) | (refine Or.inl ⟨?_, ?_⟩; (focus (go_simp; done)); apply Exists.intro; refine And.intro ?_ ?_; (focus (first | (intro wq hq; obtain ⟨hcq, hfq⟩ := G.old hq; go_simp; (first | done | exact rfl); done) | (intro wq; go_simp; (first | done | exact rfl); done))); go_simp; (with_reducible refine hK _ ?_); clear hK K) | fail))
          (with_reducible refine ord_nil ?_)
          have hbx := hG.b; replace HB := Lib.hid (HB.out.grow hbx); replace HC := Lib.hid (HC.out.grow hbx); clear hG hbx; clear c0 c1 c2 c3 c4 f0 f1 f2 f3 f4 lt; (obtain ⟨c0, c1, c2, c3, c4⟩ := HB.out.c5; obtain ⟨f0, f1, f2, f3, f4⟩ := HB.out.f5; have lt := HB.out.lt)
          go_wp2_with fail
          refine wp_region_ord [(0, 1), (1, 1), (2, 1), (3, 1), (4, 1), (5, 1), (6, 1), (7, 1), (8, 1), (9, 2), (10, 1)] [] 5 (by kernel_rfl) (by decide +kernel) ?_
          simp only [pickO, List.append_eq, List.cons_append, List.nil_append, List.getElem?_cons_succ, List.getElem?_cons_zero]
          intro w0 hG
          (repeat ((first | (with_reducible refine ord_q1 ?_) | (with_reducible refine ord_q0 ?_)); intro K hK; first | (refine Or.inr ⟨?_, ?_⟩; (focus (go_simp; first | done | (simp [undef]; done))); go_simp; (with_reducible refine hK _ ?_); clear hK K) | (refine Or.inl ⟨?_, ?_⟩; (focus (go_simp; done)); apply Exists.intro; refine And.intro ?_ ?_; (focus (first | (intro wq hq; obtain ⟨hcq, hfq⟩ := G.old hq; go_simp; (first | done | exact rfl); done) | (intro wq; go_simp; (first | done | exact rfl); done))); go_simp; (with_reducible refine hK _ ?_); clear hK K) | fail))
          (with_reducible refine ord_run ?_ hG)
          intro K hK
          go_simp
          go_at_call 113; (with_reducible refine (HX1.out _).mono ?_); rintro e1 w3 ⟨rfl, rfl⟩; have hb := G.refl w3
          replace hG := Grew.trans hG hb
          (try dsimp only)
          (with_reducible refine hK _ _ hG ?_)
          clear hK K
          (repeat ((first | (with_reducible refine ord_q1 ?_) | (with_reducible refine ord_q0 ?_)); intro K hK; first | (refine Or.inr ⟨?_, ?_⟩; (focus (go_simp; first | done | (simp [undef]; done))); go_simp; (with_reducible refine hK _ ?_); clear hK K) | (refine Or.inl ⟨?_, ?_⟩; (focus (go_simp; done)); apply Exists.intro; refine And.intro ?_ ?_; (focus (first | (intro wq hq; obtain ⟨hcq, hfq⟩ := G.old hq; go_simp; (first | done | exact rfl); done) | (intro wq; go_simp; (first | done | exact rfl); done))); go_simp; (with_reducible refine hK _ ?_); clear hK K) | fail))
          (with_reducible refine ord_nil ?_)
          have hbx := hG.b; replace HB := Lib.hid (HB.out.grow hbx); replace HC := Lib.hid (HC.out.grow hbx); clear hG hbx; clear c0 c1 c2 c3 c4 f0 f1 f2 f3 f4 lt; (obtain ⟨c0, c1, c2, c3, c4⟩ := HB.out.c5; obtain ⟨f0, f1, f2, f3, f4⟩ := HB.out.f5; have lt := HB.out.lt)
          clear hb
          go_wp2_with fail
          go_at_call 55
          (with_reducible refine (FL.out _ _ _ _ HB.out).mono ?_)
          rintro e1 w4 ⟨rfl, hb4, hc4⟩
          go_wp2_with fail
          go_ret
          exact RetBd.bad hX'.out HP.out (HC.out.trans hc4) hb4
        · rw [if_neg ha] at hX
          go_wp2_with fail
          refine wp_region_ord [(0, 1), (1, 1), (2, 1), (3, 1), (4, 1), (5, 1), (6, 1), (7, 1), (8, 1), (9, 1)] [] 5 (by kernel_rfl) (by decide +kernel) ?_
          simp only [pickO, List.append_eq, List.cons_append, List.nil_append, List.getElem?_cons_succ, List.getElem?_cons_zero]
          intro w0 hG
          (repeat ((first | (with_reducible refine ord_q1 ?_) | (with_reducible refine ord_q0 ?_)); intro K hK; first | (refine Or.inr ⟨?_, ?_⟩; (focus (go_simp; first | done | (simp [undef]; done))); go_simp; (with_reducible refine hK _ ?_); clear hK K) | (refine Or.inl ⟨?_, ?_⟩; (focus (go_simp; done)); apply Exists.intro; refine And.intro ?_ ?_; (focus (first | (intro wq hq; obtain ⟨hcq, hfq⟩ := G.old hq; go_simp; (first | done | exact rfl); done) | (intro wq; go_simp; (first | done | exact rfl); done))); go_simp; (with_reducible refine hK _ ?_); clear hK K) | fail))
          (with_reducible refine ord_nil ?_)
          have hb1 := hG.b
          replace HO := Lib.hid (own_grow HO.out hb1)
          clear hb1
          have hbx := hG.b; replace HB := Lib.hid (HB.out.grow hbx); replace HC := Lib.hid (HC.out.grow hbx); clear hG hbx; clear c0 c1 c2 c3 c4 f0 f1 f2 f3 f4 lt; (obtain ⟨c0, c1, c2, c3, c4⟩ := HB.out.c5; obtain ⟨f0, f1, f2, f3, f4⟩ := HB.out.f5; have lt := HB.out.lt)
          go_wp2_with fail
          refine wp_region_ord [(0, 1), (1, 1), (2, 1), (3, 1), (4, 1), (5, 1), (6, 1), (7, 1), (8, 1), (9, 2), (10, 1)] [] 5 (by kernel_rfl) (by decide +kernel) ?_
          simp only [pickO, List.append_eq, List.cons_append, List.nil_append, List.getElem?_cons_succ, List.getElem?_cons_zero]
          intro w0 hG
          (repeat ((first | (with_reducible refine ord_q1 ?_) | (with_reducible refine ord_q0 ?_)); intro K hK; first | (refine Or.inr ⟨?_, ?_⟩; (focus (go_simp; first | done | (simp [undef]; done))); go_simp; (with_reducible refine hK _ ?_); clear hK K) | (refine Or.inl ⟨?_, ?_⟩; (focus (go_simp; done)); apply Exists.intro; refine And.intro ?_ ?_; (focus (first | (intro wq hq; obtain ⟨hcq, hfq⟩ := G.old hq; go_simp; (first | done | exact rfl); done) | (intro wq; go_simp; (first | done | exact rfl); done))); go_simp; (with_reducible refine hK _ ?_); clear hK K) | fail))
          (with_reducible refine ord_run ?_ hG)
          intro K hK
          go_simp
          go_at_call 113; (with_reducible refine (HX1.out _).mono ?_); rintro e1 w3 ⟨rfl, rfl⟩; have hb := G.refl w3
          replace hG := Grew.trans hG hb
          (try dsimp only)
          (with_reducible refine hK _ _ hG ?_)
          clear hK K
          (repeat ((first | (with_reducible refine ord_q1 ?_) | (with_reducible refine ord_q0 ?_)); intro K hK; first | (refine Or.inr ⟨?_, ?_⟩; (focus (go_simp; first | done | (simp [undef]; done))); go_simp; (with_reducible refine hK _ ?_); clear hK K) | (refine Or.inl ⟨?_, ?_⟩; (focus (go_simp; done)); apply Exists.intro; refine And.intro ?_ ?_; (focus (first | (intro wq hq; obtain ⟨hcq, hfq⟩ := G.old hq; go_simp; (first | done | exact rfl); done) | (intro wq; go_simp; (first | done | exact rfl); done))); go_simp; (with_reducible refine hK _ ?_); clear hK K) | fail))
          (with_reducible refine ord_nil ?_)
          have hb1 := hG.b
          replace HO := Lib.hid (own_grow HO.out hb1)
          clear hb1
          have hbx := hG.b; replace HB := Lib.hid (HB.out.grow hbx); replace HC := Lib.hid (HC.out.grow hbx); clear hG hbx; clear c0 c1 c2 c3 c4 f0 f1 f2 f3 f4 lt; (obtain ⟨c0, c1, c2, c3, c4⟩ := HB.out.c5; obtain ⟨f0, f1, f2, f3, f4⟩ := HB.out.f5; have lt := HB.out.lt)
          clear hb
          go_upto_region 14 with fail
          refine wp_name (fun wx => Hid (Bx wx b (mC s ((p + 1 : Nat) : Int) lv 0 tb)) ∧ Hid (Chg b b w wx) ∧ Hid (wx.ownsRow w.heap.size 5 1 (.slice A n c) n (u8s acc))) ⟨HB.out.put rfl, HC.out.set1 _ _, own_keep HO.out ((Keeps.refl _ _).setCell (p := ⟨b, 1, none⟩) (show ¬ w.heap.size ≤ b by omega) (.int .i64 ((p : Int) + 1)))⟩ ?_
          clear HB HC HO
          clear c0 c1 c2 c3 c4 f0 f1 f2 f3 f4 lt
          rintro w5 ⟨HB, HC, HO⟩
          obtain ⟨p1, hp1⟩ : ∃ p1, p + 1 = p1 := ⟨_, rfl⟩
          rw [hp1] at HB hX
          have HP1 := Lib.hid hp1
          have HQ1 : Hid (f + (q + 1) = p1) := by unfold Hid; have := HP.out; omega
          have hp1s : p1 ≤ s.size := by omega
          clear hp1 hx1 hlt2 hlt3
          (obtain ⟨c0, c1, c2, c3, c4⟩ := HB.out.c5; obtain ⟨f0, f1, f2, f3, f4⟩ := HB.out.f5; have lt := HB.out.lt)
          by_cases hlt : p1 < s.size
          · have hlt2 : ¬ (s.size : Int) ≤ (p1 : Int) := by omega
            have hlt3 : (p1 : Int) < (s.size : Int) := by omega
            have hx1 : IntKind.i64.wrap ((p1 : Int) + 1) = ((p1 + 1 : Nat) : Int) := by rw [IntWalk.i64_in _ (by omega)]; simp
            rw [if_neg (by omega), nth_idx s hlt] at hX
            obtain ⟨y, hy⟩ : ∃ c, s[p1] = c := ⟨_, rfl⟩
            rw [hy] at hX
            have HX2 := Lib.hid (HM.out y)
            obtain ⟨vb, hvb⟩ : ∃ v, hexV y = v := ⟨_, rfl⟩
            have hbb := hex_bd y
            rw [hvb] at hX HX2 hbb
            by_cases hb0 : vb < 0
            · rw [if_pos hb0] at hX
              have hX' := Lib.hid hX.symm
              clear hX hva hvb hx1
              go_wp2_with fail
              refine wp_region_ord [(0, 1), (1, 1), (2, 1), (3, 1), (4, 1), (5, 1), (6, 1), (7, 1), (8, 1), (9, 1)] [] 5 (by kernel_rfl) (by decide +kernel) ?_
              simp only [pickO, List.append_eq, List.cons_append, List.nil_append, List.getElem?_cons_succ, List.getElem?_cons_zero]
              intro w0 hG
              (repeat ((first | (with_reducible refine ord_q1 ?_) | (with_reducible refine ord_q0 ?_)); intro K hK; first | (refine Or.inr ⟨?_, ?_⟩; (focus (go_simp; first | done | (simp [undef]; done))); go_simp; (with_reducible refine hK _ ?_); clear hK K) | (refine Or.inl ⟨?_, ?_⟩; (focus (go_simp; done)); apply Exists.intro; refine And.intro ?_ ?_; (focus (first | (intro wq hq; obtain ⟨hcq, hfq⟩ := G.old hq; go_simp; (first | done | exact rfl); done) | (intro wq; go_simp; (first | done | exact rfl); done))); go_simp; (with_reducible refine hK _ ?_); clear hK K) | fail))
              (with_reducible refine ord_nil ?_)
              have hbx := hG.b; replace HB := Lib.hid (HB.out.grow hbx); replace HC := Lib.hid (HC.out.grow hbx); clear hG hbx; clear c0 c1 c2 c3 c4 f0 f1 f2 f3 f4 lt; (obtain ⟨c0, c1, c2, c3, c4⟩ := HB.out.c5; obtain ⟨f0, f1, f2, f3, f4⟩ := HB.out.f5; have lt := HB.out.lt)
              go_wp2_with fail
              refine wp_region_ord [(0, 1), (1, 1), (2, 1), (3, 1), (4, 1), (5, 1), (6, 1), (7, 1), (8, 1), (9, 2), (10, 1)] [] 5 (by kernel_rfl) (by decide +kernel) ?_
              simp only [pickO, List.append_eq, List.cons_append, List.nil_append, List.getElem?_cons_succ, List.getElem?_cons_zero]
              intro w0 hG
              (repeat ((first | (with_reducible refine ord_q1 ?_) | (with_reducible refine ord_q0 ?_)); intro K hK; first | (refine Or.inr ⟨?_, ?_⟩; (focus (go_simp; first | done | (simp [undef]; done))); go_simp; (with_reducible refine hK _ ?_); clear hK K) | (refine Or.inl ⟨?_, ?_⟩; (focus (go_simp; done)); apply Exists.intro; refine And.intro ?_ ?_; (focus (first | (intro wq hq; obtain ⟨hcq, hfq⟩ := G.old hq; go_simp; (first | done | exact rfl); done) | (intro wq; go_simp; (first | done | exact rfl); done))); go_simp; (with_reducible refine hK _ ?_); clear hK K) | fail))
              (with_reducible refine ord_run ?_ hG)
              intro K hK
              go_simp
              go_at_call 113; (with_reducible refine (HX2.out _).mono ?_); rintro e1 w3 ⟨rfl, rfl⟩; have hb := G.refl w3
              replace hG := Grew.trans hG hb
              (try dsimp only)
              (with_reducible refine hK _ _ hG ?_)
              clear hK K
              (repeat ((first | (with_reducible refine ord_q1 ?_) | (with_reducible refine ord_q0 ?_)); intro K hK; first | (refine Or.inr ⟨?_, ?_⟩; (focus (go_simp; first | done | (simp [undef]; done))); go_simp; (with_reducible refine hK _ ?_); clear hK K) | (refine Or.inl ⟨?_, ?_⟩; (focus (go_simp; done)); apply Exists.intro; refine And.intro ?_ ?_; (focus (first | (intro wq hq; obtain ⟨hcq, hfq⟩ := G.old hq; go_simp; (first | done | exact rfl); done) | (intro wq; go_simp; (first | done | exact rfl); done))); go_simp; (with_reducible refine hK _ ?_); clear hK K) | fail))
              (with_reducible refine ord_nil ?_)
              have hbx := hG.b; replace HB := Lib.hid (HB.out.grow hbx); replace HC := Lib.hid (HC.out.grow hbx); clear hG hbx; clear c0 c1 c2 c3 c4 f0 f1 f2 f3 f4 lt; (obtain ⟨c0, c1, c2, c3, c4⟩ := HB.out.c5; obtain ⟨f0, f1, f2, f3, f4⟩ := HB.out.f5; have lt := HB.out.lt)
              clear hb
              go_wp2_with fail
              go_at_call 55
              (with_reducible refine (FL.out _ _ _ _ HB.out).mono ?_)
              rintro e1 w4 ⟨rfl, hb4, hc4⟩
              go_wp2_with fail
              go_ret
              exact RetBd.bad hX'.out HQ1.out (HC.out.trans hc4) hb4
            · rw [if_neg hb0] at hX
              obtain ⟨z, hz⟩ : ∃ z, UInt8.ofNat (16 * va + vb).toNat = z := ⟨_, rfl⟩
              rw [hz] at hX
              have hzz : 16 * va + vb = (z.toNat : Int) := by
                rw [← hz, UInt8.toNat_ofNat_of_lt' (show (16 * va + vb).toNat < 256 by omega)]
                omega
              have HX' := Lib.hid hX
              have m1 : IntKind.i64.wrap (16 * va) = 16 * va := IntWalk.i64_in _ (by omega)
              have m2 : IntKind.i64.wrap (16 * va + vb) = 16 * va + vb := IntWalk.i64_in _ (by omega)
              have m3 : IntKind.u8.wrap (16 * va + vb) = 16 * va + vb := IntWalk.u8_in _ (by omega)
              have HZZ := Lib.hid hzz
              have hT : Hid (u8s acc ++ [.int .u8 (16 * va + vb)] = u8s (acc ++ [z])) := by unfold Hid; rw [hzz, u8s_app]; rfl
              clear hX hva hvb hz hzz hab hbb
              go_wp2_with fail
              refine wp_region_ord [(0, 1), (1, 1), (2, 1), (3, 1), (4, 1), (5, 1), (6, 1), (7, 1), (8, 1), (9, 1)] [] 5 (by kernel_rfl) (by decide +kernel) ?_
              simp only [pickO, List.append_eq, List.cons_append, List.nil_append, List.getElem?_cons_succ, List.getElem?_cons_zero]
              intro w0 hG
              (repeat ((first | (with_reducible refine ord_q1 ?_) | (with_reducible refine ord_q0 ?_)); intro K hK; first | (refine Or.inr ⟨?_, ?_⟩; (focus (go_simp; first | done | (simp [undef]; done))); go_simp; (with_reducible refine hK _ ?_); clear hK K) | (refine Or.inl ⟨?_, ?_⟩; (focus (go_simp; done)); apply Exists.intro; refine And.intro ?_ ?_; (focus (first | (intro wq hq; obtain ⟨hcq, hfq⟩ := G.old hq; go_simp; (first | done | exact rfl); done) | (intro wq; go_simp; (first | done | exact rfl); done))); go_simp; (with_reducible refine hK _ ?_); clear hK K) | fail))
              (with_reducible refine ord_nil ?_)
              have hb1 := hG.b
              replace HO := Lib.hid (own_grow HO.out hb1)
              clear hb1
              have hbx := hG.b; replace HB := Lib.hid (HB.out.grow hbx); replace HC := Lib.hid (HC.out.grow hbx); clear hG hbx; clear c0 c1 c2 c3 c4 f0 f1 f2 f3 f4 lt; (obtain ⟨c0, c1, c2, c3, c4⟩ := HB.out.c5; obtain ⟨f0, f1, f2, f3, f4⟩ := HB.out.f5; have lt := HB.out.lt)
              go_wp2_with fail
              refine wp_region_ord [(0, 1), (1, 1), (2, 1), (3, 1), (4, 1), (5, 1), (6, 1), (7, 1), (8, 1), (9, 2), (10, 1)] [] 5 (by kernel_rfl) (by decide +kernel) ?_
              simp only [pickO, List.append_eq, List.cons_append, List.nil_append, List.getElem?_cons_succ, List.getElem?_cons_zero]
              intro w0 hG
              (repeat ((first | (with_reducible refine ord_q1 ?_) | (with_reducible refine ord_q0 ?_)); intro K hK; first | (refine Or.inr ⟨?_, ?_⟩; (focus (go_simp; first | done | (simp [undef]; done))); go_simp; (with_reducible refine hK _ ?_); clear hK K) | (refine Or.inl ⟨?_, ?_⟩; (focus (go_simp; done)); apply Exists.intro; refine And.intro ?_ ?_; (focus (first | (intro wq hq; obtain ⟨hcq, hfq⟩ := G.old hq; go_simp; (first | done | exact rfl); done) | (intro wq; go_simp; (first | done | exact rfl); done))); go_simp; (with_reducible refine hK _ ?_); clear hK K) | fail))
              (with_reducible refine ord_run ?_ hG)
              intro K hK
              go_simp
              go_at_call 113; (with_reducible refine (HX2.out _).mono ?_); rintro e1 w3 ⟨rfl, rfl⟩; have hb := G.refl w3
              replace hG := Grew.trans hG hb
              (try dsimp only)
              (with_reducible refine hK _ _ hG ?_)
              clear hK K
              (repeat ((first | (with_reducible refine ord_q1 ?_) | (with_reducible refine ord_q0 ?_)); intro K hK; first | (refine Or.inr ⟨?_, ?_⟩; (focus (go_simp; first | done | (simp [undef]; done))); go_simp; (with_reducible refine hK _ ?_); clear hK K) | (refine Or.inl ⟨?_, ?_⟩; (focus (go_simp; done)); apply Exists.intro; refine And.intro ?_ ?_; (focus (first | (intro wq hq; obtain ⟨hcq, hfq⟩ := G.old hq; go_simp; (first | done | exact rfl); done) | (intro wq; go_simp; (first | done | exact rfl); done))); go_simp; (with_reducible refine hK _ ?_); clear hK K) | fail))
              (with_reducible refine ord_nil ?_)
              have hb1 := hG.b
              replace HO := Lib.hid (own_grow HO.out hb1)
              clear hb1
              have hbx := hG.b; replace HB := Lib.hid (HB.out.grow hbx); replace HC := Lib.hid (HC.out.grow hbx); clear hG hbx; clear c0 c1 c2 c3 c4 f0 f1 f2 f3 f4 lt; (obtain ⟨c0, c1, c2, c3, c4⟩ := HB.out.c5; obtain ⟨f0, f1, f2, f3, f4⟩ := HB.out.f5; have lt := HB.out.lt)
              clear hb
              have hob := HO.out.lt
              go_wp2_with (at_builtin; apply stopHere)
              apply Lib.hid
              (refine wpList_app _ rfl (.tmp 107) (.tmp 113) _ rfl w.heap.size 5 iU _ 1 1 Tryz.underlying63 hUi hU0 hU1 hU2 rfl Nat.zero_lt_one _ n _ rfl (own_grow HO.out (G.alloc (G.refl w3) _)) (some ⟨w3.heap.size, 0, none⟩) 1 1 [.int .u8 (16 * va + vb)] rfl (Sl.new rfl rfl) (by simp [Value.oneCell']) (by show _ ≤ 2 ^ 63 - 1; omega) (by omega) (by have := HC.out.size; simp; omega) ?_; intro A3 cc3 w8 hown5 hc5 hm5 hg5; rw [hT.out] at hown5; refine wpList_nm (fun wx => Hid (wx.ownsRow w.heap.size 5 1 (.slice A3 (n + 1) cc3) (n + 1) (u8s (acc ++ [z]))) ∧ Hid (Bx wx b (mC s (p1 : Int) lv 0 tb)) ∧ Hid (Chg b b w wx)) ⟨hown5, (HB.out.alloc _).grown hg5 (fun e => by have := (hob _ e).1; omega), (HC.out.alloc _).grown hg5 (fun k hk => (hob k hk).1)⟩ ?_)
              clear hown5 hc5 hm5 hg5 HB HC HO hob
              clear c0 c1 c2 c3 c4 f0 f1 f2 f3 f4 lt
              rintro w9 ⟨HO, HB, HC⟩
              (obtain ⟨c0, c1, c2, c3, c4⟩ := HB.out.c5; obtain ⟨f0, f1, f2, f3, f4⟩ := HB.out.f5; have lt := HB.out.lt)
              go_wp2_with fail
              go_roundw
              case rel => exact ⟨p1 + 1, q + 2, F', acc ++ [z], A3, n + 1, cc3, by omega, by have := HQ1.out; unfold Hid; omega, by have := HF.out; unfold Hid; omega, rfl, HX', own_keep HO.out ((Keeps.refl _ _).setCell (p := ⟨b, 1, none⟩) (show ¬ w.heap.size ≤ b by omega) (.int .i64 ((p1 : Int) + 1))), fun h => by omega, by have := HP1.out; omega, Lib.hid (HB.out.put rfl), Lib.hid (HC.out.set1 _ _)⟩
              case measure =>
                rw [rdI_of (Bx.put (i := 1) (v := .int .i64 ((p1 : Int) + 1)) HB.out rfl).c5.2.1, hm0.out]
                have := HP1.out
                omega
          · have hlt2 : (s.size : Int) ≤ (p1 : Int) := by omega
            rw [if_pos (by omega)] at hX
            have hX' := Lib.hid hX.symm
            clear hX
            go_wp2_with fail
            refine wp_region_ord [(0, 1), (1, 1), (2, 1), (3, 1), (4, 1), (5, 1), (6, 1), (7, 1), (8, 1), (9, 1)] [] 5 (by kernel_rfl) (by decide +kernel) ?_
            simp only [pickO, List.append_eq, List.cons_append, List.nil_append, List.getElem?_cons_succ, List.getElem?_cons_zero]
            intro w0 hG
            (repeat ((first | (with_reducible refine ord_q1 ?_) | (with_reducible refine ord_q0 ?_)); intro K hK; first | (refine Or.inr ⟨?_, ?_⟩; (focus (go_simp; first | done | (simp [undef]; done))); go_simp; (with_reducible refine hK _ ?_); clear hK K) | (refine Or.inl ⟨?_, ?_⟩; (focus (go_simp; done)); apply Exists.intro; refine And.intro ?_ ?_; (focus (first | (intro wq hq; obtain ⟨hcq, hfq⟩ := G.old hq; go_simp; (first | done | exact rfl); done) | (intro wq; go_simp; (first | done | exact rfl); done))); go_simp; (with_reducible refine hK _ ?_); clear hK K) | fail))
            (with_reducible refine ord_nil ?_)
            have hbx := hG.b; replace HB := Lib.hid (HB.out.grow hbx); replace HC := Lib.hid (HC.out.grow hbx); clear hG hbx; clear c0 c1 c2 c3 c4 f0 f1 f2 f3 f4 lt; (obtain ⟨c0, c1, c2, c3, c4⟩ := HB.out.c5; obtain ⟨f0, f1, f2, f3, f4⟩ := HB.out.f5; have lt := HB.out.lt)
            go_wp2_with fail
            go_at_call 55
            (with_reducible refine (FL.out _ _ _ _ HB.out).mono ?_)
            rintro e1 w4 ⟨rfl, hb4, hc4⟩
            go_wp2_with fail
            go_ret
            exact RetBd.bad hX'.out hrf.out (HC.out.trans hc4) hb4
    · have hlt2 : (s.size : Int) ≤ (p : Int) := by omega
      rw [if_pos (by omega)] at hX
      have hX' := Lib.hid hX.symm
      clear hX
      go_wp2_with fail
      refine wp_region_ord [(0, 1), (1, 1), (2, 1), (3, 1), (4, 1), (5, 1), (6, 1), (7, 1), (8, 1), (9, 1)] [] 5 (by kernel_rfl) (by decide +kernel) ?_
      simp only [pickO, List.append_eq, List.cons_append, List.nil_append, List.getElem?_cons_succ, List.getElem?_cons_zero]
      intro w0 hG
      (repeat ((first | (with_reducible refine ord_q1 ?_) | (with_reducible refine ord_q0 ?_)); intro K hK; first | (refine Or.inr ⟨?_, ?_⟩; (focus (go_simp; first | done | (simp [undef]; done))); go_simp; (with_reducible refine hK _ ?_); clear hK K) | (refine Or.inl ⟨?_, ?_⟩; (focus (go_simp; done)); apply Exists.intro; refine And.intro ?_ ?_; (focus (first | (intro wq hq; obtain ⟨hcq, hfq⟩ := G.old hq; go_simp; (first | done | exact rfl); done) | (intro wq; go_simp; (first | done | exact rfl); done))); go_simp; (with_reducible refine hK _ ?_); clear hK K) | fail))
      (with_reducible refine ord_nil ?_)
      have hbx := hG.b; replace HB := Lib.hid (HB.out.grow hbx); replace HC := Lib.hid (HC.out.grow hbx); clear hG hbx; clear c0 c1 c2 c3 c4 f0 f1 f2 f3 f4 lt; (obtain ⟨c0, c1, c2, c3, c4⟩ := HB.out.c5; obtain ⟨f0, f1, f2, f3, f4⟩ := HB.out.f5; have lt := HB.out.lt)
      go_wp2_with fail
      go_at_call 55
      (with_reducible refine (FL.out _ _ _ _ HB.out).mono ?_)
      rintro e1 w4 ⟨rfl, hb4, hc4⟩
      go_wp2_with fail
      go_ret
      exact RetBd.bad hX'.out hrf.out (HC.out.trans hc4) hb4
end
end Go.Proofs.YtmchiibbodllaaaGreatDoor
