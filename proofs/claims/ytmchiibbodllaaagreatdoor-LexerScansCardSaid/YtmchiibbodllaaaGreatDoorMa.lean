/- The law's model: here, fail, place, letters, digits, blanks. -/
import Derived.Test.YtmchiibbodllaaaGreatDoorTk
namespace Go.Proofs.YtmchiibbodllaaaGreatDoor
set_option linter.unusedVariables false
set_option linter.unnecessarySimpa false
set_option linter.unusedSimpArgs false
open Go.RowKit

/-- The cells of the model's scan. -/
def mC (s : ByteArray) (i : Int) (l : Value) (e tb : Int) : List Value := [.string s, .int .i64 i, l, .int .i64 e, .int .i64 tb]
theorem Bx.c5 {w : World} {B : Nat} {a b c d e : Value} (x : Bx w B [a, b, c, d, e]) : w.cell? ⟨B, 0, none⟩ = some a ∧ w.cell? ⟨B, 1, none⟩ = some b ∧ w.cell? ⟨B, 2, none⟩ = some c ∧ w.cell? ⟨B, 3, none⟩ = some d ∧ w.cell? ⟨B, 4, none⟩ = some e :=
  ⟨(x.2 0 _ rfl).1, (x.2 1 _ rfl).1, (x.2 2 _ rfl).1, (x.2 3 _ rfl).1, (x.2 4 _ rfl).1⟩
theorem Bx.f5 {w : World} {B : Nat} {a b c d e : Value} (x : Bx w B [a, b, c, d, e]) : w.frozen? ⟨B, 0, none⟩ = false ∧ w.frozen? ⟨B, 1, none⟩ = false ∧ w.frozen? ⟨B, 2, none⟩ = false ∧ w.frozen? ⟨B, 3, none⟩ = false ∧ w.frozen? ⟨B, 4, none⟩ = false :=
  ⟨(x.2 0 _ rfl).2, (x.2 1 _ rfl).2, (x.2 2 _ rfl).2, (x.2 3 _ rfl).2, (x.2 4 _ rfl).2⟩
theorem wrapN {i k q : Nat} (h : i + k = q) (hq : q ≤ 1000000) : IntKind.i64.wrap ((i : Int) + (k : Int)) = (q : Int) := add_nat h hq
section
variable {w : World} {b : Nat} {s : ByteArray} {i : Int} {lv : Value} {e tb : Int}
set_option maxRecDepth 20000 in set_option maxHeartbeats 400000 in
theorem here_m (h : Bx w b (mC s i lv e tb)) (hs : s.size ≤ 100000) (k : Nat) (hk : k ≤ 1000000) :
    Calls Tryz.prog 86 #[.pointer (some ⟨b, 0, none⟩), .int .i64 (k : Int)] w fun e' w' => e' = .returned (.int .u8 ((nth s.data.toList k).toNat : Int)) ∧ w' = w := by
  obtain ⟨c0, c1, c2, c3, c4⟩ := h.c5
  have lt := h.lt
  clear h
  by_cases hlt : k < s.size
  · rw [nth_idx s hlt]
    obtain ⟨c, hc⟩ : ∃ c, s[k] = c := ⟨_, rfl⟩
    rw [hc]
    have hlt2 : (k : Int) < (s.size : Int) := by omega
    go_enter Tryz.func86, Tryz.ntmps86
    go_wp2_with fail
    go_ret
    exact ⟨rfl, rfl⟩
  · rw [nth_end (show s.data.toList.length ≤ k by rw [Array.length_toList]; exact Nat.le_of_not_lt hlt)]
    have hlt2 : ¬ (k : Int) < (s.size : Int) := by omega
    go_enter Tryz.func86, Tryz.ntmps86
    go_wp2_with fail
    go_ret
    exact ⟨rfl, rfl⟩
theorem here_a (h : Bx w b (mC s i lv e tb)) (hs : s.size ≤ 100000) (a : Int) (k : Nat) (ha : a = (k : Int)) (hk : k ≤ 1000000) :
    Calls Tryz.prog 86 #[.pointer (some ⟨b, 0, none⟩), .int .i64 a] w fun e' w' => e' = .returned (.int .u8 ((nth s.data.toList k).toNat : Int)) ∧ w' = w := by
  subst ha
  exact here_m h hs k hk
set_option maxRecDepth 20000 in set_option maxHeartbeats 400000 in
theorem fail_m (h : Bx w b (mC s i lv 0 tb)) (k e' : Int) : Calls Tryz.prog 55 #[.pointer (some ⟨b, 0, none⟩), .int .i64 k, .int .i64 e'] w fun e1 w' => e1 = .returned (.tuple #[]) ∧ Bx w' b (mC s k lv e' tb) ∧ Chg b b w w' := by
  obtain ⟨c0, c1, c2, c3, c4⟩ := h.c5
  obtain ⟨f0, f1, f2, f3, f4⟩ := h.f5
  have lt := h.lt
  have H := Lib.hid h
  clear h
  go_enter Tryz.func55, Tryz.ntmps55
  go_wp2_with fail
  go_end0
  exact ⟨rfl, (H.out.put rfl).put rfl, ((Chg.refl b b w).set1 _ _).set1 _ _⟩
set_option maxRecDepth 20000 in set_option maxHeartbeats 400000 in
theorem letter_m (c : UInt8) (w : World) : Calls Tryz.prog 90 #[.int .u8 (c.toNat : Int)] w fun e w' => e = .returned (.bool (isLet c)) ∧ w' = w := by
  have hb : isLet c = (decide ((97 : Int) ≤ (c.toNat : Int)) && decide ((c.toNat : Int) ≤ 122) || decide ((65 : Int) ≤ (c.toNat : Int)) && decide ((c.toNat : Int) ≤ 90)) := by
    unfold isLet
    congr 1 <;> congr 1 <;> exact decide_eq_decide.2 (by omega)
  rw [hb]
  generalize (c.toNat : Int) = x
  clear hb
  have key : ∀ v : Bool, (decide ((97 : Int) ≤ x) && decide (x ≤ 122) || decide ((65 : Int) ≤ x) && decide (x ≤ 90)) = v → Calls Tryz.prog 90 #[.int .u8 x] w fun e w' => e = .returned (.bool v) ∧ w' = w := by
    intro v hv
    go_enter Tryz.func90, Tryz.ntmps90
    by_cases h1 : (97 : Int) ≤ x <;> by_cases h2 : x ≤ 122 <;> by_cases h3 : (65 : Int) ≤ x <;> by_cases h4 : x ≤ 90 <;> simp only [h1, h2, h3, h4, decide_true, decide_false, Bool.and_self, Bool.or_false, Bool.and_false, Bool.and_true, Bool.false_and, Bool.or_self, Bool.true_or, Bool.or_true, Bool.false_or] at hv <;> subst hv <;> first | omega | (go_wp2_with fail; go_ret; exact ⟨rfl, rfl⟩)
  exact key _ rfl
set_option maxRecDepth 20000 in set_option maxHeartbeats 400000 in
theorem digit_m (c : UInt8) (w : World) : Calls Tryz.prog 91 #[.int .u8 (c.toNat : Int)] w fun e w' => e = .returned (.bool (isDig c)) ∧ w' = w := by
  have hb : isDig c = (decide ((48 : Int) ≤ (c.toNat : Int)) && decide ((c.toNat : Int) ≤ 57)) := by
    unfold isDig
    congr 1 <;> exact decide_eq_decide.2 (by omega)
  rw [hb]
  generalize (c.toNat : Int) = x
  clear hb
  go_enter Tryz.func91, Tryz.ntmps91
  by_cases h1 : (48 : Int) ≤ x
  · by_cases h2 : x ≤ 57
    · go_wp2_with fail
      go_ret
      exact ⟨by simp [h1, h2], rfl⟩
    · go_wp2_with fail
      go_ret
      exact ⟨by simp [h1, h2], rfl⟩
  · go_wp2_with fail
    go_ret
    exact ⟨by rw [decide_eq_false (show ¬ (48 : Int) ≤ x by omega)]; rfl, rfl⟩
set_option maxRecDepth 20000 in set_option maxHeartbeats 400000 in
theorem hex_m (c : UInt8) (w : World) : Calls Tryz.prog 113 #[.int .u8 (c.toNat : Int)] w fun e w' => e = .returned (.int .i64 (hexV c)) ∧ w' = w := by
  have D := Lib.hid (fun w => digit_m c w)
  have hd := c.toNat_lt
  obtain ⟨v, hv⟩ : ∃ v, isDig c = v := ⟨_, rfl⟩
  rw [hv] at D
  have hv' : v = true ↔ (48 ≤ c.toNat ∧ c.toNat ≤ 57) := by rw [← hv]; unfold isDig; simp
  have hh := hexV.eq_1 c
  obtain ⟨x, hx⟩ : ∃ x : Nat, c.toNat = x := ⟨_, rfl⟩
  rw [hx] at hv' hd hh D ⊢
  obtain ⟨y, hy⟩ : ∃ y, hexV c = y := ⟨_, rfl⟩
  rw [hy] at hh ⊢
  clear hv hx hy
  have k1 : x ≤ 255 := by omega
  clear hd
  cases v
  · have hn : ¬ (48 ≤ x ∧ x ≤ 57) := fun h => by simpa using hv'.2 h
    rw [if_neg hn] at hh
    clear hv'
    by_cases h1 : 97 ≤ x ∧ x ≤ 102
    · rw [if_pos h1] at hh
      have l1 : (97 : Int) ≤ (x : Int) := by omega
      have l2 : (x : Int) ≤ 102 := by omega
      have n1 : IntKind.u8.wrap ((x : Int) - 97) = (x : Int) - 97 := IntWalk.u8_in _ (by omega)
      have n2 : IntKind.i64.wrap ((x : Int) - 97) = (x : Int) - 97 := IntWalk.i64_in _ (by omega)
      have n3 : IntKind.i64.wrap ((x : Int) - 97 + 10) = (x : Int) - 97 + 10 := IntWalk.i64_in _ (by omega)
      have hr : Hid (y = (x : Int) - 97 + 10) := by unfold Hid; omega
      clear hh h1 hn
      go_enter Tryz.func113, Tryz.ntmps113
      go_wp2_with fail
      go_at_call 91
      (with_reducible refine (D.out _).mono ?_)
      rintro e1 w1 ⟨rfl, rfl⟩
      go_wp2_with fail
      go_ret
      rw [hr.out]
      exact ⟨rfl, rfl⟩
    · rw [if_neg h1] at hh
      by_cases h2 : 65 ≤ x ∧ x ≤ 70
      · rw [if_pos h2] at hh
        have l1 : ¬ (97 : Int) ≤ (x : Int) := by omega
        have l2 : (65 : Int) ≤ (x : Int) := by omega
        have l3 : (x : Int) ≤ 70 := by omega
        have n1 : IntKind.u8.wrap ((x : Int) - 65) = (x : Int) - 65 := IntWalk.u8_in _ (by omega)
        have n2 : IntKind.i64.wrap ((x : Int) - 65) = (x : Int) - 65 := IntWalk.i64_in _ (by omega)
        have n3 : IntKind.i64.wrap ((x : Int) - 65 + 10) = (x : Int) - 65 + 10 := IntWalk.i64_in _ (by omega)
        have hr : Hid (y = (x : Int) - 65 + 10) := by unfold Hid; omega
        clear hh h1 h2 hn
        go_enter Tryz.func113, Tryz.ntmps113
        go_wp2_with fail
        go_at_call 91
        (with_reducible refine (D.out _).mono ?_)
        rintro e1 w1 ⟨rfl, rfl⟩
        go_wp2_with fail
        go_ret
        rw [hr.out]
        exact ⟨rfl, rfl⟩
      · rw [if_neg h2] at hh
        have hr : Hid (y = -1) := hh
        have hc : (¬ (97 : Int) ≤ (x : Int) ∧ ¬ (65 : Int) ≤ (x : Int)) ∨ (¬ (97 : Int) ≤ (x : Int) ∧ (65 : Int) ≤ (x : Int) ∧ ¬ (x : Int) ≤ 70) ∨ ((97 : Int) ≤ (x : Int) ∧ ¬ (x : Int) ≤ 102 ∧ (65 : Int) ≤ (x : Int) ∧ ¬ (x : Int) ≤ 70) := by omega
        clear hh h1 h2 hn
        rcases hc with ⟨l1, l2⟩ | ⟨l1, l2, l3⟩ | ⟨l1, l2, l3, l4⟩ <;>
        · go_enter Tryz.func113, Tryz.ntmps113
          go_wp2_with fail
          go_at_call 91
          (with_reducible refine (D.out _).mono ?_)
          rintro e1 w1 ⟨rfl, rfl⟩
          go_wp2_with fail
          go_ret
          rw [hr.out]
          exact ⟨rfl, rfl⟩
  · have h1 := hv'.1 rfl
    rw [if_pos h1] at hh
    have n1 : IntKind.u8.wrap ((x : Int) - 48) = (x : Int) - 48 := IntWalk.u8_in _ (by omega)
    have n2 : IntKind.i64.wrap ((x : Int) - 48) = (x : Int) - 48 := IntWalk.i64_in _ (by omega)
    have hr : Hid (y = (x : Int) - 48) := hh
    clear hh h1 hv'
    go_enter Tryz.func113, Tryz.ntmps113
    go_wp2_with fail
    go_at_call 91
    (with_reducible refine (D.out _).mono ?_)
    rintro e1 w1 ⟨rfl, rfl⟩
    go_wp2_with fail
    go_ret
    rw [hr.out]
    exact ⟨rfl, rfl⟩
set_option maxRecDepth 20000 in set_option maxHeartbeats 2000000 in
theorem place_m (h : Bx w b (mC s i lv e tb)) (hs : s.size ≤ 100000) (k : Nat) (hk : k ≤ s.size) :
    Calls Tryz.prog 54 #[.pointer (some ⟨b, 0, none⟩), .int .i64 (k : Int)] w fun e' w' => e' = .returned (.tuple #[.int .i64 (lnc s.data.toList k).1, .int .i64 (lnc s.data.toList k).2]) ∧ w' = w := by
  obtain ⟨c0, c1, c2, c3, c4⟩ := h.c5
  have lt := h.lt
  clear h
  go_enter Tryz.func54, Tryz.ntmps54
  go_wp2_with fail
  have H0 : Hid (lc (s.data.toList.take 0) = (1, 1)) := rfl
  go_loopw [6, 7, 8] (fun pv qv jv wx => ∃ j p q : Nat, j ≤ k ∧ pv = .int .i64 (p : Int) ∧ qv = .int .i64 (q : Int) ∧ jv = .int .i64 (j : Int) ∧ Hid (lc (s.data.toList.take j) = (p, q)) ∧ w = wx) (fun _ _ jv _ => k - (intOf jv).toNat)
  case atStart => exact ⟨0, 1, 1, Nat.zero_le _, rfl, rfl, rfl, H0, rfl⟩
  case round =>
    clear H0
    obtain ⟨j, p, q, hj, rfl, rfl, rfl, HP, rfl⟩ := hrel
    by_cases hlt : j < k
    · have hlt1 : (j : Int) < (k : Int) := by omega
      have hlt2 : (j : Int) < (s.size : Int) := by omega
      have hjs : j < s.size := by omega
      have hbd := lc_bd (s.data.toList.take j)
      rw [HP.out, List.length_take] at hbd
      dsimp only at hbd
      have hst := lc_take (l := s.data.toList) (i := j) hjs
      rw [HP.out, nth_idx s hjs] at hst
      obtain ⟨c, hc⟩ : ∃ c, s[j] = c := ⟨_, rfl⟩
      rw [hc] at hst
      have hw2 : IntKind.i64.wrap ((j : Int) + 1) = ((j + 1 : Nat) : Int) := by rw [IntWalk.i64_in _ (by omega)]; omega
      have hw3 : IntKind.i64.wrap ((q : Int) + 1) = ((q + 1 : Nat) : Int) := by rw [IntWalk.i64_in _ (by omega)]; omega
      have hw4 : IntKind.i64.wrap ((p : Int) + 1) = ((p + 1 : Nat) : Int) := by rw [IntWalk.i64_in _ (by omega)]; omega
      unfold lcF at hst
      clear hbd HP
      by_cases h10 : c.toNat = 10
      · have k10 : ((c.toNat : Int) == 10) = true := by rw [h10]; rfl
        rw [if_pos h10] at hst
        replace hst := Lib.hid hst
        clear h10
        go_wp2_with fail
        go_roundw
        case rel => exact ⟨j + 1, p + 1, 1, by omega, by go_num, rfl, by go_num, hst, trivial⟩
        case measure => simp [intOf]; omega
      · have k10 : ((c.toNat : Int) == 10) = false := by simp; omega
        rw [if_neg h10] at hst
        replace hst := Lib.hid hst
        clear h10
        go_wp2_with fail
        go_roundw
        case rel => exact ⟨j + 1, p, q + 1, by omega, rfl, by go_num, by go_num, hst, trivial⟩
        case measure => simp [intOf]; omega
    · obtain rfl : j = k := by omega
      have HR : Hid (lnc s.data.toList j = ((p : Int), (q : Int))) := by unfold Hid lnc; rw [HP.out]
      go_wp2_with fail
      refine bodyPost_ret (v := .tuple #[.int .i64 (p : Int), .int .i64 (q : Int)]) (by simp only [results, Tryz.results54]; go_simp) rfl ⟨?_, rfl⟩
      rw [HR.out]
end
end Go.Proofs.YtmchiibbodllaaaGreatDoor
