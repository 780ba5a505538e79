/- The model's quote. -/
import Derived.Test.YtmchiibbodllaaaGreatDoorQtA
namespace Go.Proofs.YtmchiibbodllaaaGreatDoor
set_option linter.unusedVariables false
set_option linter.unnecessarySimpa false
set_option linter.unusedSimpArgs false
open Go.RowKit

theorem qc_len (c : UInt8) : (qc c).length ≤ 6 := by
  have := hexs_len c
  unfold qc
  repeat' split
  all_goals (simp; try omega)
theorem qs_len : ∀ l : List UInt8, (qs l).length ≤ 6 * l.length
  | [] => by simp [qs]
  | c :: l => by
    have := qs_len l
    have := qc_len c
    simp [qs]
    omega
theorem qs_take {l : List UInt8} {i : Nat} (h : i < l.length) : qs (l.take (i + 1)) = qs (l.take i) ++ qc l[i] := by
  rw [List.take_succ_eq_append_getElem h, qs_app]
  simp [qs]
set_option maxRecDepth 20000 in set_option maxHeartbeats 4000000 in
theorem quoteM_any (w : World) (s : ByteArray) (hs : s.size ≤ 100000) : Calls Tryz.prog 37 #[.string s] w fun e w' => e = .returned (.string (B (quoteL s.data.toList))) ∧ Below w.heap.size w w' := by
  obtain ⟨l, hl⟩ : ∃ l, s.data.toList = l := ⟨_, rfl⟩
  have hlen : s.size = l.length := by rw [← hl, Array.length_toList]; rfl
  replace hlen := Lib.hid hlen
  replace hl := Lib.hid hl
  go_enter Tryz.func37, Tryz.ntmps37
  go_wp2_with fail
  have HB := Lib.hid (G.refl w : Below w.heap.size w w)
  go_loopw [3, 4] (fun sv iv wx => ∃ i : Nat, i ≤ s.size ∧ sv = .string (B (34 :: qs (l.take i))) ∧ iv = .int .i64 (i : Int) ∧ Hid (Below w.heap.size w wx)) (fun _ iv _ => s.size - (intOf iv).toNat)
  case atStart => exact ⟨0, Nat.zero_le _, rfl, rfl, HB⟩
  case round =>
    clear HB
    obtain ⟨i, hi, rfl, rfl, HB⟩ := hrel
    by_cases hlt : i < s.size
    · have hlt' : (i : Int) < (s.size : Int) := by omega
      have hw2 : IntKind.i64.wrap ((i : Int) + 1) = ((i + 1 : Nat) : Int) := by rw [IntWalk.i64_in _ (by omega)]; omega
      have hlen' := hlen.out
      have hT := qs_take (l := l) (i := i) (by omega)
      obtain ⟨c, hc⟩ : ∃ c, s[i] = c := ⟨_, rfl⟩
      have hc2 : l[i]'(by omega) = c := by have := hl.out; rw [← hc]; subst this; rfl
      rw [hc2] at hT
      have hq0 : (qs (l.take i)).length ≤ 600000 := by have := qs_len (l.take i); rw [List.length_take] at this; omega
      clear hc2 hlen'
      have hc3 := c.toNat_lt
      obtain ⟨P0, hP0⟩ : ∃ P, (34 : UInt8) :: qs (l.take i) = P := ⟨_, rfl⟩
      obtain ⟨n0, z0⟩ : ∃ n, P0.length = n := ⟨_, rfl⟩
      have n0b : n0 ≤ 600001 := by rw [← z0, ← hP0]; simp only [List.length_cons]; omega
      have y0 : (B P0).size = n0 := by rw [B_size, z0]
      replace hT : Hid ((34 : UInt8) :: qs (l.take (i + 1)) = P0 ++ qc c) := by
        unfold Hid
        rw [hT, ← hP0]
        rfl
      rw [hP0]
      clear hP0 z0 hq0
      by_cases h34 : c.toNat = 34
      · have k34 : ((c.toNat : Int) == 34) = true := by rw [h34]; rfl
        have hqc : qc c = [92, 34] := by unfold qc; simp [h34]
        obtain ⟨P1, hP1⟩ : ∃ P, P0 ++ [92, 34] = P := ⟨_, rfl⟩
        have j1 : B P0 ++ ⟨#[92, 34]⟩ = B P1 := by rw [show (⟨#[92, 34]⟩ : ByteArray) = B [92, 34] from rfl, B_app, hP1]
        have e1 : ¬ 9223372036854775807 < n0 + 2 := by omega
        replace hT : Hid ((34 : UInt8) :: qs (l.take (i + 1)) = P1) := by have := hT.out; rw [hqc, hP1] at this; exact this
        clear h34 hqc hP1
        go_wp2_with fail
        go_roundw
        case rel => exact ⟨i + 1, by omega, by rw [hT.out], by go_num, HB⟩
        case measure => simp [intOf]; omega
      have k34 : ((c.toNat : Int) == 34) = false := by simp; omega
      by_cases h92 : c.toNat = 92
      · have k92 : ((c.toNat : Int) == 92) = true := by rw [h92]; rfl
        have hqc : qc c = [92, 92] := by unfold qc; simp [h92]
        obtain ⟨P1, hP1⟩ : ∃ P, P0 ++ [92, 92] = P := ⟨_, rfl⟩
        have j1 : B P0 ++ ⟨#[92, 92]⟩ = B P1 := by rw [show (⟨#[92, 92]⟩ : ByteArray) = B [92, 92] from rfl, B_app, hP1]
        have e1 : ¬ 9223372036854775807 < n0 + 2 := by omega
        replace hT : Hid ((34 : UInt8) :: qs (l.take (i + 1)) = P1) := by have := hT.out; rw [hqc, hP1] at this; exact this
        clear h92 hqc hP1
        go_wp2_with fail
        go_roundw
        case rel => exact ⟨i + 1, by omega, by rw [hT.out], by go_num, HB⟩
        case measure => simp [intOf]; omega
      have k92 : ((c.toNat : Int) == 92) = false := by simp; omega
      by_cases h10 : c.toNat = 10
      · have k10 : ((c.toNat : Int) == 10) = true := by rw [h10]; rfl
        have hqc : qc c = [92, 110] := by unfold qc; simp [h10]
        obtain ⟨P1, hP1⟩ : ∃ P, P0 ++ [92, 110] = P := ⟨_, rfl⟩
        have j1 : B P0 ++ ⟨#[92, 110]⟩ = B P1 := by rw [show (⟨#[92, 110]⟩ : ByteArray) = B [92, 110] from rfl, B_app, hP1]
        have e1 : ¬ 9223372036854775807 < n0 + 2 := by omega
        replace hT : Hid ((34 : UInt8) :: qs (l.take (i + 1)) = P1) := by have := hT.out; rw [hqc, hP1] at this; exact this
        clear h10 hqc hP1
        go_wp2_with fail
        go_roundw
        case rel => exact ⟨i + 1, by omega, by rw [hT.out], by go_num, HB⟩
        case measure => simp [intOf]; omega
      have k10 : ((c.toNat : Int) == 10) = false := by simp; omega
      by_cases h13 : c.toNat = 13
      · have k13 : ((c.toNat : Int) == 13) = true := by rw [h13]; rfl
        have hqc : qc c = [92, 114] := by unfold qc; simp [h13]
        obtain ⟨P1, hP1⟩ : ∃ P, P0 ++ [92, 114] = P := ⟨_, rfl⟩
        have j1 : B P0 ++ ⟨#[92, 114]⟩ = B P1 := by rw [show (⟨#[92, 114]⟩ : ByteArray) = B [92, 114] from rfl, B_app, hP1]
        have e1 : ¬ 9223372036854775807 < n0 + 2 := by omega
        replace hT : Hid ((34 : UInt8) :: qs (l.take (i + 1)) = P1) := by have := hT.out; rw [hqc, hP1] at this; exact this
        clear h13 hqc hP1
        go_wp2_with fail
        go_roundw
        case rel => exact ⟨i + 1, by omega, by rw [hT.out], by go_num, HB⟩
        case measure => simp [intOf]; omega
      have k13 : ((c.toNat : Int) == 13) = false := by simp; omega
      by_cases h9 : c.toNat = 9
      · have k9 : ((c.toNat : Int) == 9) = true := by rw [h9]; rfl
        have hqc : qc c = [92, 116] := by unfold qc; simp [h9]
        obtain ⟨P1, hP1⟩ : ∃ P, P0 ++ [92, 116] = P := ⟨_, rfl⟩
        have j1 : B P0 ++ ⟨#[92, 116]⟩ = B P1 := by rw [show (⟨#[92, 116]⟩ : ByteArray) = B [92, 116] from rfl, B_app, hP1]
        have e1 : ¬ 9223372036854775807 < n0 + 2 := by omega
        replace hT : Hid ((34 : UInt8) :: qs (l.take (i + 1)) = P1) := by have := hT.out; rw [hqc, hP1] at this; exact this
        clear h9 hqc hP1
        go_wp2_with fail
        go_roundw
        case rel => exact ⟨i + 1, by omega, by rw [hT.out], by go_num, HB⟩
        case measure => simp [intOf]; omega
      have k9 : ((c.toNat : Int) == 9) = false := by simp; omega
      have v0 : IntKind.i64.wrap (c.toNat : Int) = (c.toNat : Int) := IntWalk.i64_in _ (by omega)
      by_cases h16 : c.toNat < 16
      · have l16 : (c.toNat : Int) < 16 := by omega
        have hqc : qc c = 92 :: 117 :: 123 :: ([hexD c.toNat] ++ [125]) := by unfold qc hexs; simp [h34, h92, h10, h13, h9, h16, show c.toNat < 32 by omega]
        obtain ⟨P1, hP1⟩ : ∃ P, P0 ++ [92, 117, 123] = P := ⟨_, rfl⟩
        obtain ⟨P2, hP2⟩ : ∃ P, P1 ++ [hexD c.toNat] = P := ⟨_, rfl⟩
        obtain ⟨P3, hP3⟩ : ∃ P, P2 ++ [125] = P := ⟨_, rfl⟩
        have z0 : P0.length = n0 := by rw [B_size] at y0; exact y0
        have y1 : (B P1).size = n0 + 3 := by rw [B_size, ← hP1]; simp [z0]
        have y2 : (B P2).size = n0 + 4 := by rw [B_size, ← hP2, ← hP1]; simp [z0]
        have x1 : (B [hexD c.toNat]).size = 1 := by rw [B_size]; rfl
        have j1 : B P0 ++ ⟨#[92, 117, 123]⟩ = B P1 := by rw [show (⟨#[92, 117, 123]⟩ : ByteArray) = B [92, 117, 123] from rfl, B_app, hP1]
        have j2 : B P1 ++ B [hexD c.toNat] = B P2 := by rw [B_app, hP2]
        have j3 : B P2 ++ ⟨#[125]⟩ = B P3 := by rw [show (⟨#[125]⟩ : ByteArray) = B [125] from rfl, B_app, hP3]
        have e1 : ¬ 9223372036854775807 < n0 + 3 := by omega
        have e2 : ¬ 9223372036854775807 < n0 + 3 + 1 := by omega
        have e3 : ¬ 9223372036854775807 < n0 + 4 + 1 := by omega
        have e4 : ¬ 9223372036854775807 < n0 + 4 := by omega
        have e5 : ¬ 9223372036854775807 < n0 + 5 := by omega
        replace hT : Hid ((34 : UInt8) :: qs (l.take (i + 1)) = P3) := by
          have := hT.out
          rw [hqc] at this
          unfold Hid
          rw [this, ← hP3, ← hP2, ← hP1]
          simp
        have H16 := Lib.hid h16
        clear h16 hqc hP1 hP2 hP3 z0 h34 h92 h10 h13 h9
        go_wp2_with fail
        go_at_call 60
        (with_reducible refine (digits_any _ c.toNat H16.out).mono ?_)
        rintro e' w1 ⟨rfl, hb1⟩
        go_wp2_with fail
        go_roundw
        case rel => exact ⟨i + 1, by omega, by rw [hT.out], by go_num, Lib.hid (G.trans HB.out hb1)⟩
        case measure => simp [intOf]; omega
      have l16 : ¬ (c.toNat : Int) < 16 := by omega
      by_cases hc32 : c.toNat < 32 ∨ c.toNat = 127
      · obtain ⟨d1, hd1⟩ : ∃ d, c.toNat / 16 = d := ⟨_, rfl⟩
        obtain ⟨d2, hd2⟩ : ∃ d, c.toNat % 16 = d := ⟨_, rfl⟩
        have hq : (c.toNat : Int).tdiv 16 = (d1 : Int) := by rw [Int.tdiv_eq_ediv_of_nonneg (by omega)]; omega
        have hq2 : (c.toNat : Int) / 16 = (d1 : Int) := by omega
        have hr : (c.toNat : Int).tmod 16 = (d2 : Int) := by rw [Int.tmod_eq_emod_of_nonneg (by omega)]; omega
        have hr2 : (c.toNat : Int) % 16 = (d2 : Int) := by omega
        have b1 : d1 < 16 := by omega
        have b2 : d2 < 16 := by omega
        have u1 : IntKind.u8.wrap (d1 : Int) = (d1 : Int) := IntWalk.u8_in _ (by omega)
        have u2 : IntKind.u8.wrap (d2 : Int) = (d2 : Int) := IntWalk.u8_in _ (by omega)
        have v1 : IntKind.i64.wrap (d1 : Int) = (d1 : Int) := IntWalk.i64_in _ (by omega)
        have v2 : IntKind.i64.wrap (d2 : Int) = (d2 : Int) := IntWalk.i64_in _ (by omega)
        have hqc : qc c = 92 :: 117 :: 123 :: ([hexD d1, hexD d2] ++ [125]) := by unfold qc hexs; simp [h34, h92, h10, h13, h9, h16, hc32, hd1, hd2]
        obtain ⟨P1, hP1⟩ : ∃ P, P0 ++ [92, 117, 123] = P := ⟨_, rfl⟩
        obtain ⟨P2, hP2⟩ : ∃ P, P1 ++ [hexD d1] = P := ⟨_, rfl⟩
        obtain ⟨P4, hP4⟩ : ∃ P, P2 ++ [hexD d2] = P := ⟨_, rfl⟩
        obtain ⟨P3, hP3⟩ : ∃ P, P4 ++ [125] = P := ⟨_, rfl⟩
        have z0 : P0.length = n0 := by rw [B_size] at y0; exact y0
        have y1 : (B P1).size = n0 + 3 := by rw [B_size, ← hP1]; simp [z0]
        have y2 : (B P2).size = n0 + 4 := by rw [B_size, ← hP2, ← hP1]; simp [z0]
        have y4 : (B P4).size = n0 + 5 := by rw [B_size, ← hP4, ← hP2, ← hP1]; simp [z0]
        have x1 : (B [hexD d1]).size = 1 := by rw [B_size]; rfl
        have x2 : (B [hexD d2]).size = 1 := by rw [B_size]; rfl
        have j1 : B P0 ++ ⟨#[92, 117, 123]⟩ = B P1 := by rw [show (⟨#[92, 117, 123]⟩ : ByteArray) = B [92, 117, 123] from rfl, B_app, hP1]
        have j2 : B P1 ++ B [hexD d1] = B P2 := by rw [B_app, hP2]
        have j4 : B P2 ++ B [hexD d2] = B P4 := by rw [B_app, hP4]
        have j3 : B P4 ++ ⟨#[125]⟩ = B P3 := by rw [show (⟨#[125]⟩ : ByteArray) = B [125] from rfl, B_app, hP3]
        have e1 : ¬ 9223372036854775807 < n0 + 3 := by omega
        have e2 : ¬ 9223372036854775807 < n0 + 3 + 1 := by omega
        have e3 : ¬ 9223372036854775807 < n0 + 4 + 1 := by omega
        have e4 : ¬ 9223372036854775807 < n0 + 4 := by omega
        have e5 : ¬ 9223372036854775807 < n0 + 5 := by omega
        have e6 : ¬ 9223372036854775807 < n0 + 5 + 1 := by omega
        have e7 : ¬ 9223372036854775807 < n0 + 6 := by omega
        replace hT : Hid ((34 : UInt8) :: qs (l.take (i + 1)) = P3) := by
          have := hT.out
          rw [hqc] at this
          unfold Hid
          rw [this, ← hP3, ← hP4, ← hP2, ← hP1]
          simp
        have B1 := Lib.hid b1
        have B2 := Lib.hid b2
        have hkk : ((c.toNat : Int) < 32) ∨ (¬ (c.toNat : Int) < 32 ∧ ((c.toNat : Int) == 127) = true) := by
          rcases hc32 with h | h
          · exact .inl (by omega)
          · exact .inr ⟨by omega, by rw [h]; rfl⟩
        clear h16 hqc hP1 hP2 hP3 hP4 z0 h34 h92 h10 h13 h9 hc32 hd1 hd2 b1 b2
        rcases hkk with l32 | ⟨l32, k127⟩
        all_goals
          go_wp2_with fail
          go_at_call 60
          (with_reducible refine (digits_any _ d1 B1.out).mono ?_)
          rintro e' w1 ⟨rfl, hb1⟩
          go_wp2_with fail
          go_at_call 60
          (with_reducible refine (digits_any _ d2 B2.out).mono ?_)
          rintro e' w2 ⟨rfl, hb2⟩
          go_wp2_with fail
          go_roundw
          case rel => exact ⟨i + 1, by omega, by rw [hT.out], by go_num, Lib.hid (G.trans HB.out (G.trans hb1 hb2))⟩
          case measure => simp [intOf]; omega
      have l32 : ¬ (c.toNat : Int) < 32 := by omega
      have k127 : ((c.toNat : Int) == 127) = false := by simp; omega
      have hqc : qc c = [c] := by unfold qc; simp [h34, h92, h10, h13, h9]; omega
      have hsl : s.extract i (i + 1) = B [c] := by
        have hlt2 : i < l.length := by have := hlen.out; omega
        have hci : l[i] = c := by have := hl.out; rw [← hc]; subst this; rfl
        rw [ext_take, hl.out, List.drop_eq_getElem_cons hlt2, hci]
        rfl
      obtain ⟨P1, hP1⟩ : ∃ P, P0 ++ [c] = P := ⟨_, rfl⟩
      have j1 : B P0 ++ B [c] = B P1 := by rw [B_app, hP1]
      have x1 : (B [c]).size = 1 := by rw [B_size]; rfl
      have e1 : ¬ 9223372036854775807 < n0 + 1 := by omega
      have i1 : (i : Int) ≤ (i : Int) + 1 := by omega
      have i2 : (i : Int) + 1 ≤ (s.size : Int) := by omega
      replace hT : Hid ((34 : UInt8) :: qs (l.take (i + 1)) = P1) := by have := hT.out; rw [hqc, hP1] at this; exact this
      clear hqc hP1 hc32 h16 h34 h92 h10 h13 h9
      go_wp2_with fail
      go_roundw
      case rel => exact ⟨i + 1, by omega, by rw [hT.out], by go_num, HB⟩
      case measure => simp [intOf]; omega
    · obtain rfl : i = s.size := by omega
      have hT : B (34 :: qs (l.take s.size)) ++ ⟨#[34]⟩ = B (quoteL l) := by
        have := hlen.out
        rw [show (⟨#[34]⟩ : ByteArray) = B [34] from rfl, B_app, List.take_of_length_le (by omega)]
        rfl
      obtain ⟨n0, z0⟩ : ∃ n, (B (34 :: qs (l.take s.size))).size = n := ⟨_, rfl⟩
      have n0b : n0 ≤ 600001 := by
        have := hlen.out
        have := qs_len l
        rw [← z0, B_size, List.take_of_length_le (by omega)]
        simp only [List.length_cons]
        omega
      have e1 : ¬ 9223372036854775807 < n0 + 1 := by omega
      go_wp2_with fail
      go_ret
      refine ⟨?_, HB.out⟩
      rw [hl.out]
      rfl
end Go.Proofs.YtmchiibbodllaaaGreatDoor
