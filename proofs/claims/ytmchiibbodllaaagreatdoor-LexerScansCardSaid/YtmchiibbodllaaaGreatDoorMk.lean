/- The law's model: token, symbols. -/
import Derived.Test.YtmchiibbodllaaaGreatDoorMg
import Derived.Test.YtmchiibbodllaaaGreatDoorMc
namespace Go.Proofs.YtmchiibbodllaaaGreatDoor
set_option linter.unusedVariables false
set_option linter.unnecessarySimpa false
set_option linter.unusedSimpArgs false
open Go.RowKit

theorem symIx (w : World) (j : Nat) (h : j < 20) : (Instr.index 9 (.string ⟨#[40, 41, 123, 125, 91, 93, 60, 62, 61, 58, 59, 44, 46, 63, 43, 45, 42, 38, 64, 124]⟩) (.int .i64 (j : Int))).run Tryz.prog w = .ok (.int .u8 ((nth singlesL j).toNat : Int)) w := by
  have h0 : ∀ w : World, (Instr.index 9 (.string ⟨#[40, 41, 123, 125, 91, 93, 60, 62, 61, 58, 59, 44, 46, 63, 43, 45, 42, 38, 64, 124]⟩) (.int .i64 0)).run Tryz.prog w = .ok (.int .u8 40) w := fun w => by kernel_rfl
  have h1 : ∀ w : World, (Instr.index 9 (.string ⟨#[40, 41, 123, 125, 91, 93, 60, 62, 61, 58, 59, 44, 46, 63, 43, 45, 42, 38, 64, 124]⟩) (.int .i64 1)).run Tryz.prog w = .ok (.int .u8 41) w := fun w => by kernel_rfl
  have h2 : ∀ w : World, (Instr.index 9 (.string ⟨#[40, 41, 123, 125, 91, 93, 60, 62, 61, 58, 59, 44, 46, 63, 43, 45, 42, 38, 64, 124]⟩) (.int .i64 2)).run Tryz.prog w = .ok (.int .u8 123) w := fun w => by kernel_rfl
  have h3 : ∀ w : World, (Instr.index 9 (.string ⟨#[40, 41, 123, 125, 91, 93, 60, 62, 61, 58, 59, 44, 46, 63, 43, 45, 42, 38, 64, 124]⟩) (.int .i64 3)).run Tryz.prog w = .ok (.int .u8 125) w := fun w => by kernel_rfl
  have h4 : ∀ w : World, (Instr.index 9 (.string ⟨#[40, 41, 123, 125, 91, 93, 60, 62, 61, 58, 59, 44, 46, 63, 43, 45, 42, 38, 64, 124]⟩) (.int .i64 4)).run Tryz.prog w = .ok (.int .u8 91) w := fun w => by kernel_rfl
  have h5 : ∀ w : World, (Instr.index 9 (.string ⟨#[40, 41, 123, 125, 91, 93, 60, 62, 61, 58, 59, 44, 46, 63, 43, 45, 42, 38, 64, 124]⟩) (.int .i64 5)).run Tryz.prog w = .ok (.int .u8 93) w := fun w => by kernel_rfl
  have h6 : ∀ w : World, (Instr.index 9 (.string ⟨#[40, 41, 123, 125, 91, 93, 60, 62, 61, 58, 59, 44, 46, 63, 43, 45, 42, 38, 64, 124]⟩) (.int .i64 6)).run Tryz.prog w = .ok (.int .u8 60) w := fun w => by kernel_rfl
  have h7 : ∀ w : World, (Instr.index 9 (.string ⟨#[40, 41, 123, 125, 91, 93, 60, 62, 61, 58, 59, 44, 46, 63, 43, 45, 42, 38, 64, 124]⟩) (.int .i64 7)).run Tryz.prog w = .ok (.int .u8 62) w := fun w => by kernel_rfl
  have h8 : ∀ w : World, (Instr.index 9 (.string ⟨#[40, 41, 123, 125, 91, 93, 60, 62, 61, 58, 59, 44, 46, 63, 43, 45, 42, 38, 64, 124]⟩) (.int .i64 8)).run Tryz.prog w = .ok (.int .u8 61) w := fun w => by kernel_rfl
  have h9 : ∀ w : World, (Instr.index 9 (.string ⟨#[40, 41, 123, 125, 91, 93, 60, 62, 61, 58, 59, 44, 46, 63, 43, 45, 42, 38, 64, 124]⟩) (.int .i64 9)).run Tryz.prog w = .ok (.int .u8 58) w := fun w => by kernel_rfl
  have h10 : ∀ w : World, (Instr.index 9 (.string ⟨#[40, 41, 123, 125, 91, 93, 60, 62, 61, 58, 59, 44, 46, 63, 43, 45, 42, 38, 64, 124]⟩) (.int .i64 10)).run Tryz.prog w = .ok (.int .u8 59) w := fun w => by kernel_rfl
  have h11 : ∀ w : World, (Instr.index 9 (.string ⟨#[40, 41, 123, 125, 91, 93, 60, 62, 61, 58, 59, 44, 46, 63, 43, 45, 42, 38, 64, 124]⟩) (.int .i64 11)).run Tryz.prog w = .ok (.int .u8 44) w := fun w => by kernel_rfl
  have h12 : ∀ w : World, (Instr.index 9 (.string ⟨#[40, 41, 123, 125, 91, 93, 60, 62, 61, 58, 59, 44, 46, 63, 43, 45, 42, 38, 64, 124]⟩) (.int .i64 12)).run Tryz.prog w = .ok (.int .u8 46) w := fun w => by kernel_rfl
  have h13 : ∀ w : World, (Instr.index 9 (.string ⟨#[40, 41, 123, 125, 91, 93, 60, 62, 61, 58, 59, 44, 46, 63, 43, 45, 42, 38, 64, 124]⟩) (.int .i64 13)).run Tryz.prog w = .ok (.int .u8 63) w := fun w => by kernel_rfl
  have h14 : ∀ w : World, (Instr.index 9 (.string ⟨#[40, 41, 123, 125, 91, 93, 60, 62, 61, 58, 59, 44, 46, 63, 43, 45, 42, 38, 64, 124]⟩) (.int .i64 14)).run Tryz.prog w = .ok (.int .u8 43) w := fun w => by kernel_rfl
  have h15 : ∀ w : World, (Instr.index 9 (.string ⟨#[40, 41, 123, 125, 91, 93, 60, 62, 61, 58, 59, 44, 46, 63, 43, 45, 42, 38, 64, 124]⟩) (.int .i64 15)).run Tryz.prog w = .ok (.int .u8 45) w := fun w => by kernel_rfl
  have h16 : ∀ w : World, (Instr.index 9 (.string ⟨#[40, 41, 123, 125, 91, 93, 60, 62, 61, 58, 59, 44, 46, 63, 43, 45, 42, 38, 64, 124]⟩) (.int .i64 16)).run Tryz.prog w = .ok (.int .u8 42) w := fun w => by kernel_rfl
  have h17 : ∀ w : World, (Instr.index 9 (.string ⟨#[40, 41, 123, 125, 91, 93, 60, 62, 61, 58, 59, 44, 46, 63, 43, 45, 42, 38, 64, 124]⟩) (.int .i64 17)).run Tryz.prog w = .ok (.int .u8 38) w := fun w => by kernel_rfl
  have h18 : ∀ w : World, (Instr.index 9 (.string ⟨#[40, 41, 123, 125, 91, 93, 60, 62, 61, 58, 59, 44, 46, 63, 43, 45, 42, 38, 64, 124]⟩) (.int .i64 18)).run Tryz.prog w = .ok (.int .u8 64) w := fun w => by kernel_rfl
  have h19 : ∀ w : World, (Instr.index 9 (.string ⟨#[40, 41, 123, 125, 91, 93, 60, 62, 61, 58, 59, 44, 46, 63, 43, 45, 42, 38, 64, 124]⟩) (.int .i64 19)).run Tryz.prog w = .ok (.int .u8 124) w := fun w => by kernel_rfl
  have hn : j = 0 ∨ j = 1 ∨ j = 2 ∨ j = 3 ∨ j = 4 ∨ j = 5 ∨ j = 6 ∨ j = 7 ∨ j = 8 ∨ j = 9 ∨ j = 10 ∨ j = 11 ∨ j = 12 ∨ j = 13 ∨ j = 14 ∨ j = 15 ∨ j = 16 ∨ j = 17 ∨ j = 18 ∨ j = 19 := by omega
  clear h
  rcases hn with rfl | rfl | rfl | rfl | rfl | rfl | rfl | rfl | rfl | rfl | rfl | rfl | rfl | rfl | rfl | rfl | rfl | rfl | rfl | rfl
  · exact h0 w
  · exact h1 w
  · exact h2 w
  · exact h3 w
  · exact h4 w
  · exact h5 w
  · exact h6 w
  · exact h7 w
  · exact h8 w
  · exact h9 w
  · exact h10 w
  · exact h11 w
  · exact h12 w
  · exact h13 w
  · exact h14 w
  · exact h15 w
  · exact h16 w
  · exact h17 w
  · exact h18 w
  · exact h19 w
section
variable {w : World} {b i : Nat} {s : ByteArray} {ts : List Pl} {A : Option Addr} {c : Nat} {tb : Int}
set_option maxRecDepth 20000 in set_option maxHeartbeats 400000 in
theorem symbols_m (w : World) : Calls Tryz.prog 94 #[] w fun e w' => e = .returned (.tuple #[.slice (some ⟨w.heap.size, 0, none⟩) 5 5, .string ⟨#[40, 41, 123, 125, 91, 93, 60, 62, 61, 58, 59, 44, 46, 63, 43, 45, 42, 38, 64, 124]⟩]) ∧ Below w.heap.size w w' ∧ ∀ k p, pairsL[k]? = some p → w'.cell? ⟨w.heap.size, k, none⟩ = some (.string (B p)) := by
  go_enter Tryz.func94, Tryz.ntmps94
  go_wp2_with fail
  refine bodyPost_ret (v := .tuple #[.slice (some ⟨w.heap.size, 0, none⟩) 5 5, .string ⟨#[40, 41, 123, 125, 91, 93, 60, 62, 61, 58, 59, 44, 46, 63, 43, 45, 42, 38, 64, 124]⟩]) (by simp only [results, Tryz.results94]; go_simp) rfl ⟨rfl, G.alloc (G.refl w) _, fun k p hk => ?_⟩
  have hb := Bx.new (w := w) (B := w.heap.size) (l := pairsL.map (fun p => Value.string (B p))) (a := (pairsL.map (fun p => Value.string (B p))).toArray) (t := 56) rfl rfl
  have hk5 : k < 5 := (List.getElem?_eq_some_iff.1 hk).1
  match k, hk5, hk with
  | 0, _, hk | 1, _, hk | 2, _, hk | 3, _, hk | 4, _, hk =>
    simp [pairsL] at hk
    subst hk
    simp
    rfl
set_option maxRecDepth 20000 in set_option maxHeartbeats 8000000 in
theorem token_y (h : Bx w b (mC s (i : Int) (.slice A ts.length c) 0 tb)) (hr : MRow w b s ts A c) (hs : s.size ≤ 100000) (hi : i < s.size) (hn : ts.length ≤ 20000)
    (h0 : way (s.data.toList.drop i) = 4) :
    Calls Tryz.prog 56 #[.pointer (some ⟨b, 0, none⟩)] w (RetTk w b s i ts tb (lexY (s.data.toList.drop i))) := by
  have HB := Lib.hid h
  have HR := Lib.hid hr
  have hbw : b < w.heap.size := h.lt
  have FL := Lib.hid (fun (wx : World) (i k e : Int) (lv : Value) (tb : Int) (hb : Bx wx b (mC s i lv 0 tb)) => fail_m hb k e)
  have HH := Lib.hid (fun (wx : World) (p e : Int) (lv : Value) (tb a : Int) (k : Nat) (ha : a = (k : Int)) (hk : k ≤ 1000000) (hb : Bx wx b (mC s p lv e tb)) => here_a hb hs a k ha hk)
  have SI := Lib.hid symIx
  have hlx := lexY.eq_1 (s.data.toList.drop i)
  rw [nth_drop, Nat.add_zero, nth_idx s hi] at hlx
  have hrl : (s.data.toList.drop i).length = s.size - i := by rw [List.length_drop]; rfl
  have hp2 : (s.data.toList.drop i).take 2 ∈ pairsL → i + 2 ≤ s.size := fun h => by have := pair_len h; omega
  have ex1 := ext_take s i 1
  have ex2 := ext_take s i 2
  unfold way at h0
  rw [nth_drop, nth_drop, Nat.add_zero, nth_idx s hi] at h0
  obtain ⟨x, hx⟩ : ∃ x, s[i] = x := ⟨_, rfl⟩
  rw [hx] at h0 hlx
  obtain ⟨y, hy⟩ : ∃ y, nth s.data.toList (i + 1) = y := ⟨_, rfl⟩
  rw [hy] at h0
  have HY := Lib.hid hy
  obtain ⟨r2, hr2⟩ : ∃ r, (s.data.toList.drop i).take 2 = r := ⟨_, rfl⟩
  obtain ⟨r1, hr1⟩ : ∃ r, (s.data.toList.drop i).take 1 = r := ⟨_, rfl⟩
  rw [hr2] at hlx hp2 ex2
  rw [hr1] at hlx ex1
  have hw : ¬ (x.toNat = 120 ∧ y.toNat = 34) ∧ isLet x = false ∧ isDig x = false ∧ x.toNat ≠ 34 := by
    by_cases a1 : x.toNat = 120 ∧ y.toNat = 34
    · rw [if_pos a1] at h0; omega
    · rw [if_neg a1] at h0
      cases a2 : isLet x
      · rw [a2, if_neg (by simp)] at h0
        cases a3 : isDig x
        · rw [a3, if_neg (by simp)] at h0
          by_cases a4 : x.toNat = 34
          · rw [if_pos a4] at h0; omega
          · exact ⟨a1, rfl, rfl, a4⟩
        · rw [a3, if_pos rfl] at h0; omega
      · rw [a2, if_pos rfl] at h0; omega
  obtain ⟨w1, w2, w3, w4⟩ := hw
  have L1 := Lib.hid (fun wx => letter_m x wx)
  have D1 := Lib.hid (fun wx => digit_m x wx)
  rw [w2] at L1
  rw [w3] at D1
  have k120 : ((x.toNat : Int) == 120) = false := by
    have : x.toNat ≠ 120 := fun e => by unfold isLet at w2; simp [e] at w2
    simp; omega
  have k34 : ((x.toNat : Int) == 34) = false := by simp; omega
  have hi1 : (i : Int) < (s.size : Int) := by omega
  obtain ⟨z2, hz2⟩ : ∃ z, i + 2 = z := ⟨_, rfl⟩
  obtain ⟨z1, hz1⟩ : ∃ z, i + 1 = z := ⟨_, rfl⟩
  rw [hz2] at ex2 hp2
  rw [hz1] at ex1
  have hx2 : IntKind.i64.wrap ((i : Int) + 2) = (z2 : Int) := by rw [IntWalk.i64_in _ (by omega)]; omega
  have hx1 : IntKind.i64.wrap ((i : Int) + 1) = (z1 : Int) := by rw [IntWalk.i64_in _ (by omega)]; omega
  have i1 : (i : Int) ≤ (z1 : Int) := by omega
  have i2 : (i : Int) ≤ (z2 : Int) := by omega
  have i3 : (z1 : Int) ≤ (s.size : Int) := by omega
  have HZ2 := Lib.hid hz2
  have HZ1 := Lib.hid hz1
  have HLX := Lib.hid hlx
  have HP2 := Lib.hid hp2
  clear h hr h0 hlx hrl hp2 hy w1 w2 w3 w4 hr1 hr2 hz1 hz2
  (obtain ⟨c0, c1, c2, c3, c4⟩ := HB.out.c5; obtain ⟨f0, f1, f2, f3, f4⟩ := HB.out.f5; have lt := HB.out.lt)
  go_enter Tryz.func56, Tryz.ntmps56
  go_wp2_with fail
  go_at_call 90
  (with_reducible refine (L1.out _).mono ?_)
  rintro e1 w6 ⟨rfl, rfl⟩
  go_wp2_with fail
  go_at_call 91
  (with_reducible refine (D1.out _).mono ?_)
  rintro e1 w7 ⟨rfl, rfl⟩
  go_wp2_with fail
  go_at_call 94
  (with_reducible refine (symbols_m _).mono ?_)
  obtain ⟨W, hW⟩ : ∃ W, w7.heap.size = W := ⟨_, rfl⟩
  rw [hW]
  rintro e1 w8 ⟨rfl, hb8, hpc⟩
  have HPC := Lib.hid hpc
  have hb9 : Below w7.heap.size w7 w8 := by rw [hW]; exact hb8
  have hWl : W < w8.heap.size := cell_lt (hpc 0 _ rfl)
  replace HB := Lib.hid (HB.out.grow hb9)
  replace HR := Lib.hid (HR.out.grow hb9)
  have HG := Lib.hid hb9
  clear hpc hb8 hb9 hW L1 D1 HH HY k120 k34
  clear c0 c1 c2 c3 c4 f0 f1 f2 f3 f4 lt
  (obtain ⟨c0, c1, c2, c3, c4⟩ := HB.out.c5; obtain ⟨f0, f1, f2, f3, f4⟩ := HB.out.f5; have lt := HB.out.lt)
  go_wp2_with fail
  have H0 : Hid (((if x ∈ singlesL.take 0 then 1 else 0 : Nat)) = 0) := rfl
  go_loopw [8, 9] (fun nv jv wx => ∃ j m : Nat, j ≤ 20 ∧ nv = .int .i64 (m : Int) ∧ jv = .int .i64 (j : Int) ∧ Hid ((if x ∈ singlesL.take j then 1 else 0 : Nat) = m) ∧ w8 = wx) (fun _ jv _ => 20 - (intOf jv).toNat)
  case atStart => exact ⟨0, 0, by omega, rfl, rfl, H0, rfl⟩
  case round =>
    clear H0
    obtain ⟨j, m, hj, rfl, rfl, HM, rfl⟩ := hrel
    have hw2 : IntKind.i64.wrap ((j : Int) + 1) = ((j + 1 : Nat) : Int) := by rw [IntWalk.i64_in _ (by omega)]; omega
    by_cases hlt : j < 20
    · have hlt' : (j : Int) < 20 := by omega
      have S1 := SI.out w8 j hlt
      have hst : singlesL.take (j + 1) = singlesL.take j ++ [nth singlesL j] := by
        have hjl : j < singlesL.length := hlt
        rw [List.take_succ_eq_append_getElem hjl, nth_get hjl]
      obtain ⟨z, hz⟩ : ∃ z, nth singlesL j = z := ⟨_, rfl⟩
      rw [hz] at S1 hst
      have hm := HM.out
      by_cases hxz : x = z
      · have kz : ((x.toNat : Int) == (z.toNat : Int)) = true := by simp [hxz]
        have HM1 : Hid ((if x ∈ singlesL.take (j + 1) then 1 else 0 : Nat) = 1) := by unfold Hid; rw [hst, if_pos (by simp [hxz])]
        clear hst hm hxz hz
        go_wp2_with fail
        go_roundw
        case rel => exact ⟨j + 1, 1, by omega, rfl, by go_num, HM1, trivial⟩
        case measure => simp [intOf]; omega
      · have kz : ((x.toNat : Int) == (z.toNat : Int)) = false := by
          have : x.toNat ≠ z.toNat := fun e => hxz (UInt8.toNat_inj.1 e)
          simp; omega
        have HM1 : Hid ((if x ∈ singlesL.take (j + 1) then 1 else 0 : Nat) = m) := by
          unfold Hid
          rw [hst, ← hm]
          simp [hxz]
        clear hst hm hxz hz
        go_wp2_with fail
        go_roundw
        case rel => exact ⟨j + 1, m, by omega, rfl, by go_num, HM1, trivial⟩
        case measure => simp [intOf]; omega
    · have HM1 : Hid ((if x ∈ singlesL then 1 else 0 : Nat) = m) := by have := HM.out; rw [show j = 20 by omega, show singlesL.take 20 = singlesL from rfl] at this; exact this
      have hlt' : ¬ (j : Int) < 20 := by omega
      clear HM SI
      go_wp2_with fail
      have H1 : Hid ((if z2 ≤ s.size ∧ r2 ∈ pairsL.take 0 then 2 else m : Nat) = m) := by unfold Hid; simp
      go_loopw [39, 8] (fun kv nv wx => ∃ k q : Nat, k ≤ 5 ∧ kv = .int .i64 (k : Int) ∧ nv = .int .i64 (q : Int) ∧ Hid ((if z2 ≤ s.size ∧ r2 ∈ pairsL.take k then 2 else m : Nat) = q) ∧ w8 = wx) (fun kv _ _ => 5 - (intOf kv).toNat)
      case atStart => exact ⟨0, m, by omega, rfl, rfl, H1, rfl⟩
      case round =>
        clear H1
        obtain ⟨k, q, hk, rfl, rfl, HQ, rfl⟩ := hrel
        have hw3 : IntKind.i64.wrap ((k : Int) + 1) = ((k + 1 : Nat) : Int) := by rw [IntWalk.i64_in _ (by omega)]; omega
        by_cases hlt : k < 5
        · have hlt' : (k : Int) < 5 := by omega
          obtain ⟨p, hp⟩ : ∃ p, pairsL[k]? = some p := ⟨_, List.getElem?_eq_getElem (by exact hlt)⟩
          have hc9 := HPC.out k p hp
          have hst : pairsL.take (k + 1) = pairsL.take k ++ [p] := by
            obtain ⟨h1, h2⟩ := List.getElem?_eq_some_iff.1 hp
            rw [List.take_succ_eq_append_getElem h1, h2]
          have hq := HQ.out
          by_cases hsz : z2 ≤ s.size
          · have l1 : (z2 : Int) ≤ (s.size : Int) := by omega
            by_cases hrp : r2 = p
            · have kE : ((B r2).toList == (B p).toList) = true := by rw [B_eq]; simp [hrp]
              have HQ1 : Hid ((if z2 ≤ s.size ∧ r2 ∈ pairsL.take (k + 1) then 2 else m : Nat) = 2) := by unfold Hid; rw [hst, if_pos ⟨hsz, by simp [hrp]⟩]
              have kE2 : (B r2).toList = (B p).toList := by rw [hrp]
              clear hst hq hp hsz hrp
              go_wp2_with fail
              go_roundw
              case rel => exact ⟨k + 1, 2, by omega, by go_num, rfl, HQ1, trivial⟩
              case measure => simp [intOf]; omega
            · have kE : ((B r2).toList == (B p).toList) = false := by rw [B_eq]; simp [hrp]
              have kE2 : ¬ (B r2).toList = (B p).toList := by rw [B_eq']; exact hrp
              have HQ1 : Hid ((if z2 ≤ s.size ∧ r2 ∈ pairsL.take (k + 1) then 2 else m : Nat) = q) := by unfold Hid; rw [hst, ← hq]; simp [hrp]
              clear hst hq hp hsz hrp
              go_wp2_with fail
              go_roundw
              case rel => exact ⟨k + 1, q, by omega, by go_num, rfl, HQ1, trivial⟩
              case measure => simp [intOf]; omega
          · have l1 : ¬ (z2 : Int) ≤ (s.size : Int) := by omega
            have HQ1 : Hid ((if z2 ≤ s.size ∧ r2 ∈ pairsL.take (k + 1) then 2 else m : Nat) = q) := by unfold Hid; rw [← hq, if_neg (fun h => hsz h.1), if_neg (fun h => hsz h.1)]
            clear hst hq hp hsz
            go_wp2_with fail
            go_roundw
            case rel => exact ⟨k + 1, q, by omega, by go_num, rfl, HQ1, trivial⟩
            case measure => simp [intOf]; omega
        · have hlt' : ¬ (k : Int) < 5 := by omega
          have hk5 : k = 5 := by omega
          have HM2 : Hid ((if r2 ∈ pairsL then 2 else if x ∈ singlesL then 1 else 0 : Nat) = q) := by
            have h1 := HQ.out
            have h2 := HM1.out
            rw [hk5, show pairsL.take 5 = pairsL from rfl] at h1
            unfold Hid
            rw [h2, ← h1]
            by_cases h3 : r2 ∈ pairsL
            · rw [if_pos h3, if_pos ⟨HP2.out h3, h3⟩]
            · rw [if_neg h3, if_neg (fun h => h3 h.2)]
          clear HQ hk5
          have hm2 := HM2.out
          by_cases h3 : r2 ∈ pairsL
          · rw [if_pos h3] at hm2
            subst hm2
            have HL2 : Hid (lexY (s.data.toList.drop i) = .ok 2 ⟨5, r2, [], 0, 0⟩) := by unfold Hid; rw [HLX.out, if_pos h3]
            have l1 : (z2 : Int) ≤ (s.size : Int) := by have := HP2.out h3; omega
            clear h3
            have AD := Lib.hid (fun (wx : World) (hb : Bx wx b (mC s (z2 : Int) (.slice A ts.length c) 0 tb)) (hr : MRow wx b s ts A c) => add_m hb hr hs (Nat.le_of_lt hi) hn ⟨5, r2, [], 0, 0⟩)
            dsimp only [tnL] at AD
            rw [show B [] = (⟨#[]⟩ : ByteArray) from rfl] at AD
            clear HM2 HM1
            go_wp2_with fail
            refine wp_name (fun wx => Hid (Bx wx b (mC s (z2 : Int) (.slice A ts.length c) 0 tb)) ∧ Hid (Chg b b w8 wx)) ⟨HB.out.put rfl, (Chg.refl b b w8).set1 _ _⟩ ?_
            have HR8 := HR
            clear HB
            clear c0 c1 c2 c3 c4 f0 f1 f2 f3 f4 lt
            rintro w9 ⟨HB, HC⟩
            have HR2 := Lib.hid (HR8.out.chg HC.out)
            (obtain ⟨c0, c1, c2, c3, c4⟩ := HB.out.c5; obtain ⟨f0, f1, f2, f3, f4⟩ := HB.out.f5; have lt := HB.out.lt)
            refine wp_region_ord [(0, 1), (1, 1), (2, 1), (3, 1), (4, 1), (5, 1), (6, 1), (7, 1), (8, 1), (9, 1), (10, 1), (11, 1), (12, 1), (13, 3)] [13] 5 (by kernel_rfl) (by decide +kernel) ?_
            simp only [pickO, List.append_eq, List.cons_append, List.nil_append, List.getElem?_cons_succ, List.getElem?_cons_zero]
            intro w0 hG
            (repeat ((first | (with_reducible refine ord_q1 ?_) | (with_reducible refine ord_q0 ?_)); intro K hK; first | (refine Or.inr ⟨?_, ?_⟩; (focus (go_simp; first | done | (simp [undef]; done))); go_simp; (with_reducible refine hK _ ?_); clear hK K) | (refine Or.inl ⟨?_, ?_⟩; (focus (go_simp; done)); apply Exists.intro; refine And.intro ?_ ?_; (focus (first | (intro wq hq; obtain ⟨hcq, hfq⟩ := G.old hq; go_simp; (first | done | exact rfl); done) | (intro wq; go_simp; (first | done | exact rfl); done))); go_simp; (with_reducible refine hK _ ?_); clear hK K) | fail))
            (with_reducible refine ord_tail ?_)
            intro K hK
            go_simp
            have hb9 := hG.b
            go_at_call 92
            (with_reducible refine (AD.out _ (HB.out.grow hb9) (HR2.out.grow hb9)).mono ?_)
            rintro e1 w10 ⟨rfl, hb6, A6, c6, hbx6, hr6⟩
            (try dsimp only)
            (with_reducible refine hK _ _ ?_)
            clear hK K
            (with_reducible refine ord_nil ?_)
            go_wp2_with fail
            (first | go_end0 | refine bodyPost_ret (results_none rfl _ _ _) rfl ?_)
            rw [HL2.out]
            exact ⟨rfl, ((HG.out.mono (Nat.le_of_lt hbw)).trans ((HC.out.grow hb9).bel (Nat.le_of_lt (Nat.lt_of_lt_of_le hbw HG.out.size)))).trans hb6, A6, c6, by rw [HZ2.out]; exact hbx6, hr6⟩
          · rw [if_neg h3] at hm2
            by_cases h4 : x ∈ singlesL
            · rw [if_pos h4] at hm2
              subst hm2
              have HL2 : Hid (lexY (s.data.toList.drop i) = .ok 1 ⟨5, r1, [], 0, 0⟩) := by unfold Hid; rw [HLX.out, if_neg h3, if_pos h4]
              clear h3 h4
              have AD := Lib.hid (fun (wx : World) (hb : Bx wx b (mC s (z1 : Int) (.slice A ts.length c) 0 tb)) (hr : MRow wx b s ts A c) => add_m hb hr hs (Nat.le_of_lt hi) hn ⟨5, r1, [], 0, 0⟩)
              dsimp only [tnL] at AD
              rw [show B [] = (⟨#[]⟩ : ByteArray) from rfl] at AD
              clear HM2 HM1
              go_wp2_with fail
              refine wp_name (fun wx => Hid (Bx wx b (mC s (z1 : Int) (.slice A ts.length c) 0 tb)) ∧ Hid (Chg b b w8 wx)) ⟨HB.out.put rfl, (Chg.refl b b w8).set1 _ _⟩ ?_
              have HR8 := HR
              clear HB
              clear c0 c1 c2 c3 c4 f0 f1 f2 f3 f4 lt
              rintro w9 ⟨HB, HC⟩
              have HR2 := Lib.hid (HR8.out.chg HC.out)
              (obtain ⟨c0, c1, c2, c3, c4⟩ := HB.out.c5; obtain ⟨f0, f1, f2, f3, f4⟩ := HB.out.f5; have lt := HB.out.lt)
              refine wp_region_ord [(0, 1), (1, 1), (2, 1), (3, 1), (4, 1), (5, 1), (6, 1), (7, 1), (8, 1), (9, 1), (10, 1), (11, 1), (12, 1), (13, 3)] [13] 5 (by kernel_rfl) (by decide +kernel) ?_
              simp only [pickO, List.append_eq, List.cons_append, List.nil_append, List.getElem?_cons_succ, List.getElem?_cons_zero]
              intro w0 hG
              (repeat ((first | (with_reducible refine ord_q1 ?_) | (with_reducible refine ord_q0 ?_)); intro K hK; first | (refine Or.inr ⟨?_, ?_⟩; (focus (go_simp; first | done | (simp [undef]; done))); go_simp; (with_reducible refine hK _ ?_); clear hK K) | (refine Or.inl ⟨?_, ?_⟩; (focus (go_simp; done)); apply Exists.intro; refine And.intro ?_ ?_; (focus (first | (intro wq hq; obtain ⟨hcq, hfq⟩ := G.old hq; go_simp; (first | done | exact rfl); done) | (intro wq; go_simp; (first | done | exact rfl); done))); go_simp; (with_reducible refine hK _ ?_); clear hK K) | fail))
              (with_reducible refine ord_tail ?_)
              intro K hK
              go_simp
              have hb9 := hG.b
              go_at_call 92
              (with_reducible refine (AD.out _ (HB.out.grow hb9) (HR2.out.grow hb9)).mono ?_)
              rintro e1 w10 ⟨rfl, hb6, A6, c6, hbx6, hr6⟩
              (try dsimp only)
              (with_reducible refine hK _ _ ?_)
              clear hK K
              (with_reducible refine ord_nil ?_)
              go_wp2_with fail
              (first | go_end0 | refine bodyPost_ret (results_none rfl _ _ _) rfl ?_)
              rw [HL2.out]
              exact ⟨rfl, ((HG.out.mono (Nat.le_of_lt hbw)).trans ((HC.out.grow hb9).bel (Nat.le_of_lt (Nat.lt_of_lt_of_le hbw HG.out.size)))).trans hb6, A6, c6, by rw [HZ1.out]; exact hbx6, hr6⟩
            · rw [if_neg h4] at hm2
              subst hm2
              have HL2 : Hid (lexY (s.data.toList.drop i) = .bad 0 6) := by unfold Hid; rw [HLX.out, if_neg h3, if_neg h4]
              clear h3 h4 HM2 HM1
              go_wp2_with fail
              go_at_call 55
              (with_reducible refine (FL.out _ _ _ _ _ _ HB.out).mono ?_)
              rintro e1 w9 ⟨rfl, hb9, hc9⟩
              go_wp2_with fail
              (first | go_end0 | refine bodyPost_ret (results_none rfl _ _ _) rfl ?_)
              rw [HL2.out]
              exact ⟨rfl, (HG.out.mono (Nat.le_of_lt hbw)).trans (hc9.bel (Nat.le_of_lt (Nat.lt_of_lt_of_le hbw HG.out.size))), _, _, by rw [Nat.add_zero]; exact hb9⟩
end
end Go.Proofs.YtmchiibbodllaaaGreatDoor
