/- The law's model: token, the arms for values, numbers and words. -/
import Derived.Test.YtmchiibbodllaaaGreatDoorMf
import Derived.Test.YtmchiibbodllaaaGreatDoorMh
namespace Go.Proofs.YtmchiibbodllaaaGreatDoor
set_option linter.unusedVariables false
set_option linter.unnecessarySimpa false
set_option linter.unusedSimpArgs false
open Go.RowKit

theorem lexX_hexP (r : List UInt8) (h : 2 ≤ r.length) : lexX r = match hexP (r.length + 1) r 2 [] with
    | .ok n v => if 1024 < v.length then .bad 0 5 else .ok n ⟨4, [], v, 0, 0⟩
    | .bad o e => .bad o e := by
  rw [hexP_eq _ r 2 [] h (by omega)]
  unfold lexX
  by_cases h1 : r.length ≤ 2 + spn isHex (r.drop 2)
  · rw [if_pos h1, if_pos h1]
  · rw [if_neg h1, if_neg h1]
    by_cases h2 : (nth r (2 + spn isHex (r.drop 2))).toNat ≠ 34 ∨ spn isHex (r.drop 2) % 2 ≠ 0
    · rw [if_pos h2, if_pos h2]
    · rw [if_neg h2, if_neg h2]
      simp only [List.nil_append]
theorem hexP_in : ∀ (F : Nat) (r : List UInt8) (i : Nat) (acc : List UInt8) {o : Nat} {e : Int}, r.length < i + F → i ≤ r.length → hexP F r i acc = .bad o e → e ≠ 0
  | 0, r, i, acc, o, e, h1, h2, h => by omega
  | F + 1, r, i, acc, o, e, h1, h2, h => by
    unfold hexP at h
    split at h
    · injection h with _ h; omega
    · split at h
      · cases h
      · split at h
        · injection h with _ h; omega
        · split at h
          · injection h with _ h; omega
          · split at h
            · injection h with _ h; omega
            · exact hexP_in F r _ _ (by omega) (by omega) h
section
variable {w : World} {b i : Nat} {s : ByteArray} {ts : List Pl} {A : Option Addr} {c : Nat} {tb : Int}
set_option maxRecDepth 20000 in set_option maxHeartbeats 4000000 in
theorem token_x (h : Bx w b (mC s (i : Int) (.slice A ts.length c) 0 tb)) (hr : MRow w b s ts A c) (hs : s.size ≤ 100000) (hi : i < s.size) (hn : ts.length ≤ 20000)
    (h0 : (nth s.data.toList i).toNat = 120) (h1 : (nth s.data.toList (i + 1)).toNat = 34) :
    Calls Tryz.prog 56 #[.pointer (some ⟨b, 0, none⟩)] w (RetTk w b s i ts tb (lexX (s.data.toList.drop i))) := by
  have h2 : i + 2 ≤ s.size := by
    rcases Nat.lt_or_ge (i + 1) s.size with h | h
    · omega
    · rw [nth_end (by exact h)] at h1; exact absurd h1 (by decide)
  have hrl : (s.data.toList.drop i).length = s.size - i := by rw [List.length_drop]; rfl
  have hlx := lexX_hexP (s.data.toList.drop i) (by omega)
  have hbd := fun o e (he : hexP ((s.data.toList.drop i).length + 1) (s.data.toList.drop i) 2 [] = .bad o e) => hexP_in _ _ _ _ (by omega) (by omega) he
  have HB := Lib.hid h
  have HR := Lib.hid hr
  have hbw : b < w.heap.size := h.lt
  rw [nth_idx s hi] at h0
  obtain ⟨x, hx⟩ : ∃ x, s[i] = x := ⟨_, rfl⟩
  rw [hx] at h0
  obtain ⟨y, hy⟩ : ∃ y, nth s.data.toList (i + 1) = y := ⟨_, rfl⟩
  rw [hy] at h1
  have HY := Lib.hid hy
  have k120 : ((x.toNat : Int) == 120) = true := by simp [h0]
  have k34 : ((y.toNat : Int) == 34) = true := by simp [h1]
  have hi1 : (i : Int) < (s.size : Int) := by omega
  have hx1 : IntKind.i64.wrap ((i : Int) + 1) = (i : Int) + 1 := IntWalk.i64_in _ (by omega)
  have hx2 : IntKind.i64.wrap ((i : Int) + 2) = ((i + 2 : Nat) : Int) := by rw [IntWalk.i64_in _ (by omega)]; simp
  have HH := Lib.hid (fun (wx : World) (p e : Int) (lv : Value) (tb a : Int) (k : Nat) (ha : a = (k : Int)) (hk : k ≤ 1000000) (hb : Bx wx b (mC s p lv e tb)) => here_a hb hs a k ha hk)
  have BY := Lib.hid (fun (wx : World) (hb : Bx wx b (mC s ((i + 2 : Nat) : Int) (.slice A ts.length c) 0 tb)) => bytes_m (f := i) (q0 := 2) hb hs h2)
  have VL := Lib.hid (fun (wx : World) (n : Nat) (v : List UInt8) (hv : v.length ≤ 1024) (hb : Bx wx b (mC s (n : Int) (.slice A ts.length c) 0 tb)) (hr : MRow wx b s ts A c) => value_ok hb hr hs (Nat.le_of_lt hi) hn ⟨4, [], v, 0, 0⟩ hv)
  have VB := Lib.hid (fun (wx : World) (n : Nat) (e : Int) (he : e ≠ 0) (hb : Bx wx b (mC s (n : Int) (.slice A ts.length c) e tb)) => value_bad (ts := ts) hb he 4 0 0 [] [] 0 0 false (i : Int))
  have VG := Lib.hid (fun (wx : World) (n : Nat) (v : List UInt8) (hv : 1024 < v.length) (hb : Bx wx b (mC s (n : Int) (.slice A ts.length c) 0 tb)) => value_long (ts := ts) hb 4 0 0 [] v hv 0 0 false (i : Int))
  dsimp only [tnL] at VL VB VG
  rw [show B [] = (⟨#[]⟩ : ByteArray) from rfl] at VL VB VG
  have hrlH := Lib.hid hrl
  clear h hr h0 h1 hy hrl
  obtain ⟨X, hX⟩ : ∃ X, hexP ((s.data.toList.drop i).length + 1) (s.data.toList.drop i) 2 [] = X := ⟨_, rfl⟩
  rw [hX] at hlx hbd BY
  clear hX
  rcases X with ⟨n, v⟩ | ⟨o, e⟩
  · replace hlx := Lib.hid hlx
    clear hbd
    (obtain ⟨c0, c1, c2, c3, c4⟩ := HB.out.c5; obtain ⟨f0, f1, f2, f3, f4⟩ := HB.out.f5; have lt := HB.out.lt)
    go_enter Tryz.func56, Tryz.ntmps56
    go_wp2_with fail
    go_at_call 86
    (with_reducible refine (HH.out _ _ _ _ _ _ (i + 1) (by omega) (by omega) HB.out).mono ?_)
    rw [HY.out]
    rintro e1 w6 ⟨rfl, rfl⟩
    go_wp2_with fail
    go_at_call 87
    (with_reducible refine (BY.out _ (HB.out.put rfl)).mono ?_)
    rintro e1 w7 ⟨hc7, rfl, hb7⟩
    have HC7 := Lib.hid (((Chg.refl b b w6).set1 _ _).trans hc7)
    have HR7 := Lib.hid (HR.out.chg HC7.out)
    clear hc7
    go_wp2_with fail
    go_at_call 88
    by_cases hv : 1024 < v.length
    · (with_reducible refine (VG.out _ _ v hv hb7).mono ?_)
      rintro e1 w8 ⟨rfl, hb8, hbx8⟩
      have HLX : Hid (lexX (s.data.toList.drop i) = .bad 0 5) := by have := hlx.out; simp only [if_pos hv] at this; exact this
      go_wp2_with fail
      (first | go_end0 | refine bodyPost_ret (results_none rfl _ _ _) rfl ?_)
      rw [HLX.out]
      exact ⟨rfl, (HC7.out.bel (Nat.le_of_lt hbw)).trans hb8, _, _, by rw [Nat.add_zero]; exact hbx8⟩
    · (with_reducible refine (VL.out _ _ v (by omega) hb7 HR7.out).mono ?_)
      rintro e1 w8 ⟨rfl, hb8, A8, c8, hbx8, hr8⟩
      have HLX : Hid (lexX (s.data.toList.drop i) = .ok n ⟨4, [], v, 0, 0⟩) := by have := hlx.out; simp only [if_neg hv] at this; exact this
      go_wp2_with fail
      (first | go_end0 | refine bodyPost_ret (results_none rfl _ _ _) rfl ?_)
      rw [HLX.out]
      exact ⟨rfl, (HC7.out.bel (Nat.le_of_lt hbw)).trans hb8, A8, c8, hbx8, hr8⟩
  · have he := hbd o e rfl
    replace hlx := Lib.hid hlx
    clear hbd
    (obtain ⟨c0, c1, c2, c3, c4⟩ := HB.out.c5; obtain ⟨f0, f1, f2, f3, f4⟩ := HB.out.f5; have lt := HB.out.lt)
    go_enter Tryz.func56, Tryz.ntmps56
    go_wp2_with fail
    go_at_call 86
    (with_reducible refine (HH.out _ _ _ _ _ _ (i + 1) (by omega) (by omega) HB.out).mono ?_)
    rw [HY.out]
    rintro e1 w6 ⟨rfl, rfl⟩
    go_wp2_with fail
    go_at_call 87
    (with_reducible refine (BY.out _ (HB.out.put rfl)).mono ?_)
    rintro e1 w7 ⟨hc7, rfl, hb7⟩
    have HC7 := Lib.hid (((Chg.refl b b w6).set1 _ _).trans hc7)
    clear hc7
    go_wp2_with fail
    go_at_call 88
    (with_reducible refine (VB.out _ _ _ he hb7).mono ?_)
    rintro e1 w8 ⟨rfl, hb8⟩
    have HLX : Hid (lexX (s.data.toList.drop i) = .bad o e) := hlx.out
    go_wp2_with fail
    (first | go_end0 | refine bodyPost_ret (results_none rfl _ _ _) rfl ?_)
    rw [HLX.out]
    exact ⟨rfl, (HC7.out.bel (Nat.le_of_lt hbw)).trans (hb8.mono (Nat.le_of_lt hb7.lt)), _, _, hb7.grow hb8⟩
set_option maxRecDepth 20000 in set_option maxHeartbeats 4000000 in
theorem token_s (hE : Env w) (hgb : ¬ GB b) (h : Bx w b (mC s (i : Int) (.slice A ts.length c) 0 tb)) (hr : MRow w b s ts A c) (hs : s.size ≤ 100000) (hi : i < s.size) (hn : ts.length ≤ 20000)
    (h0 : (nth s.data.toList i).toNat = 34) :
    Calls Tryz.prog 56 #[.pointer (some ⟨b, 0, none⟩)] w (RetTk w b s i ts tb (lexS (s.data.toList.drop i))) := by
  have hrl : (s.data.toList.drop i).length = s.size - i := by rw [List.length_drop]; rfl
  have hlx := lexS.eq_1 (s.data.toList.drop i)
  have hbd := fun o e (he : strB ((s.data.toList.drop i).length + 1) (s.data.toList.drop i) 1 [] = .bad o e) => (show e ≠ 0 by have := strB_bd ((s.data.toList.drop i).length + 1) (s.data.toList.drop i) 1 [] (by omega) (by omega) (by omega); rw [he] at this; exact this.2)
  have HB := Lib.hid h
  have HR := Lib.hid hr
  have hbw : b < w.heap.size := h.lt
  rw [nth_idx s hi] at h0
  obtain ⟨x, hx⟩ : ∃ x, s[i] = x := ⟨_, rfl⟩
  rw [hx] at h0
  have k120 : ((x.toNat : Int) == 120) = false := by simp [h0]
  have k34 : ((x.toNat : Int) == 34) = true := by simp [h0]
  have hi1 : (i : Int) < (s.size : Int) := by omega
  have hx1 : IntKind.i64.wrap ((i : Int) + 1) = ((i + 1 : Nat) : Int) := by rw [IntWalk.i64_in _ (by omega)]; simp
  have BY := Lib.hid (fun (wx : World) (hb : Bx wx b (mC s ((i + 1 : Nat) : Int) (.slice A ts.length c) 0 tb)) (he : Env wx) => text_m (f := i) (q0 := 1) he hgb hb hs (by omega))
  have VL := Lib.hid (fun (wx : World) (n : Nat) (v : List UInt8) (hv : v.length ≤ 1024) (hb : Bx wx b (mC s (n : Int) (.slice A ts.length c) 0 tb)) (hr : MRow wx b s ts A c) => value_ok hb hr hs (Nat.le_of_lt hi) hn ⟨3, [], v, 0, 0⟩ hv)
  have VB := Lib.hid (fun (wx : World) (n : Nat) (e : Int) (he : e ≠ 0) (hb : Bx wx b (mC s (n : Int) (.slice A ts.length c) e tb)) => value_bad (ts := ts) hb he 3 0 0 [] [] 0 0 false (i : Int))
  have VG := Lib.hid (fun (wx : World) (n : Nat) (v : List UInt8) (hv : 1024 < v.length) (hb : Bx wx b (mC s (n : Int) (.slice A ts.length c) 0 tb)) => value_long (ts := ts) hb 3 0 0 [] v hv 0 0 false (i : Int))
  dsimp only [tnL] at VL VB VG
  rw [show B [] = (⟨#[]⟩ : ByteArray) from rfl] at VL VB VG
  have hrlH := Lib.hid hrl
  have HE := Lib.hid hE
  clear h hr h0 hrl hE
  obtain ⟨X, hX⟩ : ∃ X, strB ((s.data.toList.drop i).length + 1) (s.data.toList.drop i) 1 [] = X := ⟨_, rfl⟩
  rw [hX] at hlx hbd BY
  clear hX
  rcases X with ⟨n, v⟩ | ⟨o, e⟩
  · replace hlx := Lib.hid hlx
    clear hbd
    (obtain ⟨c0, c1, c2, c3, c4⟩ := HB.out.c5; obtain ⟨f0, f1, f2, f3, f4⟩ := HB.out.f5; have lt := HB.out.lt)
    go_enter Tryz.func56, Tryz.ntmps56
    go_wp2_with fail
    go_at_call 89
    (with_reducible refine (BY.out _ (HB.out.put rfl) (HE.out.chg ((Chg.refl b b w).set1 1 (.int .i64 ((i : Int) + 1))) hgb hgb)).mono ?_)
    rintro e1 w7 ⟨hc7, rfl, hb7⟩
    have HC7 := Lib.hid (((Chg.refl b b w).set1 _ _).trans hc7)
    have HR7 := Lib.hid (HR.out.chg HC7.out)
    clear hc7
    go_wp2_with fail
    go_at_call 88
    by_cases hv : 1024 < v.length
    · (with_reducible refine (VG.out _ _ v hv hb7).mono ?_)
      rintro e1 w8 ⟨rfl, hb8, hbx8⟩
      have HLX : Hid (lexS (s.data.toList.drop i) = .bad 0 5) := by have := hlx.out; simp only [if_pos hv] at this; exact this
      go_wp2_with fail
      (first | go_end0 | refine bodyPost_ret (results_none rfl _ _ _) rfl ?_)
      rw [HLX.out]
      exact ⟨rfl, (HC7.out.bel (Nat.le_of_lt hbw)).trans hb8, _, _, by rw [Nat.add_zero]; exact hbx8⟩
    · (with_reducible refine (VL.out _ _ v (by omega) hb7 HR7.out).mono ?_)
      rintro e1 w8 ⟨rfl, hb8, A8, c8, hbx8, hr8⟩
      have HLX : Hid (lexS (s.data.toList.drop i) = .ok n ⟨3, [], v, 0, 0⟩) := by have := hlx.out; simp only [if_neg hv] at this; exact this
      go_wp2_with fail
      (first | go_end0 | refine bodyPost_ret (results_none rfl _ _ _) rfl ?_)
      rw [HLX.out]
      exact ⟨rfl, (HC7.out.bel (Nat.le_of_lt hbw)).trans hb8, A8, c8, hbx8, hr8⟩
  · have he := hbd o e rfl
    replace hlx := Lib.hid hlx
    clear hbd
    (obtain ⟨c0, c1, c2, c3, c4⟩ := HB.out.c5; obtain ⟨f0, f1, f2, f3, f4⟩ := HB.out.f5; have lt := HB.out.lt)
    go_enter Tryz.func56, Tryz.ntmps56
    go_wp2_with fail
    go_at_call 89
    (with_reducible refine (BY.out _ (HB.out.put rfl) (HE.out.chg ((Chg.refl b b w).set1 1 (.int .i64 ((i : Int) + 1))) hgb hgb)).mono ?_)
    rintro e1 w7 ⟨hc7, rfl, hb7⟩
    have HC7 := Lib.hid (((Chg.refl b b w).set1 _ _).trans hc7)
    clear hc7
    go_wp2_with fail
    go_at_call 88
    (with_reducible refine (VB.out _ _ _ he hb7).mono ?_)
    rintro e1 w8 ⟨rfl, hb8⟩
    have HLX : Hid (lexS (s.data.toList.drop i) = .bad o e) := hlx.out
    go_wp2_with fail
    (first | go_end0 | refine bodyPost_ret (results_none rfl _ _ _) rfl ?_)
    rw [HLX.out]
    exact ⟨rfl, (HC7.out.bel (Nat.le_of_lt hbw)).trans (hb8.mono (Nat.le_of_lt hb7.lt)), _, _, hb7.grow hb8⟩
end
end Go.Proofs.YtmchiibbodllaaaGreatDoor
