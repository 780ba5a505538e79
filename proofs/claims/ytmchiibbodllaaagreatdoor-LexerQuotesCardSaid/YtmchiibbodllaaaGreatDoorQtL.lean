/- lexer's laws: quoted values. -/
import Derived.Test.YtmchiibbodllaaaGreatDoorLKnown
import Derived.Test.YtmchiibbodllaaaGreatDoorQtE
namespace Go.Proofs.YtmchiibbodllaaaGreatDoor
set_option linter.unusedVariables false
set_option linter.unnecessarySimpa false
set_option linter.unusedSimpArgs false
open Go.RowKit

section
variable {w : World}
theorem take_cut (s : ByteArray) (n k : Nat) (hk : k = min s.size n) : s.extract 0 k = B (s.data.toList.take n) := by
  have := ext_take s 0 k
  rw [Nat.zero_add, List.drop_zero] at this
  rw [this, hk]
  congr 1
  rw [show s.size = s.data.toList.length from rfl]
  rcases Nat.le_total s.data.toList.length n with h | h
  · rw [Nat.min_eq_left h, List.take_length, List.take_of_length_le h]
  · rw [Nat.min_eq_right h]
set_option maxRecDepth 20000 in set_option maxHeartbeats 400000 in
theorem cut_any1 (s : ByteArray) : Calls Tryz.prog 11 #[.string s] w fun e w' => e = .returned (.string (B (s.data.toList.take 1500))) ∧ w' = w := by
  obtain ⟨k, hk⟩ : ∃ k, k = min s.size 1500 := ⟨_, rfl⟩
  have hc := take_cut s 1500 k hk
  have hm : min (s.size : Int) 1500 = (k : Int) := by omega
  have h1 : (0 : Int) ≤ (k : Int) := by omega
  have h2 : (k : Int) ≤ (s.size : Int) := by omega
  have hk' : k ≤ s.size := by omega
  clear hk
  go_enter Tryz.func11, Tryz.ntmps11
  go_wp2_with fail
  go_ret
  exact ⟨rfl, rfl⟩
theorem one_len (t : Tk) : ([⟨0, false, t⟩] : List Pl).length + 1 = 2 := rfl
theorem one_cells (l : List UInt8) (t : Tk) : (rowC l [⟨0, false, t⟩] ++ endC l)[0]? = some (.int .i64 t.k) ∧ (rowC l [⟨0, false, t⟩] ++ endC l)[4]? = some (.string (B t.v)) := ⟨rfl, rfl⟩
set_option maxRecDepth 20000 in set_option maxHeartbeats 8000000 in
theorem lexerQuotes_w (hE : Env w) (hD : Tab4 w) (s : ByteArray) : Calls Tryz.prog 7 #[.string s] w fun e w' => e = .returned (.bool true) ∧ Below w.heap.size w w' := by
  obtain ⟨v, hv⟩ : ∃ v, s.data.toList.take 1500 = v := ⟨_, rfl⟩
  have hvl : v.length ≤ 1500 := by rw [← hv, List.length_take]; omega
  have HC := Lib.hid (cut_any1 (w := w) s)
  rw [hv] at HC
  have hsz : (B v).size ≤ 100000 := by rw [B_size]; omega
  have QT := Lib.hid (quote_any hE hD (B v) hsz)
  have QB := Lib.hid (fun w => qbytes_any w (B v) hsz)
  have QM := Lib.hid (fun w => quoteM_any w (B v) hsz)
  have BM := Lib.hid (fun w => qbytesM_any w (B v) hsz)
  have VD := Lib.hid (fun (w : World) (hE : Env w) => charsetValid_any hE (B v) (by omega))
  rw [B_list] at QT QB QM BM VD
  have S1 := Lib.hid (fun (w : World) (hE : Env w) => scan_any hE (B (quoteB v)))
  have S2 := Lib.hid (fun (w : World) (hE : Env w) => scan_any hE (B (qtL v)))
  have e1 : scanA (quoteB v) = if 1024 < v.length then .bad 0 5 else .ok [⟨0, false, ⟨4, [], v, 0, 0⟩⟩] := by
    have := quoteB_len v
    unfold scanA
    rw [if_neg (by omega), scan_quoteB]
  rw [B_list, e1] at S1
  rw [B_list] at S2
  have z1 : (B v).size = v.length := B_size v
  have HE := Lib.hid hE
  have hv1 : Lib.validD v = false ∨ Lib.validD v = true := by cases Lib.validD v <;> simp
  clear hE hD hv hsz e1
  by_cases hl : 1024 < v.length
  · rw [if_pos hl] at S1
    have hl' : (1024 : Int) < (v.length : Int) := by omega
    rcases hv1 with hv1 | hv1
    · rw [hv1] at VD
      have hq : qtL v = [] := by unfold qtL; rw [hv1]; rfl
      rw [hq, show B [] = (⟨#[]⟩ : ByteArray) from rfl] at QT
      replace hq := Lib.hid hq
      clear S2
      go_enter Tryz.func7, Tryz.ntmps7
      go_wp2_with fail
      go_at_call 11
      (with_reducible refine HC.out.mono ?_)
      rintro e1 w1 ⟨rfl, rfl⟩
      go_wp2_with fail
      go_at_call 33
      (with_reducible refine QT.out.mono ?_)
      rintro e1 w1 ⟨rfl, hb1⟩
      replace HE := Lib.hid (HE.out.grow hb1)
      go_wp2_with fail
      go_at_call 34
      (with_reducible refine (QB.out _).mono ?_)
      rintro e1 w2 ⟨rfl, hb2⟩
      replace HE := Lib.hid (HE.out.grow hb2)
      go_wp2_with fail
      go_at_call 14
      (with_reducible refine (known_any HE.out).mono ?_)
      rintro e1 w3 ⟨rfl, hb3⟩
      replace HE := Lib.hid (HE.out.grow hb3)
      go_wp2_with fail
      go_at_call 35
      (with_reducible refine (BM.out _).mono ?_)
      rintro e1 w4 ⟨rfl, hb4⟩
      replace HE := Lib.hid (HE.out.grow hb4)
      go_wp2_with fail
      go_at_call 12
      (with_reducible refine (S1.out _ HE.out).mono ?_)
      rintro e1 w5 ⟨hb5, rfl⟩
      replace HE := Lib.hid (HE.out.grow hb5)
      go_wp2_with fail
      go_at_call 36
      (with_reducible refine (VD.out _ HE.out).mono ?_)
      rintro e1 w6 ⟨rfl, hb6⟩
      replace HE := Lib.hid (HE.out.grow hb6)
      go_wp2_with fail
      go_ret
      exact ⟨rfl, G.trans (G.trans (G.trans (G.trans (G.trans hb1 hb2) hb3) hb4) hb5) hb6⟩
    · rw [hv1] at VD
      have hq : qtL v = quoteL v := by unfold qtL; rw [hv1]; rfl
      have e2 : scanA (quoteL v) = if 1024 < v.length then .bad 0 5 else .ok [⟨0, false, ⟨3, [], v, 0, 0⟩⟩] := by
        have := quoteL_len v
        unfold scanA
        rw [if_neg (by omega), scan_quoteL hv1]
      rw [hq] at QT S2
      rw [e2, if_pos hl] at S2
      replace hq := Lib.hid hq
      clear e2
      go_enter Tryz.func7, Tryz.ntmps7
      go_wp2_with fail
      go_at_call 11
      (with_reducible refine HC.out.mono ?_)
      rintro e1 w1 ⟨rfl, rfl⟩
      go_wp2_with fail
      go_at_call 33
      (with_reducible refine QT.out.mono ?_)
      rintro e1 w1 ⟨rfl, hb1⟩
      replace HE := Lib.hid (HE.out.grow hb1)
      go_wp2_with fail
      go_at_call 34
      (with_reducible refine (QB.out _).mono ?_)
      rintro e1 w2 ⟨rfl, hb2⟩
      replace HE := Lib.hid (HE.out.grow hb2)
      go_wp2_with fail
      go_at_call 14
      (with_reducible refine (known_any HE.out).mono ?_)
      rintro e1 w3 ⟨rfl, hb3⟩
      replace HE := Lib.hid (HE.out.grow hb3)
      go_wp2_with fail
      go_at_call 35
      (with_reducible refine (BM.out _).mono ?_)
      rintro e1 w4 ⟨rfl, hb4⟩
      replace HE := Lib.hid (HE.out.grow hb4)
      go_wp2_with fail
      go_at_call 12
      (with_reducible refine (S1.out _ HE.out).mono ?_)
      rintro e1 w5 ⟨hb5, rfl⟩
      replace HE := Lib.hid (HE.out.grow hb5)
      go_wp2_with fail
      go_at_call 36
      (with_reducible refine (VD.out _ HE.out).mono ?_)
      rintro e1 w6 ⟨rfl, hb6⟩
      replace HE := Lib.hid (HE.out.grow hb6)
      go_wp2_with fail
      go_at_call 12
      (with_reducible refine (S2.out _ HE.out).mono ?_)
      rintro e1 w7 ⟨hb7, rfl⟩
      go_wp2_with fail
      go_at_call 37
      (with_reducible refine (QM.out _).mono ?_)
      rintro e1 w8 ⟨rfl, hb8⟩
      go_wp2_with fail
      go_at_call 37
      (with_reducible refine (QM.out _).mono ?_)
      rintro e1 w9 ⟨rfl, hb9⟩
      go_wp2_with fail
      go_ret
      exact ⟨rfl, G.trans (G.trans (G.trans (G.trans (G.trans (G.trans (G.trans (G.trans hb1 hb2) hb3) hb4) hb5) hb6) hb7) hb8) hb9⟩
  · rw [if_neg hl] at S1
    have hl' : ¬ (1024 : Int) < (v.length : Int) := by omega
    rcases hv1 with hv1 | hv1
    · rw [hv1] at VD
      have hq : qtL v = [] := by unfold qtL; rw [hv1]; rfl
      rw [hq, show B [] = (⟨#[]⟩ : ByteArray) from rfl] at QT
      replace hq := Lib.hid hq
      clear S2
      go_enter Tryz.func7, Tryz.ntmps7
      go_wp2_with fail
      go_at_call 11
      (with_reducible refine HC.out.mono ?_)
      rintro e1 w1 ⟨rfl, rfl⟩
      go_wp2_with fail
      go_at_call 33
      (with_reducible refine QT.out.mono ?_)
      rintro e1 w1 ⟨rfl, hb1⟩
      replace HE := Lib.hid (HE.out.grow hb1)
      go_wp2_with fail
      go_at_call 34
      (with_reducible refine (QB.out _).mono ?_)
      rintro e1 w2 ⟨rfl, hb2⟩
      replace HE := Lib.hid (HE.out.grow hb2)
      go_wp2_with fail
      go_at_call 14
      (with_reducible refine (known_any HE.out).mono ?_)
      rintro e1 w3 ⟨rfl, hb3⟩
      replace HE := Lib.hid (HE.out.grow hb3)
      go_wp2_with fail
      go_at_call 35
      (with_reducible refine (BM.out _).mono ?_)
      rintro e1 w4 ⟨rfl, hb4⟩
      replace HE := Lib.hid (HE.out.grow hb4)
      go_wp2_with fail
      go_at_call 12
      (with_reducible refine (S1.out _ HE.out).mono ?_)
      rintro e1 w5 ⟨hb5, A, c, rfl, hown⟩
      obtain ⟨_, hcell⟩ := Sl.of_own hown
      obtain ⟨g, off, rfl, hg, hcell⟩ := hcell (by simp)
      rw [one_len]
      have c0 := hcell 0 _ (one_cells _ _).1
      rw [Nat.add_zero] at c0
      have c4 := hcell 4 _ (one_cells _ _).2
      clear hcell hown
      replace HE := Lib.hid (HE.out.grow hb5)
      go_wp2_with fail
      go_at_call 36
      (with_reducible refine (VD.out _ HE.out).mono ?_)
      rintro e1 w6 ⟨rfl, hb6⟩
      replace HE := Lib.hid (HE.out.grow hb6)
      go_wp2_with fail
      go_ret
      exact ⟨rfl, G.trans (G.trans (G.trans (G.trans (G.trans hb1 hb2) hb3) hb4) hb5) hb6⟩
    · rw [hv1] at VD
      have hq : qtL v = quoteL v := by unfold qtL; rw [hv1]; rfl
      have e2 : scanA (quoteL v) = if 1024 < v.length then .bad 0 5 else .ok [⟨0, false, ⟨3, [], v, 0, 0⟩⟩] := by
        have := quoteL_len v
        unfold scanA
        rw [if_neg (by omega), scan_quoteL hv1]
      rw [hq] at QT S2
      rw [e2, if_neg hl] at S2
      replace hq := Lib.hid hq
      clear e2
      go_enter Tryz.func7, Tryz.ntmps7
      go_wp2_with fail
      go_at_call 11
      (with_reducible refine HC.out.mono ?_)
      rintro e1 w1 ⟨rfl, rfl⟩
      go_wp2_with fail
      go_at_call 33
      (with_reducible refine QT.out.mono ?_)
      rintro e1 w1 ⟨rfl, hb1⟩
      replace HE := Lib.hid (HE.out.grow hb1)
      go_wp2_with fail
      go_at_call 34
      (with_reducible refine (QB.out _).mono ?_)
      rintro e1 w2 ⟨rfl, hb2⟩
      replace HE := Lib.hid (HE.out.grow hb2)
      go_wp2_with fail
      go_at_call 14
      (with_reducible refine (known_any HE.out).mono ?_)
      rintro e1 w3 ⟨rfl, hb3⟩
      replace HE := Lib.hid (HE.out.grow hb3)
      go_wp2_with fail
      go_at_call 35
      (with_reducible refine (BM.out _).mono ?_)
      rintro e1 w4 ⟨rfl, hb4⟩
      replace HE := Lib.hid (HE.out.grow hb4)
      go_wp2_with fail
      go_at_call 12
      (with_reducible refine (S1.out _ HE.out).mono ?_)
      rintro e1 w5 ⟨hb5, A, c, rfl, hown⟩
      obtain ⟨_, hcell⟩ := Sl.of_own hown
      obtain ⟨g, off, rfl, hg, hcell⟩ := hcell (by simp)
      rw [one_len]
      have c0 := hcell 0 _ (one_cells _ _).1
      rw [Nat.add_zero] at c0
      have c4 := hcell 4 _ (one_cells _ _).2
      clear hcell hown
      replace HE := Lib.hid (HE.out.grow hb5)
      go_wp2_with fail
      go_at_call 36
      (with_reducible refine (VD.out _ HE.out).mono ?_)
      rintro e1 w6 ⟨rfl, hb6⟩
      replace HE := Lib.hid (HE.out.grow hb6)
      go_wp2_with fail
      go_at_call 12
      (with_reducible refine (S2.out _ HE.out).mono ?_)
      rintro e1 w7 ⟨hb7, A, c, rfl, hown⟩
      obtain ⟨_, hcell⟩ := Sl.of_own hown
      obtain ⟨g, off, rfl, hg, hcell⟩ := hcell (by simp)
      rw [one_len]
      have d0 := hcell 0 _ (one_cells _ _).1
      rw [Nat.add_zero] at d0
      have d4 := hcell 4 _ (one_cells _ _).2
      clear hcell hown
      go_wp2_with fail
      go_at_call 37
      (with_reducible refine (QM.out _).mono ?_)
      rintro e1 w8 ⟨rfl, hb8⟩
      replace d0 := G.cell d0 hb8
      replace d4 := G.cell d4 hb8
      go_wp2_with fail
      go_ret
      exact ⟨rfl, G.trans (G.trans (G.trans (G.trans (G.trans (G.trans (G.trans hb1 hb2) hb3) hb4) hb5) hb6) hb7) hb8⟩
end
theorem lexerQuotes_any (t : ByteArray) (W : World) (ws : t.size ≤ maxLen) (hE : Env W ∧ Tab4 W) : Calls Tryz.prog 7 #[.string t] W fun e W' => e = .returned (.bool true) ∧ Below W.heap.size W W' := lexerQuotes_w hE.1 hE.2 t
end Go.Proofs.YtmchiibbodllaaaGreatDoor
