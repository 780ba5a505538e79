/- What decimal.Text computes. -/
import Derived.Test.YtmchiibbodllaaaGreatDoorLDec
import Derived.Test.YtmchiibbodllaaaGreatDoorDTab
import Derived.Test.YtmchiibbodllaaaGreatDoorTextM2
import Derived.Lib.SmallJoins
import Derived.Lib.IndexBytes
namespace Go.Proofs.YtmchiibbodllaaaGreatDoor
set_option linter.unusedVariables false
set_option linter.unnecessarySimpa false
set_option linter.unusedSimpArgs false
open Go.RowKit

/-- Bytes as a string. -/
def B (l : List UInt8) : ByteArray := ⟨l.toArray⟩
theorem B_list (l : List UInt8) : (B l).data.toList = l := rfl
theorem B_size (l : List UInt8) : (B l).size = l.length := by unfold B ByteArray.size; simp
theorem B_of {b : ByteArray} {l : List UInt8} (h : b.data.toList = l) : b = B l := by
  unfold B
  rw [← h]
theorem B_app (l m : List UInt8) : B l ++ B m = B (l ++ m) := B_of (by rw [Joins.data_append]; rfl)
theorem B_drop (l : List UInt8) (a : Nat) : (B l).extract a (B l).size = B (l.drop a) := B_of (by rw [Lib.extract_to_end]; rfl)
theorem B_take (l : List UInt8) (a : Nat) : (B l).extract 0 a = B (l.take a) := B_of (by
  unfold B
  simp [ByteArray.data_extract])
/-- Text's string. -/
def txS (n s : Int) : ByteArray := if okN n s then B (txt n s.toNat) else B []
theorem J_take (D : List Int) {s N : Nat} (hN : N = txtN D s) : ((lowN D N).reverse).take (N - s) ++ ptB s ++ ((lowN D N).reverse).drop (N - s) = mag D s := by
  subst hN
  have hs : s ≤ txtN D s := by unfold txtN; omega
  unfold mag
  rw [List.take_reverse, List.drop_reverse, lowN_len, show txtN D s - (txtN D s - s) = s by omega]
  congr 2
  have : lowN D (txtN D s) = (lowL D (txtN D s)).map asc := lowN_map _ _
  rw [this, ← List.map_take, lowL_take D hs, ← lowN_map]
set_option maxRecDepth 20000 in set_option maxHeartbeats 400000 in
theorem text_bad (n s : Int) (w : World) (hw : (Lit.int .i64 n).wf = true) (h : ¬ okN n s = true) : Calls Tryz.prog 106 #[.agg #[.int .i64 n, .int .i64 s]] w fun e w' => e = .returned (.tuple #[.string (txS n s), .int .i64 (errN n s)]) ∧ Below w.heap.size w w' := by
  have C := fun w => check1_any n s w hw
  have hr : Hid (txS n s = ⟨#[]⟩) := by unfold Hid txS; rw [if_neg h]; rfl
  rw [errN_bad h] at C
  have he : Hid (errN n s = 2) := errN_bad h
  replace C := Lib.hid C
  clear h hw
  go_enter Tryz.func106, Tryz.ntmps106
  go_wp2_with fail
  refine (C.out _).mono ?_
  rintro e w1 ⟨rfl, hb⟩
  go_wp2_with fail
  go_ret2
  exact ⟨by rw [hr.out, he.out]; rfl, by repeat (first | with_reducible assumption | with_reducible exact G.refl _ | with_reducible refine G.drew ?_ | with_reducible refine G.drewN ?_ _ | with_reducible refine G.alloc ?_ _ | with_reducible refine Below.setCell ?_ (by first | (simp; done) | (simp; omega)) _ | with_reducible refine G.trans ?_ hb12 | with_reducible refine G.trans ?_ hb11 | with_reducible refine G.trans ?_ hb10 | with_reducible refine G.trans ?_ hb9 | with_reducible refine G.trans ?_ hb8 | with_reducible refine G.trans ?_ hb7 | with_reducible refine G.trans ?_ hb6 | with_reducible refine G.trans ?_ hb5 | with_reducible refine G.trans ?_ hb4 | with_reducible refine G.trans ?_ hb3 | with_reducible refine G.trans ?_ hb2 | with_reducible refine G.trans ?_ hb1 | with_reducible refine G.trans ?_ hb | assumption)⟩
set_option maxRecDepth 20000 in set_option maxHeartbeats 1000000 in
theorem text_np (n : Int) (j : Nat) (w : World) (ht : Pow10 w) (hok : okN n (j : Int) = true) (hn : n < 0) (hj0 : 0 < j) : Calls Tryz.prog 106 #[.agg #[.int .i64 n, .int .i64 j]] w fun e w' => e = .returned (.tuple #[.string (B (txt n j)), .int .i64 0]) ∧ Below w.heap.size w w' := by
  have C := Lib.hid (fun w => check1_any n (j : Int) w (wf_ok hok))
  rw [errN_ok hok] at C
  have o1 := okN_iff.1 hok
  have A1 := Lib.hid (fun w => abs_any n w (neg_in (by omega) (by omega)))
  have hm : Hid (max n (-n) = (n.natAbs : Int)) := by unfold Hid; omega
  rw [hm.out] at A1
  have I := Lib.hid (fun w ht => itoa_any (n.natAbs : Int) w (by omega) (by omega) ht)
  have hI : itoaB (n.natAbs : Int) = B (lowN (digs n.natAbs) (max (digs n.natAbs).length 1)).reverse := by
    unfold itoaB
    rw [itoa_low (by omega)]
    rfl
  rw [hI] at I
  have hl15 : (digs n.natAbs).length ≤ 15 := len_digs_le (by omega)
  have htt := Lib.hid ht
  obtain ⟨k, hk⟩ : ∃ k, max (digs n.natAbs).length 1 = k := ⟨_, rfl⟩
  have hk1 : 1 ≤ k ∧ k ≤ 15 := by omega
  have hN : Hid (k + (j + 1 - k) = txtN (digs n.natAbs) j) := by unfold Hid txtN; omega
  have hpad := pad_low (digs n.natAbs) j
  rw [hk] at I hpad
  have hsz1 : (B (lowN (digs n.natAbs) k).reverse).size = k := by rw [B_size, List.length_reverse, lowN_len]
  obtain ⟨c, hc⟩ : ∃ c, j + 1 - k = c := ⟨_, rfl⟩
  rw [hc] at hN hpad
  have R := Lib.hid (fun w => repeat_any ⟨#[48]⟩ c w (by omega) (by show 1 * c ≤ _; omega))
  rw [show (⟨(Lib.repeatL (ByteArray.mk #[48]).data.toList c).toArray⟩ : ByteArray) = B (List.replicate c 48) by rw [show (ByteArray.mk #[48]).data.toList = [48] from rfl, repeat_zero]; rfl] at R
  have hsz2 : (B (List.replicate c 48)).size = c := by rw [B_size, List.length_replicate]
  obtain ⟨N, hNN⟩ : ∃ N, k + c = N := ⟨_, rfl⟩
  have hJ : B (List.replicate c 48) ++ B (lowN (digs n.natAbs) k).reverse = B (lowN (digs n.natAbs) N).reverse := by rw [B_app, hpad, ← hN.out, hNN]
  have hszJ : (B (lowN (digs n.natAbs) N).reverse).size = N := by rw [B_size, List.length_reverse, lowN_len]
  have hNj : j + 1 ≤ N ∧ N ≤ 30 := by omega
  obtain ⟨M, hM⟩ : ∃ M, N - j = M := ⟨_, rfl⟩
  have hA : (B (lowN (digs n.natAbs) N).reverse).extract 0 M = B (((lowN (digs n.natAbs) N).reverse).take M) := B_take _ _
  have hD : (B (lowN (digs n.natAbs) N).reverse).extract M N = B (((lowN (digs n.natAbs) N).reverse).drop M) := by
    have := B_drop (lowN (digs n.natAbs) N).reverse M
    rwa [hszJ] at this
  have hjt := J_take (digs n.natAbs) (s := j) (N := N) (by rw [← hNN]; exact hN.out)
  rw [hM] at hjt
  have hla : (((lowN (digs n.natAbs) N).reverse).take M).length ≤ 30 := by rw [List.length_take, List.length_reverse, lowN_len]; omega
  have hld : (((lowN (digs n.natAbs) N).reverse).drop M).length ≤ 30 := by rw [List.length_drop, List.length_reverse, lowN_len]; omega
  have hP : B (((lowN (digs n.natAbs) N).reverse).take M) ++ ⟨#[46]⟩ ++ B (((lowN (digs n.natAbs) N).reverse).drop M) = B (mag (digs n.natAbs) j) := by
    rw [show (⟨#[46]⟩ : ByteArray) = B [46] from rfl, B_app, B_app, ← hjt]
    unfold ptB
    rw [if_pos hj0]
  have hlm : (mag (digs n.natAbs) j).length ≤ 61 := by
    rw [← hjt]
    unfold ptB
    rw [if_pos hj0]
    simp only [List.length_append, List.length_cons, List.length_nil]
    omega
  generalize ((lowN (digs n.natAbs) N).reverse).take M = lA at *
  generalize ((lowN (digs n.natAbs) N).reverse).drop M = lD at *
  generalize (lowN (digs n.natAbs) N).reverse = lJ at *
  generalize (lowN (digs n.natAbs) k).reverse = lI at *
  generalize List.replicate c (48 : UInt8) = lR at *
  have htx : Hid (B (txt n j) = ⟨#[45]⟩ ++ B (mag (digs n.natAbs) j)) := by
    unfold Hid txt
    rw [if_pos hn]
    rw [← B_app]; rfl
  rw [htx.out]
  generalize mag (digs n.natAbs) j = lM at *
  have hszM : (B lM).size ≤ 61 := by rw [B_size]; exact hlm
  have s1 := fun (wx : World) => run_string_add_sum (P := Tryz.prog) wx (B lR) (B lI) (by omega)
  rw [hJ] at s1
  have hsA : (B lA).size ≤ 30 := by rw [B_size]; exact hla
  have hsD : (B lD).size ≤ 30 := by rw [B_size]; exact hld
  have s2 := fun (wx : World) => run_string_add_sum (P := Tryz.prog) wx (B lA) ⟨#[46]⟩ (by have : (⟨#[46]⟩ : ByteArray).size = 1 := rfl; omega)
  obtain ⟨bQ, hbQ⟩ : ∃ bQ, B lA ++ ⟨#[46]⟩ = bQ := ⟨_, rfl⟩
  rw [hbQ] at s2 hP
  have hsQ : bQ.size ≤ 31 := by rw [← hbQ, ByteArray.size_append]; have : (⟨#[46]⟩ : ByteArray).size = 1 := rfl; omega
  have s3 := fun (wx : World) => run_string_add_sum (P := Tryz.prog) wx bQ (B lD) (by omega)
  rw [hP] at s3
  have e1 : IntKind.i64.wrap ((j : Int) + 1) = (j : Int) + 1 := IntWalk.i64_in _ (by omega)
  have e2 : IntKind.i64.wrap ((j : Int) + 1 - (k : Int)) = (j : Int) + 1 - (k : Int) := IntWalk.i64_in _ (by omega)
  have e3 : max (0 : Int) ((j : Int) + 1 - (k : Int)) = (c : Int) := by omega
  have e4 : IntKind.i64.wrap ((N : Int) - (j : Int)) = (M : Int) := by rw [IntWalk.i64_in _ (by omega)]; omega
  have e5 : (N : Int) - (j : Int) = (M : Int) := by omega
  have hMN : (M : Int) ≤ (N : Int) := by omega
  have hMN' : M ≤ N := by omega
  have e6 : IntKind.i64.wrap (M : Int) = (M : Int) := IntWalk.i64_in _ (by omega)
  have s4 := fun (wx : World) => run_string_add_sum (P := Tryz.prog) wx ⟨#[45]⟩ (B lM) (by have : (⟨#[45]⟩ : ByteArray).size = 1 := rfl; omega)
  generalize B lM = bM at *
  generalize B lR = bR at *
  generalize B lI = bI at *
  generalize B lJ = bJ at *
  generalize B lA = bA at *
  generalize B lD = bD at *
  clear hl15 hpad hJ hP hN hc hNN hM hk hI hjt hla hld hlm hbQ
  clear htx hm o1 hok ht
  go_enter Tryz.func106, Tryz.ntmps106
  go_wp2_with fail
  refine (C.out _).mono ?_
  rintro e w1 ⟨rfl, hb⟩
  
  replace k0 := G.cell (a := ⟨w.heap.size, 0, none⟩) (v := .int .i64 n) (by go_simp) hb
  replace k1 := G.cell (a := ⟨w.heap.size, 1, none⟩) (v := .int .i64 j) (by go_simp) hb
  replace lt0 := cell_lt k0
  replace lt1 := cell_lt k1
  have hbw : Below w.heap.size w w1 := by repeat (first | with_reducible assumption | with_reducible exact G.refl _ | with_reducible refine G.drew ?_ | with_reducible refine G.drewN ?_ _ | with_reducible refine G.alloc ?_ _ | with_reducible refine Below.setCell ?_ (by first | (simp; done) | (simp; omega)) _ | with_reducible refine G.trans ?_ hb12 | with_reducible refine G.trans ?_ hb11 | with_reducible refine G.trans ?_ hb10 | with_reducible refine G.trans ?_ hb9 | with_reducible refine G.trans ?_ hb8 | with_reducible refine G.trans ?_ hb7 | with_reducible refine G.trans ?_ hb6 | with_reducible refine G.trans ?_ hb5 | with_reducible refine G.trans ?_ hb4 | with_reducible refine G.trans ?_ hb3 | with_reducible refine G.trans ?_ hb2 | with_reducible refine G.trans ?_ hb1 | with_reducible refine G.trans ?_ hb | assumption)
  clear hb
  go_wp2_with fail
  refine (A1.out _).mono ?_
  rintro e w2 ⟨rfl, rfl⟩
  go_wp2_with fail
  refine (I.out _ (htt.out.grow hbw)).mono ?_
  rintro e w2 ⟨rfl, hb2⟩
  replace hbw := G.trans hbw hb2
  replace k0 := G.cell (a := ⟨w.heap.size, 0, none⟩) (v := .int .i64 n) (by go_simp) hb2
  replace k1 := G.cell (a := ⟨w.heap.size, 1, none⟩) (v := .int .i64 j) (by go_simp) hb2
  replace lt0 := cell_lt k0
  replace lt1 := cell_lt k1
  clear hb2
  go_wp2_with fail
  (try rw [e3])
  refine (R.out _).mono ?_
  rintro e w3 ⟨rfl, hb3⟩
  replace hbw := G.trans hbw hb3
  replace k0 := G.cell (a := ⟨w.heap.size, 0, none⟩) (v := .int .i64 n) (by go_simp) hb3
  replace k1 := G.cell (a := ⟨w.heap.size, 1, none⟩) (v := .int .i64 j) (by go_simp) hb3
  replace lt0 := cell_lt k0
  replace lt1 := cell_lt k1
  clear hb3
  go_wp2_with fail
  refine wp_region_ord [(0, 1), (1, 1), (2, 1), (3, 1), (4, 1), (5, 1), (6, 1), (7, 1), (8, 1), (9, 1), (10, 1), (11, 1), (12, 1), (13, 1), (14, 1), (15, 1), (16, 1)] [] 5 (by kernel_rfl) (by decide +kernel) ?_
  simp only [pickO, List.append_eq, List.cons_append, List.nil_append, List.getElem?_cons_succ, List.getElem?_cons_zero]
  intro w0 hG
  (repeat ((first | (with_reducible refine ord_q1 ?_) | (with_reducible refine ord_q0 ?_)); intro K hK; first | (refine Or.inr ⟨?_, ?_⟩; (focus (go_simp; first | done | (simp [undef]; done))); go_simp; (with_reducible refine hK _ ?_); clear hK K) | (refine Or.inl ⟨?_, ?_⟩; (focus (go_simp; done)); apply Exists.intro; refine And.intro ?_ ?_; (focus (first | (intro wq hq; obtain ⟨hcq, hfq⟩ := G.old hq; go_simp; (first | done | exact rfl); done) | (intro wq; go_simp; (first | done | exact rfl); done))); go_simp; (with_reducible refine hK _ ?_); clear hK K) | fail))
  (with_reducible refine ord_nil ?_)
  replace hbw := G.trans hbw hG.b
  replace k0 := G.cell k0 hG.b
  clear hG
  go_wp2_with fail
  go_ret2
  exact ⟨rfl, hbw⟩
set_option maxRecDepth 20000 in set_option maxHeartbeats 1000000 in
theorem text_pp (n : Int) (j : Nat) (w : World) (ht : Pow10 w) (hok : okN n (j : Int) = true) (hn : ¬ n < 0) (hj0 : 0 < j) : Calls Tryz.prog 106 #[.agg #[.int .i64 n, .int .i64 j]] w fun e w' => e = .returned (.tuple #[.string (B (txt n j)), .int .i64 0]) ∧ Below w.heap.size w w' := by
  have C := Lib.hid (fun w => check1_any n (j : Int) w (wf_ok hok))
  rw [errN_ok hok] at C
  have o1 := okN_iff.1 hok
  have A1 := Lib.hid (fun w => abs_any n w (neg_in (by omega) (by omega)))
  have hm : Hid (max n (-n) = (n.natAbs : Int)) := by unfold Hid; omega
  rw [hm.out] at A1
  have I := Lib.hid (fun w ht => itoa_any (n.natAbs : Int) w (by omega) (by omega) ht)
  have hI : itoaB (n.natAbs : Int) = B (lowN (digs n.natAbs) (max (digs n.natAbs).length 1)).reverse := by
    unfold itoaB
    rw [itoa_low (by omega)]
    rfl
  rw [hI] at I
  have hl15 : (digs n.natAbs).length ≤ 15 := len_digs_le (by omega)
  have htt := Lib.hid ht
  obtain ⟨k, hk⟩ : ∃ k, max (digs n.natAbs).length 1 = k := ⟨_, rfl⟩
  have hk1 : 1 ≤ k ∧ k ≤ 15 := by omega
  have hN : Hid (k + (j + 1 - k) = txtN (digs n.natAbs) j) := by unfold Hid txtN; omega
  have hpad := pad_low (digs n.natAbs) j
  rw [hk] at I hpad
  have hsz1 : (B (lowN (digs n.natAbs) k).reverse).size = k := by rw [B_size, List.length_reverse, lowN_len]
  obtain ⟨c, hc⟩ : ∃ c, j + 1 - k = c := ⟨_, rfl⟩
  rw [hc] at hN hpad
  have R := Lib.hid (fun w => repeat_any ⟨#[48]⟩ c w (by omega) (by show 1 * c ≤ _; omega))
  rw [show (⟨(Lib.repeatL (ByteArray.mk #[48]).data.toList c).toArray⟩ : ByteArray) = B (List.replicate c 48) by rw [show (ByteArray.mk #[48]).data.toList = [48] from rfl, repeat_zero]; rfl] at R
  have hsz2 : (B (List.replicate c 48)).size = c := by rw [B_size, List.length_replicate]
  obtain ⟨N, hNN⟩ : ∃ N, k + c = N := ⟨_, rfl⟩
  have hJ : B (List.replicate c 48) ++ B (lowN (digs n.natAbs) k).reverse = B (lowN (digs n.natAbs) N).reverse := by rw [B_app, hpad, ← hN.out, hNN]
  have hszJ : (B (lowN (digs n.natAbs) N).reverse).size = N := by rw [B_size, List.length_reverse, lowN_len]
  have hNj : j + 1 ≤ N ∧ N ≤ 30 := by omega
  obtain ⟨M, hM⟩ : ∃ M, N - j = M := ⟨_, rfl⟩
  have hA : (B (lowN (digs n.natAbs) N).reverse).extract 0 M = B (((lowN (digs n.natAbs) N).reverse).take M) := B_take _ _
  have hD : (B (lowN (digs n.natAbs) N).reverse).extract M N = B (((lowN (digs n.natAbs) N).reverse).drop M) := by
    have := B_drop (lowN (digs n.natAbs) N).reverse M
    rwa [hszJ] at this
  have hjt := J_take (digs n.natAbs) (s := j) (N := N) (by rw [← hNN]; exact hN.out)
  rw [hM] at hjt
  have hla : (((lowN (digs n.natAbs) N).reverse).take M).length ≤ 30 := by rw [List.length_take, List.length_reverse, lowN_len]; omega
  have hld : (((lowN (digs n.natAbs) N).reverse).drop M).length ≤ 30 := by rw [List.length_drop, List.length_reverse, lowN_len]; omega
  have hP : B (((lowN (digs n.natAbs) N).reverse).take M) ++ ⟨#[46]⟩ ++ B (((lowN (digs n.natAbs) N).reverse).drop M) = B (mag (digs n.natAbs) j) := by
    rw [show (⟨#[46]⟩ : ByteArray) = B [46] from rfl, B_app, B_app, ← hjt]
    unfold ptB
    rw [if_pos hj0]
  have hlm : (mag (digs n.natAbs) j).length ≤ 61 := by
    rw [← hjt]
    unfold ptB
    rw [if_pos hj0]
    simp only [List.length_append, List.length_cons, List.length_nil]
    omega
  generalize ((lowN (digs n.natAbs) N).reverse).take M = lA at *
  generalize ((lowN (digs n.natAbs) N).reverse).drop M = lD at *
  generalize (lowN (digs n.natAbs) N).reverse = lJ at *
  generalize (lowN (digs n.natAbs) k).reverse = lI at *
  generalize List.replicate c (48 : UInt8) = lR at *
  have htx : Hid (B (txt n j) = B (mag (digs n.natAbs) j)) := by
    unfold Hid txt
    rw [if_neg hn]
    rfl
  rw [htx.out]
  generalize mag (digs n.natAbs) j = lM at *
  have hszM : (B lM).size ≤ 61 := by rw [B_size]; exact hlm
  have s1 := fun (wx : World) => run_string_add_sum (P := Tryz.prog) wx (B lR) (B lI) (by omega)
  rw [hJ] at s1
  have hsA : (B lA).size ≤ 30 := by rw [B_size]; exact hla
  have hsD : (B lD).size ≤ 30 := by rw [B_size]; exact hld
  have s2 := fun (wx : World) => run_string_add_sum (P := Tryz.prog) wx (B lA) ⟨#[46]⟩ (by have : (⟨#[46]⟩ : ByteArray).size = 1 := rfl; omega)
  obtain ⟨bQ, hbQ⟩ : ∃ bQ, B lA ++ ⟨#[46]⟩ = bQ := ⟨_, rfl⟩
  rw [hbQ] at s2 hP
  have hsQ : bQ.size ≤ 31 := by rw [← hbQ, ByteArray.size_append]; have : (⟨#[46]⟩ : ByteArray).size = 1 := rfl; omega
  have s3 := fun (wx : World) => run_string_add_sum (P := Tryz.prog) wx bQ (B lD) (by omega)
  rw [hP] at s3
  have e1 : IntKind.i64.wrap ((j : Int) + 1) = (j : Int) + 1 := IntWalk.i64_in _ (by omega)
  have e2 : IntKind.i64.wrap ((j : Int) + 1 - (k : Int)) = (j : Int) + 1 - (k : Int) := IntWalk.i64_in _ (by omega)
  have e3 : max (0 : Int) ((j : Int) + 1 - (k : Int)) = (c : Int) := by omega
  have e4 : IntKind.i64.wrap ((N : Int) - (j : Int)) = (M : Int) := by rw [IntWalk.i64_in _ (by omega)]; omega
  have e5 : (N : Int) - (j : Int) = (M : Int) := by omega
  have hMN : (M : Int) ≤ (N : Int) := by omega
  have hMN' : M ≤ N := by omega
  have e6 : IntKind.i64.wrap (M : Int) = (M : Int) := IntWalk.i64_in _ (by omega)
  generalize B lM = bM at *
  generalize B lR = bR at *
  generalize B lI = bI at *
  generalize B lJ = bJ at *
  generalize B lA = bA at *
  generalize B lD = bD at *
  clear hl15 hpad hJ hP hN hc hNN hM hk hI hjt hla hld hlm hbQ
  clear htx hm o1 hok ht
  go_enter Tryz.func106, Tryz.ntmps106
  go_wp2_with fail
  refine (C.out _).mono ?_
  rintro e w1 ⟨rfl, hb⟩
  
  replace k0 := G.cell (a := ⟨w.heap.size, 0, none⟩) (v := .int .i64 n) (by go_simp) hb
  replace k1 := G.cell (a := ⟨w.heap.size, 1, none⟩) (v := .int .i64 j) (by go_simp) hb
  replace lt0 := cell_lt k0
  replace lt1 := cell_lt k1
  have hbw : Below w.heap.size w w1 := by repeat (first | with_reducible assumption | with_reducible exact G.refl _ | with_reducible refine G.drew ?_ | with_reducible refine G.drewN ?_ _ | with_reducible refine G.alloc ?_ _ | with_reducible refine Below.setCell ?_ (by first | (simp; done) | (simp; omega)) _ | with_reducible refine G.trans ?_ hb12 | with_reducible refine G.trans ?_ hb11 | with_reducible refine G.trans ?_ hb10 | with_reducible refine G.trans ?_ hb9 | with_reducible refine G.trans ?_ hb8 | with_reducible refine G.trans ?_ hb7 | with_reducible refine G.trans ?_ hb6 | with_reducible refine G.trans ?_ hb5 | with_reducible refine G.trans ?_ hb4 | with_reducible refine G.trans ?_ hb3 | with_reducible refine G.trans ?_ hb2 | with_reducible refine G.trans ?_ hb1 | with_reducible refine G.trans ?_ hb | assumption)
  clear hb
  go_wp2_with fail
  refine (A1.out _).mono ?_
  rintro e w2 ⟨rfl, rfl⟩
  go_wp2_with fail
  refine (I.out _ (htt.out.grow hbw)).mono ?_
  rintro e w2 ⟨rfl, hb2⟩
  replace hbw := G.trans hbw hb2
  replace k0 := G.cell (a := ⟨w.heap.size, 0, none⟩) (v := .int .i64 n) (by go_simp) hb2
  replace k1 := G.cell (a := ⟨w.heap.size, 1, none⟩) (v := .int .i64 j) (by go_simp) hb2
  replace lt0 := cell_lt k0
  replace lt1 := cell_lt k1
  clear hb2
  go_wp2_with fail
  (try rw [e3])
  refine (R.out _).mono ?_
  rintro e w3 ⟨rfl, hb3⟩
  replace hbw := G.trans hbw hb3
  replace k0 := G.cell (a := ⟨w.heap.size, 0, none⟩) (v := .int .i64 n) (by go_simp) hb3
  replace k1 := G.cell (a := ⟨w.heap.size, 1, none⟩) (v := .int .i64 j) (by go_simp) hb3
  replace lt0 := cell_lt k0
  replace lt1 := cell_lt k1
  clear hb3
  go_wp2_with fail
  refine wp_region_ord [(0, 1), (1, 1), (2, 1), (3, 1), (4, 1), (5, 1), (6, 1), (7, 1), (8, 1), (9, 1), (10, 1), (11, 1), (12, 1), (13, 1), (14, 1), (15, 1), (16, 1)] [] 5 (by kernel_rfl) (by decide +kernel) ?_
  simp only [pickO, List.append_eq, List.cons_append, List.nil_append, List.getElem?_cons_succ, List.getElem?_cons_zero]
  intro w0 hG
  (repeat ((first | (with_reducible refine ord_q1 ?_) | (with_reducible refine ord_q0 ?_)); intro K hK; first | (refine Or.inr ⟨?_, ?_⟩; (focus (go_simp; first | done | (simp [undef]; done))); go_simp; (with_reducible refine hK _ ?_); clear hK K) | (refine Or.inl ⟨?_, ?_⟩; (focus (go_simp; done)); apply Exists.intro; refine And.intro ?_ ?_; (focus (first | (intro wq hq; obtain ⟨hcq, hfq⟩ := G.old hq; go_simp; (first | done | exact rfl); done) | (intro wq; go_simp; (first | done | exact rfl); done))); go_simp; (with_reducible refine hK _ ?_); clear hK K) | fail))
  (with_reducible refine ord_nil ?_)
  replace hbw := G.trans hbw hG.b
  replace k0 := G.cell k0 hG.b
  clear hG
  go_wp2_with fail
  go_ret2
  exact ⟨rfl, hbw⟩
set_option maxRecDepth 20000 in set_option maxHeartbeats 1000000 in
theorem text_nz (n : Int) (w : World) (ht : Pow10 w) (hok : okN n 0 = true) (hn : n < 0) : Calls Tryz.prog 106 #[.agg #[.int .i64 n, .int .i64 0]] w fun e w' => e = .returned (.tuple #[.string (B (txt n 0)), .int .i64 0]) ∧ Below w.heap.size w w' := by
  have C := Lib.hid (fun w => check1_any n 0 w (wf_ok hok))
  rw [errN_ok hok] at C
  have o1 := okN_iff.1 hok
  have A1 := Lib.hid (fun w => abs_any n w (neg_in (by omega) (by omega)))
  have hm : Hid (max n (-n) = (n.natAbs : Int)) := by unfold Hid; omega
  rw [hm.out] at A1
  have I := Lib.hid (fun w ht => itoa_any (n.natAbs : Int) w (by omega) (by omega) ht)
  have hI : itoaB (n.natAbs : Int) = B (lowN (digs n.natAbs) (max (digs n.natAbs).length 1)).reverse := by
    unfold itoaB
    rw [itoa_low (by omega)]
    rfl
  rw [hI] at I
  have hl15 : (digs n.natAbs).length ≤ 15 := len_digs_le (by omega)
  have htt := Lib.hid ht
  have hmg : (lowN (digs n.natAbs) (max (digs n.natAbs).length 1)).reverse = mag (digs n.natAbs) 0 := by
    unfold mag
    have : max (digs n.natAbs).length 1 = txtN (digs n.natAbs) 0 := rfl
    rw [this]
    simp [ptB, lowN]
  rw [hmg] at I
  have hlm : (mag (digs n.natAbs) 0).length ≤ 61 := by
    rw [← hmg, List.length_reverse, lowN_len]
    omega
  clear hmg
  have htx : Hid (B (txt n 0) = ⟨#[45]⟩ ++ B (mag (digs n.natAbs) 0)) := by
    unfold Hid txt
    rw [if_pos hn]
    rw [← B_app]; rfl
  rw [htx.out]
  generalize mag (digs n.natAbs) 0 = lM at *
  have hszM : (B lM).size ≤ 61 := by rw [B_size]; exact hlm
  have s4 := fun (wx : World) => run_string_add_sum (P := Tryz.prog) wx ⟨#[45]⟩ (B lM) (by have : (⟨#[45]⟩ : ByteArray).size = 1 := rfl; omega)
  generalize B lM = bM at *
  clear hl15 hI hlm
  clear htx hm o1 hok ht
  go_enter Tryz.func106, Tryz.ntmps106
  go_wp2_with fail
  refine (C.out _).mono ?_
  rintro e w1 ⟨rfl, hb⟩
  
  replace k0 := G.cell (a := ⟨w.heap.size, 0, none⟩) (v := .int .i64 n) (by go_simp) hb
  replace k1 := G.cell (a := ⟨w.heap.size, 1, none⟩) (v := .int .i64 0) (by go_simp) hb
  replace lt0 := cell_lt k0
  replace lt1 := cell_lt k1
  have hbw : Below w.heap.size w w1 := by repeat (first | with_reducible assumption | with_reducible exact G.refl _ | with_reducible refine G.drew ?_ | with_reducible refine G.drewN ?_ _ | with_reducible refine G.alloc ?_ _ | with_reducible refine Below.setCell ?_ (by first | (simp; done) | (simp; omega)) _ | with_reducible refine G.trans ?_ hb12 | with_reducible refine G.trans ?_ hb11 | with_reducible refine G.trans ?_ hb10 | with_reducible refine G.trans ?_ hb9 | with_reducible refine G.trans ?_ hb8 | with_reducible refine G.trans ?_ hb7 | with_reducible refine G.trans ?_ hb6 | with_reducible refine G.trans ?_ hb5 | with_reducible refine G.trans ?_ hb4 | with_reducible refine G.trans ?_ hb3 | with_reducible refine G.trans ?_ hb2 | with_reducible refine G.trans ?_ hb1 | with_reducible refine G.trans ?_ hb | assumption)
  clear hb
  go_wp2_with fail
  refine (A1.out _).mono ?_
  rintro e w2 ⟨rfl, rfl⟩
  go_wp2_with fail
  refine (I.out _ (htt.out.grow hbw)).mono ?_
  rintro e w2 ⟨rfl, hb2⟩
  replace hbw := G.trans hbw hb2
  replace k0 := G.cell (a := ⟨w.heap.size, 0, none⟩) (v := .int .i64 n) (by go_simp) hb2
  replace k1 := G.cell (a := ⟨w.heap.size, 1, none⟩) (v := .int .i64 0) (by go_simp) hb2
  replace lt0 := cell_lt k0
  replace lt1 := cell_lt k1
  clear hb2
  go_wp2_with fail
  go_ret2
  exact ⟨rfl, hbw⟩
set_option maxRecDepth 20000 in set_option maxHeartbeats 1000000 in
theorem text_pz (n : Int) (w : World) (ht : Pow10 w) (hok : okN n 0 = true) (hn : ¬ n < 0) : Calls Tryz.prog 106 #[.agg #[.int .i64 n, .int .i64 0]] w fun e w' => e = .returned (.tuple #[.string (B (txt n 0)), .int .i64 0]) ∧ Below w.heap.size w w' := by
  have C := Lib.hid (fun w => check1_any n 0 w (wf_ok hok))
  rw [errN_ok hok] at C
  have o1 := okN_iff.1 hok
  have A1 := Lib.hid (fun w => abs_any n w (neg_in (by omega) (by omega)))
  have hm : Hid (max n (-n) = (n.natAbs : Int)) := by unfold Hid; omega
  rw [hm.out] at A1
  have I := Lib.hid (fun w ht => itoa_any (n.natAbs : Int) w (by omega) (by omega) ht)
  have hI : itoaB (n.natAbs : Int) = B (lowN (digs n.natAbs) (max (digs n.natAbs).length 1)).reverse := by
    unfold itoaB
    rw [itoa_low (by omega)]
    rfl
  rw [hI] at I
  have hl15 : (digs n.natAbs).length ≤ 15 := len_digs_le (by omega)
  have htt := Lib.hid ht
  have hmg : (lowN (digs n.natAbs) (max (digs n.natAbs).length 1)).reverse = mag (digs n.natAbs) 0 := by
    unfold mag
    have : max (digs n.natAbs).length 1 = txtN (digs n.natAbs) 0 := rfl
    rw [this]
    simp [ptB, lowN]
  rw [hmg] at I
  have hlm : (mag (digs n.natAbs) 0).length ≤ 61 := by
    rw [← hmg, List.length_reverse, lowN_len]
    omega
  clear hmg
  have htx : Hid (B (txt n 0) = B (mag (digs n.natAbs) 0)) := by
    unfold Hid txt
    rw [if_neg hn]
    rfl
  rw [htx.out]
  generalize mag (digs n.natAbs) 0 = lM at *
  have hszM : (B lM).size ≤ 61 := by rw [B_size]; exact hlm
  generalize B lM = bM at *
  clear hl15 hI hlm
  clear htx hm o1 hok ht
  go_enter Tryz.func106, Tryz.ntmps106
  go_wp2_with fail
  refine (C.out _).mono ?_
  rintro e w1 ⟨rfl, hb⟩
  
  replace k0 := G.cell (a := ⟨w.heap.size, 0, none⟩) (v := .int .i64 n) (by go_simp) hb
  replace k1 := G.cell (a := ⟨w.heap.size, 1, none⟩) (v := .int .i64 0) (by go_simp) hb
  replace lt0 := cell_lt k0
  replace lt1 := cell_lt k1
  have hbw : Below w.heap.size w w1 := by repeat (first | with_reducible assumption | with_reducible exact G.refl _ | with_reducible refine G.drew ?_ | with_reducible refine G.drewN ?_ _ | with_reducible refine G.alloc ?_ _ | with_reducible refine Below.setCell ?_ (by first | (simp; done) | (simp; omega)) _ | with_reducible refine G.trans ?_ hb12 | with_reducible refine G.trans ?_ hb11 | with_reducible refine G.trans ?_ hb10 | with_reducible refine G.trans ?_ hb9 | with_reducible refine G.trans ?_ hb8 | with_reducible refine G.trans ?_ hb7 | with_reducible refine G.trans ?_ hb6 | with_reducible refine G.trans ?_ hb5 | with_reducible refine G.trans ?_ hb4 | with_reducible refine G.trans ?_ hb3 | with_reducible refine G.trans ?_ hb2 | with_reducible refine G.trans ?_ hb1 | with_reducible refine G.trans ?_ hb | assumption)
  clear hb
  go_wp2_with fail
  refine (A1.out _).mono ?_
  rintro e w2 ⟨rfl, rfl⟩
  go_wp2_with fail
  refine (I.out _ (htt.out.grow hbw)).mono ?_
  rintro e w2 ⟨rfl, hb2⟩
  replace hbw := G.trans hbw hb2
  replace k0 := G.cell (a := ⟨w.heap.size, 0, none⟩) (v := .int .i64 n) (by go_simp) hb2
  replace k1 := G.cell (a := ⟨w.heap.size, 1, none⟩) (v := .int .i64 0) (by go_simp) hb2
  replace lt0 := cell_lt k0
  replace lt1 := cell_lt k1
  clear hb2
  go_wp2_with fail
  go_ret2
  exact ⟨rfl, hbw⟩
theorem text_any (n s : Int) (w : World) (hw : (Lit.int .i64 n).wf = true) (ht : Pow10 w) : Calls Tryz.prog 106 #[.agg #[.int .i64 n, .int .i64 s]] w fun e w' => e = .returned (.tuple #[.string (txS n s), .int .i64 (errN n s)]) ∧ Below w.heap.size w w' := by
  by_cases h : okN n s = true
  · have he : errN n s = 0 := errN_ok h
    have hr : txS n s = B (txt n s.toNat) := by unfold txS; rw [if_pos h]
    rw [he, hr]
    obtain ⟨j, rfl, hj, _⟩ := okN_nat h
    rw [Int.toNat_natCast]
    by_cases hj0 : 0 < j
    · by_cases hn : n < 0
      · exact text_np n j w ht h hn hj0
      · exact text_pp n j w ht h hn hj0
    · obtain rfl : j = 0 := by omega
      by_cases hn : n < 0
      · exact text_nz n w ht h hn
      · exact text_pz n w ht h hn
  · exact text_bad n s w hw h
end Go.Proofs.YtmchiibbodllaaaGreatDoor
