/- What the reference's Text computes. -/
import Derived.Test.YtoipapcbngknfaaDoorText1
import Derived.Test.YtoipapcbngknfaaDoorRef5
import Derived.Laws.IdiomStrings
namespace Go.Proofs.YtoipapcbngknfaaDoor
set_option linter.unusedVariables false
set_option linter.unnecessarySimpa false
set_option linter.unusedSimpArgs false
open Go.RowKit

theorem pre_len (D : List Int) (s i : Nat) : (pre D s i).length ≤ i + i := by
  induction i with
  | zero => simp [pre]
  | succ i ih =>
    rw [pre]
    simp only [List.length_append, List.length_cons, List.length_nil]
    split <;> simp <;> omega
theorem pre_step (D : List Int) (s i : Nat) : (pre D s (i + 1)).reverse = asc (dg D i) :: ((if i = s ∧ 0 < i then [46] else []) ++ (pre D s i).reverse) := by
  rw [pre]
  simp only [List.reverse_append, List.reverse_cons, List.reverse_nil, List.nil_append, List.singleton_append]
  congr 2
  split <;> rfl
theorem conv_one (w : World) (x : Int) (h0 : 0 ≤ x) (h1 : x ≤ 255) : (convert 43 9 (.slice (some ⟨w.heap.size, 0, none⟩) 1 1)).run Tryd.prog (w.alloc (.cells #[.int .u8 x] 5)) = .ok (.string ⟨#[UInt8.ofNat x.toNat]⟩) (w.alloc (.cells #[.int .u8 x] 5)) := by
  have hx : ((UInt8.ofNat x.toNat).toNat : Int) = x := by rw [UInt8.toNat_ofNat']; omega
  have := run_convert_bytes_back (P := Tryd.prog) (w.alloc (.cells #[.int .u8 x] 5)) 43 9 5 ⟨w.heap.size, 0, none⟩ 1 [UInt8.ofNat x.toNat] Tryd.underlying43 Tryd.underlying5 Tryd.underlying9 (by
    intro j hj
    have : j = 0 := by simpa using hj
    subst this
    simp only [List.getElem_cons_zero]
    rw [hx]
    go_simp)
  exact this
set_option maxRecDepth 20000 in set_option maxHeartbeats 1000000 in
theorem reftext_any (n : Int) (j : Nat) (w : World) (hok : okN n j = true) : Calls Tryd.prog 39 #[.agg #[.int .i64 n, .int .i64 j]] w fun e w' => e = .returned (.string (B (txt n j))) ∧ Below w.heap.size w w' := by
  have o1 := okN_iff.1 hok
  have P1 : Hid (∀ w, Calls Tryd.prog 23 #[.int .i64 n, .int .i64 0] w (RetW n w)) := fun w => by
    have := of_any n 0 w (by omega) (by omega) (by omega)
    rwa [p10_zero, Int.mul_one] at this
  have hl15 : (digs n.natAbs).length ≤ 15 := len_digs_le (by omega)
  have hDg := Lib.hid (dig_digs n.natAbs)
  have hmag := mag_pre (digs n.natAbs) j
  have htx : Hid (B (txt n j) = if n < 0 then ⟨#[45]⟩ ++ B (pre (digs n.natAbs) j (txtN (digs n.natAbs) j)).reverse else B (pre (digs n.natAbs) j (txtN (digs n.natAbs) j)).reverse) := by
    unfold Hid txt
    rw [hmag]
    split
    · rw [← B_app]; rfl
    · rfl
  obtain ⟨N, hN⟩ : ∃ N, txtN (digs n.natAbs) j = N := ⟨_, rfl⟩
  have hN2 : max ((digs n.natAbs).length : Int) ((j : Int) + 1) = (N : Int) := by rw [← hN]; unfold txtN; omega
  have hN28 : N ≤ 28 := by rw [← hN]; unfold txtN; omega
  rw [hN] at htx
  have hstep := Lib.hid (pre_step (digs n.natAbs) j)
  have hplen := Lib.hid (pre_len (digs n.natAbs) j)
  have hdl := Lib.hid (show (digs n.natAbs).length = (digs n.natAbs).length from rfl)
  have hj12 : j ≤ 12 := by omega
  have e1 : IntKind.i64.wrap ((j : Int) + 1) = (j : Int) + 1 := IntWalk.i64_in _ (by omega)
  generalize hDD : digs n.natAbs = D at *
  replace hDD := Lib.hid hDD
  clear hok o1 hmag hN
  go_enter Tryd.func39, Tryd.ntmps39
  go_wp2_with fail
  refine (P1.out _).mono ?_
  rintro e w1 ⟨A3, n3, c3, rfl, hw3, ha3, hb⟩
  
  replace k0 := G.cell (a := ⟨w.heap.size, 0, none⟩) (v := .int .i64 n) (by go_simp) hb
  replace k1 := G.cell (a := ⟨w.heap.size, 1, none⟩) (v := .int .i64 j) (by go_simp) hb
  replace lt0 := cell_lt k0
  replace lt1 := cell_lt k1
  have hbw : Below w.heap.size w w1 := by repeat (first | with_reducible assumption | with_reducible exact G.refl _ | with_reducible refine G.drew ?_ | with_reducible refine G.drewN ?_ _ | with_reducible refine G.alloc ?_ _ | with_reducible refine Below.setCell ?_ (by first | (simp; done) | (simp; omega)) _ | with_reducible refine G.trans ?_ hb12 | with_reducible refine G.trans ?_ hb11 | with_reducible refine G.trans ?_ hb10 | with_reducible refine G.trans ?_ hb9 | with_reducible refine G.trans ?_ hb8 | with_reducible refine G.trans ?_ hb7 | with_reducible refine G.trans ?_ hb6 | with_reducible refine G.trans ?_ hb5 | with_reducible refine G.trans ?_ hb4 | with_reducible refine G.trans ?_ hb3 | with_reducible refine G.trans ?_ hb2 | with_reducible refine G.trans ?_ hb1 | with_reducible refine G.trans ?_ hb | assumption)
  have hn3 : D.length = n3 := by have := hw3.len; rw [hDD.out] at this; exact this
  have hs3 : Sl w1 A3 n3 (i64s D) := by have := hw3.1; rw [hDD.out] at this; exact this
  rw [hn3] at hN2 hl15
  have hc3 := hw3.2
  have DX := Lib.hid (fun w i hq => digit_any (sgn n) A3 n3 c3 D i w hq (by unfold maxLen; omega))
  clear hb hw3 hn3 hdl
  go_wp2_with fail
  refine wp_name (fun w2 => Below w.heap.size w w2 ∧ Sl w2 A3 n3 (i64s D) ∧ w2.cell? ⟨w.heap.size, 0, none⟩ = some (.int .i64 n) ∧ w2.cell? ⟨w.heap.size, 1, none⟩ = some (.int .i64 j) ∧ w2.cell? ⟨w1.heap.size, 0, none⟩ = some (.int .i64 (sgn n)) ∧ w2.cell? ⟨w1.heap.size, 1, none⟩ = some (.slice A3 n3 c3)) ⟨by repeat (first | with_reducible assumption | with_reducible exact G.refl _ | with_reducible refine G.drew ?_ | with_reducible refine G.drewN ?_ _ | with_reducible refine G.alloc ?_ _ | with_reducible refine Below.setCell ?_ (by first | (simp; done) | (simp; omega)) _ | with_reducible refine G.trans ?_ hb12 | with_reducible refine G.trans ?_ hb11 | with_reducible refine G.trans ?_ hb10 | with_reducible refine G.trans ?_ hb9 | with_reducible refine G.trans ?_ hb8 | with_reducible refine G.trans ?_ hb7 | with_reducible refine G.trans ?_ hb6 | with_reducible refine G.trans ?_ hb5 | with_reducible refine G.trans ?_ hb4 | with_reducible refine G.trans ?_ hb3 | with_reducible refine G.trans ?_ hb2 | with_reducible refine G.trans ?_ hb1 | with_reducible refine G.trans ?_ hb | assumption), by repeat (first | with_reducible assumption | with_reducible exact Sl.new' (by simp; done) (by simp; done) (by simp; done) | with_reducible refine Sl.drew ?_ | with_reducible refine Sl.drewN ?_ _ | with_reducible refine Sl.alloc ?_ _ | with_reducible refine Sl.grow ?_ hb12 | with_reducible refine Sl.grow ?_ hb11 | with_reducible refine Sl.grow ?_ hb10 | with_reducible refine Sl.grow ?_ hb9 | with_reducible refine Sl.grow ?_ hb8 | with_reducible refine Sl.grow ?_ hb7 | with_reducible refine Sl.grow ?_ hb6 | with_reducible refine Sl.grow ?_ hb5 | with_reducible refine Sl.grow ?_ hb4 | with_reducible refine Sl.grow ?_ hb3 | with_reducible refine Sl.grow ?_ hb2 | with_reducible refine Sl.grow ?_ hb1 | with_reducible refine Sl.grow ?_ hb | assumption), by go_simp, by go_simp, by go_simp, by go_simp⟩ ?_
  clear k0 k1 lt0 lt1 hbw hs3
  rintro w2 ⟨hbw, hs3, k0, k1, k2, k3⟩
  have lt0 := cell_lt k0
  have lt2 := cell_lt k2
  go_loopw [4, 5] (fun sv iv wr => ∃ i : Nat, i ≤ N ∧ iv = .int .i64 i ∧ sv = .string (B (pre D j i).reverse) ∧ Below w2.heap.size w2 wr) (fun _ iv _ => N - (intOf iv).toNat)
  case atStart => exact ⟨0, Nat.zero_le _, rfl, rfl, G.refl _⟩
  case round =>
    obtain ⟨i, hi, rfl, rfl, hbr⟩ := hrel
    replace k0 := G.cell k0 hbr
    replace k1 := G.cell k1 hbr
    replace k2 := G.cell k2 hbr
    replace k3 := G.cell k3 hbr
    have lt0' := cell_lt k0
    have lt2' := cell_lt k2
    by_cases hlt : i < N
    · have hd := dg_dig hDg.out i
      have hst := hstep.out i
      have hpl := hplen.out i
      obtain ⟨d, hdd⟩ : ∃ d, dg D i = d := ⟨_, rfl⟩
      have DI := Lib.hid (fun w hq => DX.out w i hq)
      rw [hdd] at hd hst DI
      have f1 : IntKind.i64.wrap (48 + d) = 48 + d := IntWalk.i64_in _ (by omega)
      have f2 : IntKind.u8.wrap (48 + d) = 48 + d := IntWalk.u8_in _ (by omega)
      have f3 : Hid (asc d = UInt8.ofNat (48 + d).toNat) := by unfold Hid asc; congr 1; omega
      have hsS : (B (pre D j i).reverse).size ≤ 56 := by rw [B_size, List.length_reverse]; omega
      by_cases hpt : i = j ∧ 0 < i
      · rw [if_pos hpt] at hst
        have hS2 : Hid (B (pre D j (i + 1)).reverse = ⟨#[asc d]⟩ ++ (⟨#[46]⟩ ++ B (pre D j i).reverse)) := by
          unfold Hid
          rw [hst, show (⟨#[asc d]⟩ : ByteArray) = B [asc d] from rfl, show (⟨#[46]⟩ : ByteArray) = B [46] from rfl, B_app, B_app]
          rfl
        obtain ⟨hij, hi0⟩ := hpt
        subst hij
        have s1 := fun (wx : World) => run_string_add_sum (P := Tryd.prog) wx ⟨#[46]⟩ (B (pre D i i).reverse) (by have : (⟨#[46]⟩ : ByteArray).size = 1 := rfl; omega)
        obtain ⟨bT, hbT⟩ : ∃ bT, (⟨#[46]⟩ : ByteArray) ++ B (pre D i i).reverse = bT := ⟨_, rfl⟩
        have hsT : bT.size ≤ 57 := by rw [← hbT, ByteArray.size_append]; have : (⟨#[46]⟩ : ByteArray).size = 1 := rfl; omega
        rw [hbT] at s1 hS2
        have s2 := fun (wx : World) => run_string_add_sum (P := Tryd.prog) wx ⟨#[asc d]⟩ bT (by have : (⟨#[asc d]⟩ : ByteArray).size = 1 := rfl; omega)
        clear hst hdd hbT hsS hpl
        go_wp2_with fail
        refine (DI.out _ (hs3.grow hbr)).mono ?_
        rintro e w5 ⟨rfl, hb5⟩
        replace k0 := G.cell k0 hb5
        have hcv := conv_one w5 (48 + d) (by omega) (by omega)
        rw [← f3.out] at hcv
        go_wp2_with fail
        go_roundw
        case rel => exact ⟨i + 1, by omega, by go_num, by rw [hS2.out], by repeat (first | with_reducible assumption | with_reducible exact G.refl _ | with_reducible refine G.drew ?_ | with_reducible refine G.drewN ?_ _ | with_reducible refine G.alloc ?_ _ | with_reducible refine Below.setCell ?_ (by first | (simp; done) | (simp; omega)) _ | with_reducible refine G.trans ?_ hb12 | with_reducible refine G.trans ?_ hb11 | with_reducible refine G.trans ?_ hb10 | with_reducible refine G.trans ?_ hb9 | with_reducible refine G.trans ?_ hb8 | with_reducible refine G.trans ?_ hb7 | with_reducible refine G.trans ?_ hb6 | with_reducible refine G.trans ?_ hb5 | with_reducible refine G.trans ?_ hb4 | with_reducible refine G.trans ?_ hb3 | with_reducible refine G.trans ?_ hb2 | with_reducible refine G.trans ?_ hb1 | with_reducible refine G.trans ?_ hb | assumption)⟩
        case measure => first | (simp [intOf]; done) | (simp [intOf]; omega)
      · rw [if_neg hpt, List.nil_append] at hst
        have hS2 : Hid (B (pre D j (i + 1)).reverse = ⟨#[asc d]⟩ ++ B (pre D j i).reverse) := by
          unfold Hid
          rw [hst, show (⟨#[asc d]⟩ : ByteArray) = B [asc d] from rfl, B_app]
          rfl
        have s2 := fun (wx : World) => run_string_add_sum (P := Tryd.prog) wx ⟨#[asc d]⟩ (B (pre D j i).reverse) (by have : (⟨#[asc d]⟩ : ByteArray).size = 1 := rfl; omega)
        have hpc : ¬ i = j ∨ (i = j ∧ ¬ 0 < i) := by omega
        clear hst hdd hsS hpl
        rcases hpc with hne | ⟨heq, hz⟩
        · have hneI : ¬ (i : Int) = (j : Int) := by omega
          go_wp2_with fail
          refine (DI.out _ (hs3.grow hbr)).mono ?_
          rintro e w5 ⟨rfl, hb5⟩
          replace k0 := G.cell k0 hb5
          have hcv := conv_one w5 (48 + d) (by omega) (by omega)
          rw [← f3.out] at hcv
          go_wp2_with fail
          go_roundw
          case rel => exact ⟨i + 1, by omega, by go_num, by rw [hS2.out], by repeat (first | with_reducible assumption | with_reducible exact G.refl _ | with_reducible refine G.drew ?_ | with_reducible refine G.drewN ?_ _ | with_reducible refine G.alloc ?_ _ | with_reducible refine Below.setCell ?_ (by first | (simp; done) | (simp; omega)) _ | with_reducible refine G.trans ?_ hb12 | with_reducible refine G.trans ?_ hb11 | with_reducible refine G.trans ?_ hb10 | with_reducible refine G.trans ?_ hb9 | with_reducible refine G.trans ?_ hb8 | with_reducible refine G.trans ?_ hb7 | with_reducible refine G.trans ?_ hb6 | with_reducible refine G.trans ?_ hb5 | with_reducible refine G.trans ?_ hb4 | with_reducible refine G.trans ?_ hb3 | with_reducible refine G.trans ?_ hb2 | with_reducible refine G.trans ?_ hb1 | with_reducible refine G.trans ?_ hb | assumption)⟩
          case measure => first | (simp [intOf]; done) | (simp [intOf]; omega)
        · have hbe : ((i : Int) == (j : Int)) = true := by simp [heq]
          clear heq
          go_wp2_with fail
          refine (DI.out _ (hs3.grow hbr)).mono ?_
          rintro e w5 ⟨rfl, hb5⟩
          replace k0 := G.cell k0 hb5
          have hcv := conv_one w5 (48 + d) (by omega) (by omega)
          rw [← f3.out] at hcv
          go_wp2_with fail
          go_roundw
          case rel => exact ⟨i + 1, by omega, by go_num, by rw [hS2.out], by repeat (first | with_reducible assumption | with_reducible exact G.refl _ | with_reducible refine G.drew ?_ | with_reducible refine G.drewN ?_ _ | with_reducible refine G.alloc ?_ _ | with_reducible refine Below.setCell ?_ (by first | (simp; done) | (simp; omega)) _ | with_reducible refine G.trans ?_ hb12 | with_reducible refine G.trans ?_ hb11 | with_reducible refine G.trans ?_ hb10 | with_reducible refine G.trans ?_ hb9 | with_reducible refine G.trans ?_ hb8 | with_reducible refine G.trans ?_ hb7 | with_reducible refine G.trans ?_ hb6 | with_reducible refine G.trans ?_ hb5 | with_reducible refine G.trans ?_ hb4 | with_reducible refine G.trans ?_ hb3 | with_reducible refine G.trans ?_ hb2 | with_reducible refine G.trans ?_ hb1 | with_reducible refine G.trans ?_ hb | assumption)⟩
          case measure => first | (simp [intOf]; done) | (simp [intOf]; omega)
    · have hiN : i = N := by omega
      subst hiN
      have hpl := hplen.out i
      have hsS : (B (pre D j i).reverse).size ≤ 56 := by rw [B_size, List.length_reverse]; omega
      have s1 := fun (wx : World) => run_string_add_sum (P := Tryd.prog) wx ⟨#[45]⟩ (B (pre D j i).reverse) (by have : (⟨#[45]⟩ : ByteArray).size = 1 := rfl; omega)
      have hB := G.trans hbw hbr
      clear hpl hsS
      by_cases hn : n < 0
      · have hr : Hid (B (txt n j) = ⟨#[45]⟩ ++ B (pre D j i).reverse) := by unfold Hid; rw [htx.out, if_pos hn]
        go_wp2_with fail
        go_ret
        exact ⟨by rw [hr.out]; rfl, hB⟩
      · have hr : Hid (B (txt n j) = B (pre D j i).reverse) := by unfold Hid; rw [htx.out, if_neg hn]
        go_wp2_with fail
        go_ret
        exact ⟨by rw [hr.out]; rfl, hB⟩
end Go.Proofs.YtoipapcbngknfaaDoor
