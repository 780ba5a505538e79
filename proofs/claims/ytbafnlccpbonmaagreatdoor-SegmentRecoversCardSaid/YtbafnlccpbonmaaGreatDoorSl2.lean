/- The law SegmentDetects: a changed byte. -/
import Derived.Test.YtbafnlccpbonmaaGreatDoorSl1
import Derived.Test.YtbafnlccpbonmaaGreatDoorGMa
import Derived.Test.YtbafnlccpbonmaaGreatDoorGMe
import Derived.Test.YtbafnlccpbonmaaGreatDoorGMh
namespace Go.Proofs.YtbafnlccpbonmaaGreatDoor
set_option linter.unusedVariables false
set_option linter.unnecessarySimpa false
set_option linter.unusedSimpArgs false
open Go.RowKit

/-- []byte(s), as cells that may be written. -/
theorem conv_bx (w : World) (l : List UInt8) : ∃ C W, (convert 9 34 (.string (B l))).run Tryz.prog w = .ok (.slice (some ⟨w.heap.size, 0, none⟩) l.length C) W ∧ Below w.heap.size w W ∧ Bx W w.heap.size (u8s l) ∧ l.length ≤ C := by
  refine ⟨grownCap w (B l).size 0 5, Lib.bytesWorld w 5 (B l), ?_, Joins.below_bytesWorld _ _ _ _ (Nat.le_refl _), ⟨by rw [Lib.bytesWorld_size]; omega, fun j u hu => ?_⟩, ?_⟩
  · have := Lib.run_convert_string_bytes (P := Tryz.prog) w 9 34 5 (B l) Tryz.underlying9 Tryz.underlying34 Tryz.underlying5
    rw [this, B_size]
  · unfold u8s at hu
    rw [List.getElem?_map] at hu
    rcases hb : l[j]? with _ | b
    · rw [hb] at hu; cases hu
    · rw [hb] at hu
      have hj : j < (B l).size := by rw [B_size]; exact (List.getElem?_eq_some_iff.1 hb).1
      refine ⟨?_, ?_⟩
      · rw [Lib.bytesWorld_cell w 5 (B l) j hj]
        have e : (B l).data.toList.getD j 0 = b := by rw [B_list, List.getD, hb]; rfl
        rw [e]
        exact hu
      · unfold World.frozen?
        simp only [Lib.bytesWorld_at_new]
        have hs : (Lib.bytesCells w 5 (B l)).size ≥ (B l).size := by unfold Lib.bytesCells; rw [Array.size_append, Array.size_map]; exact Nat.le_add_right _ _
        simp
        omega
  · have := grownCap_ge w (B l).size 0 5
    rw [B_size] at this
    exact this
theorem u8s_set (l : List UInt8) (i : Nat) (c : UInt8) : (u8s l).set i (.int .u8 c.toNat) = u8s (l.set i c) := by unfold u8s; rw [List.map_set]
theorem conv_back {w : World} {b : Nat} {l : List UInt8} (h : Bx w b (u8s l)) (c : Nat) : (convert 34 9 (.slice (some ⟨b, 0, none⟩) l.length c)).run Tryz.prog w = .ok (.string (B l)) w := by
  exact run_convert_bytes_back (P := Tryz.prog) w 34 9 5 ⟨b, 0, none⟩ c l Tryz.underlying34 Tryz.underlying5 Tryz.underlying9 (fun j hj => by
    rw [addr_add]
    refine (h.2 j _ ?_).1
    rw [u8s_get (List.getElem?_eq_getElem hj)])
set_option maxRecDepth 20000 in set_option maxHeartbeats 4000000 in
theorem segmentDetects_any (t : ByteArray) (z c : Int) (w : World) (ws : t.size ≤ maxLen) (wz : (Lit.int .u16 z).wf = true) (wc : (Lit.int .u8 c).wf = true) (hE : Pow10 w ∧ LibVars w) : Calls Tryz.prog 5 #[.string t, .int .u16 z, .int .u8 c] w fun e w' => e = .returned (.bool true) ∧ Below w.heap.size w w' := by
  have HP := Lib.hid hE.1
  have HV := Lib.hid hE.2
  obtain ⟨k1, hk1⟩ : ∃ k, k = min t.size 300 := ⟨_, rfl⟩
  have e1 := take_cut t 300 k1 hk1
  have m1 : min (t.size : Int) 300 = (k1 : Int) := by omega
  have p1 : (0 : Int) ≤ (k1 : Int) := by omega
  have q1 : (k1 : Int) ≤ (t.size : Int) := by omega
  have q3 : k1 ≤ t.size := by omega
  obtain ⟨d, hd⟩ : ∃ d, t.data.toList.take 300 = d := ⟨_, rfl⟩
  have hdl : d.length ≤ 300 := by rw [← hd, List.length_take]; omega
  rw [hd] at e1
  clear hd hk1 hE
  have KN := Lib.hid (fun (wx : World) (hb : Below w.heap.size w wx) => known_any wx (HP.out.grow hb) (HV.out.grow hb))
  obtain ⟨C, rfl⟩ : ∃ C : UInt8, c = (C.toNat : Int) := by
    have h1 : 0 ≤ c ∧ c ≤ 255 := by
      have e1 : IntKind.u8.min = 0 := rfl
      have e2 : IntKind.u8.max = 255 := rfl
      simp [Lit.wf, e1, e2] at wc
      exact wc
    refine ⟨UInt8.ofNat c.toNat, ?_⟩
    rw [UInt8.toNat_ofNat_of_lt' (show c.toNat < 256 by omega)]
    omega
  obtain ⟨Z, rfl, hZ⟩ : ∃ Z : Nat, z = (Z : Int) ∧ Z < 65536 := by
    have h1 : 0 ≤ z ∧ z ≤ 65535 := by
      have e1 : IntKind.u16.min = 0 := rfl
      have e2 : IntKind.u16.max = 65535 := rfl
      simp [Lit.wf, e1, e2] at wz
      exact wz
    exact ⟨z.toNat, by omega, by omega⟩
  clear wz wc
  by_cases hc : C = 0
  · subst hc
    have hc0 : ((((0 : UInt8).toNat : Nat) : Int) == 0) = true := rfl
    go_enter Tryz.func5, Tryz.ntmps5
    go_wp2_with fail
    go_at_call 13
    (with_reducible refine (KN.out _ (G.refl _)).mono ?_)
    rintro e1 w1 ⟨rfl, hb1⟩
    go_wp2_with fail
    go_at_call 13
    (with_reducible refine (KN.out _ hb1).mono ?_)
    rintro e1 w2 ⟨rfl, hb2⟩
    replace hb2 := G.trans hb1 hb2
    go_wp2_with fail
    go_ret
    exact ⟨rfl, hb2⟩
  · have hc0 : (((C.toNat : Nat) : Int) == 0) = false := by
      rw [beq_eq_false_iff_ne]
      intro h
      exact hc (UInt8.toNat_inj.1 (by simpa using h))
    have wz1 : IntKind.i64.wrap (Z : Int) = (Z : Int) := IntWalk.i64_in _ (by omega)
    obtain ⟨N, hN⟩ : ∃ N, 1 + Z = N := ⟨_, rfl⟩
    have wz2 : IntKind.i64.wrap (1 + (Z : Int)) = (N : Int) := by rw [IntWalk.i64_in _ (by omega)]; omega
    have hin : inN (N : Int) := by unfold inN; omega
    have FA := Lib.hid (fun (wx : World) => frame_any N d (by omega) wx)
    rw [frameR_ok hin (by omega), Int.toNat_natCast] at FA
    obtain ⟨F, hF⟩ : ∃ F, frameL N d = F := ⟨_, rfl⟩
    have hfl := frameL_len N d
    obtain ⟨dl, hdl2⟩ : ∃ k, d.length = k := ⟨_, rfl⟩
    have z1 := B_size F
    have z2 := B_size d
    obtain ⟨q, hq⟩ : ∃ q, 4 + Z % (12 + dl) = q := ⟨_, rfl⟩
    have hqm := Nat.mod_lt Z (show 12 + dl > 0 by omega)
    obtain ⟨x, hx⟩ : ∃ x, F[q]? = some x := ⟨F[q]'(by rw [← hF, hfl]; omega), List.getElem?_eq_getElem _⟩
    have hch : (frameL N d)[q]? ≠ some (x ^^^ C) := by
      rw [hF, hx]
      intro h
      have h2 : x = x ^^^ C := Option.some.inj h
      have h3 : x ^^^ x = x ^^^ (x ^^^ C) := by rw [← h2]
      rw [← UInt8.xor_assoc, UInt8.xor_self, UInt8.zero_xor] at h3
      exact hc h3.symm
    have hpc := parse_changed (n := N) (d := d) (by omega) (i := q) (by omega) (by rw [hfl]; omega) (c := x ^^^ C) hch N
    rw [hF] at hpc FA
    have hpv : parseV (F.set q (x ^^^ C)) 0 N = ([], 0, 28) := by
      unfold parseV parseP
      rw [if_neg (by rintro (h | h | h); omega; omega; exact h hin), show (0 : Int).toNat = 0 from rfl, List.drop_zero, hpc]
    have PA := Lib.hid (fun (wx : World) => parse_any (F.set q (x ^^^ C)) (by rw [List.length_set, ← hF, hfl]; omega) 0 N (wf_of (by omega) (by omega)) wx)
    rw [hpv] at PA
    unfold RetP at PA
    dsimp only at PA
    rw [B_nil] at PA
    dsimp only at FA
    have z1F : F.length = 16 + d.length := by rw [← hF]; exact hfl
    rw [z1F] at z1
    rw [hdl2] at z1F
    rw [hdl2] at z1 z2 hdl
    obtain ⟨M, hM⟩ : ∃ M, 16 + dl = M := ⟨_, rfl⟩
    obtain ⟨P, hP⟩ : ∃ P, 12 + dl = P := ⟨_, rfl⟩
    rw [hP] at hq hqm
    obtain ⟨rz, hrz⟩ : ∃ r, Z % P = r := ⟨_, rfl⟩
    rw [hrz] at hq hqm
    rw [hM] at z1 z1F
    have v1 : IntKind.i64.wrap (16 + (dl : Int)) = (M : Int) := by rw [IntWalk.i64_in _ (by omega)]; omega
    have v2 : IntKind.i64.wrap ((M : Int) - 4) = (P : Int) := by rw [IntWalk.i64_in _ (by omega)]; omega
    have v3 : ¬ (P : Int) = 0 := by omega
    have v7 : (Z : Int) % (P : Int) = (rz : Int) := by rw [← hrz]; rfl
    have v4 : (Z : Int).tmod (P : Int) = (rz : Int) := by rw [Int.tmod_eq_emod_of_nonneg (by omega)]; exact v7
    have v5 : IntKind.i64.wrap (rz : Int) = (rz : Int) := IntWalk.i64_in _ (by omega)
    have v6 : IntKind.i64.wrap (4 + (rz : Int)) = (q : Int) := by rw [IntWalk.i64_in _ (by omega)]; omega
    have hqM : q < M := by omega
    have hqM' : (q : Int) < (M : Int) := by omega
    have hml : M ≤ 400 := by omega
    have hqF : q < F.length := by rw [← hF, hfl]; omega
    clear hF hpc hpv hch hfl hN hin hq hrz hP hM
    go_enter Tryz.func5, Tryz.ntmps5
    go_wp2_with fail
    go_at_call 13
    (with_reducible refine (KN.out _ (G.refl _)).mono ?_)
    rintro e1 w1 ⟨rfl, hb1⟩
    go_wp2_with fail
    go_at_call 12
    (with_reducible refine (FA.out _).mono ?_)
    rintro e1 w2 ⟨rfl, hb2⟩
    replace hb2 := G.trans hb1 hb2
    clear FA KN hb1
    obtain ⟨cp, W, hcv, hbW, hBX, hcp⟩ := conv_bx w2 F
    have hb3 := G.trans hb2 hbW
    rw [z1F] at hcv hcp
    have ltW := hBX.1
    have cq := (hBX.2 q _ (u8s_get hx)).1
    have fq := (hBX.2 q _ (u8s_get hx)).2
    have hxr : bits .xor .u8 ((x.toNat : Nat) : Int) ((C.toNat : Nat) : Int) = (((x ^^^ C).toNat : Nat) : Int) := by
      have := u8_xor_nat x.toNat C.toNat (by have := x.toNat_lt; omega) (by have := C.toNat_lt; omega)
      rw [UInt8.toNat_xor]
      exact this
    obtain ⟨y, hy⟩ : ∃ y, x ^^^ C = y := ⟨_, rfl⟩
    rw [hy] at hxr PA
    clear hy
    have hBY : Bx (W.setCell ⟨w2.heap.size, q, none⟩ (.int .u8 ((y).toNat : Int))) w2.heap.size (u8s (F.set q (y))) := hBX.put (u8s_set F q (y))
    have hcb := conv_back hBY cp
    rw [List.length_set, z1F] at hcb
    have hbY := Below.setCell (p := ⟨w2.heap.size, q, none⟩) hb3 (by have := hb2.size; simp; omega) (.int .u8 ((y).toNat : Int))
    generalize (C.toNat : Int) = ci at hxr hc0
    clear hBX hBY hb2 hbW
    go_wp2_with fail
    go_at_call 16
    (with_reducible refine (PA.out _).mono ?_)
    rintro e1 w5 ⟨rfl, hb5⟩
    replace hb5 := G.trans hbY hb5
    clear PA hbY
    go_wp2_with fail
    go_ret
    exact ⟨rfl, hb5⟩
end Go.Proofs.YtbafnlccpbonmaaGreatDoor
