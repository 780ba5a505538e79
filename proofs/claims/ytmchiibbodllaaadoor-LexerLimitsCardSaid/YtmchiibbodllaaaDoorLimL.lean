/- LexerLimits: the walk. -/
import Derived.Test.YtmchiibbodllaaaDoorLKnown
import Derived.Test.YtmchiibbodllaaaDoorLimM
namespace Go.Proofs.YtmchiibbodllaaaDoor
set_option linter.unusedVariables false
set_option linter.unnecessarySimpa false
set_option linter.unusedSimpArgs false
open Go.RowKit

theorem infoU8 : (Tryd.prog.info? 5).map (fun i => (i.zero, i.size, i.bytes)) = some (some (.int .u8 0), 1, 1) := by kernel_rfl
theorem made_u8 (n : Nat) : madeCells (Value.int .u8 0).cells n = (List.replicate n (Value.int .u8 0)).toArray := by
  unfold madeCells
  apply Array.ext
  · simp
  · intro i h1 h2
    simp [Value.cells, Nat.mod_one]
def fillC (v : Int) (k i : Nat) : List Value := List.replicate i (.int .u8 v) ++ List.replicate (k - i) (.int .u8 0)
theorem fillC_set {v : Int} {k i : Nat} (h : i < k) : (fillC v k i).set i (.int .u8 v) = fillC v k (i + 1) := by
  unfold fillC
  rw [List.set_append_right _ _ (by simp), List.length_replicate, Nat.sub_self, show k - i = (k - (i + 1)) + 1 by omega, List.replicate_succ, List.set_cons_zero, List.replicate_succ']
  simp
theorem fillC_set2 {v : Int} {k i : Nat} (h : i < k) (u : Int) : ((fillC v k i).set i (.int .u8 u)).set i (.int .u8 v) = fillC v k (i + 1) := by
  rw [List.set_set, fillC_set h]
theorem fillC_at {v : Int} {k i : Nat} (h : i < k) : (fillC v k i)[i]? = some (.int .u8 0) := by
  unfold fillC
  rw [List.getElem?_append_right (by simp), List.length_replicate, Nat.sub_self]
  simp [List.getElem?_replicate, show 0 < k - i by omega]
theorem lim_conv {w : World} {b k : Nat} {v : UInt8} (h : Bx w b (fillC (v.toNat : Int) k k)) (c : Nat) : (convert 22 9 (.slice (some ⟨b, 0, none⟩) k c)).run Tryd.prog w = .ok (.string ⟨Array.replicate k v⟩) w := by
  rw [← List.toArray_replicate]
  have := run_convert_bytes_back (P := Tryd.prog) w 22 9 5 ⟨b, 0, none⟩ c (List.replicate k v) Tryd.underlying22 Tryd.underlying5 Tryd.underlying9 (fun j hj => by
    rw [List.length_replicate] at hj
    rw [addr_add, List.getElem_replicate]
    refine (h.2 j _ ?_).1
    unfold fillC
    rw [Nat.sub_self]
    simp [List.getElem?_replicate, hj])
  rw [List.length_replicate] at this
  exact this
section
variable {w : World}
set_option maxRecDepth 20000 in set_option maxHeartbeats 4000000 in
theorem limits_long (hE : Env w) (n : Nat) (hn : n < 256) : Calls Tryd.prog 3 #[.int .u8 (n : Int), .bool true] w fun e w' => e = .returned (.bool true) ∧ Below w.heap.size w w' := by
  have HE := Lib.hid hE
  obtain ⟨iF, hi0, hz0, hz1, hz2⟩ := info_parts infoU8
  obtain ⟨m, hm⟩ : ∃ m, n % 10 = m := ⟨_, rfl⟩
  have hm10 : m < 10 := by omega
  have hr : (n : Int).tmod 10 = (m : Int) := by rw [Int.tmod_eq_emod_of_nonneg (by omega)]; omega
  have hr2 : (n : Int) % 10 = (m : Int) := by omega
  have hw0 : IntKind.u8.wrap (m : Int) = (m : Int) := IntWalk.u8_in _ (by omega)
  have hw00 : IntKind.i64.wrap (m : Int) = (m : Int) := IntWalk.i64_in _ (by omega)
  have hwk0 : IntKind.i64.wrap (16380 + (m : Int)) = ((16380 + m : Nat) : Int) := by rw [IntWalk.i64_in _ (by omega)]; omega
  obtain ⟨k, hk⟩ : ∃ k, 65531 + m = k := ⟨_, rfl⟩
  have hwk : IntKind.i64.wrap (65531 + (m : Int)) = (k : Int) := by rw [IntWalk.i64_in _ (by omega)]; omega
  have hkb : k ≤ 70000 := by omega
  have hw1 : IntKind.i64.wrap ((k : Int) + 1) = ((k + 1 : Nat) : Int) := by rw [IntWalk.i64_in _ (by omega)]; omega
  have hmk := fun w => run_makeSlice (P := Tryd.prog) w 22 5 iF (.int .u8 0) Tryd.underlying22 hi0 hz0 .i64 .i64 k k (by omega) (Int.le_refl _) (by rw [hz1, Int.toNat_natCast]; omega) (by rw [hz2]; omega) (by omega)
  rw [hz1, Int.toNat_natCast, Nat.mul_one, made_u8] at hmk
  replace hk := Lib.hid hk
  clear hE hm
  go_enter Tryd.func3, Tryd.ntmps3
  go_wp2_with fail
  obtain ⟨b, hb⟩ : ∃ b, w.heap.size = b := ⟨_, rfl⟩
  rw [hb]
  refine wp_name (fun wx => Bx wx b (fillC 32 k 0) ∧ Below w.heap.size w wx) ⟨Bx.new hb.symm (by unfold fillC; rfl), G.alloc (G.refl w) _⟩ ?_
  rintro w1 ⟨hx1, hb1⟩
  have hL : Hid (w.heap.size = b) := hb
  have HX := Lib.hid hx1
  have HW := Lib.hid hb1
  clear hx1 hb1 hmk hb hwk hwk0
  go_loopw [7] (fun iv wx => ∃ i : Nat, i ≤ k ∧ iv = .int .i64 i ∧ Hid (Bx wx b (fillC 32 k i)) ∧ Hid (Below w.heap.size w wx)) (fun iv _ => k - (intOf iv).toNat)
  case atStart => exact ⟨0, Nat.zero_le _, rfl, HX, HW⟩
  case round =>
    clear HX HW
    obtain ⟨i, hi, rfl, HX, HW⟩ := hrel
    by_cases hlt : i < k
    · have hlt' : (i : Int) < (k : Int) := by omega
      have hw2 : IntKind.i64.wrap ((i : Int) + 1) = ((i + 1 : Nat) : Int) := by rw [IntWalk.i64_in _ (by omega)]; omega
      have hat := HX.out.2 i _ (fillC_at hlt)
      have q0 := hat.1
      have f0 := hat.2
      have ltb := HX.out.lt
      go_wp2_with fail
      go_roundw
      case rel => exact ⟨i + 1, by omega, by go_num, Lib.hid (HX.out.put (fillC_set hlt)), Lib.hid (HW.out.setCell (Nat.le_of_eq hL.out) _)⟩
      case measure => simp [intOf]; omega
    · obtain rfl : i = k := by omega
      have hcv := lim_conv (v := 32) HX.out i
      have SC := Lib.hid (scan_any (w := wr) ((HE.out.grow HW.out)) ⟨Array.replicate i 32⟩)
      rw [show (⟨Array.replicate i (32 : UInt8)⟩ : ByteArray).data.toList = List.replicate i 32 from by simp] at SC
      by_cases hbig : 65536 < i
      · have hbig' : (65536 : Int) < (i : Int) := by omega
        have hsc : scanA (List.replicate i 32) = .bad 0 5 := by unfold scanA; rw [List.length_replicate, if_pos hbig]
        have hln := lnc_rep (k := i) (i := 0) (c := 32) (by decide) (Nat.zero_le _)
        rw [hsc] at SC
        go_wp2_with fail
        go_at_call 5
        (with_reducible refine SC.out.mono ?_)
        rintro e1 w2 ⟨hb2, he⟩
        dsimp only at he
        rw [hln] at he
        obtain rfl := he
        go_wp2_with fail
        go_at_call 6
        (with_reducible refine (known_any ((HE.out.grow HW.out).grow hb2)).mono ?_)
        rintro e1 w3 ⟨rfl, hb3⟩
        go_wp2_with fail
        go_ret
        exact ⟨rfl, G.trans (G.trans HW.out hb2) hb3⟩
      · have hbig' : ¬ (65536 : Int) < (i : Int) := by omega
        have hsc : scanA (List.replicate i 32) = .ok [] := by unfold scanA; rw [List.length_replicate, if_neg hbig, scan_sp]
        have hln := lnc_rep (k := i) (i := i) (c := 32) (by decide) (Nat.le_refl _)
        rw [hsc] at SC
        go_wp2_with fail
        go_at_call 5
        (with_reducible refine SC.out.mono ?_)
        rintro e1 w2 ⟨hb2, A, c, rfl, hown⟩
        have hS := Sl.of_own hown
        obtain ⟨_, hc⟩ := hS
        obtain ⟨g, off, rfl, hg, hcell⟩ := hc (by simp)
        have hq : (rowC (List.replicate i 32) [] ++ endC (List.replicate i 32))[2]? = some (.int .i64 ((i : Int) + 1)) := by
          unfold endC
          rw [List.length_replicate, hln]
          rfl
        have q2 := hcell 2 _ hq
        clear hcell hown hq
        replace hln := Lib.hid hln
        go_wp2_with fail
        go_at_call 6
        (with_reducible refine (known_any ((HE.out.grow HW.out).grow hb2)).mono ?_)
        rintro e1 w3 ⟨rfl, hb3⟩
        replace q2 := G.cell q2 hb3
        have hg3 := cell_lt q2
        go_wp2_with fail
        go_ret
        exact ⟨rfl, G.trans (G.trans HW.out hb2) hb3⟩
set_option maxRecDepth 20000 in set_option maxHeartbeats 4000000 in
theorem limits_semi (hE : Env w) (n : Nat) (hn : n < 256) : Calls Tryd.prog 3 #[.int .u8 (n : Int), .bool false] w fun e w' => e = .returned (.bool true) ∧ Below w.heap.size w w' := by
  have HE := Lib.hid hE
  obtain ⟨iF, hi0, hz0, hz1, hz2⟩ := info_parts infoU8
  obtain ⟨m, hm⟩ : ∃ m, n % 10 = m := ⟨_, rfl⟩
  have hm10 : m < 10 := by omega
  have hr : (n : Int).tmod 10 = (m : Int) := by rw [Int.tmod_eq_emod_of_nonneg (by omega)]; omega
  have hr2 : (n : Int) % 10 = (m : Int) := by omega
  have hw0 : IntKind.u8.wrap (m : Int) = (m : Int) := IntWalk.u8_in _ (by omega)
  have hw00 : IntKind.i64.wrap (m : Int) = (m : Int) := IntWalk.i64_in _ (by omega)
  obtain ⟨k, hk⟩ : ∃ k, 16380 + m = k := ⟨_, rfl⟩
  have hwk : IntKind.i64.wrap (16380 + (m : Int)) = (k : Int) := by rw [IntWalk.i64_in _ (by omega)]; omega
  have hkb : k ≤ 70000 := by omega
  have hw1 : IntKind.i64.wrap ((k : Int) + 1) = ((k + 1 : Nat) : Int) := by rw [IntWalk.i64_in _ (by omega)]; omega
  have hmk := fun w => run_makeSlice (P := Tryd.prog) w 22 5 iF (.int .u8 0) Tryd.underlying22 hi0 hz0 .i64 .i64 k k (by omega) (Int.le_refl _) (by rw [hz1, Int.toNat_natCast]; omega) (by rw [hz2]; omega) (by omega)
  rw [hz1, Int.toNat_natCast, Nat.mul_one, made_u8] at hmk
  replace hk := Lib.hid hk
  clear hE hm
  go_enter Tryd.func3, Tryd.ntmps3
  go_wp2_with fail
  obtain ⟨b, hb⟩ : ∃ b, w.heap.size = b := ⟨_, rfl⟩
  rw [hb]
  refine wp_name (fun wx => Bx wx b (fillC 59 k 0) ∧ Below w.heap.size w wx) ⟨Bx.new hb.symm (by unfold fillC; rfl), G.alloc (G.refl w) _⟩ ?_
  rintro w1 ⟨hx1, hb1⟩
  have hL : Hid (w.heap.size = b) := hb
  have HX := Lib.hid hx1
  have HW := Lib.hid hb1
  clear hx1 hb1 hmk hb hwk
  go_loopw [7] (fun iv wx => ∃ i : Nat, i ≤ k ∧ iv = .int .i64 i ∧ Hid (Bx wx b (fillC 59 k i)) ∧ Hid (Below w.heap.size w wx)) (fun iv _ => k - (intOf iv).toNat)
  case atStart => exact ⟨0, Nat.zero_le _, rfl, HX, HW⟩
  case round =>
    clear HX HW
    obtain ⟨i, hi, rfl, HX, HW⟩ := hrel
    by_cases hlt : i < k
    · have hlt' : (i : Int) < (k : Int) := by omega
      have hw2 : IntKind.i64.wrap ((i : Int) + 1) = ((i + 1 : Nat) : Int) := by rw [IntWalk.i64_in _ (by omega)]; omega
      have hat := HX.out.2 i _ (fillC_at hlt)
      have q0 := hat.1
      have f0 := hat.2
      have ltb := HX.out.lt
      go_wp2_with fail
      go_roundw
      case rel => exact ⟨i + 1, by omega, by go_num, Lib.hid ((HX.out.put (i := i) (v := .int .u8 32) rfl).put (fillC_set2 hlt 32)), Lib.hid ((HW.out.setCell (Nat.le_of_eq hL.out) _).setCell (Nat.le_of_eq hL.out) _)⟩
      case measure => simp [intOf]; omega
    · obtain rfl : i = k := by omega
      have hcv := lim_conv (v := 59) HX.out i
      have SC := Lib.hid (scan_any (w := wr) ((HE.out.grow HW.out)) ⟨Array.replicate i 59⟩)
      rw [show (⟨Array.replicate i (59 : UInt8)⟩ : ByteArray).data.toList = List.replicate i 59 from by simp] at SC
      have hss := scan_semi i
      by_cases hbig : 16384 < i
      · have hbig' : (16384 : Int) < (i : Int) := by omega
        rw [if_neg (by omega)] at hss
        have hsc : scanA (List.replicate i 59) = .bad 16384 9 := by unfold scanA; rw [List.length_replicate, if_neg (by have := hk.out; omega), hss]
        have hln := lnc_rep (k := i) (i := 16384) (c := 59) (by decide) (by omega)
        rw [hsc] at SC
        clear hss
        go_wp2_with fail
        go_at_call 5
        (with_reducible refine SC.out.mono ?_)
        rintro e1 w2 ⟨hb2, he⟩
        dsimp only at he
        rw [hln] at he
        obtain rfl := he
        go_wp2_with fail
        go_at_call 6
        (with_reducible refine (known_any ((HE.out.grow HW.out).grow hb2)).mono ?_)
        rintro e1 w3 ⟨rfl, hb3⟩
        go_wp2_with fail
        go_ret
        exact ⟨rfl, G.trans (G.trans HW.out hb2) hb3⟩
      · have hbig' : ¬ (16384 : Int) < (i : Int) := by omega
        rw [if_pos (by omega)] at hss
        obtain ⟨ts, hts, htl⟩ := hss
        have hsc : scanA (List.replicate i 59) = .ok ts := by unfold scanA; rw [List.length_replicate, if_neg (by have := hk.out; omega), hts]
        rw [hsc] at SC
        clear hts
        go_wp2_with fail
        go_at_call 5
        (with_reducible refine SC.out.mono ?_)
        rintro e1 w2 ⟨hb2, A, c, rfl, hown⟩
        rw [htl]
        clear hown htl
        go_wp2_with fail
        go_at_call 6
        (with_reducible refine (known_any ((HE.out.grow HW.out).grow hb2)).mono ?_)
        rintro e1 w3 ⟨rfl, hb3⟩
        go_wp2_with fail
        go_ret
        exact ⟨rfl, G.trans (G.trans HW.out hb2) hb3⟩
end
theorem lexerLimits_any (n : Int) (l : Bool) (W : World) (wn : (Lit.int .u8 n).wf = true) (hE : Env W) : Calls Tryd.prog 3 #[.int .u8 n, .bool l] W fun e w' => e = .returned (.bool true) ∧ Below W.heap.size W w' := by
  have hb : 0 ≤ n ∧ n ≤ 255 := by
    simp [Lit.wf, IntKind.min, IntKind.max, IntKind.signed, IntKind.bits] at wn
    omega
  obtain ⟨m, rfl⟩ : ∃ m : Nat, n = m := ⟨n.toNat, by omega⟩
  cases l
  · exact limits_semi hE m (by omega)
  · exact limits_long hE m (by omega)
end Go.Proofs.YtmchiibbodllaaaDoor
