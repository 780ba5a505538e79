/- segment: File -/
import Derived.Test.YtbafnlccpbonmaaGreatDoorGMd
import Derived.Test.YtbafnlccpbonmaaGreatDoorGLib
import Derived.Test.YtbafnlccpbonmaaGreatDoorOrd
import Derived.Test.YtbafnlccpbonmaaGreatDoorTree
import Derived.Test.YtbafnlccpbonmaaGreatDoorProg
import Derived.Test.YtbafnlccpbonmaaGreatDoorOrdD
import Derived.Test.YtbafnlccpbonmaaGreatDoorGMe
import Derived.Lib.AppendIntMem
import Derived.WalkSmall
namespace Go.Proofs.YtbafnlccpbonmaaGreatDoor
set_option linter.unusedVariables false
set_option linter.unnecessarySimpa false
set_option linter.unusedSimpArgs false
open Go.RowKit

def okB (i : Nat) (c : UInt8) : Bool := if i = 0 then lowB c else nmB c
theorem okB_iff {i : Nat} {b : UInt8} : okB i b = true ↔ (97 ≤ (b.toNat : Int) ∧ (b.toNat : Int) ≤ 122) ∨ (i ≠ 0 ∧ ((b.toNat : Int) = 95 ∨ (48 ≤ (b.toNat : Int) ∧ (b.toNat : Int) ≤ 57))) := by
  unfold okB nmB lowB
  split <;> simp only [Bool.or_eq_true, Bool.and_eq_true, decide_eq_true_eq] <;> omega
/-- The first n bytes are fine. -/
def fineB (l : List UInt8) : Bool := match l with
  | [] => true
  | c :: r => lowB c && r.all nmB
theorem fine_at : ∀ (l : List UInt8), fineB l = true ↔ ∀ i c, l[i]? = some c → okB i c = true
  | [] => ⟨fun _ i c h => by simp at h, fun _ => rfl⟩
  | x :: r => by
    unfold fineB
    simp only [Bool.and_eq_true, List.all_eq_true]
    refine ⟨fun ⟨h1, h2⟩ i c h => ?_, fun h => ⟨h 0 x rfl, fun c hc => ?_⟩⟩
    · rcases i with _ | i
      · simp at h
        subst h
        exact h1
      · exact h2 c (List.mem_of_getElem? (by simpa using h))
    · obtain ⟨i, hi, rfl⟩ := List.getElem_of_mem hc
      exact h (i + 1) _ (by simp [List.getElem?_eq_getElem hi])
theorem fine_snoc {l : List UInt8} {i : Nat} {b : UInt8} (hb : l[i]? = some b) (h : fineB (l.take i) = true) (ho : okB i b = true) : fineB (l.take (i + 1)) = true := by
  rw [fine_at] at h ⊢
  intro j c hj
  by_cases hji : j < i
  · refine h j c ?_
    rw [List.getElem?_take_of_lt hji]
    rwa [List.getElem?_take_of_lt (by omega)] at hj
  · by_cases hj2 : j = i
    · subst hj2
      rw [List.getElem?_take_of_lt (by omega), hb] at hj
      cases hj
      exact ho
    · rw [List.getElem?_take_eq_none (by omega)] at hj
      cases hj
theorem name_fine {l : List UInt8} (h1 : 0 < l.length) (h2 : l.length ≤ 32) : nameC l = fineB l := by
  rcases l with _ | ⟨c, r⟩
  · simp at h1
  · unfold nameC fineB
    rw [List.length_cons] at h2
    simp [h2]
theorem fine_no {l : List UInt8} {i : Nat} {b : UInt8} (hb : l[i]? = some b) (h : okB i b = false) : nameC l = false := by
  rcases hn : nameC l with _ | _
  · rfl
  · exfalso
    have : fineB l = true := by
      rcases l with _ | ⟨c, r⟩
      · rfl
      · unfold nameC at hn
        unfold fineB
        simp only [Bool.and_eq_true] at hn ⊢
        exact hn.2
    rw [fine_at] at this
    rw [this i b hb] at h
    cases h
set_option maxRecDepth 20000 in set_option maxHeartbeats 1000000 in
theorem isname_any (s : ByteArray) (w : World) : Calls Tryz.prog 22 #[.string s] w fun e w' => e = .returned (.bool (nameC s.data.toList)) ∧ w' = w := by
  have hl : Hid (s.data.toList.length = s.size) := rfl
  have hat : ∀ i (h : i < s.size), s.data.toList[i]? = some s[i] := fun i h => by
    have h1 : i < s.data.toList.length := h
    rw [List.getElem?_eq_getElem h1]
    rfl
  replace hat := Lib.hid hat
  obtain ⟨l, hll⟩ : ∃ l, s.data.toList = l := ⟨_, rfl⟩
  rw [hll] at hl hat ⊢
  clear hll
  by_cases h1 : s.size < 1
  · have hr := Lib.hid (show nameC l = false by
      have := hl.out
      rw [List.eq_nil_of_length_eq_zero (show l.length = 0 by omega)]
      rfl)
    have h1' : (s.size : Int) < 1 := by omega
    clear hat
    go_enter Tryz.func22, Tryz.ntmps22
    go_wp2_with fail
    go_ret
    exact ⟨by rw [hr.out]; rfl, rfl⟩
  · have h1' : ¬ (s.size : Int) < 1 := by omega
    by_cases h2 : 32 < s.size
    · have hr := Lib.hid (show nameC l = false by
        have := hl.out
        rcases l with _ | ⟨c, r⟩
        · rfl
        · rw [List.length_cons] at this
          unfold nameC
          simp only [decide_eq_false (show ¬ r.length + 1 ≤ 32 by omega), Bool.false_and])
      have h2' : (32 : Int) < (s.size : Int) := by omega
      clear hat
      go_enter Tryz.func22, Tryz.ntmps22
      go_wp2_with fail
      go_ret
      exact ⟨by rw [hr.out]; rfl, rfl⟩
    · have h2' : ¬ (32 : Int) < (s.size : Int) := by omega
      have HW := Lib.hid (name_fine (l := l) (by have := hl.out; omega) (by have := hl.out; omega))
      go_enter Tryz.func22, Tryz.ntmps22
      go_wp2_with fail
      go_loopw [16] (fun iv wr => ∃ i : Nat, i ≤ s.size ∧ iv = .int .i64 (i : Int) ∧ Hid (fineB (l.take i) = true) ∧ wr = w) (fun iv _ => s.size - (intOf iv).toNat)
      case atStart => exact ⟨0, Nat.zero_le _, rfl, by unfold Hid; rfl, rfl⟩
      case round =>
        obtain ⟨i, hi, rfl, hno, rfl⟩ := hrel
        by_cases hlt : i < s.size
        · have hlt' : (i : Int) < (s.size : Int) := by omega
          have hw2 : IntKind.i64.wrap ((i : Int) + 1) = ((i + 1 : Nat) : Int) := by rw [IntWalk.i64_in _ (by omega)]; omega
          by_cases h0 : i = 0
          · obtain rfl := h0
            have hlb := hat.out 0 hlt
            by_cases h1 : (97 : Int) ≤ (s[0].toNat : Int)
            · by_cases h2 : (s[0].toNat : Int) ≤ 122
              · have hob := Lib.hid ((okB_iff (i := 0) (b := s[0])).2 (by first | (left; omega) | (right; omega)))
                have hs1 := Lib.hid (fine_snoc hlb hno.out hob.out)
                clear hlb hob hno hat
                go_wp2_with fail
                go_roundw
                case rel => exact ⟨0 + 1, by omega, by go_num, hs1, trivial⟩
                case measure => simp [intOf]; omega
              · have hr := Lib.hid (fine_no hlb (Bool.eq_false_iff.2 fun hh => absurd ((okB_iff (i := 0) (b := s[0])).1 hh) (by omega)))
                clear hlb hno hat
                go_wp2_with fail
                go_ret
                exact ⟨by rw [hr.out]; rfl, rfl⟩
            · have hr := Lib.hid (fine_no hlb (Bool.eq_false_iff.2 fun hh => absurd ((okB_iff (i := 0) (b := s[0])).1 hh) (by omega)))
              clear hlb hno hat
              go_wp2_with fail
              go_ret
              exact ⟨by rw [hr.out]; rfl, rfl⟩
          · have k0 : ¬ (i : Int) = 0 := by omega
            have hlb := hat.out i hlt
            by_cases h1 : (97 : Int) ≤ (s[i].toNat : Int)
            · by_cases h2 : (s[i].toNat : Int) ≤ 122
              · have hob := Lib.hid ((okB_iff (i := i) (b := s[i])).2 (by first | (left; omega) | (right; omega)))
                have hs1 := Lib.hid (fine_snoc hlb hno.out hob.out)
                clear hlb hob hno hat
                go_wp2_with fail
                go_roundw
                case rel => exact ⟨i + 1, by omega, by go_num, hs1, trivial⟩
                case measure => simp [intOf]; omega
              · have k5 : ((s[i].toNat : Int) != 95) = true := by rw [bne_iff_ne]; omega
                have k6 : ¬ (s[i].toNat : Int) < 48 := by omega
                have k7 : (57 : Int) < (s[i].toNat : Int) := by omega
                have hr := Lib.hid (fine_no hlb (Bool.eq_false_iff.2 fun hh => absurd ((okB_iff (i := i) (b := s[i])).1 hh) (by omega)))
                clear hlb hno hat
                go_wp2_with fail
                go_ret
                exact ⟨by rw [hr.out]; rfl, rfl⟩
            · by_cases h5 : (s[i].toNat : Int) = 95
              · have hob := Lib.hid ((okB_iff (i := i) (b := s[i])).2 (by first | (left; omega) | (right; omega)))
                have hs1 := Lib.hid (fine_snoc hlb hno.out hob.out)
                clear hlb hob hno hat
                go_wp2_with fail
                go_roundw
                case rel => exact ⟨i + 1, by omega, by go_num, hs1, trivial⟩
                case measure => simp [intOf]; omega
              · have k5 : ((s[i].toNat : Int) != 95) = true := by rw [bne_iff_ne]; exact h5
                by_cases h6 : (s[i].toNat : Int) < 48
                · have hr := Lib.hid (fine_no hlb (Bool.eq_false_iff.2 fun hh => absurd ((okB_iff (i := i) (b := s[i])).1 hh) (by omega)))
                  clear hlb hno hat
                  go_wp2_with fail
                  go_ret
                  exact ⟨by rw [hr.out]; rfl, rfl⟩
                · by_cases h7 : (57 : Int) < (s[i].toNat : Int)
                  · have hr := Lib.hid (fine_no hlb (Bool.eq_false_iff.2 fun hh => absurd ((okB_iff (i := i) (b := s[i])).1 hh) (by omega)))
                    clear hlb hno hat
                    go_wp2_with fail
                    go_ret
                    exact ⟨by rw [hr.out]; rfl, rfl⟩
                  · have hob := Lib.hid ((okB_iff (i := i) (b := s[i])).2 (by first | (left; omega) | (right; omega)))
                    have hs1 := Lib.hid (fine_snoc hlb hno.out hob.out)
                    clear hlb hob hno hat
                    go_wp2_with fail
                    go_roundw
                    case rel => exact ⟨i + 1, by omega, by go_num, hs1, trivial⟩
                    case measure => simp [intOf]; omega
        · obtain rfl : i = s.size := by omega
          have hr : Hid (nameC l = true) := by
            unfold Hid
            rw [HW.out]
            have := hno.out
            rw [List.take_of_length_le (by have := hl.out; omega)] at this
            exact this
          go_wp2_with fail
          go_ret
          exact ⟨by rw [hr.out]; rfl, rfl⟩
end Go.Proofs.YtbafnlccpbonmaaGreatDoor

namespace Go.Proofs.YtbafnlccpbonmaaGreatDoor
set_option linter.unusedVariables false
set_option linter.unnecessarySimpa false
set_option linter.unusedSimpArgs false
open Go.RowKit

/-- The table of powers of ten, that strconv.Itoa reads. -/
abbrev Pow10 (w : World) : Prop := Lib.TabIs Tryz.prog w "internal/strconv.uint64pow10" .u64 Lib.pow10Tab
theorem gPow : Tryz.prog.globalNamed "internal/strconv.uint64pow10" = some 3 := by kernel_rfl
theorem Pow10.lt {w : World} (h : Pow10 w) : 3 < w.heap.size := by
  unfold Pow10 Lib.TabIs World.var? at h
  rw [gPow] at h
  simp only [Option.bind_some] at h
  rcases Nat.lt_or_ge 3 w.heap.size with h' | h'
  · exact h'
  · rw [Array.getElem?_eq_none h'] at h; cases h
theorem Pow10.grow {w w' : World} (h : Pow10 w) (hb : Below w.heap.size w w') : Pow10 w' := var?_below hb gPow h.lt h
theorem Pow10.block {w w' : World} (h : Pow10 w) (hb : w'.heap[3]? = w.heap[3]?) : Pow10 w' := by
  unfold Pow10 Lib.TabIs World.var? at h ⊢
  rw [gPow] at h ⊢
  simp only [Option.bind_some] at h ⊢
  rw [hb]
  exact h
theorem itoa_any (n : Int) (w : World) (h0 : -9223372036854775808 ≤ n) (h1 : n ≤ 9223372036854775807) (ht : Pow10 w) :
    Calls Tryz.prog 53 #[.int .i64 n] w fun e w' => e = .returned (.string (B (Lib.itoa n))) ∧ Below w.heap.size w w' :=
  (Tryz.strconv_Itoa n h0 h1 w ht).mono fun e w' h => ⟨h.1, by obtain ⟨k, os, rfl⟩ := h.2; exact Lib.below_grow _ _ (Nat.le_refl _) _ _⟩
theorem repeatL_one (c : UInt8) : ∀ k, Lib.repeatL [c] k = List.replicate k c
  | 0 => rfl
  | k + 1 => by rw [Lib.repeatL, repeatL_one c k, List.replicate_succ]; rfl
theorem zeros_any (k : Nat) (hk : k ≤ 8) (w : World) : Calls Tryz.prog 54 #[.string ⟨#[48]⟩, .int .i64 (k : Int)] w fun e w' => e = .returned (.string (B (List.replicate k 48))) ∧ Below w.heap.size w w' :=
  (Tryz.strings_Repeat ⟨#[48]⟩ k w (by omega) (by show 1 * k ≤ _; omega)).mono fun e w' h => ⟨by rw [h.1, show ((⟨#[48]⟩ : ByteArray).data.toList) = [48] from rfl, repeatL_one]; rfl, h.2⟩
theorem fileR_nil {nm : List UInt8} (h : nameC nm = false) (n : Int) : fileR nm n = ([], 12) := by unfold fileR; rw [if_pos h]
theorem fileR_bad {nm : List UInt8} (h : nameC nm = true) {n : Int} (hn : ¬ inN n) : fileR nm n = ([], 2) := by unfold fileR; rw [if_neg (by rw [h]; decide), if_pos hn]
theorem fileR_ok {nm : List UInt8} (h : nameC nm = true) {n : Int} (hn : inN n) : fileR nm n = (fileL nm n.toNat, 0) := by unfold fileR; rw [if_neg (by rw [h]; decide), if_neg (by simpa using hn)]
theorem name_len {nm : List UInt8} (h : nameC nm = true) : nm.length ≤ 32 := by
  unfold nameC at h
  split at h
  · cases h
  · simp only [Bool.and_eq_true, decide_eq_true_eq] at h
    simpa using h.1
set_option maxRecDepth 20000 in set_option maxHeartbeats 4000000 in
theorem file_any (nm : List UInt8) (n : Int) (w : World) (hp : Pow10 w) : Calls Tryz.prog 19 #[.string (B nm), .int .i64 n] w fun e w' => e = .returned (.tuple #[.string (B (fileR nm n).1), .int .i64 (fileR nm n).2]) ∧ Below w.heap.size w w' := by
  have IS := Lib.hid (isname_any (B nm) w)
  rw [B_list] at IS
  have IN := Lib.hid (in_any n w)
  by_cases h1 : nameC nm = true
  · rw [h1] at IS
    by_cases h2 : inN n
    · rw [decide_eq_true h2] at IN
      rw [fileR_ok h1 h2]
      dsimp only
      obtain ⟨m, rfl⟩ : ∃ m : Nat, n = (m : Int) := ⟨n.toNat, by unfold inN at h2; omega⟩
      have hm : 1 ≤ m ∧ m < 100000000 := by unfold inN at h2; omega
      rw [Int.toNat_natCast]
      have IT := Lib.hid (itoa_any (m : Int) w (by omega) (by omega) hp)
      obtain ⟨p1, p2⟩ := pad8 hm.2 hm.1
      obtain ⟨S, hS⟩ : ∃ S, Lib.itoa (m : Int) = S := ⟨_, rfl⟩
      rw [hS] at IT p1 p2
      clear hS h2
      obtain ⟨z, hz⟩ : ∃ z, S.length = z := ⟨_, rfl⟩
      rw [hz] at p1 p2
      have s1 := B_size S
      rw [hz] at s1
      have e0 : (8 : Int) - (z : Int) = ((8 - z : Nat) : Int) := by omega
      obtain ⟨k, hk⟩ : ∃ k, 8 - z = k := ⟨_, rfl⟩
      rw [hk] at e0 p1
      have hk8 : k ≤ 8 := by omega
      have e1 : IntKind.i64.wrap ((8 : Int) - (z : Int)) = (k : Int) := by rw [e0]; exact IntWalk.i64_in _ (by omega)
      have Z := Lib.hid (fun wx => zeros_any k hk8 wx)
      have s2 : (B (List.replicate k 48)).size = k := by rw [B_size, List.length_replicate]
      have hnl := name_len h1
      obtain ⟨N, hN⟩ : ∃ N, nm.length = N := ⟨_, rfl⟩
      rw [hN] at hnl
      have s3 : (B nm).size = N := by rw [B_size, hN]
      have s4 : (⟨#[45]⟩ : ByteArray).size = 1 := rfl
      have s5 : B nm ++ ⟨#[45]⟩ = B (nm ++ [45]) := B_app _ [45]
      have s6 : (B (nm ++ [45])).size = N + 1 := by rw [B_size, List.length_append, hN]; rfl
      have s7 : B (nm ++ [45]) ++ B (List.replicate k 48) = B (nm ++ [45] ++ List.replicate k 48) := B_app _ _
      have s8 : (B (nm ++ [45] ++ List.replicate k 48)).size = N + 1 + k := by rw [B_size, List.length_append, List.length_append, hN, List.length_replicate]; rfl
      have s9 : B (nm ++ [45] ++ List.replicate k 48) ++ B S = B (nm ++ [45] ++ List.replicate k 48 ++ S) := B_app _ _
      have hF := Lib.hid (show nm ++ [45] ++ List.replicate k 48 ++ S = fileL nm m by unfold fileL; rw [← p1]; simp)
      have g1 : ¬ 9223372036854775807 < N + 1 := by omega
      have g2 : ¬ 9223372036854775807 < N + 1 + k := by omega
      have g3 : ¬ 9223372036854775807 < N + 1 + k + z := by omega
      obtain ⟨F, hF'⟩ : ∃ F, nm ++ [45] ++ List.replicate k 48 ++ S = F := ⟨_, rfl⟩
      rw [hF'] at s9 hF
      obtain ⟨X2, hX2⟩ : ∃ F, nm ++ [45] ++ List.replicate k 48 = F := ⟨_, rfl⟩
      rw [hX2] at s7 s8 s9
      obtain ⟨X1, hX1⟩ : ∃ F, nm ++ [45] = F := ⟨_, rfl⟩
      rw [hX1] at s5 s6 s7
      clear p1 hz h1 hN e0 hF' hX2 hX1
      go_enter Tryz.func19, Tryz.ntmps19
      go_wp2_with fail
      go_at_call 22
      (with_reducible refine IS.out.mono ?_)
      rintro e1 w1 ⟨rfl, hw⟩
      obtain rfl := hw.symm
      clear hw IS
      go_wp2_with fail
      go_at_call 47
      (with_reducible refine IN.out.mono ?_)
      rintro e1 w1 ⟨rfl, hw⟩
      obtain rfl := hw.symm
      clear hw IN
      go_wp2_with fail
      go_at_call 53
      (with_reducible refine IT.out.mono ?_)
      rintro e1 w1 ⟨rfl, hb1⟩
      go_wp2_with fail
      go_at_call 54
      (with_reducible refine (Z.out _).mono ?_)
      rintro e1 w2 ⟨rfl, hb2⟩
      replace hb1 := Lib.hid (G.trans hb1 hb2)
      clear hb2
      go_wp2_with fail
      refine bodyPost_ret (v := .tuple #[.string (B F), .int .i64 0]) (by simp only [results, Tryz.results19]; go_simp) rfl ⟨by rw [hF.out], hb1.out⟩
    · rw [decide_eq_false h2] at IN
      rw [fileR_bad h1 h2]
      dsimp only
      go_enter Tryz.func19, Tryz.ntmps19
      go_wp2_with fail
      go_at_call 22
      (with_reducible refine IS.out.mono ?_)
      rintro e1 w1 ⟨rfl, hw⟩
      obtain rfl := hw.symm
      clear hw IS
      go_wp2_with fail
      go_at_call 47
      (with_reducible refine IN.out.mono ?_)
      rintro e1 w1 ⟨rfl, rfl⟩
      go_wp2_with fail
      refine bodyPost_ret (v := .tuple #[.string ⟨#[]⟩, .int .i64 2]) (by simp only [results, Tryz.results19]; go_simp) rfl ⟨rfl, G.refl _⟩
  · rw [Bool.not_eq_true] at h1
    rw [h1] at IS
    rw [fileR_nil h1]
    dsimp only
    go_enter Tryz.func19, Tryz.ntmps19
    go_wp2_with fail
    go_at_call 22
    (with_reducible refine IS.out.mono ?_)
    rintro e1 w1 ⟨rfl, rfl⟩
    go_wp2_with fail
    refine bodyPost_ret (v := .tuple #[.string ⟨#[]⟩, .int .i64 12]) (by simp only [results, Tryz.results19]; go_simp) rfl ⟨rfl, G.refl _⟩
end Go.Proofs.YtbafnlccpbonmaaGreatDoor
