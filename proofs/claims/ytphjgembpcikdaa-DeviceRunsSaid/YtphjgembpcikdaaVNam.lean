/- device laws: named. -/
import Derived.Test.YtphjgembpcikdaaDevK
namespace Go.Proofs.Ytphjgembpcikdaa
set_option linter.unusedVariables false
set_option linter.unnecessarySimpa false
set_option linter.unusedSimpArgs false
open Go.RowKit

set_option maxRecDepth 20000 in set_option maxHeartbeats 1000000 in
theorem lawnamed_any (s : ByteArray) (hs : s.size ≤ maxLen) (w : World) : Calls Try.prog 18 #[.string s] w fun e w' => e = .returned (.bool (okName s.data.toList)) ∧ w' = w := by
  unfold maxLen at hs
  have hl : Hid (s.data.toList.length = s.size) := rfl
  obtain ⟨l, hll⟩ : ∃ l, s.data.toList = l := ⟨_, rfl⟩
  rw [hll] at hl ⊢
  replace hll := Lib.hid hll
  go_enter Try.func18, Try.ntmps18
  go_wp2_with fail
  go_loopw [3] (fun iv wr => ∃ i : Nat, i ≤ s.size ∧ iv = .int .i64 i ∧ Hid ((l.take i).any badB = false) ∧ wr = w) (fun iv _ => s.size - (intOf iv).toNat)
  case atStart => exact ⟨0, Nat.zero_le _, rfl, by unfold Hid; rfl, rfl⟩
  case round =>
    obtain ⟨i, hi, rfl, hno, rfl⟩ := hrel
    by_cases hlt : i < s.size
    · have hlt' : (i : Int) < (s.size : Int) := by omega
      obtain ⟨b, hb⟩ : ∃ b, s[i] = b := ⟨_, rfl⟩
      have hlb : l[i]? = some b := by
        rw [← hll.out, ← hb]
        have h1 : i < s.data.toList.length := hlt
        rw [List.getElem?_eq_getElem h1]
        rfl
      have hs1 : Hid ((l.take (i + 1)).any badB = badB b) := by
        unfold Hid
        rw [List.take_add_one, hlb, List.any_append, hno.out]
        simp
      have hbad : badB b = true → okName l = false := fun hbb => by
        have : l.any badB = true := List.any_eq_true.2 ⟨b, List.mem_of_getElem? hlb, hbb⟩
        unfold okName
        rw [this]
        simp
      replace hlb := Lib.hid hlb
      replace hbad := Lib.hid hbad
      by_cases h1 : (b.toNat : Int) < 33
      · have hbb : badB b = true := by unfold badB; simp; omega
        have hr := Lib.hid (hbad.out hbb)
        clear hbb
        go_wp2_with fail
        go_ret
        exact ⟨by rw [hr.out]; rfl, rfl⟩
      · by_cases h2 : (126 : Int) < (b.toNat : Int)
        · have hbb : badB b = true := by unfold badB; simp; omega
          have hr := Lib.hid (hbad.out hbb)
          clear hbb
          go_wp2_with fail
          go_ret
          exact ⟨by rw [hr.out]; rfl, rfl⟩
        · have hbb : badB b = false := by unfold badB; simp; omega
          have hs2 : Hid ((l.take (i + 1)).any badB = false) := by unfold Hid; rw [hs1.out, hbb]
          clear hbb hs1
          go_wp2_with fail
          go_roundw
          case rel => exact ⟨i + 1, by omega, by go_num, hs2, trivial⟩
          case measure => simp [intOf]; omega
    · obtain rfl : i = s.size := by omega
      have hno' := hno.out
      rw [List.take_of_length_le (by rw [hl.out]; exact Nat.le_refl _)] at hno'
      have hok : okName l = (decide ((1 : Int) ≤ (s.size : Int)) && decide ((s.size : Int) ≤ 64)) := by
        unfold okName
        rw [hno', hl.out]
        have e1 : decide (l ≠ []) = decide ((1 : Int) ≤ (s.size : Int)) := decide_eq_decide.2 ⟨fun h => by
          have := List.length_pos_iff.2 h
          have := hl.out
          omega, fun h e => by have := hl.out; rw [e] at this; simp at this; omega⟩
        have e2 : decide (s.size ≤ 64) = decide ((s.size : Int) ≤ 64) := decide_eq_decide.2 (by omega)
        rw [e1, e2]
        simp
      clear hno hno'
      replace hok := Lib.hid hok
      by_cases h0 : (1 : Int) ≤ (s.size : Int)
      · by_cases h6 : (s.size : Int) ≤ 64
        · go_wp2_with fail
          go_ret
          exact ⟨by rw [hok.out]; simp [h0, h6], rfl⟩
        · go_wp2_with fail
          go_ret
          exact ⟨by rw [hok.out]; simp [h0, h6], rfl⟩
      · go_wp2_with fail
        go_ret
        exact ⟨by rw [hok.out, decide_eq_false (Int.not_le.2 h0)]; rfl, rfl⟩
end Go.Proofs.Ytphjgembpcikdaa
