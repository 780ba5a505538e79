/- device: named; used, Free. -/
import Derived.Test.YtphjgembpcikdaaDev2
import Derived.Lib.ConvBytes
import Derived.Lib.SmallJoins
namespace Go.Proofs.Ytphjgembpcikdaa
set_option linter.unusedVariables false
set_option linter.unnecessarySimpa false
set_option linter.unusedSimpArgs false
open Go.RowKit

theorem u8s_len (l : List UInt8) : (u8s l).length = l.length := by unfold u8s; rw [List.length_map]
theorem u8s_get {l : List UInt8} {i : Nat} {b : UInt8} (h : l[i]? = some b) : (u8s l)[i]? = some (.int .u8 b.toNat) := by unfold u8s; rw [List.getElem?_map, h]; rfl
/-- []byte(s). -/
theorem conv_bytes (w : World) (s : ByteArray) : ∃ C W, (convert 9 39 (.string s)).run Try.prog w = .ok (.slice (some ⟨w.heap.size, 0, none⟩) s.size C) W ∧ Below w.heap.size w W ∧ Sl W (some ⟨w.heap.size, 0, none⟩) s.size (u8s s.data.toList) := by
  refine ⟨_, _, Lib.run_convert_string_bytes w 9 39 5 s Try.underlying9 Try.underlying39 Try.underlying5, Joins.below_bytesWorld _ _ _ _ (Nat.le_refl _), ⟨?_, fun hn => ⟨w.heap.size, 0, rfl, by rw [Lib.bytesWorld_size]; omega, fun j u hu => ?_⟩⟩⟩
  · rw [u8s_len]; rfl
  · unfold u8s at hu
    rw [List.getElem?_map] at hu
    rcases hb : s.data.toList[j]? with _ | b
    · rw [hb] at hu; cases hu
    · rw [hb] at hu
      have hj : j < s.size := (List.getElem?_eq_some_iff.1 hb).1
      have := Lib.bytesWorld_cell w 5 s j hj
      rw [Nat.zero_add, this]
      have e : s.data.toList.getD j 0 = b := by rw [List.getD, hb]; rfl
      rw [e]
      exact hu
def badB (c : UInt8) : Bool := decide (c.toNat < 33) || decide (126 < c.toNat)
set_option maxRecDepth 20000 in set_option maxHeartbeats 400000 in
theorem badB_any (w : World) (c : UInt8) : Calls Try.prog 60 #[.int .u8 c.toNat] w fun e w' => e = .returned (.bool (badB c)) ∧ w' = w := by
  have hb : badB c = (decide ((c.toNat : Int) < 33) || decide (126 < (c.toNat : Int))) := by unfold badB; congr 1 <;> exact decide_eq_decide.2 (by omega)
  rw [hb]
  generalize (c.toNat : Int) = x
  go_enter Try.func60, Try.ntmps60
  by_cases h1 : x < 33
  · go_wp2_with fail
    go_ret
    exact ⟨by simp [h1], rfl⟩
  · by_cases h2 : 126 < x
    · go_wp2_with fail
      go_ret
      exact ⟨by simp [h2], rfl⟩
    · go_wp2_with fail
      go_ret
      exact ⟨by simp [h1, h2], rfl⟩
def RetIx (l : List UInt8) (w : World) (e : Ending) (w' : World) : Prop := (∃ r : Int, e = .returned (.int .i64 r) ∧ ((l.any badB = true ∧ 0 ≤ r) ∨ (l.any badB = false ∧ r < 0))) ∧ Below w.heap.size w w'
set_option maxRecDepth 20000 in set_option maxHeartbeats 1000000 in
theorem indexB_any {w : World} {A : Option Addr} {n c : Nat} {l : List UInt8} (hx : Sl w A n (u8s l)) (hn : n ≤ maxLen) :
    Calls Try.prog 67 #[.slice A n c, .func (.func 60) #[] #[]] w (RetIx l w) := by
  have hl : l.length = n := by have := hx.1; rwa [u8s_len] at this
  unfold maxLen at hn
  replace hl := Lib.hid hl
  go_enter Try.func67, Try.ntmps67
  go_wp2_with fail
  go_loopw [8] (fun iv wr => ∃ i : Nat, i ≤ n ∧ iv = .int .i64 i ∧ Hid ((l.take i).any badB = false) ∧ Below w.heap.size w wr) (fun iv _ => n - (intOf iv).toNat)
  case atStart => exact ⟨0, Nat.zero_le _, rfl, by unfold Hid; rfl, G.refl _⟩
  case round =>
    obtain ⟨i, hi, rfl, hno, hbr⟩ := hrel
    by_cases hlt : i < n
    · obtain ⟨b, hb⟩ : ∃ b, l[i]? = some b := ⟨_, List.getElem?_eq_getElem (by rw [hl.out]; exact hlt)⟩
      obtain ⟨bx, ox, hA, hbl, hc⟩ := (hx.grow hbr).2 (by omega)
      subst hA
      have hcx := hc i _ (u8s_get hb)
      have hs : Hid ((l.take (i + 1)).any badB = badB b) := by
        unfold Hid
        rw [List.take_add_one, hb, List.any_append, hno.out]
        simp
      replace hb := Lib.hid hb
      clear hc
      go_wp2_with fail
      refine (badB_any _ b).mono ?_
      rintro e w2 ⟨rfl, hw⟩
      subst hw
      rcases hbb : badB b with _ | _
      · go_wp2_with fail
        go_roundw
        case rel => exact ⟨i + 1, by omega, by go_num, by unfold Hid; rw [hs.out, hbb], hbr⟩
        case measure => simp [intOf]; omega
      · replace hbb := Lib.hid hbb
        go_wp2_with fail
        go_ret
        refine ⟨⟨i, rfl, .inl ⟨?_, by omega⟩⟩, hbr⟩
        have h1 := hs.out
        rw [hbb.out] at h1
        obtain ⟨x, hx, hxb⟩ := List.any_eq_true.1 h1
        exact List.any_eq_true.2 ⟨x, List.mem_of_mem_take hx, hxb⟩
    · obtain rfl : i = n := by omega
      have hno' := hno.out
      rw [List.take_of_length_le (by rw [hl.out]; exact Nat.le_refl _)] at hno'
      replace hno' := Lib.hid hno'
      go_wp2_with fail
      go_ret
      exact ⟨⟨-1, rfl, .inr ⟨hno'.out, by omega⟩⟩, hbr⟩
set_option maxRecDepth 20000 in set_option maxHeartbeats 400000 in
theorem containsB_any {w : World} {A : Option Addr} {n c : Nat} {l : List UInt8} (hx : Sl w A n (u8s l)) (hn : n ≤ maxLen) :
    Calls Try.prog 59 #[.slice A n c, .func (.func 60) #[] #[]] w fun e w' => e = .returned (.bool (l.any badB)) ∧ Below w.heap.size w w' := by
  go_enter Try.func59, Try.ntmps59
  go_wp2_with fail
  refine (indexB_any hx hn).mono ?_
  rintro e w2 ⟨⟨r, rfl, hr⟩, hb⟩
  rcases hr with ⟨h1, h2⟩ | ⟨h1, h2⟩
  · go_wp2_with fail
    go_ret
    exact ⟨by rw [h1]; rfl, hb⟩
  · have h2' : ¬ 0 ≤ r := by omega
    go_wp2_with fail
    go_ret
    exact ⟨by rw [h1]; exact congrArg (fun b => Ending.returned (.bool b)) (decide_eq_false (Int.not_le.2 h2)), hb⟩
/-- A file name. -/
def okName (n : List UInt8) : Bool := decide (n ≠ []) && (decide (n.length ≤ 64) && !n.any badB)
set_option maxRecDepth 20000 in set_option maxHeartbeats 1000000 in
theorem named_any (w : World) (s : ByteArray) : Calls Try.prog 37 #[.string s] w fun e w' => e = .returned (.bool (okName s.data.toList)) ∧ Below w.heap.size w w' := by
  have hsz : s.data.toList.length = s.size := rfl
  obtain ⟨C, W, hcv, hbW, hsl⟩ := conv_bytes w s
  by_cases h0 : s.data.toList = []
  · have hr : okName s.data.toList = false := by unfold okName; simp [h0]
    rw [hr]
    have he : s = ⟨#[]⟩ := by
      apply ByteArray.ext
      apply Array.ext'
      exact h0
    subst he
    clear hcv
    go_enter Try.func37, Try.ntmps37
    go_wp2_with fail
    go_ret
    exact ⟨rfl, by repeat (first | with_reducible assumption | with_reducible exact G.refl _ | with_reducible refine G.drew ?_ | with_reducible refine G.drewN ?_ _ | with_reducible refine G.alloc ?_ _ | with_reducible refine Below.setCell ?_ (by first | (simp; done) | (simp; omega)) _ | with_reducible refine G.trans ?_ hb12 | with_reducible refine G.trans ?_ hb11 | with_reducible refine G.trans ?_ hb10 | with_reducible refine G.trans ?_ hb9 | with_reducible refine G.trans ?_ hb8 | with_reducible refine G.trans ?_ hb7 | with_reducible refine G.trans ?_ hb6 | with_reducible refine G.trans ?_ hb5 | with_reducible refine G.trans ?_ hb4 | with_reducible refine G.trans ?_ hb3 | with_reducible refine G.trans ?_ hb2 | with_reducible refine G.trans ?_ hb1 | with_reducible refine G.trans ?_ hb | assumption)⟩
  · have he : s.toList.isEmpty = false := by rw [ByteArray.toList_eq]; simpa using h0
    by_cases h1 : s.size ≤ 64
    · have hr : okName s.data.toList = !s.data.toList.any badB := by unfold okName; rw [hsz]; simp [h0, h1]
      rw [hr]
      have CB := Lib.hid (fun W A c hx => containsB_any (w := W) (A := A) (n := s.size) (c := c) (l := s.data.toList) hx (by unfold maxLen; omega))
      generalize s.data.toList.any badB = v at *
      have h1' : (s.size : Int) ≤ 64 := by omega
      replace hbW := Lib.hid hbW
      replace hsl := Lib.hid hsl
      clear h0 hr
      go_enter Try.func37, Try.ntmps37
      go_wp2_with fail
      refine (CB.out _ _ _ hsl.out).mono ?_
      rintro e w2 ⟨rfl, hb⟩
      go_wp2_with fail
      go_ret
      exact ⟨rfl, G.trans hbW.out hb⟩
    · have hr : okName s.data.toList = false := by unfold okName; rw [hsz]; simp [h1]
      rw [hr]
      have h1' : ¬ (s.size : Int) ≤ 64 := by omega
      clear hcv h0 hr
      go_enter Try.func37, Try.ntmps37
      go_wp2_with fail
      go_ret
      exact ⟨rfl, by repeat (first | with_reducible assumption | with_reducible exact G.refl _ | with_reducible refine G.drew ?_ | with_reducible refine G.drewN ?_ _ | with_reducible refine G.alloc ?_ _ | with_reducible refine Below.setCell ?_ (by first | (simp; done) | (simp; omega)) _ | with_reducible refine G.trans ?_ hb12 | with_reducible refine G.trans ?_ hb11 | with_reducible refine G.trans ?_ hb10 | with_reducible refine G.trans ?_ hb9 | with_reducible refine G.trans ?_ hb8 | with_reducible refine G.trans ?_ hb7 | with_reducible refine G.trans ?_ hb6 | with_reducible refine G.trans ?_ hb5 | with_reducible refine G.trans ?_ hb4 | with_reducible refine G.trans ?_ hb3 | with_reducible refine G.trans ?_ hb2 | with_reducible refine G.trans ?_ hb1 | with_reducible refine G.trans ?_ hb | assumption)⟩
end Go.Proofs.Ytphjgembpcikdaa
