/- The law DeviceReads returns true: the walk. -/
import Derived.Test.YtphjgembpcikdaaDevK
namespace Go.Proofs.Ytphjgembpcikdaa
set_option linter.unusedVariables false
set_option linter.unnecessarySimpa false
set_option linter.unusedSimpArgs false
open Go.RowKit

theorem BA_cut (t : ByteArray) (a c : Nat) : BA ((t.data.toList.drop a).take c) = t.extract a (a + c) := by
  apply ByteArray.ext
  unfold BA
  apply Array.ext'
  simp [List.extract, Nat.add_sub_cancel_left]
def q1 (n : Int) : Ds := ⟨n, false, false, -1, [⟨[102], [], 0⟩]⟩
def q2 (n : Int) (l : List UInt8) : Ds := ⟨n, false, false, -2, [⟨[102], l, 0⟩]⟩
theorem qc1 (n : Int) : createD (newD n) [102] = (0, q1 n) := by kernel_rfl
theorem qo1 {n : Int} (h0 : 0 ≤ n) (h1 : n ≤ 1099511627776) : (q1 n).Ok := ⟨h0, h1, h0, (by show (1 : Nat) ≤ 4096; decide), by show ∀ f ∈ [(⟨[102], [], 0⟩ : Fl)], f.data.length ≤ 16777216; decide, by show ∀ f ∈ [(⟨[102], [], 0⟩ : Fl)], f.dur ≤ f.data.length; decide⟩
theorem qo2 {n : Int} {l : List UInt8} (h1 : n ≤ 1099511627776) (hl : (l.length : Int) ≤ n) (h2 : l.length ≤ 16777216) : (q2 n l).Ok := by
  refine ⟨by show 0 ≤ n; omega, h1, ?_, (by show (1 : Nat) ≤ 4096; decide), fun f hf => ?_, fun f hf => ?_⟩
  · show ((usedC [(⟨[102], l, 0⟩ : Fl)] : Nat) : Int) ≤ n
    simpa [usedC] using hl
  · obtain rfl := List.mem_singleton.1 hf
    exact h2
  · obtain rfl := List.mem_singleton.1 hf
    exact Nat.zero_le _
theorem qc2 {n : Int} {l : List UInt8} (hl : (l.length : Int) ≤ n) (h2 : l.length ≤ 16777216) : appendD (q1 n) [102] l = (0, q2 n l) := by
  unfold appendD
  rw [if_neg (by show ¬ (false = true); decide)]
  show (if 16777216 < 0 + l.length then _ else if freeD (q1 n) < (l.length : Int) then _ else _) = _
  rw [if_neg (by omega), if_neg (by show ¬ (n - 0 < (l.length : Int)); omega)]
  rfl
theorem wf_bd {n : Int} (h : (Lit.int .i64 n).wf = true) : -9223372036854775808 ≤ n ∧ n ≤ 9223372036854775807 := by
  simp [Lit.wf, IntKind.min, IntKind.max, IntKind.signed, IntKind.bits] at h
  omega
theorem cut_size (s : ByteArray) (k : Nat) : (s.extract 0 (min (s.size : Int) k).toNat).size = min s.size k := by
  rw [ByteArray.size_extract]
  omega
set_option maxRecDepth 20000 in set_option maxHeartbeats 2000000 in
theorem deviceReads_any (s : ByteArray) (a c : Int) (hs : s.size ≤ maxLen) (ha : (Lit.int .i64 a).wf = true) (hc : (Lit.int .i64 c).wf = true) {w : World} :
    Calls Try.prog 3 #[.string s, .int .i64 a, .int .i64 c] w fun e w' => e = .returned (.bool true) ∧ Below w.heap.size w w' := by
  unfold maxLen at hs
  have ba := wf_bd ha
  have bc := wf_bd hc
  clear ha hc
  obtain ⟨t, ht⟩ : ∃ t, s.extract 0 (min (s.size : Int) 300).toNat = t := ⟨_, rfl⟩
  have htl : t.size ≤ 300 := by
    have := cut_size s 300
    rw [show ((300 : Nat) : Int) = 300 from rfl, ht] at this
    omega
  have hlt : t.data.toList.length = t.size := rfl
  go_enter Try.func3, Try.ntmps3
  go_wp2_with fail
  replace ht := Lib.hid ht
  refine (new_any 300 (by decide) (by decide)).mono ?_
  intro e w1 hr
  obtain ⟨d, rfl, F0⟩ := FD.new (w0 := w) (by repeat (first | with_reducible assumption | with_reducible exact G.refl _ | with_reducible refine G.drew ?_ | with_reducible refine G.drewN ?_ _ | with_reducible refine G.alloc ?_ _ | with_reducible refine Below.setCell ?_ (by first | (simp; done) | (simp; omega)) _ | with_reducible refine G.trans ?_ hb12 | with_reducible refine G.trans ?_ hb11 | with_reducible refine G.trans ?_ hb10 | with_reducible refine G.trans ?_ hb9 | with_reducible refine G.trans ?_ hb8 | with_reducible refine G.trans ?_ hb7 | with_reducible refine G.trans ?_ hb6 | with_reducible refine G.trans ?_ hb5 | with_reducible refine G.trans ?_ hb4 | with_reducible refine G.trans ?_ hb3 | with_reducible refine G.trans ?_ hb2 | with_reducible refine G.trans ?_ hb1 | with_reducible refine G.trans ?_ hb | assumption)) hr
  replace F0 := Lib.hid F0
  clear hr
  go_wp2_with fail
  refine (known_any _).mono ?_
  rintro e w2 ⟨rfl, hb2⟩
  replace F0 := Lib.hid (F0.out.grow hb2)
  clear hb2
  go_wp2_with fail
  refine (FD.runE (r := (0, q1 300)) F0.out fun S h => qc1 300 ▸ create_any h (bs [102]) (by decide)).mono ?_
  rintro e w3 ⟨rfl, F1⟩
  replace F1 := Lib.hid F1
  clear F0
  go_wp2_with fail
  refine (FD.runE (r := (0, q2 300 t.data.toList)) F1.out fun S h => qc2 (n := 300) (l := t.data.toList) (by omega) (by omega) ▸ append_any h (qo1 (by decide) (by decide)) (bs [102]) t (by decide) (by omega)).mono ?_
  rintro e w4 ⟨rfl, F2⟩
  replace F2 := Lib.hid F2
  clear F1
  go_wp2_with fail
  obtain ⟨S, D, hS⟩ := F2.out.dev
  have hrd := read_any D (qo2 (by decide) (by omega) (by omega)) (bs [102]) (by decide) a c (by omega)
  have hre : readD (q2 300 t.data.toList) (bs [102]).data.toList a c = if a < 0 ∨ c < 0 ∨ (t.size : Int) < a ∨ (t.size : Int) - a < c then ([], 2) else ((t.data.toList.drop a.toNat).take c.toNat, 0) := rfl
  rw [hre] at hrd
  refine hrd.mono ?_
  clear hrd hre D hS
  by_cases hbad : a < 0 ∨ c < 0 ∨ (t.size : Int) < a ∨ (t.size : Int) - a < c
  · rw [if_pos hbad]
    rintro e w5 ⟨he, hb5⟩
    replace he : e = .returned (.tuple #[.string ⟨#[]⟩, .int .i64 2]) := he
    subst he
    have F3 := Lib.hid (F2.out.grow hb5)
    clear F2 hb5
    by_cases c1 : a < 0
    · go_wp2_with fail
      go_ret
      exact ⟨rfl, F3.out.below⟩
    · by_cases c2 : c < 0
      · go_wp2_with fail
        go_ret
        exact ⟨rfl, F3.out.below⟩
      · by_cases c3 : (t.size : Int) < a
        · go_wp2_with fail
          go_ret
          exact ⟨rfl, F3.out.below⟩
        · have c4 : (t.size : Int) - a < c := by omega
          have hw : IntKind.i64.wrap ((t.size : Int) - a) = (t.size : Int) - a := by rw [IntWalk.i64_in _ (by omega)]
          go_wp2_with fail
          go_ret
          exact ⟨rfl, F3.out.below⟩
  · rw [if_neg hbad]
    rintro e w5 ⟨he, hb5⟩
    obtain ⟨i, rfl⟩ : ∃ i : Nat, a = i := ⟨a.toNat, by omega⟩
    obtain ⟨j, rfl⟩ : ∃ j : Nat, c = j := ⟨c.toNat, by omega⟩
    simp only [Int.toNat_natCast] at he
    rw [BA_cut] at he
    have F3 := Lib.hid (F2.out.grow hb5)
    clear F2 hb5
    have c1 : ¬ (i : Int) < 0 := by omega
    have c2 : ¬ (j : Int) < 0 := by omega
    have c3 : ¬ (t.size : Int) < (i : Int) := by omega
    have c4 : ¬ (t.size : Int) - (i : Int) < (j : Int) := by omega
    have hw : IntKind.i64.wrap ((t.size : Int) - (i : Int)) = (t.size : Int) - (i : Int) := by rw [IntWalk.i64_in _ (by omega)]
    obtain ⟨m, hm⟩ : ∃ m, i + j = m := ⟨_, rfl⟩
    have hij : (i : Int) + (j : Int) = (m : Int) := by omega
    have hw2 : IntKind.i64.wrap ((i : Int) + (j : Int)) = (m : Int) := by rw [hij, IntWalk.i64_in _ (by omega)]
    have hw3 : IntKind.i64.wrap (m : Int) = (m : Int) := by rw [IntWalk.i64_in _ (by omega)]
    have c7 : (m : Int) ≤ (t.size : Int) := by omega
    have c8 : (i : Int) ≤ (m : Int) := by omega
    have c9 : m ≤ t.size := by omega
    have c10 : i ≤ m := by omega
    have c11 : (0 : Int) ≤ (m : Int) := by omega
    rw [hm] at he
    subst he
    clear hbad ba bc htl hlt hs
    go_wp2_with fail
    go_ret
    exact ⟨rfl, F3.out.below⟩
end Go.Proofs.Ytphjgembpcikdaa
