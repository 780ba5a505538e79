/- ChannelPlays returns true. -/
import Derived.Test.YtjldpodehffbnaaMod8
import Derived.Test.YtjldpodehffbnaaCKnown
namespace Go.Proofs.Ytjldpodehffbnaa
set_option linter.unusedVariables false
set_option linter.unnecessarySimpa false
set_option linter.unusedSimpArgs false
open Go.RowKit

set_option maxRecDepth 20000 in set_option maxHeartbeats 400000 in
theorem new_bad (k : Int) (w : World) (h : k < 1 ∨ 1024 < k) :
    Calls Try.prog 18 #[.int .i64 k] w fun e w' => e = .returned (.tuple #[.pointer none, .int .i64 2]) ∧ w' = w := by
  by_cases h1 : k < 1
  · go_enter Try.func18, Try.ntmps18
    go_wp2_with fail
    exact bodyPost_ret (v := .tuple #[.pointer none, .int .i64 2]) (by simp only [results, Try.results18]; go_simp) rfl ⟨rfl, rfl⟩
  · have h2 : 1024 < k := by omega
    clear h
    go_enter Try.func18, Try.ntmps18
    go_wp2_with fail
    exact bodyPost_ret (v := .tuple #[.pointer none, .int .i64 2]) (by simp only [results, Try.results18]; go_simp) rfl ⟨rfl, rfl⟩
theorem small40 {ops : List (Int × It)} (h : smallL ops = true) : ops.length ≤ 40 := by
  unfold smallL at h
  simp only [Bool.and_eq_true, decide_eq_true_eq] at h
  exact h.1
set_option maxRecDepth 20000 in set_option maxHeartbeats 1000000 in
theorem channelPlays_any {w : World} (cp : Int) (hcp : (Lit.int .i64 cp).wf = true) {A : Option Addr} {n c : Nat} {ops : List (Int × It)} (h : (∃ xs, OpsV (fun _ => True) w A n c xs ops) ∧ ∀ o ∈ ops, 0 ≤ o.1 ∧ o.1 ≤ 255) :
    Calls Try.prog 6 #[.int .i64 cp, .slice A n c] w fun e w' => e = .returned (.bool true) ∧ Below w.heap.size w w' := by
  obtain ⟨⟨xs, hops⟩, hkd⟩ := h
  have H := Lib.hid hops
  have hkd := Lib.hid hkd
  have hlen := Lib.hid hops.2.1
  clear hops hcp
  go_enter Try.func6, Try.ntmps6
  go_wp2_with fail
  refine (known_any _).mono ?_
  rintro e1 w1 ⟨rfl, hb1⟩
  go_wp2_with fail
  refine (small_any (H.out.grow hb1)).mono ?_
  rintro e2 w2 ⟨rfl, hb2⟩
  have hbw2 := G.trans hb1 hb2
  rcases hsm : smallL ops with _ | _
  · replace hsm := Lib.hid hsm
    go_wp2_with fail
    refine (known_any _).mono ?_
    rintro e3 w3 ⟨rfl, hb3⟩
    go_wp2_with fail
    go_ret
    exact ⟨rfl, G.trans hbw2 hb3⟩
  have hn40 : n ≤ 40 := by have := small40 hsm; rw [hlen.out] at this; exact this
  clear hsm
  by_cases h1 : cp < 1
  · go_wp2_with fail
    refine (new_bad cp _ (.inl h1)).mono ?_
    rintro e3 w3 ⟨rfl, hw3⟩
    subst hw3
    go_wp2_with fail
    go_ret
    exact ⟨rfl, hbw2⟩
  by_cases h2 : 1024 < cp
  · go_wp2_with fail
    refine (new_bad cp _ (.inr h2)).mono ?_
    rintro e3 w3 ⟨rfl, hw3⟩
    subst hw3
    go_wp2_with fail
    go_ret
    exact ⟨rfl, hbw2⟩
  obtain ⟨K, rfl⟩ : ∃ K : Nat, cp = (K : Int) := ⟨cp.toNat, by omega⟩
  go_wp2_with fail
  refine (play_any (by omega) (by omega) (H.out.grow hbw2) hkd.out hn40 (fun _ _ => trivial)).mono ?_
  rintro e3 w3 ⟨b, r, mb, ch, A', base, rfl, hP, hM, hwb, hb3⟩
  go_wp2_with fail
  go_ret
  exact ⟨rfl, G.trans hbw2 hb3⟩
end Go.Proofs.Ytjldpodehffbnaa
