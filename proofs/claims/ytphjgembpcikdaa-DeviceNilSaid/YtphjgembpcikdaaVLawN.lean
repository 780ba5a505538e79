/- The law DeviceNil returns true: the walk. -/
import Derived.Test.YtphjgembpcikdaaNilD
import Derived.Test.YtphjgembpcikdaaVLaw1
namespace Go.Proofs.Ytphjgembpcikdaa
set_option linter.unusedVariables false
set_option linter.unnecessarySimpa false
set_option linter.unusedSimpArgs false
open Go.RowKit

set_option maxRecDepth 20000 in set_option maxHeartbeats 4000000 in
theorem deviceNil_any (s : ByteArray) (a : Int) {A : Option Addr} {n c : Nat} (hs : s.size ≤ maxLen) (ha : (Lit.int .i64 a).wf = true) {w : World} :
    Calls Try.prog 12 #[.string s, .int .i64 a, .slice A n c] w fun e w' => e = .returned (.bool true) ∧ Below w.heap.size w w' := by
  unfold maxLen at hs
  obtain ⟨t, ht⟩ : ∃ t, s.extract 0 (min (s.size : Int) 70).toNat = t := ⟨_, rfl⟩
  go_enter Try.func12, Try.ntmps12
  go_wp2_with fail
  replace ht := Lib.hid ht
  have hb : Below w.heap.size w w := G.refl w
  clear hs ha
  refine ((fun w => limit_nil w a) _).mono ?_
  rintro e w1 ⟨rfl, hq⟩
  replace hb := G.trans hb hq
  clear hq
  go_wp2_with fail
  refine (crash_nil _).mono ?_
  rintro e w2 ⟨rfl, hq⟩
  replace hb := G.trans hb hq
  clear hq
  go_wp2_with fail
  refine ((fun w => start_nil w A n c) _).mono ?_
  rintro e w3 ⟨rfl, hq⟩
  replace hb := G.trans hb hq
  clear hq
  go_wp2_with fail
  refine ((fun w => read_nil w t a a) _).mono ?_
  rintro e w4 ⟨rfl, hq⟩
  replace hb := G.trans hb hq
  clear hq
  go_wp2_with fail
  refine ((fun w => size_nil w t) _).mono ?_
  rintro e w5 ⟨rfl, hq⟩
  replace hb := G.trans hb hq
  clear hq
  go_wp2_with fail
  refine ((fun w => dur_nil w t) _).mono ?_
  rintro e w6 ⟨rfl, hq⟩
  replace hb := G.trans hb hq
  clear hq
  go_wp2_with fail
  refine (list_nil _).mono ?_
  rintro e w7 ⟨rfl, hq⟩
  replace hb := G.trans hb hq
  clear hq
  go_wp2_with fail
  refine (new_any 1 (by decide) (by decide)).mono ?_
  intro e w8 hr
  obtain ⟨d, rfl, F0⟩ := FD.new (w0 := w) hb hr
  replace hb := F0.below
  clear hr F0
  go_wp2_with fail
  refine (known_any _).mono ?_
  rintro e w8 ⟨rfl, hq⟩
  replace hb := G.trans hb hq
  clear hq
  go_wp2_with fail
  refine ((fun w => create_nil w t) _).mono ?_
  rintro e w9 ⟨rfl, hq⟩
  replace hb := G.trans hb hq
  clear hq
  go_wp2_with fail
  refine ((fun w => append_nil w t t) _).mono ?_
  rintro e w10 ⟨rfl, hq⟩
  replace hb := G.trans hb hq
  clear hq
  go_wp2_with fail
  refine ((fun w => trunc_nil w t a) _).mono ?_
  rintro e w11 ⟨rfl, hq⟩
  replace hb := G.trans hb hq
  clear hq
  go_wp2_with fail
  refine ((fun w => remove_nil w t) _).mono ?_
  rintro e w12 ⟨rfl, hq⟩
  replace hb := G.trans hb hq
  clear hq
  go_wp2_with fail
  refine ((fun w => rename_nil w t t) _).mono ?_
  rintro e w13 ⟨rfl, hq⟩
  replace hb := G.trans hb hq
  clear hq
  go_wp2_with fail
  refine ((fun w => sync_nil w t) _).mono ?_
  rintro e w14 ⟨rfl, hq⟩
  replace hb := G.trans hb hq
  clear hq
  go_wp2_with fail
  refine (free_nil _).mono ?_
  rintro e w15 ⟨rfl, hq⟩
  replace hb := G.trans hb hq
  clear hq
  go_wp2_with fail
  refine (down_nil _).mono ?_
  rintro e w16 ⟨rfl, hq⟩
  replace hb := G.trans hb hq
  clear hq
  go_wp2_with fail
  refine (clone_nil _).mono ?_
  rintro e w17 ⟨rfl, hq⟩
  replace hb := G.trans hb hq
  clear hq
  go_wp2_with fail
  refine (equal0_nil _).mono ?_
  rintro e w18 ⟨rfl, hq⟩
  replace hb := G.trans hb hq
  clear hq
  go_wp2_with fail
  refine ((fun w => equal1_nil w _) _).mono ?_
  rintro e w19 ⟨rfl, hq⟩
  replace hb := G.trans hb hq
  clear hq
  go_wp2_with fail
  refine ((fun w => equal2_nil w _) _).mono ?_
  rintro e w20 ⟨rfl, hq⟩
  replace hb := G.trans hb hq
  clear hq
  go_wp2_with fail
  go_ret
  exact ⟨rfl, hb⟩
end Go.Proofs.Ytphjgembpcikdaa
