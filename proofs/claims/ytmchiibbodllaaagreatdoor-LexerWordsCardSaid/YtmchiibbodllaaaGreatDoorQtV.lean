/- charset.Valid by the shelf's contract of utf8.ValidString (its laying by hand: the shelf's tool does not print it at this dump). -/
import Derived.Test.YtmchiibbodllaaaGreatDoorScF
import Derived.Shelf.Unicode.ValidAny
namespace Go.Proofs.YtmchiibbodllaaaGreatDoor
set_option linter.unusedVariables false
set_option linter.unnecessarySimpa false
set_option linter.unusedSimpArgs false
open Go.RowKit Go.Shelf
def vren : Go.Shelf.Ren := ⟨fun | 196 => 61 | 259 => 97 | n => n, fun | 119 => 112 | 46 => 78 | 53 => 129 | 139 => 115 | 138 => 114 | n => n, fun | 3 => 1 | 4 => 2 | n => n⟩
theorem lays196 : Go.Proofs.Lays.n196 Tryz.prog vren := {
  mixed := by kernel_rfl
  f196 := Tryz.func61.trans (congrArg some (by kernel_rfl))
  f259 := Tryz.func97.trans (congrArg some (by kernel_rfl))
  t0 := Tryz.underlying0
  a0 := Tryz.isAgg0
  z0 := Tryz.sizeOf0
  v0 := Tryz.zeroValue0
  t3 := Tryz.underlying3
  a3 := Tryz.isAgg3
  z3 := Tryz.sizeOf3
  v3 := Tryz.zeroValue3
  t4 := Tryz.underlying4
  a4 := Tryz.isAgg4
  z4 := Tryz.sizeOf4
  v4 := Tryz.zeroValue4
  t5 := Tryz.underlying5
  a5 := Tryz.isAgg5
  z5 := Tryz.sizeOf5
  v5 := Tryz.zeroValue5
  t9 := Tryz.underlying9
  a9 := Tryz.isAgg9
  z9 := Tryz.sizeOf9
  v9 := Tryz.zeroValue9
  t12 := Tryz.underlying12
  a12 := Tryz.isAgg12
  z12 := Tryz.sizeOf12
  v12 := Tryz.zeroValue12
  t46 := Tryz.underlying78
  a46 := Tryz.isAgg78
  z46 := Tryz.sizeOf78
  v46 := Tryz.zeroValue78
  t53 := Tryz.underlying129
  a53 := Tryz.isAgg129
  z53 := Tryz.sizeOf129
  v53 := Tryz.zeroValue129
  t119 := Tryz.underlying112
  a119 := Tryz.isAgg112
  z119 := Tryz.sizeOf112
  t138 := Tryz.underlying114
  a138 := Tryz.isAgg114
  z138 := Tryz.sizeOf114
  v138 := Tryz.zeroValue114
  t139 := Tryz.underlying115
  a139 := Tryz.isAgg115
  z139 := Tryz.sizeOf115
  v139 := Tryz.zeroValue115
  g3 := by kernel_rfl
  g4 := by kernel_rfl }
theorem valid8_any (s : ByteArray) (w : World) (hs : s.size ≤ 9223372036854775807) (hT : Lib.Utf8Tabs 1 2 w) :
    Calls Tryz.prog 61 #[.string s] w fun e w' => e = .returned (.bool (Lib.validD s.data.toList)) ∧ Below w.heap.size w w' := Any.utf8_ValidString lays196 s w hs hT
theorem charsetValid_any {w : World} (hE : Env w) (s : ByteArray) (hs : s.size ≤ 9223372036854775807) : Calls Tryz.prog 36 #[.string s] w fun e w' => e = .returned (.bool (Lib.validD s.data.toList)) ∧ Below w.heap.size w w' := by
  have V8 := Lib.hid (valid8_any s w hs (Env.tabs hE))
  obtain ⟨r, hr⟩ : ∃ r, Lib.validD s.data.toList = r := ⟨_, rfl⟩
  rw [hr] at V8 ⊢
  clear hr hE
  go_enter Tryz.func36, Tryz.ntmps36
  go_wp2_with fail
  go_at_call 61
  (with_reducible refine V8.out.mono ?_)
  rintro e1 w1 ⟨rfl, hb1⟩
  go_wp2_with fail
  go_ret
  exact ⟨rfl, hb1⟩
end Go.Proofs.YtmchiibbodllaaaGreatDoor
