/- device laws: what operate does (plain). -/
import Derived.Test.YtphjgembpcikdaaVDat
import Derived.Test.YtphjgembpcikdaaDevO
namespace Go.Proofs.Ytphjgembpcikdaa
set_option linter.unusedVariables false
set_option linter.unnecessarySimpa false
set_option linter.unusedSimpArgs false
open Go.RowKit

/-- An operation of a law: kind, names, length of the data, number. -/
structure LOp where
  kind : Nat
  name : Nat
  other : Nat
  data : Nat
  num : Int
def nameL (n : Nat) : List UInt8 := (nameB n).data.toList
def operD (s : Ds) (o : LOp) (k : Nat) : Int × Ds :=
  match o.kind % 6 with
  | 0 => createD s (nameL o.name)
  | 1 => appendD s (nameL o.name) (dataL k (o.data % 64))
  | 2 => truncD s (nameL o.name) o.num
  | 3 => removeD s (nameL o.name)
  | 4 => renameD s (nameL o.name) (nameL o.other)
  | _ => syncD s (nameL o.name)
theorem oper_good {s : Ds} (h : s.Good) (o : LOp) (k : Nat) : (operD s o k).2.Good := by
  unfold operD
  split
  · exact create_good h _
  · exact append_good h _ _
  · exact trunc_good h _ _
  · exact remove_good h _
  · exact rename_good h _ _
  · exact sync_good h _
end Go.Proofs.Ytphjgembpcikdaa
