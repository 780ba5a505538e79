/-
  No cell of these rows narrows 'for every input' (looked for: loops, veiled, ifaces, maps, wideKeys, modest, calm, conditions, laid).
  DERIVED. THE GIVEN ROWS OF THIS SEAT. 10 by the template 'for every input the law returns true; each argument reads behind the call as it read before'; 0 by the template 'total and deterministic' (their statements: YtphjgembpcikdaaTotals.lean).
  GIVEN WITH THE SEED: the statements are not yours to turn. If you find one false, say at which input.
  Laid BY PROGRAM, IN A SANDBOX (cutbox-rows.mjs): the forced cells as the released guide's own fill.sh prints them over the translation 8062df38472c3eea… (all of the seat's roots in one cut). By AI agents, Wed Nov 11 2026. No macro, syntax, notation, axiom, sorry.
-/
import Derived.Test.YtphjgembpcikdaaChecked
import GoSem.Claim
import GoSem.ClaimJoined
import GoSem.ClaimMapViews
import Derived.JoinedTies
import Derived.KernelRfl
namespace Go.Proofs.Ytphjgembpcikdaa
/- THE CELL 'sum', in the pinned program and in every row, IS THE sha256 OF THE DUMP (.gsa) THAT YtphjgembpcikdaaProg.lean LOADS. Nothing in Lean hashes anything: it is a label: what it is worth is what the hold of that sum in a sandbox is worth. -/
noncomputable def Try.pinned : Pinned := { name := "ytphjgembpcikdaa", sum := "8062df38472c3eea4073d13b08db9f2bab0af6d374a5e3fec6333a77505fb88e", checked := Try.checked }
namespace Rows
def none {H : Type} : Left H := { results := [], args := [] }

/-- 'manifoldlaw44.DeviceReads': WHATEVER THE INPUT: true; the input reads as it did. -/
def deviceReadsSpec : ChangeSpec := { name := "deviceReads", fn := fun _ => fun
  | [d1, d2, d3] => { results := [.lit (.bool true)], args := [d1, d2, d3] }
  | _ => none }
def deviceReadsRow : OpenClaim := { program := "ytphjgembpcikdaa", sum := "8062df38472c3eea4073d13b08db9f2bab0af6d374a5e3fec6333a77505fb88e", func := "manifold/manifoldlaw44.DeviceReads", spec := "deviceReads", unfollowed := true, recurses := true, apart := false }
def DeviceReadsSaid : Prop := deviceReadsRow.holds Try.pinned (OpenSpec.ofChange deviceReadsSpec)

/-- ITS FALSE NEIGHBOUR: 'it returns false'. Refute it at one input. -/
def deviceReadsWrong : ChangeSpec := { name := "deviceReads", fn := fun _ => fun
  | [d1, d2, d3] => { results := [.lit (.bool false)], args := [d1, d2, d3] }
  | _ => none }
def DeviceReadsWrongFalsely : Prop := deviceReadsRow.holds Try.pinned (OpenSpec.ofChange deviceReadsWrong)

/-- 'manifoldlaw44.DeviceNames': WHATEVER THE INPUT: true; the input reads as it did. -/
def deviceNamesSpec : ChangeSpec := { name := "deviceNames", fn := fun _ => fun
  | [d1, d2, d3] => { results := [.lit (.bool true)], args := [d1, d2, d3] }
  | _ => none }
def deviceNamesRow : OpenClaim := { program := "ytphjgembpcikdaa", sum := "8062df38472c3eea4073d13b08db9f2bab0af6d374a5e3fec6333a77505fb88e", func := "manifold/manifoldlaw44.DeviceNames", spec := "deviceNames", unfollowed := true, recurses := true, apart := false }
def DeviceNamesSaid : Prop := deviceNamesRow.holds Try.pinned (OpenSpec.ofChange deviceNamesSpec)

/-- ITS FALSE NEIGHBOUR: 'it returns false'. Refute it at one input. -/
def deviceNamesWrong : ChangeSpec := { name := "deviceNames", fn := fun _ => fun
  | [d1, d2, d3] => { results := [.lit (.bool false)], args := [d1, d2, d3] }
  | _ => none }
def DeviceNamesWrongFalsely : Prop := deviceNamesRow.holds Try.pinned (OpenSpec.ofChange deviceNamesWrong)

/-- 'manifoldlaw44.DeviceSyncs': WHATEVER THE INPUT: true; the input reads as it did. -/
def deviceSyncsSpec : ChangeSpec := { name := "deviceSyncs", fn := fun _ => fun
  | [d1, d2, d3] => { results := [.lit (.bool true)], args := [d1, d2, d3] }
  | _ => none }
def deviceSyncsRow : OpenClaim := { program := "ytphjgembpcikdaa", sum := "8062df38472c3eea4073d13b08db9f2bab0af6d374a5e3fec6333a77505fb88e", func := "manifold/manifoldlaw44.DeviceSyncs", spec := "deviceSyncs", unfollowed := true, recurses := true, apart := false }
def DeviceSyncsSaid : Prop := deviceSyncsRow.holds Try.pinned (OpenSpec.ofChange deviceSyncsSpec)

/-- ITS FALSE NEIGHBOUR: 'it returns false'. Refute it at one input. -/
def deviceSyncsWrong : ChangeSpec := { name := "deviceSyncs", fn := fun _ => fun
  | [d1, d2, d3] => { results := [.lit (.bool false)], args := [d1, d2, d3] }
  | _ => none }
def DeviceSyncsWrongFalsely : Prop := deviceSyncsRow.holds Try.pinned (OpenSpec.ofChange deviceSyncsWrong)

/-- 'manifoldlaw44.DeviceLimits': WHATEVER THE INPUT: true; the input reads as it did. -/
def deviceLimitsSpec : ChangeSpec := { name := "deviceLimits", fn := fun _ => fun
  | [d1, d2] => { results := [.lit (.bool true)], args := [d1, d2] }
  | _ => none }
def deviceLimitsRow : OpenClaim := { program := "ytphjgembpcikdaa", sum := "8062df38472c3eea4073d13b08db9f2bab0af6d374a5e3fec6333a77505fb88e", func := "manifold/manifoldlaw44.DeviceLimits", spec := "deviceLimits", unfollowed := true, recurses := true, apart := false }
def DeviceLimitsSaid : Prop := deviceLimitsRow.holds Try.pinned (OpenSpec.ofChange deviceLimitsSpec)

/-- ITS FALSE NEIGHBOUR: 'it returns false'. Refute it at one input. -/
def deviceLimitsWrong : ChangeSpec := { name := "deviceLimits", fn := fun _ => fun
  | [d1, d2] => { results := [.lit (.bool false)], args := [d1, d2] }
  | _ => none }
def DeviceLimitsWrongFalsely : Prop := deviceLimitsRow.holds Try.pinned (OpenSpec.ofChange deviceLimitsWrong)

/-- 'manifoldlaw44.DeviceRoom': WHATEVER THE INPUT: true; the input reads as it did. -/
def deviceRoomSpec : ChangeSpec := { name := "deviceRoom", fn := fun _ => fun
  | [d1, d2] => { results := [.lit (.bool true)], args := [d1, d2] }
  | _ => none }
def deviceRoomRow : OpenClaim := { program := "ytphjgembpcikdaa", sum := "8062df38472c3eea4073d13b08db9f2bab0af6d374a5e3fec6333a77505fb88e", func := "manifold/manifoldlaw44.DeviceRoom", spec := "deviceRoom", unfollowed := true, recurses := true, apart := false }
def DeviceRoomSaid : Prop := deviceRoomRow.holds Try.pinned (OpenSpec.ofChange deviceRoomSpec)

/-- ITS FALSE NEIGHBOUR: 'it returns false'. Refute it at one input. -/
def deviceRoomWrong : ChangeSpec := { name := "deviceRoom", fn := fun _ => fun
  | [d1, d2] => { results := [.lit (.bool false)], args := [d1, d2] }
  | _ => none }
def DeviceRoomWrongFalsely : Prop := deviceRoomRow.holds Try.pinned (OpenSpec.ofChange deviceRoomWrong)

/-- 'manifoldlaw44.DeviceKeeps': WHATEVER THE INPUT: true; the input reads as it did. -/
def deviceKeepsSpec : ChangeSpec := { name := "deviceKeeps", fn := fun _ => fun
  | [d1, d2] => { results := [.lit (.bool true)], args := [d1, d2] }
  | _ => none }
def deviceKeepsRow : OpenClaim := { program := "ytphjgembpcikdaa", sum := "8062df38472c3eea4073d13b08db9f2bab0af6d374a5e3fec6333a77505fb88e", func := "manifold/manifoldlaw44.DeviceKeeps", spec := "deviceKeeps", unfollowed := true, recurses := true, apart := false }
def DeviceKeepsSaid : Prop := deviceKeepsRow.holds Try.pinned (OpenSpec.ofChange deviceKeepsSpec)

/-- ITS FALSE NEIGHBOUR: 'it returns false'. Refute it at one input. -/
def deviceKeepsWrong : ChangeSpec := { name := "deviceKeeps", fn := fun _ => fun
  | [d1, d2] => { results := [.lit (.bool false)], args := [d1, d2] }
  | _ => none }
def DeviceKeepsWrongFalsely : Prop := deviceKeepsRow.holds Try.pinned (OpenSpec.ofChange deviceKeepsWrong)

/-- 'manifoldlaw44.DeviceClones': WHATEVER THE INPUT: true; the input reads as it did. -/
def deviceClonesSpec : ChangeSpec := { name := "deviceClones", fn := fun _ => fun
  | [d1, d2] => { results := [.lit (.bool true)], args := [d1, d2] }
  | _ => none }
def deviceClonesRow : OpenClaim := { program := "ytphjgembpcikdaa", sum := "8062df38472c3eea4073d13b08db9f2bab0af6d374a5e3fec6333a77505fb88e", func := "manifold/manifoldlaw44.DeviceClones", spec := "deviceClones", unfollowed := true, recurses := true, apart := false }
def DeviceClonesSaid : Prop := deviceClonesRow.holds Try.pinned (OpenSpec.ofChange deviceClonesSpec)

/-- ITS FALSE NEIGHBOUR: 'it returns false'. Refute it at one input. -/
def deviceClonesWrong : ChangeSpec := { name := "deviceClones", fn := fun _ => fun
  | [d1, d2] => { results := [.lit (.bool false)], args := [d1, d2] }
  | _ => none }
def DeviceClonesWrongFalsely : Prop := deviceClonesRow.holds Try.pinned (OpenSpec.ofChange deviceClonesWrong)

/-- 'manifoldlaw44.DeviceStarts': WHATEVER THE INPUT: true; the input reads as it did. -/
def deviceStartsSpec : ChangeSpec := { name := "deviceStarts", fn := fun _ => fun
  | [d1, d2] => { results := [.lit (.bool true)], args := [d1, d2] }
  | _ => none }
def deviceStartsRow : OpenClaim := { program := "ytphjgembpcikdaa", sum := "8062df38472c3eea4073d13b08db9f2bab0af6d374a5e3fec6333a77505fb88e", func := "manifold/manifoldlaw44.DeviceStarts", spec := "deviceStarts", unfollowed := true, recurses := true, apart := false }
def DeviceStartsSaid : Prop := deviceStartsRow.holds Try.pinned (OpenSpec.ofChange deviceStartsSpec)

/-- ITS FALSE NEIGHBOUR: 'it returns false'. Refute it at one input. -/
def deviceStartsWrong : ChangeSpec := { name := "deviceStarts", fn := fun _ => fun
  | [d1, d2] => { results := [.lit (.bool false)], args := [d1, d2] }
  | _ => none }
def DeviceStartsWrongFalsely : Prop := deviceStartsRow.holds Try.pinned (OpenSpec.ofChange deviceStartsWrong)

/-- 'manifoldlaw44.DeviceRuns': WHATEVER THE INPUT: true; the input reads as it did. -/
def deviceRunsSpec : ChangeSpec := { name := "deviceRuns", fn := fun _ => fun
  | [d1, d2] => { results := [.lit (.bool true)], args := [d1, d2] }
  | _ => none }
def deviceRunsRow : OpenClaim := { program := "ytphjgembpcikdaa", sum := "8062df38472c3eea4073d13b08db9f2bab0af6d374a5e3fec6333a77505fb88e", func := "manifold/manifoldlaw44.DeviceRuns", spec := "deviceRuns", unfollowed := true, recurses := true, apart := false }
def DeviceRunsSaid : Prop := deviceRunsRow.holds Try.pinned (OpenSpec.ofChange deviceRunsSpec)

/-- ITS FALSE NEIGHBOUR: 'it returns false'. Refute it at one input. -/
def deviceRunsWrong : ChangeSpec := { name := "deviceRuns", fn := fun _ => fun
  | [d1, d2] => { results := [.lit (.bool false)], args := [d1, d2] }
  | _ => none }
def DeviceRunsWrongFalsely : Prop := deviceRunsRow.holds Try.pinned (OpenSpec.ofChange deviceRunsWrong)

/-- 'manifoldlaw44.DeviceNil': WHATEVER THE INPUT: true; the input reads as it did. -/
def deviceNilSpec : ChangeSpec := { name := "deviceNil", fn := fun _ => fun
  | [d1, d2, d3] => { results := [.lit (.bool true)], args := [d1, d2, d3] }
  | _ => none }
def deviceNilRow : OpenClaim := { program := "ytphjgembpcikdaa", sum := "8062df38472c3eea4073d13b08db9f2bab0af6d374a5e3fec6333a77505fb88e", func := "manifold/manifoldlaw44.DeviceNil", spec := "deviceNil", unfollowed := true, recurses := true, apart := false }
def DeviceNilSaid : Prop := deviceNilRow.holds Try.pinned (OpenSpec.ofChange deviceNilSpec)

/-- ITS FALSE NEIGHBOUR: 'it returns false'. Refute it at one input. -/
def deviceNilWrong : ChangeSpec := { name := "deviceNil", fn := fun _ => fun
  | [d1, d2, d3] => { results := [.lit (.bool false)], args := [d1, d2, d3] }
  | _ => none }
def DeviceNilWrongFalsely : Prop := deviceNilRow.holds Try.pinned (OpenSpec.ofChange deviceNilWrong)

/- THE SECOND FORM. 'bulk': how many values and letters a reading holds, each counted each time it is reached (what is shared counts as often as it is met; a slice's spare places count too). A statement '..UptoSaid' is the law's where the arguments, and the package variables that the reading takes, are together of bulk at most 1048576: NARROWER than '..Said'. Prove '..Said' where nothing that the law and all that it calls make is longer than what came in: it says more and counts as full. Else prove '..UptoSaid'. A law counts once. -/
mutual
def uptoBulk {H : Type} : DataW H → Nat
  | .lit (.string bytes) => bytes.length + 1
  | .lit _ => 1
  | .nil => 1
  | .ptr d => uptoBulk d + 1
  | .slice elems spare => uptoBulkAll elems + uptoBulkAll spare + 1
  | .agg parts => uptoBulkAll parts + 1
  | .iface _ d => uptoBulk d + 1
  | .map entries => uptoBulkEntries entries + 1
  | .held _ => 1
def uptoBulkAll {H : Type} : List (DataW H) → Nat
  | [] => 0
  | d :: r => uptoBulk d + uptoBulkAll r
def uptoBulkEntries {H : Type} : List (Lit × DataW H) → Nat
  | [] => 0
  | x :: r => uptoBulkEntry x + uptoBulkEntries r
def uptoBulkEntry {H : Type} : Lit × DataW H → Nat
  | (.string bytes, d) => bytes.length + uptoBulk d + 1
  | (_, d) => uptoBulk d + 1
 end
def uptoSmall : (H : Type) → List (DataW H) → Bool := fun _ ds => decide (uptoBulkAll ds ≤ 1048576)
def OpenSpec.upto (s : _root_.Go.ChangeSpec) : _root_.Go.OpenSpec := { _root_.Go.OpenSpec.ofChange s with cond := some uptoSmall }

/-- 'manifoldlaw44.DeviceReads', WHERE WHAT IT READS IS OF BULK AT MOST 1048576: true; the input reads as it did. -/
def deviceReadsUptoRow : OpenClaim := { program := "ytphjgembpcikdaa", sum := "8062df38472c3eea4073d13b08db9f2bab0af6d374a5e3fec6333a77505fb88e", func := "manifold/manifoldlaw44.DeviceReads", spec := "deviceReads", unfollowed := true, recurses := true, apart := false, narrowed := true }
def DeviceReadsUptoSaid : Prop := deviceReadsUptoRow.holds Try.pinned (OpenSpec.upto deviceReadsSpec)

/-- 'manifoldlaw44.DeviceNames', WHERE WHAT IT READS IS OF BULK AT MOST 1048576: true; the input reads as it did. -/
def deviceNamesUptoRow : OpenClaim := { program := "ytphjgembpcikdaa", sum := "8062df38472c3eea4073d13b08db9f2bab0af6d374a5e3fec6333a77505fb88e", func := "manifold/manifoldlaw44.DeviceNames", spec := "deviceNames", unfollowed := true, recurses := true, apart := false, narrowed := true }
def DeviceNamesUptoSaid : Prop := deviceNamesUptoRow.holds Try.pinned (OpenSpec.upto deviceNamesSpec)

/-- 'manifoldlaw44.DeviceSyncs', WHERE WHAT IT READS IS OF BULK AT MOST 1048576: true; the input reads as it did. -/
def deviceSyncsUptoRow : OpenClaim := { program := "ytphjgembpcikdaa", sum := "8062df38472c3eea4073d13b08db9f2bab0af6d374a5e3fec6333a77505fb88e", func := "manifold/manifoldlaw44.DeviceSyncs", spec := "deviceSyncs", unfollowed := true, recurses := true, apart := false, narrowed := true }
def DeviceSyncsUptoSaid : Prop := deviceSyncsUptoRow.holds Try.pinned (OpenSpec.upto deviceSyncsSpec)

/-- 'manifoldlaw44.DeviceLimits', WHERE WHAT IT READS IS OF BULK AT MOST 1048576: true; the input reads as it did. -/
def deviceLimitsUptoRow : OpenClaim := { program := "ytphjgembpcikdaa", sum := "8062df38472c3eea4073d13b08db9f2bab0af6d374a5e3fec6333a77505fb88e", func := "manifold/manifoldlaw44.DeviceLimits", spec := "deviceLimits", unfollowed := true, recurses := true, apart := false, narrowed := true }
def DeviceLimitsUptoSaid : Prop := deviceLimitsUptoRow.holds Try.pinned (OpenSpec.upto deviceLimitsSpec)

/-- 'manifoldlaw44.DeviceRoom', WHERE WHAT IT READS IS OF BULK AT MOST 1048576: true; the input reads as it did. -/
def deviceRoomUptoRow : OpenClaim := { program := "ytphjgembpcikdaa", sum := "8062df38472c3eea4073d13b08db9f2bab0af6d374a5e3fec6333a77505fb88e", func := "manifold/manifoldlaw44.DeviceRoom", spec := "deviceRoom", unfollowed := true, recurses := true, apart := false, narrowed := true }
def DeviceRoomUptoSaid : Prop := deviceRoomUptoRow.holds Try.pinned (OpenSpec.upto deviceRoomSpec)

/-- 'manifoldlaw44.DeviceKeeps', WHERE WHAT IT READS IS OF BULK AT MOST 1048576: true; the input reads as it did. -/
def deviceKeepsUptoRow : OpenClaim := { program := "ytphjgembpcikdaa", sum := "8062df38472c3eea4073d13b08db9f2bab0af6d374a5e3fec6333a77505fb88e", func := "manifold/manifoldlaw44.DeviceKeeps", spec := "deviceKeeps", unfollowed := true, recurses := true, apart := false, narrowed := true }
def DeviceKeepsUptoSaid : Prop := deviceKeepsUptoRow.holds Try.pinned (OpenSpec.upto deviceKeepsSpec)

/-- 'manifoldlaw44.DeviceClones', WHERE WHAT IT READS IS OF BULK AT MOST 1048576: true; the input reads as it did. -/
def deviceClonesUptoRow : OpenClaim := { program := "ytphjgembpcikdaa", sum := "8062df38472c3eea4073d13b08db9f2bab0af6d374a5e3fec6333a77505fb88e", func := "manifold/manifoldlaw44.DeviceClones", spec := "deviceClones", unfollowed := true, recurses := true, apart := false, narrowed := true }
def DeviceClonesUptoSaid : Prop := deviceClonesUptoRow.holds Try.pinned (OpenSpec.upto deviceClonesSpec)

/-- 'manifoldlaw44.DeviceStarts', WHERE WHAT IT READS IS OF BULK AT MOST 1048576: true; the input reads as it did. -/
def deviceStartsUptoRow : OpenClaim := { program := "ytphjgembpcikdaa", sum := "8062df38472c3eea4073d13b08db9f2bab0af6d374a5e3fec6333a77505fb88e", func := "manifold/manifoldlaw44.DeviceStarts", spec := "deviceStarts", unfollowed := true, recurses := true, apart := false, narrowed := true }
def DeviceStartsUptoSaid : Prop := deviceStartsUptoRow.holds Try.pinned (OpenSpec.upto deviceStartsSpec)

/-- 'manifoldlaw44.DeviceRuns', WHERE WHAT IT READS IS OF BULK AT MOST 1048576: true; the input reads as it did. -/
def deviceRunsUptoRow : OpenClaim := { program := "ytphjgembpcikdaa", sum := "8062df38472c3eea4073d13b08db9f2bab0af6d374a5e3fec6333a77505fb88e", func := "manifold/manifoldlaw44.DeviceRuns", spec := "deviceRuns", unfollowed := true, recurses := true, apart := false, narrowed := true }
def DeviceRunsUptoSaid : Prop := deviceRunsUptoRow.holds Try.pinned (OpenSpec.upto deviceRunsSpec)

/-- 'manifoldlaw44.DeviceNil', WHERE WHAT IT READS IS OF BULK AT MOST 1048576: true; the input reads as it did. -/
def deviceNilUptoRow : OpenClaim := { program := "ytphjgembpcikdaa", sum := "8062df38472c3eea4073d13b08db9f2bab0af6d374a5e3fec6333a77505fb88e", func := "manifold/manifoldlaw44.DeviceNil", spec := "deviceNil", unfollowed := true, recurses := true, apart := false, narrowed := true }
def DeviceNilUptoSaid : Prop := deviceNilUptoRow.holds Try.pinned (OpenSpec.upto deviceNilSpec)

end Rows
end Go.Proofs.Ytphjgembpcikdaa
