/-
  NARROWER THAN 'FOR EVERY INPUT', by the rows' own cells (each row's printed sentence says how): ChannelChecks: loops · ChannelMarks: loops · ChannelOrders: loops · ChannelPlays: loops · ChannelNext: loops · ChannelWaits: loops · ChannelClones: loops · ChannelMerges: loops.
  DERIVED. THE GIVEN ROWS OF THIS SEAT. 8 by the template 'for every input the law returns true; each argument reads behind the call as it read before'; 0 by the template 'total and deterministic' (their statements: YtjldpodehffbnaaTotals.lean).
  GIVEN WITH THE SEED: the statements are not yours to turn. If you find one false, say at which input.
  Laid BY PROGRAM, IN A SANDBOX (cutbox-rows.mjs): the forced cells as the released guide's own fill.sh prints them over the translation 254f71c5060e387b… (all of the seat's roots in one cut). By AI agents, Wed Nov 11 2026. No macro, syntax, notation, axiom, sorry.
-/
import Derived.Test.YtjldpodehffbnaaChecked
import GoSem.Claim
import GoSem.ClaimJoined
import GoSem.ClaimMapViews
import Derived.JoinedTies
import Derived.KernelRfl
namespace Go.Proofs.Ytjldpodehffbnaa
/- THE CELL 'sum', in the pinned program and in every row, IS THE sha256 OF THE DUMP (.gsa) THAT YtjldpodehffbnaaProg.lean LOADS. Nothing in Lean hashes anything: it is a label: what it is worth is what the hold of that sum in a sandbox is worth. -/
noncomputable def Try.pinned : Pinned := { name := "ytjldpodehffbnaa", sum := "254f71c5060e387b834ba23ff256f0d4acd0c2644bed3a8ef65e886534113001", checked := Try.checked }
namespace Rows
def none {H : Type} : Left H := { results := [], args := [] }

/-- 'manifoldlaw42.ChannelChecks': WHATEVER THE INPUT: true; the input reads as it did. -/
def channelChecksSpec : ChangeSpec := { name := "channelChecks", fn := fun _ => fun
  | [d] => { results := [.lit (.bool true)], args := [d] }
  | _ => none }
def channelChecksRow : OpenClaim := { program := "ytjldpodehffbnaa", sum := "254f71c5060e387b834ba23ff256f0d4acd0c2644bed3a8ef65e886534113001", func := "manifold/manifoldlaw42.ChannelChecks", spec := "channelChecks", unfollowed := true, recurses := true, loops := true, apart := false }
def ChannelChecksSaid : Prop := channelChecksRow.holds Try.pinned (OpenSpec.ofChange channelChecksSpec)

/-- ITS FALSE NEIGHBOUR: 'it returns false'. Refute it at one input. -/
def channelChecksWrong : ChangeSpec := { name := "channelChecks", fn := fun _ => fun
  | [d] => { results := [.lit (.bool false)], args := [d] }
  | _ => none }
def ChannelChecksWrongFalsely : Prop := channelChecksRow.holds Try.pinned (OpenSpec.ofChange channelChecksWrong)

/-- 'manifoldlaw42.ChannelMarks': WHATEVER THE INPUT: true; the input reads as it did. -/
def channelMarksSpec : ChangeSpec := { name := "channelMarks", fn := fun _ => fun
  | [d1, d2, d3] => { results := [.lit (.bool true)], args := [d1, d2, d3] }
  | _ => none }
def channelMarksRow : OpenClaim := { program := "ytjldpodehffbnaa", sum := "254f71c5060e387b834ba23ff256f0d4acd0c2644bed3a8ef65e886534113001", func := "manifold/manifoldlaw42.ChannelMarks", spec := "channelMarks", unfollowed := true, recurses := true, loops := true, apart := false }
def ChannelMarksSaid : Prop := channelMarksRow.holds Try.pinned (OpenSpec.ofChange channelMarksSpec)

/-- ITS FALSE NEIGHBOUR: 'it returns false'. Refute it at one input. -/
def channelMarksWrong : ChangeSpec := { name := "channelMarks", fn := fun _ => fun
  | [d1, d2, d3] => { results := [.lit (.bool false)], args := [d1, d2, d3] }
  | _ => none }
def ChannelMarksWrongFalsely : Prop := channelMarksRow.holds Try.pinned (OpenSpec.ofChange channelMarksWrong)

/-- 'manifoldlaw42.ChannelOrders': WHATEVER THE INPUT: true; the input reads as it did. -/
def channelOrdersSpec : ChangeSpec := { name := "channelOrders", fn := fun _ => fun
  | [d1, d2] => { results := [.lit (.bool true)], args := [d1, d2] }
  | _ => none }
def channelOrdersRow : OpenClaim := { program := "ytjldpodehffbnaa", sum := "254f71c5060e387b834ba23ff256f0d4acd0c2644bed3a8ef65e886534113001", func := "manifold/manifoldlaw42.ChannelOrders", spec := "channelOrders", unfollowed := true, recurses := true, loops := true, apart := false }
def ChannelOrdersSaid : Prop := channelOrdersRow.holds Try.pinned (OpenSpec.ofChange channelOrdersSpec)

/-- ITS FALSE NEIGHBOUR: 'it returns false'. Refute it at one input. -/
def channelOrdersWrong : ChangeSpec := { name := "channelOrders", fn := fun _ => fun
  | [d1, d2] => { results := [.lit (.bool false)], args := [d1, d2] }
  | _ => none }
def ChannelOrdersWrongFalsely : Prop := channelOrdersRow.holds Try.pinned (OpenSpec.ofChange channelOrdersWrong)

/-- 'manifoldlaw42.ChannelPlays': WHATEVER THE INPUT: true; the input reads as it did. -/
def channelPlaysSpec : ChangeSpec := { name := "channelPlays", fn := fun _ => fun
  | [d1, d2] => { results := [.lit (.bool true)], args := [d1, d2] }
  | _ => none }
def channelPlaysRow : OpenClaim := { program := "ytjldpodehffbnaa", sum := "254f71c5060e387b834ba23ff256f0d4acd0c2644bed3a8ef65e886534113001", func := "manifold/manifoldlaw42.ChannelPlays", spec := "channelPlays", unfollowed := true, recurses := true, loops := true, apart := false }
def ChannelPlaysSaid : Prop := channelPlaysRow.holds Try.pinned (OpenSpec.ofChange channelPlaysSpec)

/-- ITS FALSE NEIGHBOUR: 'it returns false'. Refute it at one input. -/
def channelPlaysWrong : ChangeSpec := { name := "channelPlays", fn := fun _ => fun
  | [d1, d2] => { results := [.lit (.bool false)], args := [d1, d2] }
  | _ => none }
def ChannelPlaysWrongFalsely : Prop := channelPlaysRow.holds Try.pinned (OpenSpec.ofChange channelPlaysWrong)

/-- 'manifoldlaw42.ChannelNext': WHATEVER THE INPUT: true; the input reads as it did. -/
def channelNextSpec : ChangeSpec := { name := "channelNext", fn := fun _ => fun
  | [d1, d2] => { results := [.lit (.bool true)], args := [d1, d2] }
  | _ => none }
def channelNextRow : OpenClaim := { program := "ytjldpodehffbnaa", sum := "254f71c5060e387b834ba23ff256f0d4acd0c2644bed3a8ef65e886534113001", func := "manifold/manifoldlaw42.ChannelNext", spec := "channelNext", unfollowed := true, recurses := true, loops := true, apart := false }
def ChannelNextSaid : Prop := channelNextRow.holds Try.pinned (OpenSpec.ofChange channelNextSpec)

/-- ITS FALSE NEIGHBOUR: 'it returns false'. Refute it at one input. -/
def channelNextWrong : ChangeSpec := { name := "channelNext", fn := fun _ => fun
  | [d1, d2] => { results := [.lit (.bool false)], args := [d1, d2] }
  | _ => none }
def ChannelNextWrongFalsely : Prop := channelNextRow.holds Try.pinned (OpenSpec.ofChange channelNextWrong)

/-- 'manifoldlaw42.ChannelWaits': WHATEVER THE INPUT: true; the input reads as it did. -/
def channelWaitsSpec : ChangeSpec := { name := "channelWaits", fn := fun _ => fun
  | [d1, d2] => { results := [.lit (.bool true)], args := [d1, d2] }
  | _ => none }
def channelWaitsRow : OpenClaim := { program := "ytjldpodehffbnaa", sum := "254f71c5060e387b834ba23ff256f0d4acd0c2644bed3a8ef65e886534113001", func := "manifold/manifoldlaw42.ChannelWaits", spec := "channelWaits", unfollowed := true, recurses := true, loops := true, apart := false }
def ChannelWaitsSaid : Prop := channelWaitsRow.holds Try.pinned (OpenSpec.ofChange channelWaitsSpec)

/-- ITS FALSE NEIGHBOUR: 'it returns false'. Refute it at one input. -/
def channelWaitsWrong : ChangeSpec := { name := "channelWaits", fn := fun _ => fun
  | [d1, d2] => { results := [.lit (.bool false)], args := [d1, d2] }
  | _ => none }
def ChannelWaitsWrongFalsely : Prop := channelWaitsRow.holds Try.pinned (OpenSpec.ofChange channelWaitsWrong)

/-- 'manifoldlaw42.ChannelClones': WHATEVER THE INPUT: true; the input reads as it did. -/
def channelClonesSpec : ChangeSpec := { name := "channelClones", fn := fun _ => fun
  | [d1, d2] => { results := [.lit (.bool true)], args := [d1, d2] }
  | _ => none }
def channelClonesRow : OpenClaim := { program := "ytjldpodehffbnaa", sum := "254f71c5060e387b834ba23ff256f0d4acd0c2644bed3a8ef65e886534113001", func := "manifold/manifoldlaw42.ChannelClones", spec := "channelClones", unfollowed := true, recurses := true, loops := true, apart := false }
def ChannelClonesSaid : Prop := channelClonesRow.holds Try.pinned (OpenSpec.ofChange channelClonesSpec)

/-- ITS FALSE NEIGHBOUR: 'it returns false'. Refute it at one input. -/
def channelClonesWrong : ChangeSpec := { name := "channelClones", fn := fun _ => fun
  | [d1, d2] => { results := [.lit (.bool false)], args := [d1, d2] }
  | _ => none }
def ChannelClonesWrongFalsely : Prop := channelClonesRow.holds Try.pinned (OpenSpec.ofChange channelClonesWrong)

/-- 'manifoldlaw42.ChannelMerges': WHATEVER THE INPUT: true; the input reads as it did. -/
def channelMergesSpec : ChangeSpec := { name := "channelMerges", fn := fun _ => fun
  | [d] => { results := [.lit (.bool true)], args := [d] }
  | _ => none }
def channelMergesRow : OpenClaim := { program := "ytjldpodehffbnaa", sum := "254f71c5060e387b834ba23ff256f0d4acd0c2644bed3a8ef65e886534113001", func := "manifold/manifoldlaw42.ChannelMerges", spec := "channelMerges", unfollowed := true, recurses := true, loops := true, apart := false }
def ChannelMergesSaid : Prop := channelMergesRow.holds Try.pinned (OpenSpec.ofChange channelMergesSpec)

/-- ITS FALSE NEIGHBOUR: 'it returns false'. Refute it at one input. -/
def channelMergesWrong : ChangeSpec := { name := "channelMerges", fn := fun _ => fun
  | [d] => { results := [.lit (.bool false)], args := [d] }
  | _ => none }
def ChannelMergesWrongFalsely : Prop := channelMergesRow.holds Try.pinned (OpenSpec.ofChange channelMergesWrong)

/- THE SECOND FORM. 'bulk': how many values and letters a reading holds, each counted each time it is reached (what is shared counts as often as it is met; a slice's spare places count too). A statement '..UptoSaid' is the law's where the arguments, and the package variables that the reading takes, are together of bulk at most 1048576: NARROWER than '..Said'. Prove '..Said' where nothing that the law and all that it calls make is longer than what came in: it says more and counts as full. Else prove '..UptoSaid'. A law counts once. -/
mutual
def uptoBulk {H : Type} : DataW H → Nat
  | .lit (.string bytes) => bytes.length + 1
  | .lit _ => 1
  | .nil => 1
  | .ptr d => uptoBulk d + 1
  | .slice elems spare => uptoBulkAll elems + uptoBulkAll spare + 1
  | .agg parts => uptoBulkAll parts + 1
  | .iface _ d => uptoBulk d + 1
  | .map entries => uptoBulkEntries entries + 1
  | .held _ => 1
def uptoBulkAll {H : Type} : List (DataW H) → Nat
  | [] => 0
  | d :: r => uptoBulk d + uptoBulkAll r
def uptoBulkEntries {H : Type} : List (Lit × DataW H) → Nat
  | [] => 0
  | x :: r => uptoBulkEntry x + uptoBulkEntries r
def uptoBulkEntry {H : Type} : Lit × DataW H → Nat
  | (.string bytes, d) => bytes.length + uptoBulk d + 1
  | (_, d) => uptoBulk d + 1
 end
def uptoSmall : (H : Type) → List (DataW H) → Bool := fun _ ds => decide (uptoBulkAll ds ≤ 1048576)
def OpenSpec.upto (s : _root_.Go.ChangeSpec) : _root_.Go.OpenSpec := { _root_.Go.OpenSpec.ofChange s with cond := some uptoSmall }

/-- 'manifoldlaw42.ChannelChecks', WHERE WHAT IT READS IS OF BULK AT MOST 1048576: true; the input reads as it did. -/
def channelChecksUptoRow : OpenClaim := { program := "ytjldpodehffbnaa", sum := "254f71c5060e387b834ba23ff256f0d4acd0c2644bed3a8ef65e886534113001", func := "manifold/manifoldlaw42.ChannelChecks", spec := "channelChecks", unfollowed := true, recurses := true, loops := true, apart := false, narrowed := true }
def ChannelChecksUptoSaid : Prop := channelChecksUptoRow.holds Try.pinned (OpenSpec.upto channelChecksSpec)

/-- 'manifoldlaw42.ChannelMarks', WHERE WHAT IT READS IS OF BULK AT MOST 1048576: true; the input reads as it did. -/
def channelMarksUptoRow : OpenClaim := { program := "ytjldpodehffbnaa", sum := "254f71c5060e387b834ba23ff256f0d4acd0c2644bed3a8ef65e886534113001", func := "manifold/manifoldlaw42.ChannelMarks", spec := "channelMarks", unfollowed := true, recurses := true, loops := true, apart := false, narrowed := true }
def ChannelMarksUptoSaid : Prop := channelMarksUptoRow.holds Try.pinned (OpenSpec.upto channelMarksSpec)

/-- 'manifoldlaw42.ChannelOrders', WHERE WHAT IT READS IS OF BULK AT MOST 1048576: true; the input reads as it did. -/
def channelOrdersUptoRow : OpenClaim := { program := "ytjldpodehffbnaa", sum := "254f71c5060e387b834ba23ff256f0d4acd0c2644bed3a8ef65e886534113001", func := "manifold/manifoldlaw42.ChannelOrders", spec := "channelOrders", unfollowed := true, recurses := true, loops := true, apart := false, narrowed := true }
def ChannelOrdersUptoSaid : Prop := channelOrdersUptoRow.holds Try.pinned (OpenSpec.upto channelOrdersSpec)

/-- 'manifoldlaw42.ChannelPlays', WHERE WHAT IT READS IS OF BULK AT MOST 1048576: true; the input reads as it did. -/
def channelPlaysUptoRow : OpenClaim := { program := "ytjldpodehffbnaa", sum := "254f71c5060e387b834ba23ff256f0d4acd0c2644bed3a8ef65e886534113001", func := "manifold/manifoldlaw42.ChannelPlays", spec := "channelPlays", unfollowed := true, recurses := true, loops := true, apart := false, narrowed := true }
def ChannelPlaysUptoSaid : Prop := channelPlaysUptoRow.holds Try.pinned (OpenSpec.upto channelPlaysSpec)

/-- 'manifoldlaw42.ChannelNext', WHERE WHAT IT READS IS OF BULK AT MOST 1048576: true; the input reads as it did. -/
def channelNextUptoRow : OpenClaim := { program := "ytjldpodehffbnaa", sum := "254f71c5060e387b834ba23ff256f0d4acd0c2644bed3a8ef65e886534113001", func := "manifold/manifoldlaw42.ChannelNext", spec := "channelNext", unfollowed := true, recurses := true, loops := true, apart := false, narrowed := true }
def ChannelNextUptoSaid : Prop := channelNextUptoRow.holds Try.pinned (OpenSpec.upto channelNextSpec)

/-- 'manifoldlaw42.ChannelWaits', WHERE WHAT IT READS IS OF BULK AT MOST 1048576: true; the input reads as it did. -/
def channelWaitsUptoRow : OpenClaim := { program := "ytjldpodehffbnaa", sum := "254f71c5060e387b834ba23ff256f0d4acd0c2644bed3a8ef65e886534113001", func := "manifold/manifoldlaw42.ChannelWaits", spec := "channelWaits", unfollowed := true, recurses := true, loops := true, apart := false, narrowed := true }
def ChannelWaitsUptoSaid : Prop := channelWaitsUptoRow.holds Try.pinned (OpenSpec.upto channelWaitsSpec)

/-- 'manifoldlaw42.ChannelClones', WHERE WHAT IT READS IS OF BULK AT MOST 1048576: true; the input reads as it did. -/
def channelClonesUptoRow : OpenClaim := { program := "ytjldpodehffbnaa", sum := "254f71c5060e387b834ba23ff256f0d4acd0c2644bed3a8ef65e886534113001", func := "manifold/manifoldlaw42.ChannelClones", spec := "channelClones", unfollowed := true, recurses := true, loops := true, apart := false, narrowed := true }
def ChannelClonesUptoSaid : Prop := channelClonesUptoRow.holds Try.pinned (OpenSpec.upto channelClonesSpec)

/-- 'manifoldlaw42.ChannelMerges', WHERE WHAT IT READS IS OF BULK AT MOST 1048576: true; the input reads as it did. -/
def channelMergesUptoRow : OpenClaim := { program := "ytjldpodehffbnaa", sum := "254f71c5060e387b834ba23ff256f0d4acd0c2644bed3a8ef65e886534113001", func := "manifold/manifoldlaw42.ChannelMerges", spec := "channelMerges", unfollowed := true, recurses := true, loops := true, apart := false, narrowed := true }
def ChannelMergesUptoSaid : Prop := channelMergesUptoRow.holds Try.pinned (OpenSpec.upto channelMergesSpec)

end Rows
end Go.Proofs.Ytjldpodehffbnaa
