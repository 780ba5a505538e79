/- device: slices.Sorted(maps.Keys(files)): the names in order. -/
import Derived.Test.YtphjgembpcikdaaDevD
import Derived.Test.YtphjgembpcikdaaIter0
namespace Go.Proofs.Ytphjgembpcikdaa
set_option linter.unusedVariables false
set_option linter.unnecessarySimpa false
set_option linter.unusedSimpArgs false
open Go.RowKit Go.Maps Go.Sort Go.Shelf

theorem sorts_any (m : Nat) : AnyZ.SortsIn Try.prog Try.sorted48_ren Fence.wide m :=
  ⟨fun blk off cap ss W hH hblk hsz => callsIn_wide.2 (AnyM.slices_Sort_string Try.sort62 blk off cap ss W hH hblk hsz),
   fun p cap W => callsIn_wide.2 (AnyM.slices_Sort_string_none Try.sort62 p cap W)⟩
theorem keys_any (mb : Option Nat) (W : World) : Calls Try.prog 49 #[.map mb] W fun e w' => e = .returned (.func (.func 63) #[] #[.pointer (some ⟨W.heap.size, 0, none⟩)]) ∧ w' = W.alloc (.cells #[.map mb] 67) :=
  callsIn_wide.1 (AnyZ.keys_in Try.keys49 Fence.wide 5 trivial rfl mb W)
set_option maxHeartbeats 1000000 in
theorem sortedK_any {H : Type} (b nn : Nat) (D0 : DataW H) (R : Value → Option (DataW H × List MemPlace)) (w : World) (hown : w.ownsMap Try.prog 9 R b nn D0) (hmax : Maps.size D0 ≤ maxLen) (hbytes : Maps.size D0 * 16 ≤ 140737488355328) :
    CallsIn Fence.wide 5 Try.prog 48 #[.func (.func 63) #[] #[.pointer (some ⟨w.heap.size, 0, none⟩)]] (w.alloc (.cells #[.map (some b)] 67)) fun e w' => ∃ (v : Value) (ss : List (List UInt8)), e = .returned v ∧ ss.Perm (strKeys D0) ∧
      w'.ownsRow (w.alloc (.cells #[.map (some b)] 67)).heap.size 9 1 v ss.length ((ss.mergeSort (fun x y => decide (x ≤ y))).map encStr) ∧ (v = .slice none 0 0 ↔ ss = []) ∧ Below (w.alloc (.cells #[.map (some b)] 67)).heap.size (w.alloc (.cells #[.map (some b)] 67)) w' := by
  have hbl := hown.lt
  have hseq : SeqGives Fence.wide 2 Try.prog 63 #[.pointer (some ⟨w.heap.size, 0, none⟩)] encStr (fun ss => ss.Perm (strKeys D0)) (Maps.size D0) (w.alloc (.cells #[.map (some b)] 67)) :=
    AnyZ.keys_gives (ρ := Try.keys49_ren) { Try.keys49 with } Fence.wide _ trivial rfl (by omega) w.heap.size b nn D0 _ (by simp) (by simp) (by
      obtain ⟨es, clock, hb, Ft, hs, hD⟩ := hown
      exact ⟨es, clock, (Below.heap_alloc _ _ b hbl).trans hb, Ft, hs, hD⟩)
  exact AnyZ.sorted_in Try.sorted48 Fence.wide 5 trivial trivial trivial trivial rfl (by omega) (sorts_any _) (enters_of Try.func62 (by kernel_rfl) rfl) 63 #[.pointer (some ⟨w.heap.size, 0, none⟩)] trivial (enters_of Try.func63 (by kernel_rfl) rfl) _ _ hmax hbytes _ hseq
theorem bb_lt : ∀ a b : List UInt8, bytesBefore a b = true ↔ a < b
  | [], [] => by simp [bytesBefore]
  | [], _ :: _ => by simp [bytesBefore]
  | _ :: _, [] => by simp [bytesBefore]
  | a :: r, b :: s => by
    have ih := bb_lt r s
    rw [List.cons_lt_cons_iff]
    simp [bytesBefore, ih]
theorem bb_le {a b : List UInt8} (h : bytesBefore a b = true) : a ≤ b := by
  intro hlt
  have h1 := (bb_lt b a).2 hlt
  have h2 := Go.WideShapes.bytes_trans _ _ _ h h1
  rw [before_irr] at h2
  cases h2
theorem le_anti {a b : List UInt8} (h1 : a ≤ b) (h2 : b ≤ a) : a = b := by
  rcases Classical.em (a = b) with h | h
  · exact h
  · rcases Go.WideAt.bytes_total a b h with h3 | h3
    · exact absurd ((bb_lt a b).1 h3) h2
    · exact absurd ((bb_lt b a).1 h3) h1
theorem sort_names {fs : List FR} (h : fs.Pairwise fun x y => bytesBefore x.name y.name = true) {ss : List (List UInt8)} (hp : ss.Perm (strKeys (dat fs))) : ss.mergeSort (fun x y => decide (x ≤ y)) = fs.map (·.name) := by
  have hk : strKeys (dat fs) = fs.map (·.name) := by
    show (fs.map FR.ent).map (fun p => strOf p.1) = _
    rw [List.map_map]
    rfl
  rw [hk] at hp
  have hs : (ss.mergeSort (fun x y => decide (x ≤ y))).Pairwise (fun a b => decide (a ≤ b) = true) := List.pairwise_mergeSort (fun a b c h1 h2 => by
    have h1' : a ≤ b := of_decide_eq_true h1
    have h2' : b ≤ c := of_decide_eq_true h2
    refine decide_eq_true ?_
    intro hlt
    rcases Classical.em (b = c) with rfl | hne
    · exact h1' hlt
    · rcases Go.WideAt.bytes_total b c hne with h3 | h3
      · exact h1' ((bb_lt b a).1 (Go.WideShapes.bytes_trans _ _ _ h3 ((bb_lt c a).2 hlt)))
      · exact h2' ((bb_lt c b).1 h3)) (fun a b => by
    rcases Classical.em (a ≤ b) with h1 | h1
    · simp [h1]
    · have h2 : b < a := Classical.not_not.1 h1
      have h3 := bb_le ((bb_lt b a).2 h2)
      simp [h3]) ss
  refine List.Perm.eq_of_pairwise (le := fun a b => decide (a ≤ b) = true) (fun a b _ _ h1 h2 => le_anti (of_decide_eq_true h1) (of_decide_eq_true h2)) hs ?_ ((List.mergeSort_perm ss _).trans hp)
  rw [List.pairwise_map]
  exact h.imp fun {a b} hab => decide_eq_true (bb_le hab)
theorem keys_names (fs : List FR) : strKeys (dat fs) = fs.map (·.name) := by
  show (fs.map FR.ent).map (fun p => strOf p.1) = _
  rw [List.map_map]
  rfl
end Go.Proofs.Ytphjgembpcikdaa
