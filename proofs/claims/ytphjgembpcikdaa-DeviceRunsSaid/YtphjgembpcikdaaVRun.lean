/- device laws: a run of operations (plain), and a device that was made since. -/
import Derived.Test.YtphjgembpcikdaaVOps
namespace Go.Proofs.Ytphjgembpcikdaa
set_option linter.unusedVariables false
set_option linter.unnecessarySimpa false
set_option linter.unusedSimpArgs false
open Go.RowKit

/-- The state behind the first i operations. -/
def runN (s : Ds) (l : List LOp) : Nat → Ds
  | 0 => s
  | i + 1 => match l[i]? with
    | some o => (operD (runN s l i) o i).2
    | none => runN s l i
theorem runN_step {s : Ds} {l : List LOp} {i : Nat} {o : LOp} (h : l[i]? = some o) : runN s l (i + 1) = (operD (runN s l i) o i).2 := by
  show (match l[i]? with | some o => (operD (runN s l i) o i).2 | none => runN s l i) = _
  rw [h]
theorem runN_inv {p : Ds → Prop} {s : Ds} (l : List LOp) (h0 : p s) (hs : ∀ t o k, p t → p (operD t o k).2) : ∀ i, p (runN s l i)
  | 0 => h0
  | i + 1 => by
    have ih := runN_inv l h0 hs i
    show p (match l[i]? with | some o => (operD (runN s l i) o i).2 | none => runN s l i)
    split
    · exact hs _ _ _ ih
    · exact ih
theorem runN_good {s : Ds} (l : List LOp) (h : s.Good) (i : Nat) : (runN s l i).Good := runN_inv l h (fun t o k ht => oper_good ht o k) i
/-- The device is up, without a limit. -/
def Ds.Up (s : Ds) : Prop := s.down = false ∧ s.lim = false
theorem perf_up {s : Ds} {f g : Ds → Ds} (h : s.lim = false) (hf : (f s).down = false ∧ (f s).lim = false) (hg : ∀ t, t.down = false ∧ t.lim = false → (g t).Up) : (perfD s f g).2.Up := by
  unfold perfD
  rw [if_neg (by rw [h]; simp)]
  exact hg _ hf
theorem oper_up {s : Ds} (o : LOp) (k : Nat) (h : s.Up) : (operD s o k).2.Up := by
  unfold operD
  split
  · unfold createD
    repeat' split
    all_goals first | exact h | exact perf_up h.2 h fun t ht => ht
  · unfold appendD
    repeat' split
    all_goals first | exact h | exact perf_up h.2 h fun t ht => ht
  · unfold truncD
    repeat' split
    all_goals first | exact h | exact perf_up h.2 h fun t ht => ht
  · unfold removeD
    repeat' split
    all_goals first | exact h | exact perf_up h.2 h fun t ht => ht
  · unfold renameD
    repeat' split
    all_goals first | exact h | exact perf_up h.2 h fun t ht => ht
  · unfold syncD
    repeat' split
    all_goals first | exact h | exact perf_up h.2 h fun t ht => ht
theorem perf_room {s : Ds} {r : Int} {f g : Ds → Ds} (hf : (f s).room = r) (hg : ∀ t, t.room = r → (g t).room = r) : (perfD s f g).2.room = r := by
  unfold perfD
  split
  · exact hf
  · exact hg _ hf
theorem oper_room {s : Ds} (o : LOp) (k : Nat) : (operD s o k).2.room = s.room := by
  unfold operD
  split
  · unfold createD
    repeat' split
    all_goals first | rfl | exact perf_room rfl fun t ht => ht
  · unfold appendD
    repeat' split
    all_goals first | rfl | exact perf_room rfl fun t ht => ht
  · unfold truncD
    repeat' split
    all_goals first | rfl | exact perf_room rfl fun t ht => ht
  · unfold removeD
    repeat' split
    all_goals first | rfl | exact perf_room rfl fun t ht => ht
  · unfold renameD
    repeat' split
    all_goals first | rfl | exact perf_room rfl fun t ht => ht
  · unfold syncD
    repeat' split
    all_goals first | rfl | exact perf_room rfl fun t ht => ht
theorem runN_up {s : Ds} (l : List LOp) (h : s.Up) (i : Nat) : (runN s l i).Up := runN_inv l h (fun t o k ht => oper_up o k ht) i
theorem runN_room {s : Ds} (l : List LOp) (i : Nat) : (runN s l i).room = s.room := runN_inv (p := fun t => t.room = s.room) l rfl (fun t o k ht => (oper_room o k).trans ht) i
/-- The files lie in the order of their names. -/
def Srt (l : List Fl) : Prop := l.Pairwise fun x y => bytesBefore x.name y.name = true
section
variable {w0 w w' : World} {d : Nat} {s s' : Ds} {S : Nat → Prop}
theorem DevW.rise (h : DevW w d S s) : Srt s.fs := by
  obtain ⟨mb, fs, h1, _⟩ := h
  unfold Srt
  rw [h1.eq, List.pairwise_map]
  exact own_rise h1.map Try.underlying9
theorem FD.rise (h : FD w0 w d s) : Srt s.fs := let ⟨_, h1, _⟩ := h.dev; h1.rise
/-- A step of the law's loop. -/
theorem FD.oper (h : FD w0 w d s) (hg : s.Good) (o : LOp) (ho : o.Fit) (k : Nat) (hk : k ≤ 1000) : Calls Try.prog 24 #[.pointer (some ⟨d, 0, none⟩), o.val, .int .i64 k] w fun e w' => e = .returned (.int .i64 (operD s o k).1) ∧ FD w0 w' d (operD s o k).2 :=
  h.runE fun S hS => operate_any hS hg o ho k hk
end
theorem less_before : ∀ (a b : List UInt8), Op.bytesLess a b = bytesBefore a b
  | [], [] => rfl
  | _ :: _, [] => rfl
  | [], _ :: _ => rfl
  | a :: x, b :: y => by
    unfold Op.bytesLess bytesBefore
    rw [less_before x y]
end Go.Proofs.Ytphjgembpcikdaa
