/- The law SegmentDamages: what it calls. -/
import Derived.Test.YtbafnlccpbonmaaGreatDoorDm1
import Derived.Test.YtbafnlccpbonmaaGreatDoorFd2
import Derived.Test.YtbafnlccpbonmaaGreatDoorSl2
import Derived.Test.YtbafnlccpbonmaaGreatDoorAp1
namespace Go.Proofs.YtbafnlccpbonmaaGreatDoor
set_option linter.unusedVariables false
set_option linter.unnecessarySimpa false
set_option linter.unusedSimpArgs false
open Go.RowKit

section
variable {w0 w w' : World} {d L p n b0 : Nat} {s t : Ds} {l : Lg} {X Y Z : Thing} {nm : List UInt8} {R : List (List UInt8)} {g : List (List (List UInt8))} {sh : Sh} {cs cs' : List Value}
theorem Own.putBox {i : Nat} {v : Value} (hX : Frm X) (hY : Frm Y) (h : Own w0 w (star X (star Y (boxT b0 cs)))) (he : cs.set i v = cs') : Own w0 (w.setCell ⟨b0, i, none⟩ v) (star X (star Y (boxT b0 cs'))) :=
  (Own.put1 (hX.star hY) h.assoc'.swap he).swap.assoc
theorem Own.bx (h : Own w0 w (boxT b0 cs)) : Bx w b0 cs := h.choose_spec.1.1
theorem Own.Read2 (hp : Pow10 w0) (h : Own w0 w (devlog d L t l)) (hP : Pl nm s l R n g) (hg : t.Good) (k : Int) :
    Calls Tryz.prog 32 #[.pointer (some ⟨L, 0, none⟩), .int .i64 k] w fun e w' => e = .returned (.tuple #[.string (B (lread t l k).1), .int .i64 (lread t l k).2]) ∧ Below w.heap.size w w' := by
  have hb := h.below
  obtain ⟨S, ⟨C, D, h1, ⟨P, c, rs, h2, _⟩, _, _⟩, _, _⟩ := h
  exact h2.Read h1 hg.ok hP.inv.parts hP.inv.fls.shp hP.inv.ok (hp.grow hb) hP.inv.frst hP.inv.last k
theorem Own.Last (h : Own w0 w (devlog d L s l)) (hok : l.Ok) : Calls Tryz.prog 33 #[.pointer (some ⟨L, 0, none⟩)] w fun e w' => e = .returned (.int .i64 l.last) ∧ Below w.heap.size w w' := by
  obtain ⟨S, ⟨C, D, h1, ⟨P, c, rs, h2, _⟩, _, _⟩, _, _⟩ := h
  exact h2.Last hok
theorem Own.devw (h : Own w0 w (devT d s)) : ∃ S, DevW w d S s := ⟨_, h.choose_spec.1⟩
theorem Own.contents (h : Own w0 w (devT d s)) (hg : s.Good) (hm : nm.length ≤ 1000) : Calls Tryz.prog 29 #[.pointer (some ⟨d, 0, none⟩), .string (B nm)] w fun e w' => e = .returned (.string (B (textD s nm).1)) ∧ Below w.heap.size w w' := by
  obtain ⟨S, h1⟩ := h.devw
  exact contents_any h1 hg.ok nm hm
theorem Own.trunc (hY : Frm Y) (h : Own w0 w (star (devT d s) Y)) (hg : s.Good) (hm : nm.length ≤ 1000) (he : truncD s nm 0 = (0, t)) :
    Calls Tryz.prog 30 #[.pointer (some ⟨d, 0, none⟩), .string (B nm), .int .i64 0] w fun e w' => e = .returned (.int .i64 0) ∧ Own w0 w' (star (devT d t) Y) :=
  Own.dev hY h fun S hS => by
    have := trunc_any hS hg.ok (B nm) (by rw [B_size]; unfold maxLen; omega) 0
    rw [B_list, he] at this
    exact this
theorem Own.dappend (hY : Frm Y) (h : Own w0 w (star (devT d s) Y)) (hg : s.Good) (hm : nm.length ≤ 1000) {T : List UInt8} (hT : T.length ≤ 1099511627776) (he : appendD s nm T = (0, t)) :
    Calls Tryz.prog 31 #[.pointer (some ⟨d, 0, none⟩), .string (B nm), .string (B T)] w fun e w' => e = .returned (.int .i64 0) ∧ Own w0 w' (star (devT d t) Y) :=
  Own.dev hY h fun S hS => by
    have := append_any hS hg.ok (B nm) (B T) (by rw [B_size]; unfold maxLen; omega) (by rw [B_size]; omega)
    rw [B_list, B_list, he] at this
    exact this
end
/-- A number of 16 bits. -/
theorem u16_nat {z : Int} (wz : (Lit.int .u16 z).wf = true) : ∃ Z : Nat, z = (Z : Int) ∧ Z < 65536 := by
  have h1 : 0 ≤ z ∧ z ≤ 65535 := by
    have e1 : IntKind.u16.min = 0 := rfl
    have e2 : IntKind.u16.max = 65535 := rfl
    simp [Lit.wf, e1, e2] at wz
    exact wz
  exact ⟨z.toNat, by omega, by omega⟩
theorem ne_xor1 (x : UInt8) : some x ≠ some (x ^^^ 1) := fun h => by
  have h2 : x = x ^^^ 1 := Option.some.inj h
  have h3 : x ^^^ x = x ^^^ (x ^^^ 1) := by rw [← h2]
  rw [← UInt8.xor_assoc, UInt8.xor_self, UInt8.zero_xor] at h3
  exact absurd h3 (by decide)
end Go.Proofs.YtbafnlccpbonmaaGreatDoor
