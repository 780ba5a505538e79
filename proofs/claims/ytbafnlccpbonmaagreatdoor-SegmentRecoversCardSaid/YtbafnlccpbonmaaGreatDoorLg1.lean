/- The log's calls, beside other things. -/
import Derived.Test.YtbafnlccpbonmaaGreatDoorPl7
import Derived.Test.YtbafnlccpbonmaaGreatDoorEr1
namespace Go.Proofs.YtbafnlccpbonmaaGreatDoor
set_option linter.unusedVariables false
set_option linter.unnecessarySimpa false
set_option linter.unusedSimpArgs false
open Go.RowKit

/-- What is known of a log whose device's power does not fail. -/
structure Pl (nm : List UInt8) (s : Ds) (l : Lg) (R : List (List UInt8)) (n : Nat) (g : List (List (List UInt8))) : Prop where
  inv : Inv nm s l R n g
  good : s.Good
  up : s.down = false
  free : s.lim = false
  nml : NmL s.fs
section
variable {w0 w w' : World} {d L p n : Nat} {s t : Ds} {l l' : Lg} {X Y Z : Thing} {nm : List UInt8} {R : List (List UInt8)} {g : List (List (List UInt8))} {dt : List UInt8} {sh : Sh}
theorem Own.weak (h : Own w0 w (star X (star Y Z))) : Own w0 w (star X Z) := by
  obtain ⟨S, ⟨A, B, h1, ⟨C, D, h2, h3, h4, h5⟩, h6, h7⟩, h8, h9⟩ := h
  refine ⟨fun x => A x ∨ D x, ⟨A, D, h1, h3, fun x hx hy => h6 x hx ((h5 x).2 (.inr hy)), fun x => Iff.rfl⟩, fun x hx => ?_, h9⟩
  rcases hx with hx | hx
  · exact h8 x ((h7 x).2 (.inl hx))
  · exact h8 x ((h7 x).2 (.inr ((h5 x).2 (.inr hx))))
theorem Own.of_fd (h : FD w0 w d s) : Own w0 w (devT d s) := by
  obtain ⟨S, h1, h2⟩ := h.dev
  exact ⟨S, h1, h2, h.below⟩
abbrev devlog (d L : Nat) (s : Ds) (l : Lg) : Thing := star (devT d s) (logT d L l)
theorem devlog_frm : Frm (devlog d L s l) := (devT_frm d s).star (logT_frm d L l)
theorem Pl.step {a b c : Nat} {P : List UInt8 → Prop} {R' : List (List UInt8)} {n' : Nat} {g' : List (List (List UInt8))} (h : Pl nm s l R n g) (hs : Stp P a b c s t) (hu : t.down = false) (hi : Inv nm t l' R' n' g') : Pl nm t l' R' n' g' :=
  ⟨hi, hs.good h.good, hu, hs.lim.trans h.free, hs.nml h.nml⟩
theorem Own.Append (hp : Pow10 w0) (hY : Frm Y) (h : Own w0 w (star (devlog d L s l) Y)) (hP : Pl nm s l R n g) (h1 : R.length < 1000) (h2 : dt.length ≤ 1000) (hc : s.fs.length < 4096) (hr : ((usedC s.fs + (16 + dt.length) : Nat) : Int) ≤ s.room) :
    Calls Tryz.prog 28 #[.pointer (some ⟨L, 0, none⟩), .string (B dt)] w fun e w' => e = .returned (.tuple #[.int .i64 ((R.length + 1 : Nat) : Int), .int .i64 0]) ∧
      ∃ t, Stp (OwnF nm) (16 + dt.length) 1 3 s t ∧ Pl nm t ⟨l.name, l.limit, ptsG n (appG l.limit g dt), rotK l.limit g (16 + dt.length) R l.dur⟩ (R ++ [dt]) n (appG l.limit g dt) ∧ Own w0 w' (star (devlog d L t ⟨l.name, l.limit, ptsG n (appG l.limit g dt), rotK l.limit g (16 + dt.length) R l.dur⟩) Y) := by
  refine (Own.log hp hY h fun S T hE hx => hx.Append hE hP.inv.ok hP.good dt (by omega)).mono fun e w' hh => ?_
  rcases hP.inv.app hP.good hP.up h1 h2 hc hr with ⟨t, e1, k1, k2, k3⟩ | ⟨e1, _⟩
  · rw [e1] at hh
    exact ⟨hh.1, t, k2, hP.step k2 k1 k3, hh.2⟩
  · rw [hP.free] at e1
    cases e1
theorem Own.Sync (hp : Pow10 w0) (hY : Frm Y) (h : Own w0 w (star (devlog d L s l) Y)) (hP : Pl nm s l R n g) :
    Calls Tryz.prog 34 #[.pointer (some ⟨L, 0, none⟩)] w fun e w' => e = .returned (.int .i64 0) ∧ ∃ t, Stp (OwnF nm) 0 0 1 s t ∧ Pl nm t { l with dur := R.length } R n g ∧ Own w0 w' (star (devlog d L t { l with dur := R.length }) Y) := by
  refine (Own.log hp hY h fun S T hE hx => hx.Sync hE hP.inv.ok).mono fun e w' hh => ?_
  rcases hP.inv.sync hP.good hP.up with ⟨t, e1, k1, k2, k3⟩ | ⟨e1, _⟩
  · rw [e1] at hh
    exact ⟨hh.1, t, k2, hP.step k2 k1 k3, hh.2⟩
  · rw [hP.free] at e1
    cases e1
theorem Own.Drop (hp : Pow10 w0) (hY : Frm Y) (h : Own w0 w (star (devlog d L s l) Y)) (hP : Pl nm s l R n g) (b : Int) :
    Calls Tryz.prog 35 #[.pointer (some ⟨L, 0, none⟩), .int .i64 b] w fun e w' => e = .returned (.tuple #[.int .i64 (((drpG b n g).1 : Nat) : Int), .int .i64 0]) ∧
      ∃ t, Stp (OwnF nm) 0 0 (drpG b n g).1 s t ∧ Pl nm t { l with parts := ptsG (drpG b n g).2.1 (drpG b n g).2.2 } R (drpG b n g).2.1 (drpG b n g).2.2 ∧ Own w0 w' (star (devlog d L t { l with parts := ptsG (drpG b n g).2.1 (drpG b n g).2.2 }) Y) := by
  have hc : l.parts.length ≤ 100000000 := hP.inv.ok.2.1
  refine (Own.log hp hY h fun S T hE hx => hx.Drop hE hc b).mono fun e w' hh => ?_
  rw [hP.inv.nam, hP.inv.parts] at hh
  rcases hP.inv.fls.dropAll (b := b) g n 0 s hP.good hP.up with ⟨t, e1, k1, k2, k3⟩ | ⟨e1, _⟩
  · rw [e1, Nat.zero_add] at hh
    exact ⟨hh.1, t, k2, hP.step k2 k1 ⟨hP.inv.nam, hP.inv.lim, rfl, hP.inv.dur0, k3⟩, by rw [hP.inv.nam]; exact hh.2⟩
  · rw [hP.free] at e1
    cases e1
/-- Open, beside other things. -/
theorem Own.Open (hp : Pow10 w0) (hv : LibVars w0) (hY : Frm Y) (h : Own w0 w (star (devT d s) Y)) (hg : s.Good) (hnm : NmL s.fs) (nm : List UInt8) (lim : Int) :
    Calls Tryz.prog 25 #[.pointer (some ⟨d, 0, none⟩), .string (B nm), .int .i64 lim] w fun e w' =>
      (∃ x s', openG s nm lim = (x, s', none) ∧ e = .returned (.tuple #[.pointer none, .int .i64 x]) ∧ Own w0 w' (star (devT d s') Y)) ∨
      (∃ s' l L, openG s nm lim = (0, s', some l) ∧ e = .returned (.tuple #[.pointer (some ⟨L, 0, none⟩), .int .i64 0]) ∧ Own w0 w' (star (devlog d L s' l) Y)) := by
  have hb := h.below
  obtain ⟨S, h1, h2, h3⟩ := h.step (devT_frm d s) hY
  refine (open_any h1 hg hnm (hp.grow hb) (hv.grow hb) (fun hx => by have := h2 _ hx; have := hp.lt; omega) nm lim).mono fun e w' hr => ?_
  rcases hr with ⟨x, s', hR, he, hd⟩ | ⟨s', l, L, hR, he, hx⟩
  · exact .inl ⟨x, s', hR, he, h3 _ _ hd⟩
  · refine .inr ⟨s', l, L, hR, he, h3 _ _ ?_⟩
    obtain ⟨M, k1, k2, k3⟩ := hx.retT
    refine ⟨M, k1, fun x hx => ?_, k3.mono fun x hx => ?_⟩
    · rcases k2 x hx with (h4 | h4) | h4
      · exact .inl h4
      · exact h4.elim
      · exact .inr h4
    · rcases hx with h4 | h4
      · exact h4
      · exact h4.elim
/-- A step on the model. -/
theorem Own.mod {sh' : Sh} (hX : Frm X) {n : Nat} {a : Array Value} {Q : Ending → Prop} (h : Own w0 w (star X (shT p sh))) (hc : ∀ S0, ShX w w p S0 sh → Calls Tryz.prog n a w fun e w' => Q e ∧ ShX w w' p S0 sh') :
    Calls Tryz.prog n a w fun e w' => Q e ∧ Own w0 w' (star X (shT p sh')) := by
  obtain ⟨S, h1, h2, h3⟩ := h.swap.step (shT_frm p sh) hX
  exact (hc S (ShX.start h1)).mono fun e w' hh => ⟨hh.1, (h3 _ _ hh.2.ret).swap⟩
/-- A cell of the model is written. -/
theorem Own.modput {sh' : Sh} (hX : Frm X) (h : Own w0 w (star X (shT p sh))) {i : Nat} {v : Value} (he : ∀ A1 c1 A2 c2, (sh.cells A1 c1 A2 c2).set i v = sh'.cells A1 c1 A2 c2) (hr : sh'.recs = sh.recs) (hg : sh'.segs = sh.segs) : Own w0 (w.setCell ⟨p, i, none⟩ v) (star X (shT p sh')) := by
  obtain ⟨S, h1, h2, h3⟩ := h.swap.step (shT_frm p sh) hX
  obtain ⟨A1, c1, A2, c2, k⟩ := (ShX.start h1).named
  exact (h3 _ _ (k.put (he A1 c1 A2 c2) hr hg).x.ret).swap
/-- What is read of the things. -/
theorem Own.parts (h : Own w0 w (star (devlog d L s l) (shT p sh))) : ∃ S P c rs A1 c1 A2 c2, DevW w d S s ∧ LogR w L d l P c rs ∧ ShR w p sh A1 c1 A2 c2 := by
  obtain ⟨S, ⟨A, B, ⟨C, D, h1, ⟨P, c, rs, h2, _⟩, _, _⟩, ⟨A1, c1, A2, c2, h3, _⟩, _, _⟩, _, _⟩ := h
  exact ⟨C, P, c, rs, A1, c1, A2, c2, h1, h2, h3⟩
theorem Own.agrees (hp : Pow10 w0) (h : Own w0 w (star (devlog d L s l) (shT p sh))) (hP : Pl nm s l R n g) (hM : Mdl l R n g sh) :
    Calls Tryz.prog 37 #[.pointer (some ⟨L, 0, none⟩), .pointer (some ⟨p, 0, none⟩)] w fun e w' => e = .returned (.bool true) ∧ Below w.heap.size w w' := by
  obtain ⟨S, P, c, rs, A1, c1, A2, c2, h1, h2, h3⟩ := h.parts
  exact agrees_any h2 h1 hP.inv hP.good hP.up (hp.grow h.below) h3 hM.agr
theorem Own.Read (hp : Pow10 w0) (h : Own w0 w (devlog d L s l)) (hP : Pl nm s l R n g) (k : Int) :
    Calls Tryz.prog 32 #[.pointer (some ⟨L, 0, none⟩), .int .i64 k] w fun e w' => e = .returned (.tuple #[.string (B (lread s l k).1), .int .i64 (lread s l k).2]) ∧ Below w.heap.size w w' := by
  have hb := h.below
  obtain ⟨S, ⟨C, D, h1, ⟨P, c, rs, h2, _⟩, _, _⟩, _, _⟩ := h
  exact h2.Read h1 hP.good.ok hP.inv.parts hP.inv.fls.shp hP.inv.ok (hp.grow hb) hP.inv.frst hP.inv.last k
/-- A block of cells as a thing. -/
def boxT (b : Nat) (cs : List Value) : Thing := fun S w => Bx w b cs ∧ ∀ x, S x ↔ x = b
theorem boxT_frm (b : Nat) (cs : List Value) : Frm (boxT b cs) :=
  ⟨fun {S w x} h hx => by rw [(h.2 x).1 hx]; exact h.1.lt, fun {S w w'} h hs hk => ⟨h.1.block hs (hk b ((h.2 b).2 rfl)), h.2⟩⟩
theorem Own.dropR (h : Own w0 w (star X (star Y Z))) : Own w0 w (star X Y) := h.assoc'.left
theorem Own.addBox {b : Nat} {cs : List Value} (hX : Frm (star X Y)) (h : Own w0 w (star X Y)) (hb : Below w.heap.size w w') (hx : Bx w' b cs) (hl : w.heap.size ≤ b) : Own w0 w' (star X (star Y (boxT b cs))) :=
  (h.add hX hb (Y := boxT b cs) (M := fun x => x = b) ⟨hx, fun x => Iff.rfl⟩ (fun x hx => by omega)).assoc
theorem Own.box {b : Nat} {cs : List Value} (h : Own w0 w (star X (star Y (boxT b cs)))) : Bx w b cs := by
  obtain ⟨S, ⟨A, B, _, ⟨C, D, _, h1, _, _⟩, _, _⟩, _, _⟩ := h
  exact h1.1
/-- A step on the model, beside other things. -/
theorem Own.mod2 {sh' : Sh} (hX : Frm X) (hZ : Frm Z) {n : Nat} {a : Array Value} {Q : Ending → Prop} (h : Own w0 w (star X (star (shT p sh) Z))) (hc : ∀ S0, ShX w w p S0 sh → Calls Tryz.prog n a w fun e w' => Q e ∧ ShX w w' p S0 sh') :
    Calls Tryz.prog n a w fun e w' => Q e ∧ Own w0 w' (star X (star (shT p sh') Z)) := by
  obtain ⟨S, h1, h2, h3⟩ := h.swap.assoc.step (shT_frm p sh) (hZ.star hX)
  exact (hc S (ShX.start h1)).mono fun e w' hh => ⟨hh.1, (h3 _ _ hh.2.ret).assoc'.swap⟩
theorem Own.modput2 {sh' : Sh} (hX : Frm X) (hZ : Frm Z) (h : Own w0 w (star X (star (shT p sh) Z))) {i : Nat} {v : Value} (he : ∀ A1 c1 A2 c2, (sh.cells A1 c1 A2 c2).set i v = sh'.cells A1 c1 A2 c2) (hr : sh'.recs = sh.recs) (hg : sh'.segs = sh.segs) : Own w0 (w.setCell ⟨p, i, none⟩ v) (star X (star (shT p sh') Z)) := by
  obtain ⟨S, h1, h2, h3⟩ := h.swap.assoc.step (shT_frm p sh) (hZ.star hX)
  obtain ⟨A1, c1, A2, c2, k⟩ := (ShX.start h1).named
  exact (h3 _ _ (k.put (he A1 c1 A2 c2) hr hg).x.ret).assoc'.swap
end
end Go.Proofs.YtbafnlccpbonmaaGreatDoor
