/- A log on a device whose power may fail: the calls; a list of strings as a thing. -/
import Derived.Test.YtbafnlccpbonmaaGreatDoorRv1
import Derived.Test.YtbafnlccpbonmaaGreatDoorDm2
namespace Go.Proofs.YtbafnlccpbonmaaGreatDoor
set_option linter.unusedVariables false
set_option linter.unnecessarySimpa false
set_option linter.unusedSimpArgs false
open Go.RowKit

/-- A list of strings in a slice of its own. -/
def rowT (A : Option Addr) (c : Nat) (xs : List (List UInt8)) : Thing := fun S w => OwnO w 0 1 A xs.length c (strB xs) ∧ ∀ x, S x ↔ ∃ ad, A = some ad ∧ ad.block = x
theorem rowT_frm (A : Option Addr) (c : Nat) (xs : List (List UInt8)) : Frm (rowT A c xs) :=
  ⟨fun {S w x} h hx => by
    obtain ⟨ad, ha, hb⟩ := (h.2 x).1 hx
    obtain ⟨_, _, _, h4⟩ := h.1
    rcases h4 with ⟨e, _, _⟩ | ⟨g, off, e, _, hl, _⟩
    · rw [e] at ha; cases ha
    · rw [e] at ha
      cases ha
      exact hb ▸ hl,
   fun {S w w'} h hs hk => ⟨h.1.block hs fun ad ha => hk _ ((h.2 _).2 ⟨ad, ha, rfl⟩), h.2⟩⟩
section
variable {w0 w w' w2 w3 : World} {d L p n : Nat} {s t : Ds} {l : Lg} {X Y Z : Thing} {R Q : List (List UInt8)} {g : List (List (List UInt8))} {dt : List UInt8} {A A' : Option Addr} {c c' dv kp : Nat}
theorem Own.rowNew (hX : Frm X) (h : Own w0 w X) : Own w0 w (star X (rowT none 0 [])) :=
  h.add hX (G.refl w) (M := fun _ => False) ⟨OwnO.nil _ _ _, fun x => ⟨False.elim, fun ⟨ad, h, _⟩ => by cases h⟩⟩ (fun x hx => hx.elim)
theorem Own.rowGet (h : Own w0 w (star X (rowT A c Q))) : OwnO w 0 1 A Q.length c (strB Q) := h.right.choose_spec.1.1
/-- One string more. -/
theorem Own.rowAdd (hX : Frm X) (h : Own w0 w (star X (rowT A c Q))) (hb : Below w.heap.size w w2) (ho : OwnO w3 0 1 A' (Q.length + 1) c' (strB Q ++ [.string (B dt)])) (hg : w2.grownBy w3 (A.map (·.block)))
    (hP : A'.map (·.block) = A.map (·.block) ∨ A'.map (·.block) = some w2.heap.size) : Own w0 w3 (star X (rowT A' c' (Q ++ [dt]))) := by
  obtain ⟨S, h1, h2, h3⟩ := h.swap.step (rowT_frm A c Q) hX
  have hs := hb.size
  have hrow : rowT A' c' (Q ++ [dt]) (fun x => ∃ ad, A' = some ad ∧ ad.block = x) w3 := ⟨by
    rw [show strB (Q ++ [dt]) = strB Q ++ [.string (B dt)] by unfold strB; rw [List.map_append]; rfl, List.length_append]
    exact ho, fun x => Iff.rfl⟩
  refine (h3 _ w3 ⟨_, hrow, fun x hx => ?_, ?_⟩).swap
  · obtain ⟨ad, ha, rfl⟩ := hx
    rcases map_or hP ha with ⟨ap, hp2, e⟩ | e
    · exact .inl ((h1.2 _).2 ⟨ap, hp2, e.symm⟩)
    · exact .inr (by omega)
  · refine ((DChg.refl S w).trans (DChg.of_below (S := S) hb) fun x hx => .inl hx).grownBy hg fun g hg => ?_
    obtain ⟨ad, ha, e⟩ := Option.map_eq_some_iff.1 hg
    exact (h1.2 g).2 ⟨ad, ha, e⟩
theorem Own.SyncR (hp : Pow10 w0) (hY : Frm Y) (h : Own w0 w (star (devlog d L s l) Y)) (hU : Upr s l Q dv kp n g) :
    Calls Tryz.prog 34 #[.pointer (some ⟨L, 0, none⟩)] w fun e w' => ∃ t l', Stp (OwnF kn) 0 0 1 s t ∧ Own w0 w' (star (devlog d L t l') Y) ∧
      ((e = .returned (.int .i64 0) ∧ Upr t l' Q Q.length kp n g) ∨ (e = .returned (.int .i64 31) ∧ t.down = true ∧ Rcv t l' Q dv kp)) := by
  refine (Own.log hp hY h fun S T hE hx => hx.Sync hE hU.inv.ok).mono fun e w' hh => ?_
  rcases hU.sync with ⟨t, l', e1, k1, k2⟩ | ⟨t, l', e1, k1, k2, k3⟩
  · rw [e1] at hh
    exact ⟨t, l', k2, hh.2, .inl ⟨hh.1, k1⟩⟩
  · rw [e1] at hh
    exact ⟨t, l', k3, hh.2, .inr ⟨hh.1, k1, k2⟩⟩
theorem Own.DropR (hp : Pow10 w0) (hY : Frm Y) (h : Own w0 w (star (devlog d L s l) Y)) (hU : Upr s l Q dv kp n g) (b : Nat) :
    Calls Tryz.prog 35 #[.pointer (some ⟨L, 0, none⟩), .int .i64 (b : Int)] w fun e w' => ∃ x y t l', e = .returned (.tuple #[.int .i64 x, .int .i64 y]) ∧ Stp (OwnF kn) 0 0 g.length s t ∧ Own w0 w' (star (devlog d L t l') Y) ∧
      ((∃ n' g', Upr t l' Q dv (max kp b) n' g') ∨ (t.down = true ∧ Rcv t l' Q dv (max kp b))) := by
  refine (Own.log hp hY h fun S T hE hx => hx.Drop hE hU.inv.ok.2.1 b).mono fun e w' hh => ?_
  obtain ⟨x, y, t, ps, e1, k1, k2⟩ := hU.drop b
  have e2 : ldrop l.name (b : Int) s l.parts 0 = ((x, y), t, ps) := by rw [hU.inv.nam]; exact e1
  rw [e2] at hh
  exact ⟨x, y, t, _, hh.1, k1, hh.2, k2⟩
theorem Own.AppendR (hp : Pow10 w0) (hY : Frm Y) (h : Own w0 w (star (devlog d L s l) Y)) (hU : Upr s l Q dv kp n g) (h1 : Q.length < 1000) (h2 : dt.length ≤ 1000) (hc : s.fs.length < 4096) (hr : ((usedC s.fs + (16 + dt.length) : Nat) : Int) ≤ s.room) :
    Calls Tryz.prog 28 #[.pointer (some ⟨L, 0, none⟩), .string (B dt)] w fun e w' => ∃ t l', Stp (OwnF kn) (16 + dt.length) 1 3 s t ∧ Own w0 w' (star (devlog d L t l') Y) ∧
      ((e = .returned (.tuple #[.int .i64 ((Q.length + 1 : Nat) : Int), .int .i64 0]) ∧ ∃ g', Upr t l' (Q ++ [dt]) dv kp n g') ∨ (e = .returned (.tuple #[.int .i64 0, .int .i64 31]) ∧ t.down = true ∧ Rcv t l' (Q ++ [dt]) dv kp)) := by
  refine (Own.log hp hY h fun S T hE hx => hx.Append hE hU.inv.ok hU.good dt (by omega)).mono fun e w' hh => ?_
  rcases hU.app h1 h2 hc hr with ⟨t, l', g', e1, k1, k2⟩ | ⟨t, l', e1, k1, k2, k3⟩
  · rw [e1] at hh
    exact ⟨t, l', k2, hh.2, .inl ⟨hh.1, g', k1⟩⟩
  · rw [e1] at hh
    exact ⟨t, l', k3, hh.2, .inr ⟨hh.1, k1, k2⟩⟩
theorem Own.Durable (h : Own w0 w (devlog d L s l)) : Calls Tryz.prog 41 #[.pointer (some ⟨L, 0, none⟩)] w fun e w' => e = .returned (.int .i64 l.dur) ∧ w' = w := by
  obtain ⟨S, ⟨C, D, h1, ⟨P, c, rs, h2, _⟩, _, _⟩, _, _⟩ := h
  exact h2.Durable
theorem Own.First (h : Own w0 w (devlog d L s l)) : Calls Tryz.prog 40 #[.pointer (some ⟨L, 0, none⟩)] w fun e w' => e = .returned (.int .i64 l.frst) ∧ Below w.heap.size w w' := by
  obtain ⟨S, ⟨C, D, h1, ⟨P, c, rs, h2, _⟩, _, _⟩, _, _⟩ := h
  exact h2.First
theorem Own.down (h : Own w0 w (devT d s)) : Calls Tryz.prog 45 #[.pointer (some ⟨d, 0, none⟩)] w fun e w' => e = .returned (.bool s.down) ∧ w' = w := by
  obtain ⟨S, h1⟩ := h.devw
  exact down_any h1
theorem Own.crash (hY : Frm Y) (h : Own w0 w (star (devT d s) Y)) : Calls Tryz.prog 43 #[.pointer (some ⟨d, 0, none⟩)] w fun e w' => e = .returned (.tuple #[]) ∧ Own w0 w' (star (devT d { s with down := true }) Y) :=
  Own.dev hY h fun S hS => crash_any hS
theorem Own.limit (hY : Frm Y) (h : Own w0 w (star (devT d s) Y)) (q : Int) : Calls Tryz.prog 44 #[.pointer (some ⟨d, 0, none⟩), .int .i64 q] w fun e w' => e = .returned (.tuple #[]) ∧ Own w0 w' (star (devT d (limitD s q)) Y) :=
  Own.dev hY h fun S hS => limit_any hS q
theorem Own.start (hY : Frm Y) (h : Own w0 w (star (devT d s) Y)) (hg : s.Good) {ch : List UInt8} {b off m : Nat} (hx : Sl w0 (some ⟨b, off, none⟩) m (u8s ch)) (hb : b < w0.heap.size) (hmc : m ≤ c) (hcm : c ≤ maxLen) :
    Calls Tryz.prog 46 #[.pointer (some ⟨d, 0, none⟩), .slice (some ⟨b, off, none⟩) m c] w fun e w' => e = .returned (.tuple #[]) ∧ Own w0 w' (star (devT d (startD s ch)) Y) := by
  have hbl := h.below
  obtain ⟨S, h1, h5, h6⟩ := h.step (devT_frm d s) hY
  exact (start_any h1 hg.ok (hx.grow hbl) hmc hcm (fun ad ha hs => by cases ha; have := h5 _ hs; dsimp only at this; omega)).mono fun e w' hh => ⟨hh.1, h6 _ _ hh.2⟩
end
/-- The tail of a slice of bytes. -/
theorem sl_drop {w : World} {b off m : Nat} {l : List UInt8} (h : Sl w (some ⟨b, off, none⟩) m (u8s l)) (hm : 0 < m) (k : Nat) (hk : k < m) : Sl w (some ⟨b, off + k, none⟩) (m - k) (u8s (l.drop k)) := by
  refine ⟨by have := h.1; rw [u8s_len] at *; rw [List.length_drop, this], fun _ => ?_⟩
  obtain ⟨b', o', e, h1, h2⟩ := h.2 hm
  cases e
  refine ⟨b, off + k, rfl, h1, fun j u hu => ?_⟩
  rw [Nat.add_assoc]
  refine h2 (k + j) u ?_
  unfold u8s at hu ⊢
  rw [List.map_drop, List.getElem?_drop] at hu
  exact hu
/-- Where an own row's cells lie. -/
theorem ownO_ptr {w : World} {A : Option Addr} {n c : Nat} {xs : List Value} (h : OwnO w 0 1 A n c xs) (hn : n ≠ 0) : ∃ g off, A = some ⟨g, off, none⟩ ∧ g < w.heap.size ∧ ∀ (j : Nat) (u : Value), xs[j]? = some u → w.cell? ⟨g, off + j, none⟩ = some u := by
  rcases h.2.2.2 with ⟨_, h0, _⟩ | ⟨g, off, e, _, hl, _, hc⟩
  · exact absurd h0 hn
  · exact ⟨g, off, e, hl, hc⟩
/-! ### enough operations are left -/
section
variable {w0 w : World} {d L n : Nat} {s : Ds} {l : Lg} {Y : Thing} {R : List (List UInt8)} {g : List (List (List UInt8))} {dt : List UInt8}
theorem Own.AppendF (hp : Pow10 w0) (hY : Frm Y) (h : Own w0 w (star (devlog d L s l) Y)) (hI : Inv kn s l R n g) (hg : s.Good) (hd : s.down = false) (hl : 2 < s.left ∧ s.left ≤ 4611686018427387904) (h1 : R.length < 1000) (h2 : dt.length ≤ 1000) (hc : s.fs.length < 4096) (hr : ((usedC s.fs + (16 + dt.length) : Nat) : Int) ≤ s.room) :
    Calls Tryz.prog 28 #[.pointer (some ⟨L, 0, none⟩), .string (B dt)] w fun e w' => e = .returned (.tuple #[.int .i64 ((R.length + 1 : Nat) : Int), .int .i64 0]) ∧ ∃ t l' g', Stp (OwnF kn) (16 + dt.length) 1 3 s t ∧ t.down = false ∧ t.Good ∧ Inv kn t l' (R ++ [dt]) n g' ∧ Own w0 w' (star (devlog d L t l') Y) := by
  refine (Own.log hp hY h fun S T hE hx => hx.Append hE hI.ok hg dt (by omega)).mono fun e w' hh => ?_
  rcases hI.app hg hd h1 h2 hc hr with ⟨t, e1, k1, k2, k3⟩ | ⟨_, e2, _⟩
  · rw [e1] at hh
    exact ⟨hh.1, t, _, _, k2, k1, k2.good hg, k3, hh.2⟩
  · have := e2 hl.2
    omega
theorem Own.SyncF (hp : Pow10 w0) (hY : Frm Y) (h : Own w0 w (star (devlog d L s l) Y)) (hI : Inv kn s l R n g) (hg : s.Good) (hd : s.down = false) (hl : 0 < s.left) :
    Calls Tryz.prog 34 #[.pointer (some ⟨L, 0, none⟩)] w fun e w' => e = .returned (.int .i64 0) ∧ ∃ (t : Ds) (l' : Lg), l'.dur = (R.length : Int) ∧ Own w0 w' (star (devlog d L t l') Y) := by
  refine (Own.log hp hY h fun S T hE hx => hx.Sync hE hI.ok).mono fun e w' hh => ?_
  rcases hI.sync hg hd with ⟨t, e1, k1, k2, k3⟩ | ⟨_, e2, _⟩
  · rw [e1] at hh
    exact ⟨hh.1, t, _, rfl, hh.2⟩
  · omega
theorem Own.ReadF (hp : Pow10 w0) (h : Own w0 w (devlog d L s l)) (hI : Inv kn s l R n g) (hg : s.Good) (hd : s.down = false) {k : Nat} (h1 : n ≤ k) {x : List UInt8} (h2 : R[k - 1]? = some x) :
    Calls Tryz.prog 32 #[.pointer (some ⟨L, 0, none⟩), .int .i64 (k : Int)] w fun e w' => e = .returned (.tuple #[.string (B x), .int .i64 0]) ∧ Below w.heap.size w w' := by
  have hb := h.below
  have hr := hI.read hd h1 h2
  obtain ⟨S, ⟨C, D, h3, ⟨P, c, rs, h4, _⟩, _, _⟩, _, _⟩ := h
  have := h4.Read h3 hg.ok hI.parts hI.fls.shp hI.ok (hp.grow hb) hI.frst hI.last (k : Int)
  rw [hr] at this
  exact this
end
end Go.Proofs.YtbafnlccpbonmaaGreatDoor
