/- device: new, check, used -/
import Derived.Test.YtbafnlccpbonmaaGreatDoorData
import Derived.Test.YtbafnlccpbonmaaGreatDoorTree
import Derived.Test.YtbafnlccpbonmaaGreatDoorFs
import Derived.Test.YtbafnlccpbonmaaGreatDoorProg
import Derived.Lib.ConvBytes
import Derived.Lib.SmallJoins
namespace Go.Proofs.YtbafnlccpbonmaaGreatDoor
set_option linter.unusedVariables false
set_option linter.unnecessarySimpa false
set_option linter.unusedSimpArgs false
open Go.RowKit

set_option maxRecDepth 20000 in set_option maxHeartbeats 400000 in
theorem nothing_any (w : World) : Calls Tryz.prog 69 #[] w fun e w' => e = .returned (.tuple #[]) ∧ w' = w := by
  go_enter Tryz.func69, Tryz.ntmps69
  go_wp2_with fail
  go_end0
  exact ⟨rfl, rfl⟩
/-- A function with a body is entered. -/
def Ent (n : Nat) (c : Array Value) : Prop := ∀ w, (callFunc n c).run Tryz.prog w = .ok (.enter n c) w
theorem ent_nothing (c : Array Value) : Ent 69 c := fun w => Tryz.call69 c w
set_option maxRecDepth 20000 in set_option maxHeartbeats 1000000 in
/-- The power holds. -/
theorem perform_go {w : World} {d : Nat} {n1 n2 : Nat} {c1 c2 : Array Value} {D1 D2 : World → Prop} {room left : Int} {m : Value} {dn lim : Bool} (e1 : Ent n1 c1) (e2 : Ent n2 c2)
    (h1 : Calls Tryz.prog n1 c1 w fun e w' => e = .returned (.tuple #[]) ∧ Bx w' d [.int .i64 room, m, .bool dn, .bool lim, .int .i64 left] ∧ D1 w')
    (hl : lim = false ∨ 0 < left)
    (h2 : ∀ w0, D1 w0 → Calls Tryz.prog n2 c2 (w0.setCell ⟨d, 4, none⟩ (.int .i64 (IntKind.i64.wrap (left - 1)))) fun e w' => e = .returned (.tuple #[]) ∧ D2 w') :
    Calls Tryz.prog 68 #[.pointer (some ⟨d, 0, none⟩), .func (.func n1) #[] c1, .func (.func n2) #[] c2] w fun e w' => e = .returned (.int .i64 0) ∧ D2 w' := by
  go_enter Tryz.func68, Tryz.ntmps68
  have E1 := e1 w
  go_wp2_with fail
  refine h1.mono ?_
  rintro e w1 ⟨rfl, x1, hd1⟩
  have k0 := (x1.2 3 _ rfl).1
  have k1 := (x1.2 4 _ rfl).1
  have f1 := (x1.2 4 _ rfl).2
  have ltx := x1.lt
  obtain ⟨L, hL⟩ : ∃ L, IntKind.i64.wrap (left - 1) = L := ⟨_, rfl⟩
  rw [hL] at h2
  have E2 := e2 (w1.setCell ⟨d, 4, none⟩ (.int .i64 L))
  have H2 := Lib.hid (h2 w1 hd1)
  clear h2 h1 E1 hd1 x1
  rcases hl with rfl | hl
  · go_wp2_with fail
    refine H2.out.mono ?_
    rintro e w2 ⟨rfl, hd2⟩
    go_wp2_with fail
    go_ret
    exact ⟨rfl, hd2⟩
  · have hl' : ¬ left ≤ 0 := by omega
    rcases lim with _ | _
    all_goals (
      go_wp2_with fail
      refine H2.out.mono ?_
      rintro e w2 ⟨rfl, hd2⟩
      go_wp2_with fail
      go_ret
      exact ⟨rfl, hd2⟩)
set_option maxRecDepth 20000 in set_option maxHeartbeats 1000000 in
/-- The power fails. -/
theorem perform_fail {w : World} {d : Nat} {n1 : Nat} {c1 : Array Value} {g : Value} {D1 : World → Prop} {room left : Int} {m : Value} {dn : Bool} (e1 : Ent n1 c1)
    (h1 : Calls Tryz.prog n1 c1 w fun e w' => e = .returned (.tuple #[]) ∧ Bx w' d [.int .i64 room, m, .bool dn, .bool true, .int .i64 left] ∧ D1 w')
    (hl : left ≤ 0) :
    Calls Tryz.prog 68 #[.pointer (some ⟨d, 0, none⟩), .func (.func n1) #[] c1, g] w fun e w' => e = .returned (.int .i64 31) ∧ ∃ w0, D1 w0 ∧ w' = w0.setCell ⟨d, 2, none⟩ (.bool true) := by
  go_enter Tryz.func68, Tryz.ntmps68
  have E1 := e1 w
  go_wp2_with fail
  refine h1.mono ?_
  rintro e w1 ⟨rfl, x1, hd1⟩
  have k0 := (x1.2 3 _ rfl).1
  have k1 := (x1.2 4 _ rfl).1
  have k2 := (x1.2 2 _ rfl).1
  have f1 := (x1.2 2 _ rfl).2
  have ltx := x1.lt
  clear h1 E1 x1
  go_wp2_with fail
  go_ret
  exact ⟨rfl, w1, hd1, rfl⟩
end Go.Proofs.YtbafnlccpbonmaaGreatDoor

namespace Go.Proofs.YtbafnlccpbonmaaGreatDoor
set_option linter.unusedVariables false
set_option linter.unnecessarySimpa false
set_option linter.unusedSimpArgs false
open Go.RowKit

/-- A file's contents; a device's state. -/
structure Fl where
  name : List UInt8
  data : List UInt8
  dur : Nat
structure Ds where
  room : Int
  down : Bool
  lim : Bool
  left : Int
  fs : List Fl
def FR.fl (r : FR) : Fl := ⟨r.name, r.data, r.dur⟩
def u8s (l : List UInt8) : List Value := l.map fun b => .int .u8 b.toNat
def FR.val (r : FR) : Value := .slice r.A r.data.length r.cap
def FR.has (r : FR) (x : Nat) : Prop := x = r.fb ∨ r.val.ownBlock = some x
structure FileAt (w : World) (r : FR) : Prop where
  box : Bx w r.fb [r.val, .int .i64 r.dur]
  row : w.ownsRow 0 5 1 r.val r.data.length (u8s r.data)
  ne : r.val.ownBlock ≠ some r.fb
structure DevR (w : World) (d mb : Nat) (s : Ds) (fs : List FR) : Prop where
  box : Bx w d [.int .i64 s.room, .map (some mb), .bool s.down, .bool s.lim, .int .i64 s.left]
  map : w.ownsMap Tryz.prog 9 ptrElem mb fs.length (dat fs)
  files : ∀ r ∈ fs, FileAt w r
  apart : fs.Pairwise fun r q => ∀ x, r.has x → ¬ q.has x
  out : ∀ r ∈ fs, ¬ r.has d ∧ ¬ r.has mb
  eq : s.fs = fs.map FR.fl
  dm : d ≠ mb
def hasD (d mb : Nat) (fs : List FR) (x : Nat) : Prop := x = d ∨ x = mb ∨ ∃ r ∈ fs, r.has x
/-- The device at d, in the state s; its blocks are S. -/
def DevW (w : World) (d : Nat) (S : Nat → Prop) (s : Ds) : Prop := ∃ mb fs, DevR w d mb s fs ∧ ∀ x, S x ↔ hasD d mb fs x
/-- At most the blocks S have changed. -/
def DChg (S : Nat → Prop) (w w' : World) : Prop := Below 0 w w' ∧ Keeps (fun x => ¬ S x) w w'
theorem DChg.refl (S : Nat → Prop) (w : World) : DChg S w w := ⟨Below.refl _ _, Keeps.refl _ _⟩
theorem DChg.of_below {S : Nat → Prop} {w w' : World} (h : Below w.heap.size w w') : DChg S w w' := ⟨h.mono (Nat.zero_le _), Keeps.of_below h⟩
theorem DChg.trans {S S' : Nat → Prop} {a b c : World} (h : DChg S a b) (k : DChg S' b c) (hS : ∀ x, S' x → S x ∨ a.heap.size ≤ x) : DChg S a c :=
  ⟨h.1.trans k.1, Nat.le_trans h.2.1 k.2.1, fun x hx hl => (k.2.2 x (fun hh => by rcases hS x hh with h1 | h1; exact hx h1; omega) (Nat.lt_of_lt_of_le hl h.2.1)).trans (h.2.2 x hx hl)⟩
theorem DChg.size {S : Nat → Prop} {w w' : World} (h : DChg S w w') : w.heap.size ≤ w'.heap.size := h.2.1
theorem DChg.mono {S S' : Nat → Prop} {w w' : World} (h : DChg S w w') (hS : ∀ x, S x → S' x) : DChg S' w w' := ⟨h.1, h.2.mono fun x hx hh => hx (hS x hh)⟩
theorem DChg.setCell {S : Nat → Prop} {a w : World} (h : DChg S a w) {b : Nat} (hb : S b) (i : Nat) (v : Value) : DChg S a (w.setCell ⟨b, i, none⟩ v) := ⟨h.1.setCell (Nat.zero_le _) _, h.2.setCell (fun hh => hh hb) _⟩
theorem DChg.alloc {S : Nat → Prop} {a w : World} (h : DChg S a w) (o : Obj) : DChg S a (w.alloc o) := h.trans (DChg.of_below (S := S) (G.alloc (G.refl _) o)) fun x hx => .inl hx
theorem DChg.turned {S : Nat → Prop} {w w' : World} {b : Nat} (h : w.mapTurned w' b) (hb : S b) : DChg S w w' := by
  have hg := h.grown
  exact ⟨⟨hg.os, hg.tape, hg.output, hg.size, fun k hk => absurd hk (Nat.not_lt_zero _)⟩, hg.size, fun x hx hl => hg.block x hl fun e => by cases e; exact hx hb⟩
theorem DChg.below {S : Nat → Prop} {L : Nat} {w w' : World} (h : DChg S w w') (hS : ∀ x, S x → L ≤ x) (hL : L ≤ w.heap.size) : Below L w w' :=
  ⟨h.1.os, h.1.tape, h.1.output, h.1.size, fun k hk => h.2.2 k (fun hh => by have := hS k hh; omega) (by omega)⟩

theorem own_blk {w w' : World} {base : Nat} {e : TypeId} {size : Nat} {v : Value} {n : Nat} {xs : List Value} (h : w.ownsRow base e size v n xs) (hk : ∀ g, v.ownBlock = some g → w'.heap[g]? = w.heap[g]?) : w'.ownsRow base e size v n xs := by
  refine ⟨h.1, ?_⟩
  rcases h.2 with h0 | ⟨g, cap, cur, hv, hg, hh, hr⟩
  · exact .inl h0
  · refine .inr ⟨g, cap, cur, hv, hg, ?_, hr⟩
    rw [hk g (by rw [hv]; rfl)]
    exact hh
theorem map_blk {w w' : World} {P : Program} {K : TypeId} {b n : Nat} {D : DataW Unit} (h : w.ownsMap P K ptrElem b n D) (hk : w'.heap[b]? = w.heap[b]?) : w'.ownsMap P K ptrElem b n D := by
  obtain ⟨es, clock, hb, F, hs, hD⟩ := h
  exact ⟨es, clock, hk.trans hb, F, hs, hD⟩
section
variable {w w' : World} {d mb : Nat} {s s' : Ds} {fs : List FR} {r q : FR} {S : Nat → Prop}
theorem FileAt.lt (h : FileAt w r) {x : Nat} (hx : r.has x) : x < w.heap.size := by
  rcases hx with rfl | hx
  · exact h.box.lt
  · exact (h.row.lt x hx).2
theorem FileAt.keep (h : FileAt w r) (hs : w.heap.size ≤ w'.heap.size) (hk : ∀ x, r.has x → w'.heap[x]? = w.heap[x]?) : FileAt w' r :=
  ⟨h.box.block hs (hk _ (.inl rfl)), own_blk h.row fun g hg => hk g (.inr hg), h.ne⟩
theorem DevR.lt (h : DevR w d mb s fs) {x : Nat} (hx : hasD d mb fs x) : x < w.heap.size := by
  rcases hx with rfl | rfl | ⟨r, hr, hx⟩
  · exact h.box.lt
  · exact h.map.lt
  · exact (h.files r hr).lt hx
theorem DevR.keep (h : DevR w d mb s fs) (hs : w.heap.size ≤ w'.heap.size) (hk : ∀ x, hasD d mb fs x → w'.heap[x]? = w.heap[x]?) : DevR w' d mb s fs :=
  ⟨h.box.block hs (hk _ (.inl rfl)), map_blk h.map (hk _ (.inr (.inl rfl))), fun r hr => (h.files r hr).keep hs fun x hx => hk x (.inr (.inr ⟨r, hr, hx⟩)), h.apart, h.out, h.eq, h.dm⟩
theorem DevR.grow (h : DevR w d mb s fs) (hb : Below w.heap.size w w') : DevR w' d mb s fs := h.keep hb.size fun x hx => hb.block x (h.lt hx)
theorem DevW.lt (h : DevW w d S s) {x : Nat} (hx : S x) : x < w.heap.size := by
  obtain ⟨mb, fs, h1, h2⟩ := h
  exact h1.lt ((h2 x).1 hx)
theorem DevW.keep (h : DevW w d S s) (hs : w.heap.size ≤ w'.heap.size) (hk : ∀ x, S x → w'.heap[x]? = w.heap[x]?) : DevW w' d S s := by
  obtain ⟨mb, fs, h1, h2⟩ := h
  exact ⟨mb, fs, h1.keep hs fun x hx => hk x ((h2 x).2 hx), h2⟩
theorem DevW.grow (h : DevW w d S s) (hb : Below w.heap.size w w') : DevW w' d S s := h.keep hb.size fun x hx => hb.block x (h.lt hx)
/-- Another device's operation. -/
theorem DevW.other {S' : Nat → Prop} (h : DevW w d S s) (hc : DChg S' w w') (hS : ∀ x, S x → ¬ S' x) : DevW w' d S s := h.keep hc.size fun x hx => hc.2.2 x (hS x hx) (h.lt hx)
/-- A cell of the device's struct is written. -/
theorem DevR.cell (h : DevR w d mb s fs) {i : Nat} {v : Value} (he : [.int .i64 s.room, .map (some mb), .bool s.down, .bool s.lim, .int .i64 s.left].set i v = [.int .i64 s'.room, .map (some mb), .bool s'.down, .bool s'.lim, .int .i64 s'.left]) (hfs : s'.fs = s.fs) :
    DevR (w.setCell ⟨d, i, none⟩ v) d mb s' fs := by
  have hk : ∀ x, x ≠ d → (w.setCell ⟨d, i, none⟩ v).heap[x]? = w.heap[x]? := fun x hx => Below.heap_setCell _ _ _ x hx
  have hs : w.heap.size ≤ (w.setCell ⟨d, i, none⟩ v).heap.size := ((Below.refl 0 w).setCell (p := ⟨d, i, none⟩) (Nat.zero_le _) v).size
  exact ⟨h.box.put he, map_blk h.map (hk _ fun e => h.dm e.symm), fun r hr => (h.files r hr).keep hs fun x hx => hk x fun e => (h.out r hr).1 (e ▸ hx), h.apart, h.out, hfs.trans h.eq, h.dm⟩
theorem lk_rec (h : DevR w d mb s fs) {n : List UInt8} (hl : lk fs n = some r) : FileAt w r ∧ r ∈ fs ∧ r.name = n := ⟨h.files r (lk_some hl).1, lk_some hl⟩
end
/-! ### the list of contents -/
def lkC (fs : List Fl) (n : List UInt8) : Option Fl := fs.find? fun f => f.name == n
def insC (x : Fl) : List Fl → List Fl
  | [] => [x]
  | y :: r => if bytesBefore x.name y.name then x :: y :: r else y :: insC x r
def delC (fs : List Fl) (n : List UInt8) : List Fl := fs.filter fun f => !(f.name == n)
def updC (fs : List Fl) (n : List UInt8) (x : Fl) : List Fl := fs.map fun f => if f.name == n then x else f
def updF (fs : List FR) (n : List UInt8) (x : FR) : List FR := fs.map fun f => if f.name == n then x else f
theorem lk_fl (n : List UInt8) : ∀ fs : List FR, lkC (fs.map FR.fl) n = (lk fs n).map FR.fl
  | [] => rfl
  | r :: fs => by
    have ih := lk_fl n fs
    unfold lkC lk at ih ⊢
    rw [List.map_cons, List.find?_cons, List.find?_cons]
    have e : (FR.fl r).name = r.name := rfl
    rw [e]
    split
    · rfl
    · exact ih
theorem ins_fl (x : FR) : ∀ l : List FR, (insF x l).map FR.fl = insC x.fl (l.map FR.fl)
  | [] => rfl
  | y :: r => by
    unfold insF
    rw [List.map_cons]
    unfold insC
    have e : bytesBefore x.fl.name y.fl.name = bytesBefore x.name y.name := rfl
    rw [e]
    split
    · rfl
    · rw [List.map_cons, ins_fl x r]
theorem del_fl (n : List UInt8) (l : List FR) : (delF l n).map FR.fl = delC (l.map FR.fl) n := by
  unfold delF delC
  rw [List.filter_map]
  rfl
theorem put_fl (x : FR) (l : List FR) : (putF l x).map FR.fl = insC x.fl (delC (l.map FR.fl) x.name) := by
  unfold putF
  rw [ins_fl, del_fl]
theorem upd_fl (n : List UInt8) (x : FR) (l : List FR) : (updF l n x).map FR.fl = updC (l.map FR.fl) n x.fl := by
  unfold updF updC
  rw [List.map_map, List.map_map]
  apply List.map_congr_left
  intro r _
  show FR.fl (if (r.name == n) = true then x else r) = if (r.fl.name == n) = true then x.fl else r.fl
  have e : r.fl.name = r.name := rfl
  rw [e]
  split <;> rfl
theorem upd_dat {fs : List FR} {n : List UInt8} {r x : FR} (hl : lk fs n = some r) (hn : x.name = n) (hb : x.fb = r.fb) (hu : fs.Pairwise fun a b => a.name ≠ b.name) : dat (updF fs n x) = dat fs := by
  unfold dat updF
  rw [List.map_map]
  congr 1
  apply List.map_congr_left
  intro f hf
  show FR.ent (if (f.name == n) = true then x else f) = FR.ent f
  split
  · rename_i he
    have he' : f.name = n := by simpa using he
    obtain ⟨hrm, hrn⟩ := lk_some hl
    have : f = r := by
      obtain ⟨i, hi, rfl⟩ := List.getElem_of_mem hf
      obtain ⟨j, hj, rfl⟩ := List.getElem_of_mem hrm
      rcases Nat.lt_trichotomy i j with h | h | h
      · exact absurd (he'.trans hrn.symm) (List.pairwise_iff_getElem.1 hu i j hi hj h)
      · subst h; rfl
      · exact absurd (hrn.trans he'.symm) (List.pairwise_iff_getElem.1 hu j i hj hi h)
    subst this
    unfold FR.ent
    rw [hb, hn, he']
  · rfl
theorem upd_len (fs : List FR) (n : List UInt8) (x : FR) : (updF fs n x).length = fs.length := by unfold updF; rw [List.length_map]
theorem upd_mem {fs : List FR} {n : List UInt8} {x y : FR} (h : y ∈ updF fs n x) : y = x ∨ y ∈ fs ∧ y.name ≠ n := by
  unfold updF at h
  obtain ⟨f, hf, rfl⟩ := List.mem_map.1 h
  split
  · exact .inl rfl
  · rename_i he
    exact .inr ⟨hf, by simpa using he⟩
theorem before_irr (a : List UInt8) : bytesBefore a a = false := Go.WideShapes.before_irrefl (.string a)
end Go.Proofs.YtbafnlccpbonmaaGreatDoor

namespace Go.Proofs.YtbafnlccpbonmaaGreatDoor
set_option linter.unusedVariables false
set_option linter.unnecessarySimpa false
set_option linter.unusedSimpArgs false
open Go.RowKit

section
variable {w w' : World} {d mb : Nat} {s s' : Ds} {fs : List FR} {r q : FR} {S : Nat → Prop}
theorem names_ne (h : DevR w d mb s fs) : fs.Pairwise fun a b => a.name ≠ b.name :=
  (own_rise h.map Tryz.underlying9).imp fun {a b} hab e => by rw [e, before_irr] at hab; cases hab
theorem DevR.chg (h : DevR w d mb s fs) (hS : ∀ x, S x ↔ hasD d mb fs x) (h' : DevR w' d mb s' fs) (hc : DChg S w w') : ∃ S', DevW w' d S' s' ∧ (∀ x, S' x → S x ∨ w.heap.size ≤ x) ∧ DChg S w w' :=
  ⟨S, ⟨mb, fs, h', hS⟩, fun x hx => .inl hx, hc⟩
/-- What an operation leaves. -/
def RetD (d : Nat) (S : Nat → Prop) (s' : Ds) (w w' : World) : Prop := ∃ S', DevW w' d S' s' ∧ (∀ x, S' x → S x ∨ w.heap.size ≤ x) ∧ DChg S w w'
theorem RetD.of_below (h : DevW w d S s) (hb : Below w.heap.size w w') : RetD d S s w w' := ⟨S, h.grow hb, fun x hx => .inl hx, DChg.of_below hb⟩
set_option maxRecDepth 20000 in set_option maxHeartbeats 400000 in
theorem new_bad (n : Int) (h : n < 0 ∨ 1099511627776 < n) : Calls Tryz.prog 24 #[.int .i64 n] w fun e w' => e = .returned (.tuple #[.pointer none, .int .i64 2]) ∧ Below w.heap.size w w' := by
  go_enter Tryz.func24, Tryz.ntmps24
  rcases h with h | h
  · go_wp2_with fail
    exact bodyPost_ret (v := .tuple #[.pointer none, .int .i64 2]) (by simp only [results, Tryz.results24]; go_simp) rfl ⟨rfl, by repeat (first | with_reducible assumption | with_reducible exact G.refl _ | with_reducible refine G.drew ?_ | with_reducible refine G.drewN ?_ _ | with_reducible refine G.alloc ?_ _ | with_reducible refine Below.setCell ?_ (by first | (simp; done) | (simp; omega)) _ | with_reducible refine G.trans ?_ hb12 | with_reducible refine G.trans ?_ hb11 | with_reducible refine G.trans ?_ hb10 | with_reducible refine G.trans ?_ hb9 | with_reducible refine G.trans ?_ hb8 | with_reducible refine G.trans ?_ hb7 | with_reducible refine G.trans ?_ hb6 | with_reducible refine G.trans ?_ hb5 | with_reducible refine G.trans ?_ hb4 | with_reducible refine G.trans ?_ hb3 | with_reducible refine G.trans ?_ hb2 | with_reducible refine G.trans ?_ hb1 | with_reducible refine G.trans ?_ hb | assumption)⟩
  · have h' : ¬ n < 0 := by omega
    go_wp2_with fail
    exact bodyPost_ret (v := .tuple #[.pointer none, .int .i64 2]) (by simp only [results, Tryz.results24]; go_simp) rfl ⟨rfl, by repeat (first | with_reducible assumption | with_reducible exact G.refl _ | with_reducible refine G.drew ?_ | with_reducible refine G.drewN ?_ _ | with_reducible refine G.alloc ?_ _ | with_reducible refine Below.setCell ?_ (by first | (simp; done) | (simp; omega)) _ | with_reducible refine G.trans ?_ hb12 | with_reducible refine G.trans ?_ hb11 | with_reducible refine G.trans ?_ hb10 | with_reducible refine G.trans ?_ hb9 | with_reducible refine G.trans ?_ hb8 | with_reducible refine G.trans ?_ hb7 | with_reducible refine G.trans ?_ hb6 | with_reducible refine G.trans ?_ hb5 | with_reducible refine G.trans ?_ hb4 | with_reducible refine G.trans ?_ hb3 | with_reducible refine G.trans ?_ hb2 | with_reducible refine G.trans ?_ hb1 | with_reducible refine G.trans ?_ hb | assumption)⟩
def newD (n : Int) : Ds := ⟨n, false, false, 0, []⟩
def RetNew (n : Int) (w : World) (e : Ending) (w' : World) : Prop := ∃ d S, e = .returned (.tuple #[.pointer (some ⟨d, 0, none⟩), .int .i64 0]) ∧ DevW w' d S (newD n) ∧ (∀ x, S x → w.heap.size ≤ x) ∧ Below w.heap.size w w'
set_option maxRecDepth 20000 in set_option maxHeartbeats 400000 in
theorem new_any (n : Int) (h0 : 0 ≤ n) (h1 : n ≤ 1099511627776) : Calls Tryz.prog 24 #[.int .i64 n] w (RetNew n w) := by
  have h0' : ¬ n < 0 := by omega
  have h1' : ¬ 1099511627776 < n := by omega
  have hmm := @run_makeMap Tryz.prog
  go_enter Tryz.func24, Tryz.ntmps24
  go_wp2_with fail
  refine bodyPost_ret (v := .tuple #[.pointer (some ⟨w.heap.size + 1, 0, none⟩), .int .i64 0]) (by simp only [results, Tryz.results24]; go_simp) rfl ⟨w.heap.size + 1, hasD (w.heap.size + 1) w.heap.size [], rfl, ⟨w.heap.size, [], ⟨Bx.new (by simp) rfl, ?_, fun r hr => (List.not_mem_nil hr).elim, List.Pairwise.nil, fun r hr => (List.not_mem_nil hr).elim, rfl, by omega⟩, fun x => Iff.rfl⟩, fun x hx => ?_, by repeat (first | with_reducible assumption | with_reducible exact G.refl _ | with_reducible refine G.drew ?_ | with_reducible refine G.drewN ?_ _ | with_reducible refine G.alloc ?_ _ | with_reducible refine Below.setCell ?_ (by first | (simp; done) | (simp; omega)) _ | with_reducible refine G.trans ?_ hb12 | with_reducible refine G.trans ?_ hb11 | with_reducible refine G.trans ?_ hb10 | with_reducible refine G.trans ?_ hb9 | with_reducible refine G.trans ?_ hb8 | with_reducible refine G.trans ?_ hb7 | with_reducible refine G.trans ?_ hb6 | with_reducible refine G.trans ?_ hb5 | with_reducible refine G.trans ?_ hb4 | with_reducible refine G.trans ?_ hb3 | with_reducible refine G.trans ?_ hb2 | with_reducible refine G.trans ?_ hb1 | with_reducible refine G.trans ?_ hb | assumption)⟩
  · exact (World.ownsMap_made w _ _ _).alloc _
  · rcases hx with rfl | rfl | ⟨r, hr, _⟩
    · omega
    · omega
    · exact (List.not_mem_nil hr).elim
/-- check's answer. -/
def chkD (s : Ds) : Int := if s.down then 31 else 0
set_option maxRecDepth 20000 in set_option maxHeartbeats 400000 in
theorem check_nil : Calls Tryz.prog 67 #[.pointer none] w fun e w' => e = .returned (.int .i64 1) ∧ w' = w := by
  go_enter Tryz.func67, Tryz.ntmps67
  go_wp2_with fail
  go_ret
  exact ⟨rfl, rfl⟩
set_option maxRecDepth 20000 in set_option maxHeartbeats 400000 in
theorem check_any (h : DevW w d S s) : Calls Tryz.prog 67 #[.pointer (some ⟨d, 0, none⟩)] w fun e w' => e = .returned (.int .i64 (chkD s)) ∧ w' = w := by
  obtain ⟨mb, fs, hR, hS⟩ := h
  have k2 := (hR.box.2 2 _ rfl).1
  have lt := hR.box.lt
  unfold chkD
  clear hR
  go_enter Tryz.func67, Tryz.ntmps67
  rcases hd : s.down with _ | _
  all_goals rw [hd] at k2
  all_goals (
    go_wp2_with fail
    go_ret
    exact ⟨rfl, rfl⟩)
set_option maxRecDepth 20000 in set_option maxHeartbeats 400000 in
theorem down_any (h : DevW w d S s) : Calls Tryz.prog 45 #[.pointer (some ⟨d, 0, none⟩)] w fun e w' => e = .returned (.bool s.down) ∧ w' = w := by
  obtain ⟨mb, fs, hR, hS⟩ := h
  have k2 := (hR.box.2 2 _ rfl).1
  have lt := hR.box.lt
  clear hR
  go_enter Tryz.func45, Tryz.ntmps45
  go_wp2_with fail
  go_ret
  exact ⟨rfl, rfl⟩
set_option maxRecDepth 20000 in set_option maxHeartbeats 400000 in
theorem crash_any (h : DevW w d S s) : Calls Tryz.prog 43 #[.pointer (some ⟨d, 0, none⟩)] w fun e w' => e = .returned (.tuple #[]) ∧ RetD d S { s with down := true } w w' := by
  obtain ⟨mb, fs, hR, hS⟩ := h
  have k2 := (hR.box.2 2 _ rfl).1
  have f2 := (hR.box.2 2 _ rfl).2
  have lt := hR.box.lt
  have H := Lib.hid hR
  clear hR
  go_enter Tryz.func43, Tryz.ntmps43
  go_wp2_with fail
  go_end0
  exact ⟨rfl, H.out.chg hS (H.out.cell (s' := { s with down := true }) rfl rfl) ((DChg.refl _ _).setCell ((hS _).2 (.inl rfl)) _ _)⟩
def limitD (s : Ds) (n : Int) : Ds := { s with lim := true, left := max 0 n }
set_option maxRecDepth 20000 in set_option maxHeartbeats 400000 in
theorem limit_any (h : DevW w d S s) (n : Int) : Calls Tryz.prog 44 #[.pointer (some ⟨d, 0, none⟩), .int .i64 n] w fun e w' => e = .returned (.tuple #[]) ∧ RetD d S (limitD s n) w w' := by
  obtain ⟨mb, fs, hR, hS⟩ := h
  have k3 := (hR.box.2 3 _ rfl).1
  have k4 := (hR.box.2 4 _ rfl).1
  have f3 := (hR.box.2 3 _ rfl).2
  have f4 := (hR.box.2 4 _ rfl).2
  have lt := hR.box.lt
  have H := Lib.hid hR
  clear hR
  by_cases h0 : n ≤ 0
  · have hm : limitD s n = { s with lim := true, left := 0 } := by unfold limitD; congr 1; omega
    rw [hm]
    clear hm
    go_enter Tryz.func44, Tryz.ntmps44
    go_wp2_with fail
    go_end0
    have h1 := H.out.cell (i := 3) (v := .bool true) (s' := { s with lim := true }) rfl rfl
    exact ⟨rfl, H.out.chg hS (h1.cell (i := 4) (v := .int .i64 0) (s' := { s with lim := true, left := 0 }) rfl rfl) (((DChg.refl _ _).setCell ((hS _).2 (.inl rfl)) _ _).setCell ((hS _).2 (.inl rfl)) _ _)⟩
  · have hm : limitD s n = { s with lim := true, left := n } := by unfold limitD; congr 1; omega
    rw [hm]
    clear hm
    go_enter Tryz.func44, Tryz.ntmps44
    go_wp2_with fail
    go_end0
    have h1 := H.out.cell (i := 3) (v := .bool true) (s' := { s with lim := true }) rfl rfl
    exact ⟨rfl, H.out.chg hS (h1.cell (i := 4) (v := .int .i64 n) (s' := { s with lim := true, left := n }) rfl rfl) (((DChg.refl _ _).setCell ((hS _).2 (.inl rfl)) _ _).setCell ((hS _).2 (.inl rfl)) _ _)⟩
end
end Go.Proofs.YtbafnlccpbonmaaGreatDoor

namespace Go.Proofs.YtbafnlccpbonmaaGreatDoor
set_option linter.unusedVariables false
set_option linter.unnecessarySimpa false
set_option linter.unusedSimpArgs false
open Go.RowKit

theorem u8s_len (l : List UInt8) : (u8s l).length = l.length := by unfold u8s; rw [List.length_map]
theorem u8s_get {l : List UInt8} {i : Nat} {b : UInt8} (h : l[i]? = some b) : (u8s l)[i]? = some (.int .u8 b.toNat) := by unfold u8s; rw [List.getElem?_map, h]; rfl
/-- []byte(s). -/
theorem conv_bytes (w : World) (s : ByteArray) : ∃ C W, (convert 9 34 (.string s)).run Tryz.prog w = .ok (.slice (some ⟨w.heap.size, 0, none⟩) s.size C) W ∧ Below w.heap.size w W ∧ Sl W (some ⟨w.heap.size, 0, none⟩) s.size (u8s s.data.toList) := by
  refine ⟨_, _, Lib.run_convert_string_bytes w 9 34 5 s Tryz.underlying9 Tryz.underlying34 Tryz.underlying5, Joins.below_bytesWorld _ _ _ _ (Nat.le_refl _), ⟨?_, fun hn => ⟨w.heap.size, 0, rfl, by rw [Lib.bytesWorld_size]; omega, fun j u hu => ?_⟩⟩⟩
  · rw [u8s_len]; rfl
  · unfold u8s at hu
    rw [List.getElem?_map] at hu
    rcases hb : s.data.toList[j]? with _ | b
    · rw [hb] at hu; cases hu
    · rw [hb] at hu
      have hj : j < s.size := (List.getElem?_eq_some_iff.1 hb).1
      have := Lib.bytesWorld_cell w 5 s j hj
      rw [Nat.zero_add, this]
      have e : s.data.toList.getD j 0 = b := by rw [List.getD, hb]; rfl
      rw [e]
      exact hu
def badB (c : UInt8) : Bool := decide (c.toNat < 33) || decide (126 < c.toNat)
set_option maxRecDepth 20000 in set_option maxHeartbeats 400000 in
theorem badB_any (w : World) (c : UInt8) : Calls Tryz.prog 98 #[.int .u8 c.toNat] w fun e w' => e = .returned (.bool (badB c)) ∧ w' = w := by
  have hb : badB c = (decide ((c.toNat : Int) < 33) || decide (126 < (c.toNat : Int))) := by unfold badB; congr 1 <;> exact decide_eq_decide.2 (by omega)
  rw [hb]
  generalize (c.toNat : Int) = x
  go_enter Tryz.func98, Tryz.ntmps98
  by_cases h1 : x < 33
  · go_wp2_with fail
    go_ret
    exact ⟨by simp [h1], rfl⟩
  · by_cases h2 : 126 < x
    · go_wp2_with fail
      go_ret
      exact ⟨by simp [h2], rfl⟩
    · go_wp2_with fail
      go_ret
      exact ⟨by simp [h1, h2], rfl⟩
def RetIx (l : List UInt8) (w : World) (e : Ending) (w' : World) : Prop := (∃ r : Int, e = .returned (.int .i64 r) ∧ ((l.any badB = true ∧ 0 ≤ r) ∨ (l.any badB = false ∧ r < 0))) ∧ Below w.heap.size w w'
set_option maxRecDepth 20000 in set_option maxHeartbeats 1000000 in
theorem indexB_any {w : World} {A : Option Addr} {n c : Nat} {l : List UInt8} (hx : Sl w A n (u8s l)) (hn : n ≤ maxLen) :
    Calls Tryz.prog 124 #[.slice A n c, .func (.func 98) #[] #[]] w (RetIx l w) := by
  have hl : l.length = n := by have := hx.1; rwa [u8s_len] at this
  unfold maxLen at hn
  replace hl := Lib.hid hl
  go_enter Tryz.func124, Tryz.ntmps124
  go_wp2_with fail
  go_loopw [8] (fun iv wr => ∃ i : Nat, i ≤ n ∧ iv = .int .i64 i ∧ Hid ((l.take i).any badB = false) ∧ Below w.heap.size w wr) (fun iv _ => n - (intOf iv).toNat)
  case atStart => exact ⟨0, Nat.zero_le _, rfl, by unfold Hid; rfl, G.refl _⟩
  case round =>
    obtain ⟨i, hi, rfl, hno, hbr⟩ := hrel
    by_cases hlt : i < n
    · obtain ⟨b, hb⟩ : ∃ b, l[i]? = some b := ⟨_, List.getElem?_eq_getElem (by rw [hl.out]; exact hlt)⟩
      obtain ⟨bx, ox, hA, hbl, hc⟩ := (hx.grow hbr).2 (by omega)
      subst hA
      have hcx := hc i _ (u8s_get hb)
      have hs : Hid ((l.take (i + 1)).any badB = badB b) := by
        unfold Hid
        rw [List.take_add_one, hb, List.any_append, hno.out]
        simp
      replace hb := Lib.hid hb
      clear hc
      go_wp2_with fail
      refine (badB_any _ b).mono ?_
      rintro e w2 ⟨rfl, hw⟩
      subst hw
      rcases hbb : badB b with _ | _
      · go_wp2_with fail
        go_roundw
        case rel => exact ⟨i + 1, by omega, by go_num, by unfold Hid; rw [hs.out, hbb], hbr⟩
        case measure => simp [intOf]; omega
      · replace hbb := Lib.hid hbb
        go_wp2_with fail
        go_ret
        refine ⟨⟨i, rfl, .inl ⟨?_, by omega⟩⟩, hbr⟩
        have h1 := hs.out
        rw [hbb.out] at h1
        obtain ⟨x, hx, hxb⟩ := List.any_eq_true.1 h1
        exact List.any_eq_true.2 ⟨x, List.mem_of_mem_take hx, hxb⟩
    · obtain rfl : i = n := by omega
      have hno' := hno.out
      rw [List.take_of_length_le (by rw [hl.out]; exact Nat.le_refl _)] at hno'
      replace hno' := Lib.hid hno'
      go_wp2_with fail
      go_ret
      exact ⟨⟨-1, rfl, .inr ⟨hno'.out, by omega⟩⟩, hbr⟩
set_option maxRecDepth 20000 in set_option maxHeartbeats 400000 in
theorem containsB_any {w : World} {A : Option Addr} {n c : Nat} {l : List UInt8} (hx : Sl w A n (u8s l)) (hn : n ≤ maxLen) :
    Calls Tryz.prog 97 #[.slice A n c, .func (.func 98) #[] #[]] w fun e w' => e = .returned (.bool (l.any badB)) ∧ Below w.heap.size w w' := by
  go_enter Tryz.func97, Tryz.ntmps97
  go_wp2_with fail
  refine (indexB_any hx hn).mono ?_
  rintro e w2 ⟨⟨r, rfl, hr⟩, hb⟩
  rcases hr with ⟨h1, h2⟩ | ⟨h1, h2⟩
  · go_wp2_with fail
    go_ret
    exact ⟨by rw [h1]; rfl, hb⟩
  · have h2' : ¬ 0 ≤ r := by omega
    go_wp2_with fail
    go_ret
    exact ⟨by rw [h1]; exact congrArg (fun b => Ending.returned (.bool b)) (decide_eq_false (Int.not_le.2 h2)), hb⟩
/-- A file name. -/
def okName (n : List UInt8) : Bool := decide (n ≠ []) && (decide (n.length ≤ 64) && !n.any badB)
set_option maxRecDepth 20000 in set_option maxHeartbeats 1000000 in
theorem named_any (w : World) (s : ByteArray) : Calls Tryz.prog 77 #[.string s] w fun e w' => e = .returned (.bool (okName s.data.toList)) ∧ Below w.heap.size w w' := by
  have hsz : s.data.toList.length = s.size := rfl
  obtain ⟨C, W, hcv, hbW, hsl⟩ := conv_bytes w s
  by_cases h0 : s.data.toList = []
  · have hr : okName s.data.toList = false := by unfold okName; simp [h0]
    rw [hr]
    have he : s = ⟨#[]⟩ := by
      apply ByteArray.ext
      apply Array.ext'
      exact h0
    subst he
    clear hcv
    go_enter Tryz.func77, Tryz.ntmps77
    go_wp2_with fail
    go_ret
    exact ⟨rfl, by repeat (first | with_reducible assumption | with_reducible exact G.refl _ | with_reducible refine G.drew ?_ | with_reducible refine G.drewN ?_ _ | with_reducible refine G.alloc ?_ _ | with_reducible refine Below.setCell ?_ (by first | (simp; done) | (simp; omega)) _ | with_reducible refine G.trans ?_ hb12 | with_reducible refine G.trans ?_ hb11 | with_reducible refine G.trans ?_ hb10 | with_reducible refine G.trans ?_ hb9 | with_reducible refine G.trans ?_ hb8 | with_reducible refine G.trans ?_ hb7 | with_reducible refine G.trans ?_ hb6 | with_reducible refine G.trans ?_ hb5 | with_reducible refine G.trans ?_ hb4 | with_reducible refine G.trans ?_ hb3 | with_reducible refine G.trans ?_ hb2 | with_reducible refine G.trans ?_ hb1 | with_reducible refine G.trans ?_ hb | assumption)⟩
  · have he : s.toList.isEmpty = false := by rw [ByteArray.toList_eq]; simpa using h0
    by_cases h1 : s.size ≤ 64
    · have hr : okName s.data.toList = !s.data.toList.any badB := by unfold okName; rw [hsz]; simp [h0, h1]
      rw [hr]
      have CB := Lib.hid (fun W A c hx => containsB_any (w := W) (A := A) (n := s.size) (c := c) (l := s.data.toList) hx (by unfold maxLen; omega))
      generalize s.data.toList.any badB = v at *
      have h1' : (s.size : Int) ≤ 64 := by omega
      replace hbW := Lib.hid hbW
      replace hsl := Lib.hid hsl
      clear h0 hr
      go_enter Tryz.func77, Tryz.ntmps77
      go_wp2_with fail
      refine (CB.out _ _ _ hsl.out).mono ?_
      rintro e w2 ⟨rfl, hb⟩
      go_wp2_with fail
      go_ret
      exact ⟨rfl, G.trans hbW.out hb⟩
    · have hr : okName s.data.toList = false := by unfold okName; rw [hsz]; simp [h1]
      rw [hr]
      have h1' : ¬ (s.size : Int) ≤ 64 := by omega
      clear hcv h0 hr
      go_enter Tryz.func77, Tryz.ntmps77
      go_wp2_with fail
      go_ret
      exact ⟨rfl, by repeat (first | with_reducible assumption | with_reducible exact G.refl _ | with_reducible refine G.drew ?_ | with_reducible refine G.drewN ?_ _ | with_reducible refine G.alloc ?_ _ | with_reducible refine Below.setCell ?_ (by first | (simp; done) | (simp; omega)) _ | with_reducible refine G.trans ?_ hb12 | with_reducible refine G.trans ?_ hb11 | with_reducible refine G.trans ?_ hb10 | with_reducible refine G.trans ?_ hb9 | with_reducible refine G.trans ?_ hb8 | with_reducible refine G.trans ?_ hb7 | with_reducible refine G.trans ?_ hb6 | with_reducible refine G.trans ?_ hb5 | with_reducible refine G.trans ?_ hb4 | with_reducible refine G.trans ?_ hb3 | with_reducible refine G.trans ?_ hb2 | with_reducible refine G.trans ?_ hb1 | with_reducible refine G.trans ?_ hb | assumption)⟩
end Go.Proofs.YtbafnlccpbonmaaGreatDoor

namespace Go.Proofs.YtbafnlccpbonmaaGreatDoor
set_option linter.unusedVariables false
set_option linter.unnecessarySimpa false
set_option linter.unusedSimpArgs false
open Go.RowKit

/-- The bytes of all files. -/
def usedC (fs : List Fl) : Nat := (fs.map fun f => f.data.length).sum
theorem used_fl (fs : List FR) : usedC (fs.map FR.fl) = sumF fs := by
  unfold usedC sumF
  rw [List.map_map]
  rfl
theorem sum_le {fs : List FR} {r : FR} (h : r ∈ fs) : r.data.length ≤ sumF fs := by
  unfold sumF
  induction fs with
  | nil => exact (List.not_mem_nil h).elim
  | cons a fs ih =>
    rw [List.map_cons, List.sum_cons]
    rcases List.mem_cons.1 h with rfl | h
    · omega
    · have := ih h; omega
section
variable {w w' : World} {d mb : Nat} {s s' : Ds} {fs : List FR} {r q : FR} {S : Nat → Prop}
set_option maxRecDepth 20000 in set_option maxHeartbeats 1000000 in
theorem used_any (h : DevW w d S s) (hu : usedC s.fs ≤ 1099511627776) : Calls Tryz.prog 94 #[.pointer (some ⟨d, 0, none⟩)] w fun e w' => e = .returned (.int .i64 (usedC s.fs)) ∧ Below w.heap.size w w' := by
  obtain ⟨mb, fs, hR, hS⟩ := h
  have k1 := (hR.box.2 1 _ rfl).1
  have lt := hR.box.lt
  have hne := Lib.hid (names_ne hR)
  have hown := hR.map
  have hfl := Lib.hid hR.files
  rw [hR.eq, used_fl] at hu ⊢
  clear hR
  go_enter Tryz.func94, Tryz.ntmps94
  go_wp2_with (first
    | (at_range; refine wpList_range_own _ rfl _ 95 rfl 9 111 (Maps.string_keyed Tryz.underlying9) Tryz.underlying95 _ mb fs.length _ rfl hown ?_; intro w0 hrg0 hg0 hs0)
    | fail)
  go_frame
  go_loopw [3] (fun tv wr => ∃ (left : Lit → Bool) (cnt : Nat), wr.ranges Tryz.prog 9 ptrElem mb w.heap.size fs.length (dat fs) left cnt ∧ tv = .int .i64 (doneL left fs) ∧ Below w.heap.size w wr) (fun _ wr => wr.rangeLeft mb w.heap.size)
  case atStart => exact ⟨_, _, hrg0, by rw [doneL_start]; rfl, (Below.refl _ _).grown hg0 (Nat.le_refl _) (fun j hj => by cases hj)⟩
  case round =>
    obtain ⟨left, cnt, hrg, rfl, hbr⟩ := hrel
    go_wp2_with (first
      | (at_next; refine wpList_next_fs rfl _ rfl 9 Tryz.underlying9 mb w.heap.size fs.length fs left cnt rfl hrg ?_ ?_)
      | fail)
    · intro hl0
      rw [doneL_end hl0]
      go_wp2_with fail
      go_ret
      exact ⟨rfl, hbr⟩
    · intro x sb w1 cnt1 hx hsb hsm hlx hrg1 hlt hg1 hs1 hen
      have hb1 : Below w.heap.size w w1 := hbr.grown hg1 hbr.size (fun j hj => by cases hj; exact Nat.le_refl _)
      have hF := (hfl.out x hx).keep (w' := w1) hb1.size fun y hy => hb1.block y ((hfl.out x hx).lt hy)
      have c0 := (hF.box.2 0 _ rfl).1
      have ltc := hF.box.lt
      have hv : x.val = .slice x.A x.data.length x.cap := rfl
      rw [hv] at c0
      have hst := Lib.hid (doneL_step hlx fs hne.out hx)
      have hle := doneL_le left fs
      have hle2 := sum_le hx
      have hw1 : IntKind.i64.wrap ((doneL left fs : Int) + (x.data.length : Int)) = ((doneL left fs + x.data.length : Nat) : Int) := by rw [IntWalk.i64_in _ (by omega)]; omega
      have hw2 : IntKind.i64.wrap (x.data.length : Int) = (x.data.length : Int) := IntWalk.i64_in _ (by omega)
      clear hF hv
      go_wp2_with fail
      go_roundw
      case rel => exact ⟨_, cnt1, hrg1, by rw [hst.out, Int.natCast_add], hb1⟩
      case measure => rw [hrg1.left_eq, hrg.left_eq]; exact hlt
/-- What holds of a device's state. -/
structure Ds.Ok (s : Ds) : Prop where
  r0 : 0 ≤ s.room
  r1 : s.room ≤ 1099511627776
  us : (usedC s.fs : Int) ≤ s.room
  cnt : s.fs.length ≤ 4096
  sz : ∀ f ∈ s.fs, f.data.length ≤ 16777216
  du : ∀ f ∈ s.fs, f.dur ≤ f.data.length
def freeD (s : Ds) : Int := if s.down then 0 else s.room - usedC s.fs
set_option maxRecDepth 20000 in set_option maxHeartbeats 1000000 in
theorem free_any (h : DevW w d S s) (ho : s.Ok) : Calls Tryz.prog 71 #[.pointer (some ⟨d, 0, none⟩)] w fun e w' => e = .returned (.int .i64 (freeD s)) ∧ Below w.heap.size w w' := by
  have H := Lib.hid h
  have CK := Lib.hid (check_any h)
  have h1 := ho.us
  have h2 := ho.r1
  have h3 := ho.r0
  have UA := Lib.hid (fun (w2 : World) (hw : DevW w2 d S s) => used_any hw (by omega))
  obtain ⟨mb, fs, hR, hS⟩ := h
  have k0 := (hR.box.2 0 _ rfl).1
  have lt := hR.box.lt
  unfold freeD
  unfold chkD at CK
  clear hR
  rcases hd : s.down with _ | _
  · rw [hd] at CK
    have hw1 : IntKind.i64.wrap (s.room - (usedC s.fs : Int)) = s.room - (usedC s.fs : Int) := IntWalk.i64_in _ (by omega)
    generalize (usedC s.fs : Int) = u at *
    generalize s.room = rm at *
    replace hd := Lib.hid hd
    go_enter Tryz.func71, Tryz.ntmps71
    go_wp2_with fail
    refine CK.out.mono ?_
    rintro e w2 ⟨rfl, hw⟩
    subst hw
    go_wp2_with fail
    refine wp_region_ord [(0, 1), (1, 1), (2, 1), (3, 1), (4, 1), (5, 2), (6, 1), (7, 1)] [] 5 (by kernel_rfl) (by decide +kernel) ?_
    simp only [pickO, List.append_eq, List.cons_append, List.nil_append, List.getElem?_cons_succ, List.getElem?_cons_zero]
    intro w0 hG
    (repeat ((first | (with_reducible refine ord_q1 ?_) | (with_reducible refine ord_q0 ?_)); intro K hK; first | (refine Or.inr ⟨?_, ?_⟩; (focus (go_simp; first | done | (simp [undef]; done))); go_simp; (with_reducible refine hK _ ?_); clear hK K) | (refine Or.inl ⟨?_, ?_⟩; (focus (go_simp; done)); apply Exists.intro; refine And.intro ?_ ?_; (focus (first | (intro wq hq; obtain ⟨hcq, hfq⟩ := G.old hq; go_simp; (first | done | exact rfl); done) | (intro wq; go_simp; (first | done | exact rfl); done))); go_simp; (with_reducible refine hK _ ?_); clear hK K) | fail))
    (with_reducible refine ord_run ?_ hG)
    intro K hK
    go_simp
    go_at_call 94; (with_reducible refine (UA.out _ (H.out.grow hG.b)).mono ?_); rintro e w3 ⟨rfl, hb⟩
    replace hG := Grew.trans hG hb
    (try dsimp only)
    (with_reducible refine hK _ _ hG ?_)
    clear hK K
    (repeat ((first | (with_reducible refine ord_q1 ?_) | (with_reducible refine ord_q0 ?_)); intro K hK; first | (refine Or.inr ⟨?_, ?_⟩; (focus (go_simp; first | done | (simp [undef]; done))); go_simp; (with_reducible refine hK _ ?_); clear hK K) | (refine Or.inl ⟨?_, ?_⟩; (focus (go_simp; done)); apply Exists.intro; refine And.intro ?_ ?_; (focus (first | (intro wq hq; obtain ⟨hcq, hfq⟩ := G.old hq; go_simp; (first | done | exact rfl); done) | (intro wq; go_simp; (first | done | exact rfl); done))); go_simp; (with_reducible refine hK _ ?_); clear hK K) | fail))
    (with_reducible refine ord_nil ?_)
    go_wp2_with fail
    go_ret
    exact ⟨rfl, hG.b⟩
  · rw [hd] at CK
    replace hd := Lib.hid hd
    go_enter Tryz.func71, Tryz.ntmps71
    go_wp2_with fail
    refine CK.out.mono ?_
    rintro e w2 ⟨rfl, hw⟩
    subst hw
    go_wp2_with fail
    go_ret
    exact ⟨rfl, G.refl _⟩
end
end Go.Proofs.YtbafnlccpbonmaaGreatDoor

namespace Go.Proofs.YtbafnlccpbonmaaGreatDoor
set_option linter.unusedVariables false
set_option linter.unnecessarySimpa false
set_option linter.unusedSimpArgs false
open Go.RowKit

section
variable {w w' : World} {d mb : Nat} {s s' : Ds} {fs : List FR} {r q x : FR} {S : Nat → Prop} {n : List UInt8}
theorem DevR.apartM (h : DevR w d mb s fs) (hr : r ∈ fs) (hq : q ∈ fs) (hne : r.name ≠ q.name) : ∀ z, r.has z → ¬ q.has z := by
  obtain ⟨i, hi, rfl⟩ := List.getElem_of_mem hr
  obtain ⟨j, hj, rfl⟩ := List.getElem_of_mem hq
  intro z h1 h2
  rcases Nat.lt_trichotomy i j with hij | rfl | hij
  · exact List.pairwise_iff_getElem.1 h.apart i j hi hj hij z h1 h2
  · exact hne rfl
  · exact List.pairwise_iff_getElem.1 h.apart j i hj hi hij z h2 h1
theorem DevR.same (h : DevR w d mb s fs) (hr : r ∈ fs) (hq : q ∈ fs) (e : r.name = q.name) : r = q := by
  have hu := names_ne h
  obtain ⟨i, hi, rfl⟩ := List.getElem_of_mem hr
  obtain ⟨j, hj, rfl⟩ := List.getElem_of_mem hq
  rcases Nat.lt_trichotomy i j with hij | rfl | hij
  · exact absurd e (List.pairwise_iff_getElem.1 hu i j hi hj hij)
  · rfl
  · exact absurd e.symm (List.pairwise_iff_getElem.1 hu j i hj hi hij)
/-- One file's contents change. -/
theorem DevR.file (h : DevR w d mb s fs) (hl : lk fs n = some r) (hn : x.name = n) (hb : x.fb = r.fb) (hs : w.heap.size ≤ w'.heap.size) (hk : ∀ y, y < w.heap.size → ¬ r.has y → w'.heap[y]? = w.heap[y]?) (hF : FileAt w' x)
    (hrow : ∀ y, x.val.ownBlock = some y → r.val.ownBlock = some y ∨ w.heap.size ≤ y) : DevR w' d mb { s with fs := updC s.fs n x.fl } (updF fs n x) := by
  obtain ⟨hrm, hrn⟩ := lk_some hl
  have hx : ∀ z, x.has z → r.has z ∨ w.heap.size ≤ z := fun z hz => by
    rcases hz with rfl | hz
    · exact .inl (.inl hb)
    · rcases hrow z hz with h1 | h1
      · exact .inl (.inr h1)
      · exact .inr h1
  have hlt : ∀ y ∈ fs, ∀ z, y.has z → z < w.heap.size := fun y hy z hz => (h.files y hy).lt hz
  have hoth : ∀ y ∈ fs, y.name ≠ n → ∀ z, y.has z → ¬ r.has z := fun y hy hyn => h.apartM hy hrm (by rw [hrn]; exact hyn)
  refine ⟨h.box.block hs (hk d h.box.lt (h.out r hrm).1), ?_, fun y hy => ?_, ?_, fun y hy => ?_, ?_, h.dm⟩
  · rw [upd_len, upd_dat hl hn hb (names_ne h)]
    exact map_blk h.map (hk mb h.map.lt (h.out r hrm).2)
  · rcases upd_mem hy with rfl | ⟨hy, hyn⟩
    · exact hF
    · exact (h.files y hy).keep hs fun z hz => hk z (hlt y hy z hz) (hoth y hy hyn z hz)
  · unfold updF
    rw [List.pairwise_map]
    refine List.Pairwise.imp_of_mem ?_ (h.apart.and (names_ne h))
    rintro a b ha hb' ⟨hab, hne⟩ z h1 h2
    by_cases han : a.name = n
    · have hbn : b.name ≠ n := fun e => hne (han.trans e.symm)
      have e1 : (a.name == n) = true := by simpa using han
      have e2 : (b.name == n) = false := by simpa using hbn
      rw [e1, if_pos rfl] at h1
      rw [e2, if_neg (by simp)] at h2
      rcases hx z h1 with h3 | h3
      · exact hoth b hb' hbn z h2 h3
      · have := hlt b hb' z h2; omega
    · have e1 : (a.name == n) = false := by simpa using han
      rw [e1, if_neg (by simp)] at h1
      by_cases hbn : b.name = n
      · have e2 : (b.name == n) = true := by simpa using hbn
        rw [e2, if_pos rfl] at h2
        rcases hx z h2 with h3 | h3
        · exact hoth a ha han z h1 h3
        · have := hlt a ha z h1; omega
      · have e2 : (b.name == n) = false := by simpa using hbn
        rw [e2, if_neg (by simp)] at h2
        exact hab z h1 h2
  · rcases upd_mem hy with rfl | ⟨hy, _⟩
    · refine ⟨fun hz => ?_, fun hz => ?_⟩
      · rcases hx d hz with h3 | h3
        · exact (h.out r hrm).1 h3
        · have := h.box.lt; omega
      · rcases hx mb hz with h3 | h3
        · exact (h.out r hrm).2 h3
        · have := h.map.lt; omega
    · exact h.out y hy
  · show updC s.fs n x.fl = _
    rw [h.eq, upd_fl]
theorem upd_has (hx : ∀ z, x.has z → (∃ q ∈ fs, q.has z) ∨ w.heap.size ≤ z) : ∀ z, hasD d mb (updF fs n x) z → hasD d mb fs z ∨ w.heap.size ≤ z := fun z hz => by
  rcases hz with rfl | rfl | ⟨y, hy, hz⟩
  · exact .inl (.inl rfl)
  · exact .inl (.inr (.inl rfl))
  · rcases upd_mem hy with rfl | ⟨hy, _⟩
    · rcases hx z hz with h3 | h3
      · exact .inl (.inr (.inr h3))
      · exact .inr h3
    · exact .inl (.inr (.inr ⟨y, hy, hz⟩))
theorem RetD.file (h : DevR w d mb s fs) (hS : ∀ z, S z ↔ hasD d mb fs z) (hl : lk fs n = some r) (hn : x.name = n) (hb : x.fb = r.fb) (hc : DChg (fun z => r.has z) w w') (hF : FileAt w' x)
    (hrow : ∀ y, x.val.ownBlock = some y → r.val.ownBlock = some y ∨ w.heap.size ≤ y) : RetD d S { s with fs := updC s.fs n x.fl } w w' := by
  have hrm := (lk_some hl).1
  refine ⟨_, ⟨mb, _, h.file hl hn hb hc.size (fun y hy hno => hc.2.2 y hno hy) hF hrow, fun z => Iff.rfl⟩, fun z hz => ?_, hc.mono fun z hz => (hS z).2 (.inr (.inr ⟨r, hrm, hz⟩))⟩
  have hx : ∀ z, x.has z → (∃ q ∈ fs, q.has z) ∨ w.heap.size ≤ z := fun z hz => by
    rcases hz with rfl | hz
    · exact .inl ⟨r, hrm, .inl hb⟩
    · rcases hrow z hz with h1 | h1
      · exact .inl ⟨r, hrm, .inr h1⟩
      · exact .inr h1
  rcases upd_has hx z hz with h3 | h3
  · exact .inl ((hS z).2 h3)
  · exact .inr h3
/-- A file is put into the map. -/
theorem DevR.put (h : DevR w d mb s fs) (hF : FileAt w x) (hx : ∀ z, x.has z → ¬ hasD d mb fs z) (ht : w.mapTurned w' mb) (hm : w'.ownsMap Tryz.prog 9 ptrElem mb (putF fs x).length (dat (putF fs x))) :
    DevR w' d mb { s with fs := insC x.fl (delC s.fs x.name) } (putF fs x) := by
  have hg := ht.grown
  have hk : ∀ z, z < w.heap.size → z ≠ mb → w'.heap[z]? = w.heap[z]? := fun z hz hne => hg.block z hz fun e => hne (by cases e; rfl)
  have hd : ∀ y ∈ delF fs x.name, y ∈ fs := fun y hy => (delF_mem.1 hy).1
  refine ⟨h.box.block hg.size (hk d h.box.lt h.dm), hm, fun y hy => ?_, ?_, fun y hy => ?_, ?_, h.dm⟩
  · rcases putF_mem.1 hy with rfl | ⟨hy, _⟩
    · exact hF.keep hg.size fun z hz => hk z (hF.lt hz) fun e => hx z hz (.inr (.inl e))
    · exact (h.files y hy).keep hg.size fun z hz => hk z ((h.files y hy).lt hz) fun e => (h.out y hy).2 (e ▸ hz)
  · unfold putF
    refine ((insF_perm x _).pairwise_iff (fun {a b} hab z h1 h2 => hab z h2 h1)).2 (List.pairwise_cons.2 ⟨fun y hy z h1 h2 => hx z h1 (.inr (.inr ⟨y, hd y hy, h2⟩)), ?_⟩)
    exact h.apart.sublist (List.filter_sublist)
  · rcases putF_mem.1 hy with rfl | ⟨hy, _⟩
    · exact ⟨fun hz => hx _ hz (.inl rfl), fun hz => hx _ hz (.inr (.inl rfl))⟩
    · exact h.out y hy
  · show insC x.fl (delC s.fs x.name) = _
    rw [put_fl, h.eq]
/-- A file leaves the map. -/
theorem DevR.del (h : DevR w d mb s fs) (ht : w.mapTurned w' mb) (hm : w'.ownsMap Tryz.prog 9 ptrElem mb (delF fs n).length (dat (delF fs n))) : DevR w' d mb { s with fs := delC s.fs n } (delF fs n) := by
  have hg := ht.grown
  have hk : ∀ z, z < w.heap.size → z ≠ mb → w'.heap[z]? = w.heap[z]? := fun z hz hne => hg.block z hz fun e => hne (by cases e; rfl)
  have hd : ∀ y ∈ delF fs n, y ∈ fs := fun y hy => (delF_mem.1 hy).1
  refine ⟨h.box.block hg.size (hk d h.box.lt h.dm), hm, fun y hy => (h.files y (hd y hy)).keep hg.size fun z hz => hk z ((h.files y (hd y hy)).lt hz) fun e => (h.out y (hd y hy)).2 (e ▸ hz), h.apart.sublist (List.filter_sublist), fun y hy => h.out y (hd y hy), ?_, h.dm⟩
  show delC s.fs n = _
  rw [del_fl, h.eq]
end
end Go.Proofs.YtbafnlccpbonmaaGreatDoor
