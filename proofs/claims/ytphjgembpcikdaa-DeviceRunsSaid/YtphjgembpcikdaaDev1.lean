/- device: a device in memory. -/
import Derived.Test.YtphjgembpcikdaaDev0
namespace Go.Proofs.Ytphjgembpcikdaa
set_option linter.unusedVariables false
set_option linter.unnecessarySimpa false
set_option linter.unusedSimpArgs false
open Go.RowKit

/-- A file's contents; a device's state. -/
structure Fl where
  name : List UInt8
  data : List UInt8
  dur : Nat
structure Ds where
  room : Int
  down : Bool
  lim : Bool
  left : Int
  fs : List Fl
def FR.fl (r : FR) : Fl := ⟨r.name, r.data, r.dur⟩
def u8s (l : List UInt8) : List Value := l.map fun b => .int .u8 b.toNat
def FR.val (r : FR) : Value := .slice r.A r.data.length r.cap
def FR.has (r : FR) (x : Nat) : Prop := x = r.fb ∨ r.val.ownBlock = some x
structure FileAt (w : World) (r : FR) : Prop where
  box : Bx w r.fb [r.val, .int .i64 r.dur]
  row : w.ownsRow 0 5 1 r.val r.data.length (u8s r.data)
  ne : r.val.ownBlock ≠ some r.fb
structure DevR (w : World) (d mb : Nat) (s : Ds) (fs : List FR) : Prop where
  box : Bx w d [.int .i64 s.room, .map (some mb), .bool s.down, .bool s.lim, .int .i64 s.left]
  map : w.ownsMap Try.prog 9 ptrElem mb fs.length (dat fs)
  files : ∀ r ∈ fs, FileAt w r
  apart : fs.Pairwise fun r q => ∀ x, r.has x → ¬ q.has x
  out : ∀ r ∈ fs, ¬ r.has d ∧ ¬ r.has mb
  eq : s.fs = fs.map FR.fl
  dm : d ≠ mb
def hasD (d mb : Nat) (fs : List FR) (x : Nat) : Prop := x = d ∨ x = mb ∨ ∃ r ∈ fs, r.has x
/-- The device at d, in the state s; its blocks are S. -/
def DevW (w : World) (d : Nat) (S : Nat → Prop) (s : Ds) : Prop := ∃ mb fs, DevR w d mb s fs ∧ ∀ x, S x ↔ hasD d mb fs x
/-- At most the blocks S have changed. -/
def DChg (S : Nat → Prop) (w w' : World) : Prop := Below 0 w w' ∧ Keeps (fun x => ¬ S x) w w'
theorem DChg.refl (S : Nat → Prop) (w : World) : DChg S w w := ⟨Below.refl _ _, Keeps.refl _ _⟩
theorem DChg.of_below {S : Nat → Prop} {w w' : World} (h : Below w.heap.size w w') : DChg S w w' := ⟨h.mono (Nat.zero_le _), Keeps.of_below h⟩
theorem DChg.trans {S S' : Nat → Prop} {a b c : World} (h : DChg S a b) (k : DChg S' b c) (hS : ∀ x, S' x → S x ∨ a.heap.size ≤ x) : DChg S a c :=
  ⟨h.1.trans k.1, Nat.le_trans h.2.1 k.2.1, fun x hx hl => (k.2.2 x (fun hh => by rcases hS x hh with h1 | h1; exact hx h1; omega) (Nat.lt_of_lt_of_le hl h.2.1)).trans (h.2.2 x hx hl)⟩
theorem DChg.size {S : Nat → Prop} {w w' : World} (h : DChg S w w') : w.heap.size ≤ w'.heap.size := h.2.1
theorem DChg.mono {S S' : Nat → Prop} {w w' : World} (h : DChg S w w') (hS : ∀ x, S x → S' x) : DChg S' w w' := ⟨h.1, h.2.mono fun x hx hh => hx (hS x hh)⟩
theorem DChg.setCell {S : Nat → Prop} {a w : World} (h : DChg S a w) {b : Nat} (hb : S b) (i : Nat) (v : Value) : DChg S a (w.setCell ⟨b, i, none⟩ v) := ⟨h.1.setCell (Nat.zero_le _) _, h.2.setCell (fun hh => hh hb) _⟩
theorem DChg.alloc {S : Nat → Prop} {a w : World} (h : DChg S a w) (o : Obj) : DChg S a (w.alloc o) := h.trans (DChg.of_below (S := S) (G.alloc (G.refl _) o)) fun x hx => .inl hx
theorem DChg.turned {S : Nat → Prop} {w w' : World} {b : Nat} (h : w.mapTurned w' b) (hb : S b) : DChg S w w' := by
  have hg := h.grown
  exact ⟨⟨hg.os, hg.tape, hg.output, hg.size, fun k hk => absurd hk (Nat.not_lt_zero _)⟩, hg.size, fun x hx hl => hg.block x hl fun e => by cases e; exact hx hb⟩
theorem DChg.below {S : Nat → Prop} {L : Nat} {w w' : World} (h : DChg S w w') (hS : ∀ x, S x → L ≤ x) (hL : L ≤ w.heap.size) : Below L w w' :=
  ⟨h.1.os, h.1.tape, h.1.output, h.1.size, fun k hk => h.2.2 k (fun hh => by have := hS k hh; omega) (by omega)⟩

theorem own_blk {w w' : World} {base : Nat} {e : TypeId} {size : Nat} {v : Value} {n : Nat} {xs : List Value} (h : w.ownsRow base e size v n xs) (hk : ∀ g, v.ownBlock = some g → w'.heap[g]? = w.heap[g]?) : w'.ownsRow base e size v n xs := by
  refine ⟨h.1, ?_⟩
  rcases h.2 with h0 | ⟨g, cap, cur, hv, hg, hh, hr⟩
  · exact .inl h0
  · refine .inr ⟨g, cap, cur, hv, hg, ?_, hr⟩
    rw [hk g (by rw [hv]; rfl)]
    exact hh
theorem map_blk {w w' : World} {P : Program} {K : TypeId} {b n : Nat} {D : DataW Unit} (h : w.ownsMap P K ptrElem b n D) (hk : w'.heap[b]? = w.heap[b]?) : w'.ownsMap P K ptrElem b n D := by
  obtain ⟨es, clock, hb, F, hs, hD⟩ := h
  exact ⟨es, clock, hk.trans hb, F, hs, hD⟩
section
variable {w w' : World} {d mb : Nat} {s s' : Ds} {fs : List FR} {r q : FR} {S : Nat → Prop}
theorem FileAt.lt (h : FileAt w r) {x : Nat} (hx : r.has x) : x < w.heap.size := by
  rcases hx with rfl | hx
  · exact h.box.lt
  · exact (h.row.lt x hx).2
theorem FileAt.keep (h : FileAt w r) (hs : w.heap.size ≤ w'.heap.size) (hk : ∀ x, r.has x → w'.heap[x]? = w.heap[x]?) : FileAt w' r :=
  ⟨h.box.block hs (hk _ (.inl rfl)), own_blk h.row fun g hg => hk g (.inr hg), h.ne⟩
theorem DevR.lt (h : DevR w d mb s fs) {x : Nat} (hx : hasD d mb fs x) : x < w.heap.size := by
  rcases hx with rfl | rfl | ⟨r, hr, hx⟩
  · exact h.box.lt
  · exact h.map.lt
  · exact (h.files r hr).lt hx
theorem DevR.keep (h : DevR w d mb s fs) (hs : w.heap.size ≤ w'.heap.size) (hk : ∀ x, hasD d mb fs x → w'.heap[x]? = w.heap[x]?) : DevR w' d mb s fs :=
  ⟨h.box.block hs (hk _ (.inl rfl)), map_blk h.map (hk _ (.inr (.inl rfl))), fun r hr => (h.files r hr).keep hs fun x hx => hk x (.inr (.inr ⟨r, hr, hx⟩)), h.apart, h.out, h.eq, h.dm⟩
theorem DevR.grow (h : DevR w d mb s fs) (hb : Below w.heap.size w w') : DevR w' d mb s fs := h.keep hb.size fun x hx => hb.block x (h.lt hx)
theorem DevW.lt (h : DevW w d S s) {x : Nat} (hx : S x) : x < w.heap.size := by
  obtain ⟨mb, fs, h1, h2⟩ := h
  exact h1.lt ((h2 x).1 hx)
theorem DevW.keep (h : DevW w d S s) (hs : w.heap.size ≤ w'.heap.size) (hk : ∀ x, S x → w'.heap[x]? = w.heap[x]?) : DevW w' d S s := by
  obtain ⟨mb, fs, h1, h2⟩ := h
  exact ⟨mb, fs, h1.keep hs fun x hx => hk x ((h2 x).2 hx), h2⟩
theorem DevW.grow (h : DevW w d S s) (hb : Below w.heap.size w w') : DevW w' d S s := h.keep hb.size fun x hx => hb.block x (h.lt hx)
/-- Another device's operation. -/
theorem DevW.other {S' : Nat → Prop} (h : DevW w d S s) (hc : DChg S' w w') (hS : ∀ x, S x → ¬ S' x) : DevW w' d S s := h.keep hc.size fun x hx => hc.2.2 x (hS x hx) (h.lt hx)
/-- A cell of the device's struct is written. -/
theorem DevR.cell (h : DevR w d mb s fs) {i : Nat} {v : Value} (he : [.int .i64 s.room, .map (some mb), .bool s.down, .bool s.lim, .int .i64 s.left].set i v = [.int .i64 s'.room, .map (some mb), .bool s'.down, .bool s'.lim, .int .i64 s'.left]) (hfs : s'.fs = s.fs) :
    DevR (w.setCell ⟨d, i, none⟩ v) d mb s' fs := by
  have hk : ∀ x, x ≠ d → (w.setCell ⟨d, i, none⟩ v).heap[x]? = w.heap[x]? := fun x hx => Below.heap_setCell _ _ _ x hx
  have hs : w.heap.size ≤ (w.setCell ⟨d, i, none⟩ v).heap.size := ((Below.refl 0 w).setCell (p := ⟨d, i, none⟩) (Nat.zero_le _) v).size
  exact ⟨h.box.put he, map_blk h.map (hk _ fun e => h.dm e.symm), fun r hr => (h.files r hr).keep hs fun x hx => hk x fun e => (h.out r hr).1 (e ▸ hx), h.apart, h.out, hfs.trans h.eq, h.dm⟩
theorem lk_rec (h : DevR w d mb s fs) {n : List UInt8} (hl : lk fs n = some r) : FileAt w r ∧ r ∈ fs ∧ r.name = n := ⟨h.files r (lk_some hl).1, lk_some hl⟩
end
/-! ### the list of contents -/
def lkC (fs : List Fl) (n : List UInt8) : Option Fl := fs.find? fun f => f.name == n
def insC (x : Fl) : List Fl → List Fl
  | [] => [x]
  | y :: r => if bytesBefore x.name y.name then x :: y :: r else y :: insC x r
def delC (fs : List Fl) (n : List UInt8) : List Fl := fs.filter fun f => !(f.name == n)
def updC (fs : List Fl) (n : List UInt8) (x : Fl) : List Fl := fs.map fun f => if f.name == n then x else f
def updF (fs : List FR) (n : List UInt8) (x : FR) : List FR := fs.map fun f => if f.name == n then x else f
theorem lk_fl (n : List UInt8) : ∀ fs : List FR, lkC (fs.map FR.fl) n = (lk fs n).map FR.fl
  | [] => rfl
  | r :: fs => by
    have ih := lk_fl n fs
    unfold lkC lk at ih ⊢
    rw [List.map_cons, List.find?_cons, List.find?_cons]
    have e : (FR.fl r).name = r.name := rfl
    rw [e]
    split
    · rfl
    · exact ih
theorem ins_fl (x : FR) : ∀ l : List FR, (insF x l).map FR.fl = insC x.fl (l.map FR.fl)
  | [] => rfl
  | y :: r => by
    unfold insF
    rw [List.map_cons]
    unfold insC
    have e : bytesBefore x.fl.name y.fl.name = bytesBefore x.name y.name := rfl
    rw [e]
    split
    · rfl
    · rw [List.map_cons, ins_fl x r]
theorem del_fl (n : List UInt8) (l : List FR) : (delF l n).map FR.fl = delC (l.map FR.fl) n := by
  unfold delF delC
  rw [List.filter_map]
  rfl
theorem put_fl (x : FR) (l : List FR) : (putF l x).map FR.fl = insC x.fl (delC (l.map FR.fl) x.name) := by
  unfold putF
  rw [ins_fl, del_fl]
theorem upd_fl (n : List UInt8) (x : FR) (l : List FR) : (updF l n x).map FR.fl = updC (l.map FR.fl) n x.fl := by
  unfold updF updC
  rw [List.map_map, List.map_map]
  apply List.map_congr_left
  intro r _
  show FR.fl (if (r.name == n) = true then x else r) = if (r.fl.name == n) = true then x.fl else r.fl
  have e : r.fl.name = r.name := rfl
  rw [e]
  split <;> rfl
theorem upd_dat {fs : List FR} {n : List UInt8} {r x : FR} (hl : lk fs n = some r) (hn : x.name = n) (hb : x.fb = r.fb) (hu : fs.Pairwise fun a b => a.name ≠ b.name) : dat (updF fs n x) = dat fs := by
  unfold dat updF
  rw [List.map_map]
  congr 1
  apply List.map_congr_left
  intro f hf
  show FR.ent (if (f.name == n) = true then x else f) = FR.ent f
  split
  · rename_i he
    have he' : f.name = n := by simpa using he
    obtain ⟨hrm, hrn⟩ := lk_some hl
    have : f = r := by
      obtain ⟨i, hi, rfl⟩ := List.getElem_of_mem hf
      obtain ⟨j, hj, rfl⟩ := List.getElem_of_mem hrm
      rcases Nat.lt_trichotomy i j with h | h | h
      · exact absurd (he'.trans hrn.symm) (List.pairwise_iff_getElem.1 hu i j hi hj h)
      · subst h; rfl
      · exact absurd (hrn.trans he'.symm) (List.pairwise_iff_getElem.1 hu j i hj hi h)
    subst this
    unfold FR.ent
    rw [hb, hn, he']
  · rfl
theorem upd_len (fs : List FR) (n : List UInt8) (x : FR) : (updF fs n x).length = fs.length := by unfold updF; rw [List.length_map]
theorem upd_mem {fs : List FR} {n : List UInt8} {x y : FR} (h : y ∈ updF fs n x) : y = x ∨ y ∈ fs ∧ y.name ≠ n := by
  unfold updF at h
  obtain ⟨f, hf, rfl⟩ := List.mem_map.1 h
  split
  · exact .inl rfl
  · rename_i he
    exact .inr ⟨hf, by simpa using he⟩
theorem before_irr (a : List UInt8) : bytesBefore a a = false := Go.WideShapes.before_irrefl (.string a)
end Go.Proofs.Ytphjgembpcikdaa
