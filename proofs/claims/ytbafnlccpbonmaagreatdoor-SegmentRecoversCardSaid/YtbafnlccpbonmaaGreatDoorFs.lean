/- Maps from strings to pointers, as a list of records in the keys' order. -/
import Derived.Test.YtbafnlccpbonmaaGreatDoorBase
import Derived.Maps.Own
import Derived.Maps.OwnSet
import Derived.Maps.RangeWalk
import Derived.Maps.Ext
namespace Go.Proofs.YtbafnlccpbonmaaGreatDoor
set_option linter.unusedVariables false
set_option linter.unnecessarySimpa false
set_option linter.unusedSimpArgs false
open Go.RowKit

/-- How a pointer to a block of its own reads. -/
def ptrElem : Value → Option (DataW Unit × List MemPlace)
  | .pointer none => some (.nil, [])
  | .pointer (some ⟨b, 0, none⟩) => some (.lit (.int .u64 b), [])
  | _ => none
theorem ptrElem_inv {v : Value} {z : DataW Unit × List MemPlace} (h : ptrElem v = some z) : (v = .pointer none ∧ z = (.nil, [])) ∨ ∃ b : Nat, v = .pointer (some ⟨b, 0, none⟩) ∧ z = (.lit (.int .u64 b), []) := by
  unfold ptrElem at h
  split at h
  · cases h; exact .inl ⟨rfl, rfl⟩
  · cases h; exact .inr ⟨_, rfl, rfl⟩
  · cases h
/-- A file: its name, its block, its bytes' slice, how many of them are durable. -/
structure FR where
  name : List UInt8
  fb : Nat
  A : Option Addr
  cap : Nat
  data : List UInt8
  dur : Nat
def FR.ent (r : FR) : Lit × DataW Unit := (.string r.name, .lit (.int .u64 r.fb))
def dat (fs : List FR) : DataW Unit := .map (fs.map FR.ent)
def lk (fs : List FR) (n : List UInt8) : Option FR := fs.find? fun r => r.name == n
def ptrV : Option FR → Value
  | none => .pointer none
  | some r => .pointer (some ⟨r.fb, 0, none⟩)
theorem same_str (a b : List UInt8) : (Lit.string a).sameKey (.string b) = (a == b) := rfl
theorem before_str (a b : List UInt8) : (Lit.string a).before (.string b) = bytesBefore a b := rfl
theorem find_ent (n : List UInt8) : ∀ fs : List FR, (fs.map FR.ent).find? (fun p => p.1.sameKey (.string n)) = (lk fs n).map FR.ent
  | [] => rfl
  | r :: fs => by
    have ih := find_ent n fs
    unfold lk at ih ⊢
    rw [List.map_cons, List.find?_cons, List.find?_cons]
    have e : (FR.ent r).1.sameKey (.string n) = (r.name == n) := rfl
    rw [e]
    split
    · rfl
    · exact ih
theorem atKey_dat (fs : List FR) (n : List UInt8) (z : DataW Unit) : (dat fs).atKey (.string n) z = match lk fs n with | some r => .lit (.int .u64 r.fb) | none => z := by
  unfold dat DataW.atKey
  simp only
  rw [find_ent]
  rcases lk fs n with _ | r <;> rfl
theorem size_dat (fs : List FR) : Maps.size (dat fs) = fs.length := by unfold dat Maps.size; simp
theorem has_dat (fs : List FR) (n : List UInt8) : Maps.has (dat fs) (.string n) = (lk fs n).isSome := by
  show (fs.map FR.ent).any (fun p => p.1.sameKey (.string n)) = (lk fs n).isSome
  unfold lk
  rw [List.any_map]
  induction fs with
  | nil => rfl
  | cons r fs ih =>
    rw [List.any_cons, List.find?_cons]
    have e : ((fun p : Lit × DataW Unit => p.1.sameKey (.string n)) ∘ FR.ent) r = (r.name == n) := rfl
    rw [e]
    rcases h : r.name == n
    · simpa using ih
    · rfl
def insF (x : FR) : List FR → List FR
  | [] => [x]
  | y :: r => if bytesBefore x.name y.name then x :: y :: r else y :: insF x r
def delF (fs : List FR) (n : List UInt8) : List FR := fs.filter fun r => !(r.name == n)
def putF (fs : List FR) (x : FR) : List FR := insF x (delF fs x.name)
theorem insF_ent (x : FR) : ∀ l : List FR, (insF x l).map FR.ent = DataW.insert x.ent (l.map FR.ent)
  | [] => rfl
  | y :: r => by
    unfold insF
    rw [List.map_cons]
    unfold DataW.insert
    have e : x.ent.1.before y.ent.1 = bytesBefore x.name y.name := rfl
    rw [e]
    split
    · rfl
    · rw [List.map_cons, insF_ent x r]
theorem delF_ent (n : List UInt8) (l : List FR) : (delF l n).map FR.ent = (l.map FR.ent).filter fun p => !p.1.sameKey (.string n) := by
  unfold delF
  rw [List.filter_map]
  rfl
theorem del_dat (fs : List FR) (n : List UInt8) : (dat fs).del (.string n) = dat (delF fs n) := by
  unfold dat DataW.del
  simp only
  rw [delF_ent]
theorem put_dat (fs : List FR) (x : FR) : (dat fs).put (.string x.name) (.lit (.int .u64 x.fb)) = dat (putF fs x) := by
  unfold dat DataW.put putF
  simp only
  rw [insF_ent, delF_ent]
  rfl
theorem insF_perm (x : FR) : ∀ l : List FR, (insF x l).Perm (x :: l)
  | [] => List.Perm.refl _
  | y :: r => by
    unfold insF
    split
    · exact List.Perm.refl _
    · exact ((insF_perm x r).cons y).trans (List.Perm.swap x y r)
theorem putF_mem {fs : List FR} {x y : FR} : y ∈ putF fs x ↔ y = x ∨ y ∈ fs ∧ y.name ≠ x.name := by
  unfold putF
  rw [(insF_perm x _).mem_iff, List.mem_cons]
  unfold delF
  rw [List.mem_filter]
  simp
theorem delF_mem {fs : List FR} {n : List UInt8} {y : FR} : y ∈ delF fs n ↔ y ∈ fs ∧ y.name ≠ n := by
  unfold delF
  rw [List.mem_filter]
  simp
theorem lk_some {fs : List FR} {n : List UInt8} {r : FR} (h : lk fs n = some r) : r ∈ fs ∧ r.name = n := by
  unfold lk at h
  exact ⟨List.mem_of_find?_eq_some h, by have := List.find?_some h; simpa using this⟩
theorem lk_none {fs : List FR} {n : List UInt8} (h : lk fs n = none) : ∀ r ∈ fs, r.name ≠ n := fun r hr e => by
  unfold lk at h
  have := List.find?_eq_none.1 h r hr
  simp [e] at this
section
variable {P : Program} {K : TypeId} {w : World} {b n : Nat} {fs : List FR}
/-- files[name]. -/
theorem look_fs {t e : TypeId} (h : w.ownsMap P K ptrElem b n (dat fs)) (hk : P.underlying K = some .string) (ht : P.underlying t = some (.map K e)) (hz : (zeroValue e).run P w = .ok (.pointer none) w) {s : ByteArray} (hs : s.size ≤ maxLen) :
    (Instr.lookup t (.map (some b)) (.string s) false).run P w = .ok (ptrV (lk fs s.data.toList)) w := by
  obtain ⟨v, ps, hrun, hv⟩ := h.lookup (Maps.string_keyed hk) ht hz (zd := .nil) (zp := []) rfl (Go.WideMaps.keyOf_string_mk hk hs)
  rw [atKey_dat] at hv
  rw [hrun]
  congr 1
  rcases hl : lk fs s.data.toList with _ | r
  · rw [hl] at hv
    rcases ptrElem_inv hv with ⟨rfl, _⟩ | ⟨b', rfl, hz'⟩
    · rfl
    · cases hz'
  · rw [hl] at hv
    rcases ptrElem_inv hv with ⟨rfl, hz'⟩ | ⟨b', rfl, hz'⟩
    · cases hz'
    · simp only [Prod.mk.injEq, DataW.lit.injEq, Lit.int.injEq, true_and, and_true] at hz'
      have : r.fb = b' := by omega
      rw [← this]
      rfl
/-- The bound on the number of entries is that number. -/
theorem own_len (h : w.ownsMap P K ptrElem b n (dat fs)) : w.ownsMap P K ptrElem b fs.length (dat fs) := by
  obtain ⟨es, clock, hb, F, hs, hD⟩ := h
  refine ⟨es, clock, hb, F, ?_, hD⟩
  have := congrArg Maps.size hD
  rw [size_dat] at this
  rw [this]
  simp [Maps.size, length_sorted]
/-- len(files). -/
theorem len_fs {t e : TypeId} (h : w.ownsMap P K ptrElem b n (dat fs)) (ht : P.underlying t = some (.map K e)) (ty : TypeId) : (Builtin.len_ #[t] ty #[.map (some b)]).run P w = .ok (.int .i64 fs.length) w := by
  rw [h.len ht ty, size_dat]
/-- delete(files, name). -/
theorem drop_fs {t e : TypeId} (h : w.ownsMap P K ptrElem b n (dat fs)) (hk : P.underlying K = some .string) (ht : P.underlying t = some (.map K e)) {s : ByteArray} (hs : s.size ≤ maxLen) (ty : TypeId) :
    ∃ w', (Builtin.delete_ #[t, K] ty #[.map (some b), .string s]).run P w = .ok (.tuple #[]) w' ∧ w'.ownsMap P K ptrElem b (delF fs s.data.toList).length (dat (delF fs s.data.toList)) ∧ w.mapTurned w' b := by
  obtain ⟨w', h1, h2, h3⟩ := h.drop (Maps.string_keyed hk) ht (Go.WideMaps.keyOf_string_mk hk hs) ty
  rw [del_dat] at h2
  exact ⟨w', h1, own_len h2, h3⟩
/-- files[name] = p. -/
theorem store_fs {t e : TypeId} (h : w.ownsMap P K ptrElem b n (dat fs)) (hk : P.underlying K = some .string) (ht : P.underlying t = some (.map K e)) (hn : n < maxLen) {s : ByteArray} (hs : s.size ≤ maxLen) (x : FR) (hx : x.name = s.data.toList) :
    ∃ w', (Instr.mapUpdate t (.map (some b)) (.string s) (.pointer (some ⟨x.fb, 0, none⟩))).run P w = .ok () w' ∧ w'.ownsMap P K ptrElem b (putF fs x).length (dat (putF fs x)) ∧ w.mapTurned w' b := by
  obtain ⟨w', h1, h2, h3⟩ := h.store (Maps.string_keyed hk) ht hn (Go.WideMaps.keyOf_string_mk hk hs) (val := .pointer (some ⟨x.fb, 0, none⟩)) (d := .lit (.int .u64 x.fb)) (ps := []) rfl
  rw [← hx, put_dat] at h2
  exact ⟨w', h1, own_len h2, h3⟩
/-- What is told of the list by the map. -/
theorem own_rise (h : w.ownsMap P K ptrElem b n (dat fs)) (hk : P.underlying K = some .string) : fs.Pairwise fun x y => bytesBefore x.name y.name = true := by
  obtain ⟨es, hD, h1, h2⟩ := h.canon (Maps.string_keyed hk)
  unfold dat at hD
  cases hD
  rw [List.pairwise_map] at h1
  exact h1
theorem own_names (h : w.ownsMap P K ptrElem b n (dat fs)) (hk : P.underlying K = some .string) : ∀ x ∈ fs, x.name.length ≤ maxLen := by
  intro x hx
  obtain ⟨es, clock, hb, F, hs, hD⟩ := h
  unfold dat at hD
  have hm : x.ent ∈ (es.toList.map (Go.WideElems.rg P K ptrElem)).foldr DataW.insert [] := by
    have := List.mem_map_of_mem (f := FR.ent) hx
    injection hD with hD
    rw [← hD]
    exact this
  obtain ⟨y, hy, hye⟩ := List.mem_map.1 (mem_sorted.1 hm)
  obtain ⟨z, hz⟩ := F.reads y hy
  rw [Go.WideElems.rg_of hz] at hye
  obtain ⟨s, h1, h2⟩ := Go.WideMaps.string_of_keyOf hk (Go.WideElems.rd_key hz)
  have e1 : z.1 = Lit.string x.name := by rw [hye]; rfl
  rw [e1] at h2
  have h3 := h2.1
  injection h3 with h3
  rw [h3]
  have h5 : s.data.toList.length = s.size := rfl
  rw [h5]
  exact h2.2
end
def ptrO : Option Nat → Value
  | none => .pointer none
  | some b => .pointer (some ⟨b, 0, none⟩)
/-- The next file in the range's order. -/
theorem wpList_next_fs {P : Program} {ops : Array Oper} {rest : List Oper} {o : Oper} {a : Act} {Q : Exit → Act → World → Prop} {w : World} (hg : o.guard = none) (it : Operand) (hop : o.op = Op.next it false) (K : TypeId) (hk : P.underlying K = some .string)
    (b r n : Nat) (fs : List FR) (left : Lit → Bool) (cnt : Nat) (hit : a.eval it = .pointer (some ⟨r, 0, none⟩)) (h : w.ranges P K ptrElem b r n (dat fs) left cnt)
    (hDone : (∀ kl, left kl = false) → wpList P ops Q rest (a.put o.dst (.tuple #[.bool false])) w)
    (hMore : ∀ (x : FR) (s : ByteArray) (w' : World) (cnt' : Nat), x ∈ fs → s.data.toList = x.name → s.size ≤ maxLen → left (.string x.name) = true → w'.ranges P K ptrElem b r n (dat fs) (fun z => left z && !z.sameKey (.string x.name)) cnt' → cnt' < cnt →
      w.grownBy w' (some r) → w'.heap.size = w.heap.size → (Instr.entry (.pointer (some ⟨r, 0, none⟩))).run P w' = .ok (.tuple #[.string s, .pointer (some ⟨x.fb, 0, none⟩)]) w' →
      wpList P ops Q rest (a.put o.dst (.tuple #[.bool true, .string s, .pointer (some ⟨x.fb, 0, none⟩)])) w') :
    wpList P ops Q (o :: rest) a w := by
  refine wpList_next_ranges w hg it hop K (Maps.string_keyed hk) ptrElem Value.string ptrO (fun key kl hkey => ?_) (fun v y hv => ?_) b r n (dat fs) left cnt hit h (fun _ hl => hDone hl) (fun s c kl y w' cnt' hkey hlk hv hat hrg hlt hgr hsz hen => ?_)
  · obtain ⟨s, rfl, _⟩ := Go.WideMaps.string_of_keyOf hk hkey
    exact ⟨s, rfl⟩
  · rcases ptrElem_inv hv with ⟨rfl, _⟩ | ⟨b', rfl, _⟩
    · exact ⟨none, rfl⟩
    · exact ⟨some b', rfl⟩
  · obtain ⟨s', e, rfl, hs⟩ := Go.WideMaps.string_of_keyOf hk hkey
    cases e
    have h1 := hat .nil
    have h2 := hat (.lit (.bool true))
    rw [atKey_dat] at h1 h2
    rcases hl : lk fs s.data.toList with _ | x
    · rw [hl] at h1 h2
      simp only at h1 h2
      rw [← h1] at h2
      cases h2
    · rw [hl] at h1
      obtain ⟨hx, hxn⟩ := lk_some hl
      simp only at h1
      have hc : c = some x.fb := by
        rcases c with _ | b'
        · have : ptrElem (.pointer none) = some y := hv
          cases this
          cases h1
        · have : ptrElem (.pointer (some ⟨b', 0, none⟩)) = some y := hv
          cases this
          simp only [DataW.lit.injEq, Lit.int.injEq, true_and] at h1
          have : x.fb = b' := by omega
          rw [this]
      subst hc
      rw [← hxn] at hlk hrg
      exact hMore x s w' cnt' hx hxn.symm hs hlk hrg hlt hgr hsz hen
/-- The sum of the sizes of the files that have come. -/
def doneL (left : Lit → Bool) (fs : List FR) : Nat := ((fs.filter fun r => !left (.string r.name)).map fun r => r.data.length).sum
def sumF (fs : List FR) : Nat := (fs.map fun r => r.data.length).sum
theorem doneL_start (fs : List FR) : doneL (Maps.has (dat fs)) fs = 0 := by
  unfold doneL
  have : fs.filter (fun r => !Maps.has (dat fs) (.string r.name)) = [] := by
    rw [List.filter_eq_nil_iff]
    intro r hr
    rw [has_dat]
    rcases h : lk fs r.name with _ | x
    · exact absurd rfl (lk_none h r hr)
    · simp
  rw [this]
  rfl
theorem doneL_end {left : Lit → Bool} (h : ∀ kl, left kl = false) (fs : List FR) : doneL left fs = sumF fs := by
  unfold doneL sumF
  rw [List.filter_eq_self.2 fun r _ => by rw [h]; rfl]
theorem doneL_step {left : Lit → Bool} {x : FR} (hl : left (.string x.name) = true) : ∀ fs : List FR, (fs.Pairwise fun a b => a.name ≠ b.name) → x ∈ fs →
    doneL (fun z => left z && !z.sameKey (.string x.name)) fs = doneL left fs + x.data.length
  | [], _, hx => (List.not_mem_nil hx).elim
  | r :: fs, hu, hx => by
    obtain ⟨h1, h2⟩ := List.pairwise_cons.1 hu
    have hne : ∀ q : FR, q.name ≠ x.name → (left (.string q.name) && !(Lit.string q.name).sameKey (.string x.name)) = left (.string q.name) := fun q hq => by
      have : (Lit.string q.name).sameKey (.string x.name) = false := by rw [same_str]; simpa using hq
      rw [this]; simp
    have hself : (left (.string x.name) && !(Lit.string x.name).sameKey (.string x.name)) = false := by rw [same_str]; simp
    unfold doneL
    rw [List.filter_cons, List.filter_cons]
    dsimp only
    rcases List.mem_cons.1 hx with rfl | hx'
    · have hss : (Lit.string x.name).sameKey (.string x.name) = true := by rw [same_str]; simp
      simp only [hl, hss, Bool.not_true, Bool.not_false, Bool.and_false, if_true, Bool.false_eq_true, if_false, List.map_cons, List.sum_cons]
      have : fs.filter (fun r => !(left (.string r.name) && !(Lit.string r.name).sameKey (.string x.name))) = fs.filter fun r => !left (.string r.name) := by
        apply List.filter_congr
        intro q hq
        rw [hne q fun e => h1 q hq e.symm]
      rw [this]
      omega
    · have hr : r.name ≠ x.name := h1 x hx'
      have ih := doneL_step hl fs h2 hx'
      unfold doneL at ih
      dsimp only at ih
      simp only [hne r hr]
      rcases hlr : left (.string r.name)
      · simp only [Bool.not_false, if_true, List.map_cons, List.sum_cons]
        rw [ih]
        omega
      · simp only [Bool.not_true, Bool.false_eq_true, if_false]
        exact ih
theorem doneL_le (left : Lit → Bool) : ∀ fs : List FR, doneL left fs ≤ sumF fs
  | [] => Nat.le_refl _
  | r :: fs => by
    have ih := doneL_le left fs
    unfold doneL sumF at ih ⊢
    rw [List.filter_cons]
    split
    · simp only [List.map_cons, List.sum_cons]; omega
    · simp only [List.map_cons, List.sum_cons]; omega
end Go.Proofs.YtbafnlccpbonmaaGreatDoor
