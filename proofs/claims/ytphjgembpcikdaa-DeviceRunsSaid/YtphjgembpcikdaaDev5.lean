/- device: how the state changes. -/
import Derived.Test.YtphjgembpcikdaaDev4
namespace Go.Proofs.Ytphjgembpcikdaa
set_option linter.unusedVariables false
set_option linter.unnecessarySimpa false
set_option linter.unusedSimpArgs false
open Go.RowKit

section
variable {w w' : World} {d mb : Nat} {s s' : Ds} {fs : List FR} {r q x : FR} {S : Nat → Prop} {n : List UInt8}
theorem DevR.apartM (h : DevR w d mb s fs) (hr : r ∈ fs) (hq : q ∈ fs) (hne : r.name ≠ q.name) : ∀ z, r.has z → ¬ q.has z := by
  obtain ⟨i, hi, rfl⟩ := List.getElem_of_mem hr
  obtain ⟨j, hj, rfl⟩ := List.getElem_of_mem hq
  intro z h1 h2
  rcases Nat.lt_trichotomy i j with hij | rfl | hij
  · exact List.pairwise_iff_getElem.1 h.apart i j hi hj hij z h1 h2
  · exact hne rfl
  · exact List.pairwise_iff_getElem.1 h.apart j i hj hi hij z h2 h1
theorem DevR.same (h : DevR w d mb s fs) (hr : r ∈ fs) (hq : q ∈ fs) (e : r.name = q.name) : r = q := by
  have hu := names_ne h
  obtain ⟨i, hi, rfl⟩ := List.getElem_of_mem hr
  obtain ⟨j, hj, rfl⟩ := List.getElem_of_mem hq
  rcases Nat.lt_trichotomy i j with hij | rfl | hij
  · exact absurd e (List.pairwise_iff_getElem.1 hu i j hi hj hij)
  · rfl
  · exact absurd e.symm (List.pairwise_iff_getElem.1 hu j i hj hi hij)
/-- One file's contents change. -/
theorem DevR.file (h : DevR w d mb s fs) (hl : lk fs n = some r) (hn : x.name = n) (hb : x.fb = r.fb) (hs : w.heap.size ≤ w'.heap.size) (hk : ∀ y, y < w.heap.size → ¬ r.has y → w'.heap[y]? = w.heap[y]?) (hF : FileAt w' x)
    (hrow : ∀ y, x.val.ownBlock = some y → r.val.ownBlock = some y ∨ w.heap.size ≤ y) : DevR w' d mb { s with fs := updC s.fs n x.fl } (updF fs n x) := by
  obtain ⟨hrm, hrn⟩ := lk_some hl
  have hx : ∀ z, x.has z → r.has z ∨ w.heap.size ≤ z := fun z hz => by
    rcases hz with rfl | hz
    · exact .inl (.inl hb)
    · rcases hrow z hz with h1 | h1
      · exact .inl (.inr h1)
      · exact .inr h1
  have hlt : ∀ y ∈ fs, ∀ z, y.has z → z < w.heap.size := fun y hy z hz => (h.files y hy).lt hz
  have hoth : ∀ y ∈ fs, y.name ≠ n → ∀ z, y.has z → ¬ r.has z := fun y hy hyn => h.apartM hy hrm (by rw [hrn]; exact hyn)
  refine ⟨h.box.block hs (hk d h.box.lt (h.out r hrm).1), ?_, fun y hy => ?_, ?_, fun y hy => ?_, ?_, h.dm⟩
  · rw [upd_len, upd_dat hl hn hb (names_ne h)]
    exact map_blk h.map (hk mb h.map.lt (h.out r hrm).2)
  · rcases upd_mem hy with rfl | ⟨hy, hyn⟩
    · exact hF
    · exact (h.files y hy).keep hs fun z hz => hk z (hlt y hy z hz) (hoth y hy hyn z hz)
  · unfold updF
    rw [List.pairwise_map]
    refine List.Pairwise.imp_of_mem ?_ (h.apart.and (names_ne h))
    rintro a b ha hb' ⟨hab, hne⟩ z h1 h2
    by_cases han : a.name = n
    · have hbn : b.name ≠ n := fun e => hne (han.trans e.symm)
      have e1 : (a.name == n) = true := by simpa using han
      have e2 : (b.name == n) = false := by simpa using hbn
      rw [e1, if_pos rfl] at h1
      rw [e2, if_neg (by simp)] at h2
      rcases hx z h1 with h3 | h3
      · exact hoth b hb' hbn z h2 h3
      · have := hlt b hb' z h2; omega
    · have e1 : (a.name == n) = false := by simpa using han
      rw [e1, if_neg (by simp)] at h1
      by_cases hbn : b.name = n
      · have e2 : (b.name == n) = true := by simpa using hbn
        rw [e2, if_pos rfl] at h2
        rcases hx z h2 with h3 | h3
        · exact hoth a ha han z h1 h3
        · have := hlt a ha z h1; omega
      · have e2 : (b.name == n) = false := by simpa using hbn
        rw [e2, if_neg (by simp)] at h2
        exact hab z h1 h2
  · rcases upd_mem hy with rfl | ⟨hy, _⟩
    · refine ⟨fun hz => ?_, fun hz => ?_⟩
      · rcases hx d hz with h3 | h3
        · exact (h.out r hrm).1 h3
        · have := h.box.lt; omega
      · rcases hx mb hz with h3 | h3
        · exact (h.out r hrm).2 h3
        · have := h.map.lt; omega
    · exact h.out y hy
  · show updC s.fs n x.fl = _
    rw [h.eq, upd_fl]
theorem upd_has (hx : ∀ z, x.has z → (∃ q ∈ fs, q.has z) ∨ w.heap.size ≤ z) : ∀ z, hasD d mb (updF fs n x) z → hasD d mb fs z ∨ w.heap.size ≤ z := fun z hz => by
  rcases hz with rfl | rfl | ⟨y, hy, hz⟩
  · exact .inl (.inl rfl)
  · exact .inl (.inr (.inl rfl))
  · rcases upd_mem hy with rfl | ⟨hy, _⟩
    · rcases hx z hz with h3 | h3
      · exact .inl (.inr (.inr h3))
      · exact .inr h3
    · exact .inl (.inr (.inr ⟨y, hy, hz⟩))
theorem RetD.file (h : DevR w d mb s fs) (hS : ∀ z, S z ↔ hasD d mb fs z) (hl : lk fs n = some r) (hn : x.name = n) (hb : x.fb = r.fb) (hc : DChg (fun z => r.has z) w w') (hF : FileAt w' x)
    (hrow : ∀ y, x.val.ownBlock = some y → r.val.ownBlock = some y ∨ w.heap.size ≤ y) : RetD d S { s with fs := updC s.fs n x.fl } w w' := by
  have hrm := (lk_some hl).1
  refine ⟨_, ⟨mb, _, h.file hl hn hb hc.size (fun y hy hno => hc.2.2 y hno hy) hF hrow, fun z => Iff.rfl⟩, fun z hz => ?_, hc.mono fun z hz => (hS z).2 (.inr (.inr ⟨r, hrm, hz⟩))⟩
  have hx : ∀ z, x.has z → (∃ q ∈ fs, q.has z) ∨ w.heap.size ≤ z := fun z hz => by
    rcases hz with rfl | hz
    · exact .inl ⟨r, hrm, .inl hb⟩
    · rcases hrow z hz with h1 | h1
      · exact .inl ⟨r, hrm, .inr h1⟩
      · exact .inr h1
  rcases upd_has hx z hz with h3 | h3
  · exact .inl ((hS z).2 h3)
  · exact .inr h3
/-- A file is put into the map. -/
theorem DevR.put (h : DevR w d mb s fs) (hF : FileAt w x) (hx : ∀ z, x.has z → ¬ hasD d mb fs z) (ht : w.mapTurned w' mb) (hm : w'.ownsMap Try.prog 9 ptrElem mb (putF fs x).length (dat (putF fs x))) :
    DevR w' d mb { s with fs := insC x.fl (delC s.fs x.name) } (putF fs x) := by
  have hg := ht.grown
  have hk : ∀ z, z < w.heap.size → z ≠ mb → w'.heap[z]? = w.heap[z]? := fun z hz hne => hg.block z hz fun e => hne (by cases e; rfl)
  have hd : ∀ y ∈ delF fs x.name, y ∈ fs := fun y hy => (delF_mem.1 hy).1
  refine ⟨h.box.block hg.size (hk d h.box.lt h.dm), hm, fun y hy => ?_, ?_, fun y hy => ?_, ?_, h.dm⟩
  · rcases putF_mem.1 hy with rfl | ⟨hy, _⟩
    · exact hF.keep hg.size fun z hz => hk z (hF.lt hz) fun e => hx z hz (.inr (.inl e))
    · exact (h.files y hy).keep hg.size fun z hz => hk z ((h.files y hy).lt hz) fun e => (h.out y hy).2 (e ▸ hz)
  · unfold putF
    refine ((insF_perm x _).pairwise_iff (fun {a b} hab z h1 h2 => hab z h2 h1)).2 (List.pairwise_cons.2 ⟨fun y hy z h1 h2 => hx z h1 (.inr (.inr ⟨y, hd y hy, h2⟩)), ?_⟩)
    exact h.apart.sublist (List.filter_sublist)
  · rcases putF_mem.1 hy with rfl | ⟨hy, _⟩
    · exact ⟨fun hz => hx _ hz (.inl rfl), fun hz => hx _ hz (.inr (.inl rfl))⟩
    · exact h.out y hy
  · show insC x.fl (delC s.fs x.name) = _
    rw [put_fl, h.eq]
/-- A file leaves the map. -/
theorem DevR.del (h : DevR w d mb s fs) (ht : w.mapTurned w' mb) (hm : w'.ownsMap Try.prog 9 ptrElem mb (delF fs n).length (dat (delF fs n))) : DevR w' d mb { s with fs := delC s.fs n } (delF fs n) := by
  have hg := ht.grown
  have hk : ∀ z, z < w.heap.size → z ≠ mb → w'.heap[z]? = w.heap[z]? := fun z hz hne => hg.block z hz fun e => hne (by cases e; rfl)
  have hd : ∀ y ∈ delF fs n, y ∈ fs := fun y hy => (delF_mem.1 hy).1
  refine ⟨h.box.block hg.size (hk d h.box.lt h.dm), hm, fun y hy => (h.files y (hd y hy)).keep hg.size fun z hz => hk z ((h.files y (hd y hy)).lt hz) fun e => (h.out y (hd y hy)).2 (e ▸ hz), h.apart.sublist (List.filter_sublist), fun y hy => h.out y (hd y hy), ?_, h.dm⟩
  show delC s.fs n = _
  rw [del_fl, h.eq]
end
end Go.Proofs.Ytphjgembpcikdaa
