/- device: what each operation keeps (plain). -/
import Derived.Test.YtphjgembpcikdaaDevK
namespace Go.Proofs.Ytphjgembpcikdaa
set_option linter.unusedVariables false
set_option linter.unnecessarySimpa false
set_option linter.unusedSimpArgs false
open Go.RowKit

theorem usedC_cons (x : Fl) (l : List Fl) : usedC (x :: l) = x.data.length + usedC l := by unfold usedC; rw [List.map_cons, List.sum_cons]
theorem ins_perm (x : Fl) : ∀ l : List Fl, (insC x l).Perm (x :: l)
  | [] => List.Perm.refl _
  | y :: r => by
    unfold insC
    split
    · exact List.Perm.refl _
    · exact ((ins_perm x r).cons y).trans (List.Perm.swap x y r)
theorem used_ins (x : Fl) : ∀ l : List Fl, usedC (insC x l) = x.data.length + usedC l
  | [] => usedC_cons _ _
  | y :: r => by
    unfold insC
    split
    · exact usedC_cons _ _
    · rw [usedC_cons, usedC_cons, used_ins x r]; omega
theorem used_del (n : List UInt8) : ∀ l : List Fl, usedC (delC l n) ≤ usedC l
  | [] => Nat.le_refl _
  | y :: r => by
    have ih := used_del n r
    unfold delC at ih ⊢
    rw [List.filter_cons]
    split
    · rw [usedC_cons, usedC_cons]; omega
    · rw [usedC_cons]; omega
/-- No two files have one name. -/
def Uq (l : List Fl) : Prop := l.Pairwise fun a b => a.name ≠ b.name
theorem Uq.ins {x : Fl} {l : List Fl} (h : Uq l) (hx : ∀ y ∈ l, y.name ≠ x.name) : Uq (insC x l) :=
  ((ins_perm x l).pairwise_iff (R := fun a b : Fl => a.name ≠ b.name) (fun h e => h e.symm)).2 (List.pairwise_cons.2 ⟨fun y hy e => hx y hy e.symm, h⟩)
theorem Uq.del {l : List Fl} (h : Uq l) (n : List UInt8) : Uq (delC l n) := List.Pairwise.filter _ h
theorem del_ne {l : List Fl} {n : List UInt8} : ∀ y ∈ delC l n, y.name ≠ n := fun y hy e => by
  have := (List.mem_filter.1 hy).2
  rw [e] at this
  simp at this
theorem Uq.put {l : List Fl} (h : Uq l) (x : Fl) : Uq (putFl l x) := (h.del x.name).ins del_ne
theorem upd_names {l : List Fl} {n : List UInt8} {x : Fl} (hx : x.name = n) : (updC l n x).map Fl.name = l.map Fl.name := by
  unfold updC
  rw [List.map_map]
  refine List.map_congr_left fun y _ => ?_
  show (if (y.name == n) = true then x else y).name = y.name
  split
  · next h => rw [hx]; exact (eq_of_beq h).symm
  · rfl
theorem Uq.upd {l : List Fl} {n : List UInt8} {x : Fl} (h : Uq l) (hx : x.name = n) : Uq (updC l n x) := by
  have h1 : (l.map Fl.name).Pairwise (· ≠ ·) := List.pairwise_map.2 h
  rw [← upd_names hx] at h1
  exact List.pairwise_map.1 h1
theorem upd_none {n : List UInt8} {x : Fl} : ∀ {l : List Fl}, (∀ y ∈ l, y.name ≠ n) → updC l n x = l := fun {l} h => by
  unfold updC
  conv => rhs; rw [← List.map_id l]
  refine List.map_congr_left fun y hy => ?_
  have : (y.name == n) = false := by simpa using h y hy
  rw [this]
  rfl
theorem used_upd {n : List UInt8} {x f : Fl} : ∀ {l : List Fl}, Uq l → lkC l n = some f → usedC (updC l n x) + f.data.length = usedC l + x.data.length
  | [], _, h => by cases h
  | y :: r, hu, h => by
    have hu' := List.pairwise_cons.1 hu
    unfold lkC at h
    rw [List.find?_cons] at h
    rcases hy : (y.name == n) with _ | _
    · rw [hy] at h
      have ih := used_upd (x := x) hu'.2 h
      have e : updC (y :: r) n x = y :: updC r n x := by unfold updC; rw [List.map_cons, hy]; rfl
      rw [e, usedC_cons, usedC_cons]
      omega
    · rw [hy] at h
      obtain rfl : y = f := Option.some.inj h
      have hn := eq_of_beq hy
      have e : updC (y :: r) n x = x :: updC r n x := by unfold updC; rw [List.map_cons, hy]; rfl
      rw [e, upd_none (fun z hz e => hu'.1 z hz (by rw [hn, e])), usedC_cons, usedC_cons]
      omega
/-- Ok, and no name twice. -/
structure Ds.Good (s : Ds) : Prop where
  ok : s.Ok
  uq : Uq s.fs
section
variable {s t : Ds} {nm : List UInt8}
theorem Ds.Good.same (h : s.Good) (h1 : t.room = s.room) (h2 : t.fs = s.fs) : t.Good := by
  obtain ⟨⟨a, b, c, d, e, f⟩, g⟩ := h
  exact ⟨⟨by rw [h1]; exact a, by rw [h1]; exact b, by rw [h1, h2]; exact c, by rw [h2]; exact d, by rw [h2]; exact e, by rw [h2]; exact f⟩, by rw [h2]; exact g⟩
theorem perf_good {f g : Ds → Ds} (hf : (f s).Good) (hg : ∀ t, t.room = (f s).room → t.fs = (f s).fs → (g t).Good) : (perfD s f g).2.Good := by
  unfold perfD
  split
  · exact hf.same rfl rfl
  · exact hg _ rfl rfl
theorem updC_mem {l : List Fl} {n : List UInt8} {x y : Fl} (h : y ∈ updC l n x) : y = x ∨ y ∈ l := by
  unfold updC at h
  obtain ⟨z, hz, rfl⟩ := List.mem_map.1 h
  split
  · exact .inl rfl
  · exact .inr hz
theorem lkC_some {l : List Fl} {n : List UInt8} {f : Fl} (h : lkC l n = some f) : f ∈ l ∧ f.name = n :=
  ⟨List.mem_of_find?_eq_some h, by have := List.find?_some (p := fun f : Fl => f.name == n) h; exact eq_of_beq this⟩
theorem lkC_none {l : List Fl} {n : List UInt8} (h : lkC l n = none) : ∀ y ∈ l, y.name ≠ n := fun y hy e => by
  have := List.find?_eq_none.1 h y hy
  simp [e] at this
theorem Ds.Good.upd {x f : Fl} (h : s.Good) (hl : lkC s.fs nm = some f) (hx : x.name = nm) (h1 : (usedC s.fs : Int) + x.data.length ≤ s.room + f.data.length) (h2 : x.data.length ≤ 16777216) (h3 : x.dur ≤ x.data.length) (hr : t.room = s.room) (hf : t.fs = updC s.fs nm x) : t.Good := by
  obtain ⟨⟨a, b, c, d, e, g⟩, u⟩ := h
  have hu := used_upd (x := x) u hl
  refine ⟨⟨by rw [hr]; exact a, by rw [hr]; exact b, by rw [hr, hf]; omega, by rw [hf]; unfold updC; rw [List.length_map]; exact d, fun y hy => ?_, fun y hy => ?_⟩, by rw [hf]; exact u.upd hx⟩
  · rw [hf] at hy
    rcases updC_mem hy with rfl | hy
    · exact h2
    · exact e y hy
  · rw [hf] at hy
    rcases updC_mem hy with rfl | hy
    · exact h3
    · exact g y hy
theorem Ds.Good.del (h : s.Good) (hr : t.room = s.room) (hf : t.fs = delC s.fs nm) : t.Good := by
  obtain ⟨⟨a, b, c, d, e, g⟩, u⟩ := h
  have hu := used_del nm s.fs
  have hlen : (delC s.fs nm).length ≤ s.fs.length := List.length_filter_le _ _
  exact ⟨⟨by rw [hr]; exact a, by rw [hr]; exact b, by rw [hr, hf]; omega, by rw [hf]; omega, by rw [hf]; exact fun y hy => e y (List.mem_filter.1 hy).1, by rw [hf]; exact fun y hy => g y (List.mem_filter.1 hy).1⟩, by rw [hf]; exact u.del nm⟩
theorem Ds.Good.put {x : Fl} (h : s.Good) (h0 : s.fs.length < 4096) (h1 : (usedC s.fs : Int) + x.data.length ≤ s.room) (h2 : x.data.length ≤ 16777216) (h3 : x.dur ≤ x.data.length) (hr : t.room = s.room) (hf : t.fs = putFl s.fs x) : t.Good := by
  have hd : (⟨s.room, s.down, s.lim, s.left, delC s.fs x.name⟩ : Ds).Good := h.del rfl rfl
  have hu := used_del x.name s.fs
  have hlen : (delC s.fs x.name).length ≤ s.fs.length := List.length_filter_le _ _
  obtain ⟨⟨a, b, c, d, e, g⟩, u⟩ := hd
  have hp := ins_perm x (delC s.fs x.name)
  have hi := used_ins x (delC s.fs x.name)
  have hpl := hp.length_eq
  rw [List.length_cons] at hpl
  refine ⟨⟨by rw [hr]; exact a, by rw [hr]; exact b, ?_, ?_, fun y hy => ?_, fun y hy => ?_⟩, by rw [hf]; exact h.uq.put x⟩
  · rw [hr, hf]; unfold putFl; rw [hi]; omega
  · rw [hf]; unfold putFl; omega
  · rw [hf] at hy
    rcases List.mem_cons.1 (hp.mem_iff.1 hy) with rfl | hy
    · exact h2
    · exact e y hy
  · rw [hf] at hy
    rcases List.mem_cons.1 (hp.mem_iff.1 hy) with rfl | hy
    · exact h3
    · exact g y hy
theorem lk_used {l : List Fl} {n : List UInt8} {f : Fl} (h : lkC l n = some f) : usedC (delC l n) + f.data.length ≤ usedC l := by
  induction l with
  | nil => cases h
  | cons y r ih =>
    unfold lkC at h
    rw [List.find?_cons] at h
    rcases hy : (y.name == n) with _ | _
    · rw [hy] at h
      have := ih h
      have e : delC (y :: r) n = y :: delC r n := by unfold delC; rw [List.filter_cons, hy]; rfl
      rw [e, usedC_cons, usedC_cons]
      omega
    · rw [hy] at h
      obtain rfl : y = f := Option.some.inj h
      have e : delC (y :: r) n = delC r n := by unfold delC; rw [List.filter_cons, hy]; rfl
      have := used_del n r
      rw [e, usedC_cons]
      omega
theorem lk_del_len {l : List Fl} {n : List UInt8} {f : Fl} (h : lkC l n = some f) : (delC l n).length < l.length := by
  unfold delC
  refine Nat.lt_of_le_of_ne (List.length_filter_le _ _) fun e => ?_
  have := List.length_filter_eq_length_iff.1 e f (lkC_some h).1
  rw [(lkC_some h).2] at this
  simp at this
theorem create_good (h : s.Good) (nm : List UInt8) : (createD s nm).2.Good := by
  unfold createD
  split
  · exact h
  · split
    · exact h
    · split
      · exact h
      · split
        · exact h
        · next hc =>
          refine perf_good h fun t hr hf => ?_
          have hr' : t.room = s.room := hr
          have hf' : t.fs = s.fs := hf
          have hu := h.ok.us
          exact h.put (x := ⟨nm, [], 0⟩) (by omega) (by show (usedC s.fs : Int) + ((0 : Nat) : Int) ≤ _; omega) (Nat.zero_le _) (Nat.le_refl _) hr' (by show putFl t.fs _ = _; rw [hf'])
theorem append_good (h : s.Good) (nm l : List UInt8) : (appendD s nm l).2.Good := by
  unfold appendD
  split
  · exact h
  · next hdn =>
    split
    · exact h
    · next f hl =>
      split
      · exact h
      · next h1 =>
        split
        · exact h
        · next h2 =>
          have hd : s.down = false := by simpa using hdn
          have hfr : freeD s = s.room - usedC s.fs := by unfold freeD; rw [hd]; rfl
          rw [hfr] at h2
          have hdu := h.ok.du f (lkC_some hl).1
          refine perf_good (h.upd (x := ⟨f.name, f.data ++ l, f.dur⟩) hl (lkC_some hl).2 ?_ ?_ ?_ rfl rfl) fun t hr hf => ?_
          · show (usedC s.fs : Int) + ((f.data ++ l).length : Int) ≤ _
            rw [List.length_append]
            omega
          · show (f.data ++ l).length ≤ _
            rw [List.length_append]
            omega
          · show f.dur ≤ (f.data ++ l).length
            rw [List.length_append]
            omega
          · exact (h.upd (x := ⟨f.name, f.data ++ l, f.dur⟩) hl (lkC_some hl).2 (by show (usedC s.fs : Int) + ((f.data ++ l).length : Int) ≤ _; rw [List.length_append]; omega) (by show (f.data ++ l).length ≤ _; rw [List.length_append]; omega) (by show f.dur ≤ (f.data ++ l).length; rw [List.length_append]; omega) hr hf)
theorem remove_good (h : s.Good) (nm : List UInt8) : (removeD s nm).2.Good := by
  unfold removeD
  split
  · exact h
  · split
    · exact h
    · exact perf_good h fun t hr hf => h.del (nm := nm) hr (by show delC t.fs nm = _; rw [show t.fs = s.fs from hf])
theorem sync_good (h : s.Good) (nm : List UInt8) : (syncD s nm).2.Good := by
  unfold syncD
  split
  · exact h
  · split
    · exact h
    · next f hl =>
      have hu := h.ok.us
      exact perf_good h fun t hr hf => h.upd (x := ⟨f.name, f.data, f.data.length⟩) hl (lkC_some hl).2 (by show (usedC s.fs : Int) + (f.data.length : Int) ≤ _; omega) (h.ok.sz f (lkC_some hl).1) (Nat.le_refl _) hr (by show updC t.fs nm _ = _; rw [show t.fs = s.fs from hf])
theorem trunc_good (h : s.Good) (nm : List UInt8) (sz : Int) : (truncD s nm sz).2.Good := by
  unfold truncD
  split
  · exact h
  · split
    · exact h
    · next f hl =>
      split
      · exact h
      · next h1 =>
        have hu := h.ok.us
        have hs := h.ok.sz f (lkC_some hl).1
        have hdu := h.ok.du f (lkC_some hl).1
        have hlen : (f.data.take sz.toNat).length = min sz.toNat f.data.length := List.length_take
        exact perf_good h fun t hr hf => h.upd (x := ⟨f.name, f.data.take sz.toNat, min f.dur sz.toNat⟩) hl (lkC_some hl).2 (by show (usedC s.fs : Int) + ((f.data.take sz.toNat).length : Int) ≤ _; omega) (by show (f.data.take sz.toNat).length ≤ _; omega) (by show min f.dur sz.toNat ≤ (f.data.take sz.toNat).length; omega) hr (by show updC t.fs nm _ = _; rw [show t.fs = s.fs from hf])
theorem rename_good (h : s.Good) (a b : List UInt8) : (renameD s a b).2.Good := by
  unfold renameD
  split
  · exact h
  · split
    · exact h
    · next f hl =>
      split
      · exact h
      · have hd : (⟨s.room, s.down, s.lim, s.left, delC s.fs a⟩ : Ds).Good := h.del rfl rfl
        have hu := lk_used hl
        have hn := lk_del_len hl
        have hus := h.ok.us
        have hcn := h.ok.cnt
        exact perf_good h fun t hr hf => hd.put (x := ⟨b, f.data, f.dur⟩) (by show (delC s.fs a).length < 4096; omega) (by show (usedC (delC s.fs a) : Int) + (f.data.length : Int) ≤ s.room; omega) (h.ok.sz f (lkC_some hl).1) (h.ok.du f (lkC_some hl).1) hr (by show putFl (delC t.fs a) _ = _; rw [show t.fs = s.fs from hf])
theorem crash_good (h : s.Good) : ({ s with down := true } : Ds).Good := h.same rfl rfl
theorem limit_good (h : s.Good) (n : Int) : (limitD s n).Good := h.same rfl rfl
theorem chop_len {f : Fl} {c : Nat} (hc : c ≤ 255) (hd : f.dur ≤ f.data.length) : (chopB f c).length ≤ f.data.length := by
  have h1 := kept_le (c := c) hc hd
  unfold chopB
  split
  · rw [len_flip, List.length_take]; omega
  · rw [List.length_take]; omega
theorem start_names : ∀ (l : List Fl) (ch : List UInt8), (startL l ch).map Fl.name = l.map Fl.name
  | [], _ => rfl
  | f :: l, ch => by
    unfold startL
    split
    · rw [List.map_cons, List.map_cons, start_names l ch]
    · rw [List.map_cons, List.map_cons, start_names l ch.tail]
theorem start_le : ∀ (l : List Fl) (ch : List UInt8), (∀ f ∈ l, f.dur ≤ f.data.length) → usedC (startL l ch) ≤ usedC l
  | [], _, _ => Nat.le_refl _
  | f :: l, ch, h => by
    have hf := h f (List.mem_cons_self)
    have hb : (ch.headD 0).toNat ≤ 255 := by have := (ch.headD 0).toNat_lt; omega
    unfold startL
    split
    · have := start_le l ch fun y hy => h y (List.mem_cons_of_mem _ hy)
      rw [usedC_cons, usedC_cons]
      show f.data.length + _ ≤ _
      omega
    · have := start_le l ch.tail fun y hy => h y (List.mem_cons_of_mem _ hy)
      have := chop_len (c := (ch.headD 0).toNat) hb hf
      rw [usedC_cons, usedC_cons]
      show (chopB f (ch.headD 0).toNat).length + _ ≤ _
      omega
theorem start_each : ∀ (l : List Fl) (ch : List UInt8), (∀ f ∈ l, f.dur ≤ f.data.length ∧ f.data.length ≤ 16777216) → ∀ y ∈ startL l ch, y.dur = y.data.length ∧ y.data.length ≤ 16777216
  | [], _, _ => fun y hy => (List.not_mem_nil hy).elim
  | f :: l, ch, h => fun y hy => by
    have hf := h f (List.mem_cons_self)
    have hb : (ch.headD 0).toNat ≤ 255 := by have := (ch.headD 0).toNat_lt; omega
    unfold startL at hy
    split at hy
    · rcases List.mem_cons.1 hy with rfl | hy
      · exact ⟨rfl, hf.2⟩
      · exact start_each l ch (fun y hy => h y (List.mem_cons_of_mem _ hy)) y hy
    · rcases List.mem_cons.1 hy with rfl | hy
      · exact ⟨rfl, Nat.le_trans (chop_len hb hf.1) hf.2⟩
      · exact start_each l ch.tail (fun y hy => h y (List.mem_cons_of_mem _ hy)) y hy
theorem start_good (h : s.Good) (ch : List UInt8) : (startD s ch).Good := by
  unfold startD
  split
  · have h1 := start_le s.fs ch h.ok.du
    have h2 := start_each s.fs ch fun f hf => ⟨h.ok.du f hf, h.ok.sz f hf⟩
    have h3 := start_names s.fs ch
    have h4 : (startL s.fs ch).length = s.fs.length := by have := congrArg List.length h3; simpa using this
    have hus := h.ok.us
    refine ⟨⟨h.ok.r0, h.ok.r1, by show (usedC (startL s.fs ch) : Int) ≤ s.room; omega, by show (startL s.fs ch).length ≤ 4096; rw [h4]; exact h.ok.cnt, fun f hf => (h2 f hf).2, fun f hf => Nat.le_of_eq (h2 f hf).1⟩, ?_⟩
    have h5 : (s.fs.map Fl.name).Pairwise (· ≠ ·) := List.pairwise_map.2 h.uq
    rw [← h3] at h5
    exact List.pairwise_map.1 h5
  · exact h
theorem new_good {n : Int} (h0 : 0 ≤ n) (h1 : n ≤ 1099511627776) : (newD n).Good :=
  ⟨⟨h0, h1, h0, Nat.zero_le _, fun f hf => (List.not_mem_nil hf).elim, fun f hf => (List.not_mem_nil hf).elim⟩, List.Pairwise.nil⟩
end
end Go.Proofs.Ytphjgembpcikdaa
