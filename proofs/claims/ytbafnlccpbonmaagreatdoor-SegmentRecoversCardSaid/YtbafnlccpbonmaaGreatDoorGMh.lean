/- a log beside its records (plain) -/
import Derived.Test.YtbafnlccpbonmaaGreatDoorGMd
import Derived.Test.YtbafnlccpbonmaaGreatDoorGMg
namespace Go.Proofs.YtbafnlccpbonmaaGreatDoor
set_option linter.unusedVariables false
set_option linter.unnecessarySimpa false
set_option linter.unusedSimpArgs false

section
variable {l : List Fl} {n m : List UInt8} {x f : Fl} {s : Ds}
theorem lk_ins (hx : x.name ≠ n) : ∀ l : List Fl, lkC (insC x l) n = lkC l n
  | [] => by
    have : (x.name == n) = false := by simpa using hx
    unfold insC lkC
    rw [List.find?_cons, this]
  | y :: r => by
    have ih := lk_ins hx r
    have e : (x.name == n) = false := by simpa using hx
    unfold insC
    split
    · unfold lkC
      rw [List.find?_cons, e]
    · unfold lkC at ih ⊢
      rw [List.find?_cons, List.find?_cons, ih]
theorem lk_del (hm : m ≠ n) : ∀ l : List Fl, lkC (delC l m) n = lkC l n
  | [] => rfl
  | y :: r => by
    have ih := lk_del hm r
    unfold delC at ih ⊢
    rw [List.filter_cons]
    rcases hy : (y.name == m) with _ | _
    · unfold lkC at ih ⊢
      simp only [Bool.not_false, if_true]
      rw [List.find?_cons, List.find?_cons, ih]
    · have e : (y.name == n) = false := by
        have := eq_of_beq hy
        simpa [this] using hm
      unfold lkC at ih ⊢
      simp only [Bool.not_true, Bool.false_eq_true, if_false]
      rw [List.find?_cons, e, ih]
theorem lk_upd (hx : x.name = m) (hm : m ≠ n) : ∀ l : List Fl, lkC (updC l m x) n = lkC l n
  | [] => rfl
  | y :: r => by
    have ih := lk_upd hx hm r
    unfold updC lkC at ih ⊢
    rw [List.map_cons, List.find?_cons, List.find?_cons, ih]
    rcases hy : (y.name == m) with _ | _
    · simp only [Bool.false_eq_true, if_false]
    · have h1 : y.name ≠ n := by rw [eq_of_beq hy]; exact hm
      have h2 : x.name ≠ n := by rw [hx]; exact hm
      have e1 : (y.name == n) = false := by simpa using h1
      have e2 : (x.name == n) = false := by simpa using h2
      simp only [if_true, e1, e2]
theorem lk_upd_self (hx : x.name = m) : ∀ {l : List Fl}, lkC l m = some f → lkC (updC l m x) m = some x
  | [], h => by cases h
  | y :: r, h => by
    unfold updC lkC at *
    rw [List.find?_cons] at h
    rw [List.map_cons, List.find?_cons]
    rcases hy : (y.name == m) with _ | _
    · rw [hy] at h
      simp only [Bool.false_eq_true, if_false, hy]
      exact lk_upd_self hx h
    · have e : (x.name == m) = true := by simpa using hx
      simp only [if_true, e]
theorem lk_ins_self : ∀ {l : List Fl}, lkC l x.name = none → lkC (insC x l) x.name = some x
  | [], _ => by unfold insC lkC; simp
  | y :: r, h => by
    unfold insC
    split
    · unfold lkC; simp
    · unfold lkC at *
      rw [List.find?_cons] at h ⊢
      rcases hy : (y.name == x.name) with _ | _
      · rw [hy] at h
        exact lk_ins_self h
      · rw [hy] at h
        cases h
theorem lk_del_self : ∀ l : List Fl, lkC (delC l m) m = none := fun l => by
  unfold lkC delC
  rw [List.find?_eq_none]
  intro y hy
  have := (List.mem_filter.1 hy).2
  simpa using this
theorem lk_put_self (x : Fl) (l : List Fl) : lkC (putFl l x) x.name = some x := lk_ins_self (lk_del_self l)
theorem lk_put (hx : x.name ≠ n) (l : List Fl) : lkC (putFl l x) n = lkC l n := by
  unfold putFl
  rw [lk_ins hx, lk_del hx]
end
/-! ### An operation on the files -/
/-- The files' names are short. -/
def NmL (fs : List Fl) : Prop := ∀ f ∈ fs, f.name.length ≤ 64
/-- What a step on the files of a log leaves: a: bytes more at most, b: files more at most, c: operations at most. -/
structure Stp (P : List UInt8 → Prop) (a b c : Nat) (s t : Ds) : Prop where
  room : t.room = s.room
  lim : t.lim = s.lim
  rest : ∀ m, ¬ P m → lkC t.fs m = lkC s.fs m
  used : usedC t.fs ≤ usedC s.fs + a
  cnt : t.fs.length ≤ s.fs.length + b
  good : s.Good → t.Good
  left : (c : Int) ≤ s.left → s.left ≤ 4611686018427387904 → s.left - c ≤ t.left ∧ t.left ≤ s.left
  nml : NmL s.fs → NmL t.fs
theorem Stp.refl (P : List UInt8 → Prop) (s : Ds) : Stp P 0 0 0 s s := ⟨rfl, rfl, fun _ _ => rfl, Nat.le_refl _, Nat.le_refl _, id, fun h _ => by omega, id⟩
theorem Stp.trans {P : List UInt8 → Prop} {a b c a' b' c' : Nat} {s t u : Ds} (h : Stp P a b c s t) (k : Stp P a' b' c' t u) : Stp P (a + a') (b + b') (c + c') s u :=
  ⟨k.room.trans h.room, k.lim.trans h.lim, fun m hm => (k.rest m hm).trans (h.rest m hm), by have := h.used; have := k.used; omega, by have := h.cnt; have := k.cnt; omega, fun hg => k.good (h.good hg), fun h1 h2 => by
    obtain ⟨e1, e2⟩ := h.left (by omega) h2
    obtain ⟨e3, e4⟩ := k.left (by omega) (by omega)
    omega, fun hn => k.nml (h.nml hn)⟩
theorem Stp.mono {P : List UInt8 → Prop} {a b c a' b' c' : Nat} {s t : Ds} (h : Stp P a b c s t) (h1 : a ≤ a') (h2 : b ≤ b') (h3 : c ≤ c') : Stp P a' b' c' s t := ⟨h.room, h.lim, h.rest, by have := h.used; omega, by have := h.cnt; omega, h.good, fun e1 e2 => by have := h.left (by omega) e2; omega, h.nml⟩
/-- The operation ran, or the power failed. -/
def Ran (P : List UInt8 → Prop) (a b : Nat) (s : Ds) (R : Int × Ds) (ok bad : List Fl → Prop) : Prop :=
  (∃ t, R = (0, t) ∧ t.down = false ∧ Stp P a b 1 s t ∧ ok t.fs) ∨ (s.lim = true ∧ s.left ≤ 0 ∧ ∃ t, R = (31, t) ∧ t.down = true ∧ Stp P a b 1 s t ∧ bad t.fs)
theorem perf_ran {P : List UInt8 → Prop} {a b : Nat} {s : Ds} {f g : Ds → Ds} {ok bad : List Fl → Prop} (hd : s.down = false) (hg : s.Good → (perfD s f g).2.Good)
    (hf : ∀ t, (f t).room = t.room ∧ (f t).lim = t.lim ∧ (f t).down = t.down ∧ (f t).left = t.left) (hh : ∀ t, (g t).room = t.room ∧ (g t).lim = t.lim ∧ (g t).down = t.down ∧ (g t).left = t.left)
    (h1 : bad (f s).fs ∧ (∀ m, ¬ P m → lkC (f s).fs m = lkC s.fs m) ∧ usedC (f s).fs ≤ usedC s.fs + a ∧ (f s).fs.length ≤ s.fs.length + b ∧ (NmL s.fs → NmL (f s).fs))
    (h2 : ∀ t, t.fs = (f s).fs → ok (g t).fs ∧ (∀ m, ¬ P m → lkC (g t).fs m = lkC s.fs m) ∧ usedC (g t).fs ≤ usedC s.fs + a ∧ (g t).fs.length ≤ s.fs.length + b ∧ (NmL s.fs → NmL (g t).fs)) : Ran P a b s (perfD s f g) ok bad := by
  obtain ⟨f1, f2, f3, f4⟩ := hf s
  unfold perfD at hg ⊢
  by_cases hc : s.lim = true ∧ s.left ≤ 0
  · rw [if_pos hc] at hg ⊢
    exact .inr ⟨hc.1, hc.2, _, rfl, rfl, ⟨f1, f2, h1.2.1, h1.2.2.1, h1.2.2.2.1, hg, fun _ _ => by dsimp only; omega, h1.2.2.2.2⟩, h1.1⟩
  · rw [if_neg hc] at hg ⊢
    obtain ⟨g1, g2, g3, g4⟩ := hh { f s with left := IntKind.i64.wrap (s.left - 1) }
    obtain ⟨k1, k2, k3, k4, k5⟩ := h2 { f s with left := IntKind.i64.wrap (s.left - 1) } rfl
    exact .inl ⟨_, rfl, g3.trans (f3.trans hd), ⟨g1.trans f1, g2.trans f2, k2, k3, k4, hg, fun e1 e2 => by
      rw [g4]
      dsimp only
      rw [show IntKind.i64.wrap (s.left - 1) = s.left - 1 by rw [IntWalk.i64_in _ (by omega)]]
      omega, k5⟩, k1⟩
section
variable {s : Ds} {nm : List UInt8} {f : Fl} {P : List UInt8 → Prop}
theorem NmL.upd {fs : List Fl} {m : List UInt8} {x f : Fl} (h1 : lkC fs m = some f) (hx : x.name = f.name) (h : NmL fs) : NmL (updC fs m x) := fun y hy => by
  rcases updC_mem hy with rfl | hy
  · rw [hx]; exact h f (lkC_some h1).1
  · exact h y hy
theorem create_ran (hd : s.down = false) (hP : P nm) (h1 : okName nm = true) (h2 : lkC s.fs nm = none) (h3 : s.fs.length < 4096) : Ran P 0 1 s (createD s nm) (fun fs => fs = putFl s.fs ⟨nm, [], 0⟩) (fun fs => fs = s.fs) := by
  have hg : s.Good → (createD s nm).2.Good := fun h => create_good h nm
  unfold createD at hg ⊢
  rw [if_neg (by rw [hd]; decide), if_neg (by rw [h1]; decide), if_neg (by rw [h2]; decide), if_neg (by omega)] at hg ⊢
  refine perf_ran hd hg (fun t => ⟨rfl, rfl, rfl, rfl⟩) (fun t => ⟨rfl, rfl, rfl, rfl⟩) ⟨rfl, fun _ _ => rfl, Nat.le_refl _, by dsimp only [id]; omega, id⟩ fun t ht => ?_
  dsimp only [id] at ht ⊢
  rw [ht]
  refine ⟨rfl, fun m hm => lk_put (x := ⟨nm, [], 0⟩) (fun e => hm (by rw [← e]; exact hP)) _, ?_, ?_, fun hn y hy => ?_⟩
  · unfold putFl
    rw [used_ins]
    have := used_del nm s.fs
    simp
    omega
  · unfold putFl
    rw [(ins_perm _ _).length_eq, List.length_cons]
    have : (delC s.fs nm).length ≤ s.fs.length := List.length_filter_le _ _
    dsimp only
    omega
  · rcases List.mem_cons.1 ((ins_perm _ _).mem_iff.1 hy) with rfl | hy
    · exact okName_len h1
    · exact hn y (List.mem_filter.1 hy).1
theorem append_ran (hg0 : s.Good) (hd : s.down = false) (hP : P nm) (h1 : lkC s.fs nm = some f) {l : List UInt8} (h2 : f.data.length + l.length ≤ 16777216) (h3 : ((usedC s.fs + l.length : Nat) : Int) ≤ s.room) :
    Ran P l.length 0 s (appendD s nm l) (fun fs => fs = updC s.fs nm ⟨f.name, f.data ++ l, f.dur⟩) (fun fs => fs = updC s.fs nm ⟨f.name, f.data ++ l, f.dur⟩) := by
  have hg : s.Good → (appendD s nm l).2.Good := fun h => append_good h nm l
  obtain ⟨e1, e2⟩ := lkC_some h1
  unfold appendD at hg ⊢
  rw [if_neg (by rw [hd]; decide), h1] at hg ⊢
  dsimp only at hg ⊢
  rw [if_neg (by omega), if_neg (by unfold freeD; rw [hd]; simp; omega)] at hg ⊢
  have hu := used_upd (x := ⟨f.name, f.data ++ l, f.dur⟩) hg0.uq h1
  rw [List.length_append] at hu
  have hl : (updC s.fs nm ⟨f.name, f.data ++ l, f.dur⟩).length = s.fs.length := by unfold updC; rw [List.length_map]
  have hr : ∀ m, ¬ P m → lkC (updC s.fs nm ⟨f.name, f.data ++ l, f.dur⟩) m = lkC s.fs m := fun m hm => lk_upd (m := nm) (n := m) (x := ⟨f.name, f.data ++ l, f.dur⟩) e2 (fun e => hm (by rw [← e]; exact hP)) _
  refine perf_ran hd hg (fun t => ⟨rfl, rfl, rfl, rfl⟩) (fun t => ⟨rfl, rfl, rfl, rfl⟩) ⟨rfl, hr, ?_, ?_, NmL.upd h1 rfl⟩ fun t ht => ?_
  · unfold appendC; dsimp only; omega
  · unfold appendC; dsimp only; omega
  · unfold appendC at ht
    dsimp only [id] at ht ⊢
    rw [ht]
    exact ⟨rfl, hr, by omega, by omega, NmL.upd h1 rfl⟩
theorem sync_ran (hg0 : s.Good) (hd : s.down = false) (hP : P nm) (h1 : lkC s.fs nm = some f) : Ran P 0 0 s (syncD s nm) (fun fs => fs = updC s.fs nm { f with dur := f.data.length }) (fun fs => fs = s.fs) := by
  have hg : s.Good → (syncD s nm).2.Good := fun h => sync_good h nm
  obtain ⟨e1, e2⟩ := lkC_some h1
  unfold syncD at hg ⊢
  rw [if_neg (by rw [hd]; decide), h1] at hg ⊢
  dsimp only at hg ⊢
  have hu := used_upd (x := { f with dur := f.data.length }) hg0.uq h1
  dsimp only at hu
  refine perf_ran hd hg (fun t => ⟨rfl, rfl, rfl, rfl⟩) (fun t => ⟨rfl, rfl, rfl, rfl⟩) ⟨rfl, fun _ _ => rfl, by dsimp only [id]; omega, by dsimp only [id]; omega, id⟩ fun t ht => ?_
  dsimp only [id] at ht ⊢
  rw [ht]
  exact ⟨rfl, fun m hm => lk_upd (m := nm) (n := m) (x := { f with dur := f.data.length }) e2 (fun e => hm (by rw [← e]; exact hP)) _, by omega, by unfold updC; rw [List.length_map]; omega, NmL.upd h1 rfl⟩
theorem trunc_ran (hg0 : s.Good) (hd : s.down = false) (hP : P nm) (h1 : lkC s.fs nm = some f) {k : Nat} (hk : k ≤ f.data.length) : Ran P 0 0 s (truncD s nm k) (fun fs => fs = updC s.fs nm ⟨f.name, f.data.take k, min f.dur k⟩) (fun fs => fs = s.fs) := by
  have hg : s.Good → (truncD s nm k).2.Good := fun h => trunc_good h nm k
  obtain ⟨e1, e2⟩ := lkC_some h1
  unfold truncD at hg ⊢
  rw [if_neg (by rw [hd]; decide), h1] at hg ⊢
  dsimp only at hg ⊢
  rw [if_neg (by omega), Int.toNat_natCast] at hg ⊢
  have hu := used_upd (x := ⟨f.name, f.data.take k, min f.dur k⟩) hg0.uq h1
  rw [List.length_take] at hu
  refine perf_ran hd hg (fun t => ⟨rfl, rfl, rfl, rfl⟩) (fun t => ⟨rfl, rfl, rfl, rfl⟩) ⟨rfl, fun _ _ => rfl, by dsimp only [id]; omega, by dsimp only [id]; omega, id⟩ fun t ht => ?_
  dsimp only [id] at ht ⊢
  rw [ht]
  exact ⟨rfl, fun m hm => lk_upd (m := nm) (n := m) (x := ⟨f.name, f.data.take k, min f.dur k⟩) e2 (fun e => hm (by rw [← e]; exact hP)) _, by omega, by unfold updC; rw [List.length_map]; omega, NmL.upd h1 rfl⟩
theorem remove_ran (hd : s.down = false) (hP : P nm) (h1 : lkC s.fs nm = some f) : Ran P 0 0 s (removeD s nm) (fun fs => fs = delC s.fs nm) (fun fs => fs = s.fs) := by
  have hg : s.Good → (removeD s nm).2.Good := fun h => remove_good h nm
  unfold removeD at hg ⊢
  rw [if_neg (by rw [hd]; decide), h1] at hg ⊢
  dsimp only at hg ⊢
  refine perf_ran hd hg (fun t => ⟨rfl, rfl, rfl, rfl⟩) (fun t => ⟨rfl, rfl, rfl, rfl⟩) ⟨rfl, fun _ _ => rfl, by dsimp only [id]; omega, by dsimp only [id]; omega, id⟩ fun t ht => ?_
  dsimp only [id] at ht ⊢
  rw [ht]
  exact ⟨rfl, fun m hm => lk_del (m := nm) (n := m) (fun e => hm (by rw [← e]; exact hP)) _, by have := used_del nm s.fs; omega, List.length_filter_le _ _, fun hn y hy => hn y (List.mem_filter.1 hy).1⟩
end
end Go.Proofs.YtbafnlccpbonmaaGreatDoor

namespace Go.Proofs.YtbafnlccpbonmaaGreatDoor
set_option linter.unusedVariables false
set_option linter.unnecessarySimpa false
set_option linter.unusedSimpArgs false

/-- The segments, from a number on. -/
def ptsG : Nat → List (List (List UInt8)) → List Pt
  | _, [] => []
  | n, r :: g => ⟨n, offsF 0 r⟩ :: ptsG (n + r.length) g
theorem ptsG_app : ∀ (a : List (List (List UInt8))) (n : Nat) (b : List (List (List UInt8))), ptsG n (a ++ b) = ptsG n a ++ ptsG (n + a.flatten.length) b
  | [], n, b => by simp [ptsG]
  | r :: a, n, b => by
    rw [List.cons_append, ptsG, ptsG_app a, ptsG, List.flatten_cons, List.length_append, Nat.add_assoc]
    rfl
theorem ptsG_snoc (a : List (List (List UInt8))) (n : Nat) (r : List (List UInt8)) : ptsG n (a ++ [r]) = ptsG n a ++ [⟨n + a.flatten.length, offsF 0 r⟩] := by rw [ptsG_app]; rfl
theorem ptsG_len : ∀ (g : List (List (List UInt8))) (n : Nat), (ptsG n g).length = g.length
  | [], n => rfl
  | r :: g, n => by rw [ptsG, List.length_cons, ptsG_len g, List.length_cons]
theorem fileL_inj {nm : List UInt8} {a b : Nat} (ha : a < 100000000) (hb : b < 100000000) (h : fileL nm a = fileL nm b) : a = b := by
  unfold fileL at h
  have h1 := List.append_cancel_left h
  injection h1 with _ h2
  rw [← und_dig 8 a (by omega), ← und_dig 8 b (by omega), h2]
theorem fileL_ok {nm : List UInt8} (h : nameC nm = true) (x : Nat) : okName (fileL nm x) = true := by
  have hd := digL_all 8 x
  have hc : nm.length ≤ 32 ∧ ∀ c ∈ nm, nmB c = true := by
    unfold nameC at h
    split at h
    · cases h
    · simp only [Bool.and_eq_true, decide_eq_true_eq, List.all_eq_true] at h
      refine ⟨h.1, fun c hc => ?_⟩
      rcases List.mem_cons.1 hc with rfl | hc
      · unfold nmB
        rw [h.2.1]
        rfl
      · exact h.2.2 c hc
  have hb : ∀ c ∈ fileL nm x, badB c = false := fun c hc2 => by
    unfold fileL at hc2
    rcases List.mem_append.1 hc2 with h1 | h1
    · have h3 := hc.2 c h1
      unfold nmB lowB at h3
      unfold badB
      simp only [Bool.or_eq_true, Bool.and_eq_true, decide_eq_true_eq] at h3
      simp only [Bool.or_eq_false_iff, decide_eq_false_iff_not]
      omega
    · rcases List.mem_cons.1 h1 with rfl | h1
      · rfl
      · have h3 := List.all_eq_true.1 hd c h1
        unfold isD at h3
        unfold badB
        simp only [Bool.and_eq_true, decide_eq_true_eq] at h3
        simp only [Bool.or_eq_false_iff, decide_eq_false_iff_not]
        omega
  have h1 : fileL nm x ≠ [] := by unfold fileL; simp
  have h2 : (fileL nm x).length ≤ 64 := by
    unfold fileL
    rw [List.length_append, List.length_cons, digL_len]
    have := hc.1
    omega
  have h3 : (fileL nm x).any badB = false := List.any_eq_false.2 fun c hc => by rw [hb c hc]; decide
  unfold okName
  rw [h3]
  simp [h1, h2]
/-- A file of the log. -/
def OwnF (nm : List UInt8) (m : List UInt8) : Prop := ∃ x : Nat, inN (x : Int) ∧ m = fileL nm x
/-- The files of the segments; z: what else the last one has; D: how many of its bytes are durable. -/
structure Fil (nm : List UInt8) (fs : List Fl) (n : Nat) (g : List (List (List UInt8))) (D : Nat) (z : List UInt8) : Prop where
  old : ∀ a r b, g = a ++ r :: b → b ≠ [] → lkC fs (fileL nm (n + a.flatten.length)) = some ⟨fileL nm (n + a.flatten.length), framesL (n + a.flatten.length) r, bytesF r⟩
  last : ∀ a r, g = a ++ [r] → lkC fs (fileL nm (n + a.flatten.length)) = some ⟨fileL nm (n + a.flatten.length), framesL (n + a.flatten.length) r ++ z, D⟩
  none : ∀ x : Nat, inN (x : Int) → (∀ a r b, g = a ++ r :: b → x ≠ n + a.flatten.length) → lkC fs (fileL nm x) = none
/-- The segments have the records from n on. -/
structure Shp (R : List (List UInt8)) (n : Nat) (g : List (List (List UInt8))) : Prop where
  n1 : 1 ≤ n
  nR : n ≤ R.length + 1
  recs : g.flatten = R.drop (n - 1)
  mid : ∀ a r b, g = a ++ r :: b → b ≠ [] → r ≠ []
  nil : g = [] → R = []
  small : R.length ≤ 1000 ∧ ∀ d ∈ R, d.length ≤ 1000
structure Fls (nm : List UInt8) (fs : List Fl) (R : List (List UInt8)) (n : Nat) (g : List (List (List UInt8))) (K : Int) : Prop where
  name : nameC nm = true
  shp : Shp R n g
  nil : g = [] → K ≤ 0
  fil : ∃ D, Fil nm fs n g D [] ∧ ∀ a r, g = a ++ [r] → D ≤ bytesF r ∧ ∃ j, j ≤ r.length ∧ bytesF (r.take j) ≤ D ∧ K ≤ ((n + a.flatten.length + j : Nat) : Int) - 1
section
variable {nm : List UInt8} {fs fs' : List Fl} {R : List (List UInt8)} {n : Nat} {g a b : List (List (List UInt8))} {r : List (List UInt8)} {K K' : Int} {D : Nat} {z d : List UInt8}
theorem Shp.len (h : Shp R n g) : n + g.flatten.length = R.length + 1 := by
  have := h.n1
  have := h.nR
  rw [h.recs, List.length_drop]
  omega
theorem Shp.at (h : Shp R n (a ++ r :: b)) : n + a.flatten.length + r.length + b.flatten.length = R.length + 1 := by
  have := h.len
  rw [List.flatten_append, List.flatten_cons, List.length_append, List.length_append] at this
  omega
theorem Shp.in (h : Shp R n (a ++ r :: b)) : inN ((n + a.flatten.length : Nat) : Int) := by
  have := h.at
  have := h.n1
  have := h.small.1
  unfold inN
  omega
theorem Shp.mem (h : Shp R n (a ++ r :: b)) : ∀ d ∈ r, d.length ≤ 1000 := fun d hd => by
  refine h.small.2 d ?_
  have : d ∈ (a ++ r :: b).flatten := List.mem_flatten.2 ⟨r, by simp, hd⟩
  rw [h.recs] at this
  exact List.mem_of_mem_drop this
theorem bytesF_le : ∀ {r : List (List UInt8)}, (∀ d ∈ r, d.length ≤ 1000) → bytesF r ≤ r.length * 1016
  | [], _ => by rw [bytesF_nil]; omega
  | d :: r, h => by
    have h1 := bytesF_le (r := r) fun x hx => h x (List.mem_cons_of_mem _ hx)
    have h2 := h d (List.mem_cons_self ..)
    rw [bytesF_cons, List.length_cons]
    omega
theorem Shp.bytes (h : Shp R n (a ++ r :: b)) : bytesF r ≤ 1016000 := by
  have h1 := bytesF_le h.mem
  have h2 := h.at
  have h3 := h.small.1
  have h4 := h.n1
  omega
theorem split_old {a' b' : List (List (List UInt8))} {r' : List (List UInt8)} (h : a ++ [r] = a' ++ r' :: b') (hb : b' ≠ []) : ∃ b2, b' = b2 ++ [r] ∧ a = a' ++ r' :: b2 := by
  rcases List.eq_nil_or_concat b' with e | ⟨i, x, e⟩
  · exact absurd e hb
  · rw [List.concat_eq_append] at e
    subst e
    rw [← List.cons_append, ← List.append_assoc] at h
    obtain ⟨h1, h2⟩ := List.append_inj' h rfl
    injection h2 with h2
    subst h2
    exact ⟨i, rfl, h1⟩
theorem split_last {a' : List (List (List UInt8))} {r' : List (List UInt8)} (h : a ++ [r] = a' ++ [r']) : a = a' ∧ r = r' := by
  obtain ⟨h1, h2⟩ := List.append_inj' h rfl
  injection h2 with h2
  exact ⟨h1, h2⟩
theorem split_any {a' b' : List (List (List UInt8))} {r' : List (List UInt8)} (h : a ++ [r] = a' ++ r' :: b') : (b' = [] ∧ a = a' ∧ r = r') ∨ ∃ b2, b' = b2 ++ [r] ∧ a = a' ++ r' :: b2 := by
  by_cases hb : b' = []
  · subst hb
    exact .inl ⟨rfl, split_last h⟩
  · exact .inr (split_old h hb)
/-- An earlier segment's number is less than the last one's. -/
theorem Shp.before {a' b' : List (List (List UInt8))} {r' : List (List UInt8)} (h : Shp R n (a ++ [r])) (e : a = a' ++ r' :: b') : n + a'.flatten.length < n + a.flatten.length := by
  have h1 := h.mid a' r' (b' ++ [r]) (by rw [e]; simp) (by simp)
  have h2 := List.length_pos_iff.2 h1
  rw [e, List.flatten_append, List.flatten_cons, List.length_append, List.length_append]
  omega
theorem Fil.congr (h : Fil nm fs n g D z) (hr : Shp R n g) (hc : ∀ m, OwnF nm m → lkC fs' m = lkC fs m) : Fil nm fs' n g D z := by
  refine ⟨fun a r b e hb => ?_, fun a r e => ?_, fun x hx hn => ?_⟩
  · rw [hc _ ⟨_, (e ▸ hr).in, rfl⟩]
    exact h.old a r b e hb
  · rw [hc _ ⟨_, (e ▸ hr).in, rfl⟩]
    exact h.last a r e
  · rw [hc _ ⟨x, hx, rfl⟩]
    exact h.none x hx hn
theorem Fls.congr (h : Fls nm fs R n g K) (hc : ∀ m, OwnF nm m → lkC fs' m = lkC fs m) : Fls nm fs' R n g K := by
  obtain ⟨D, h1, h2⟩ := h.fil
  exact ⟨h.name, h.shp, h.nil, D, h1.congr h.shp hc, h2⟩
theorem Fls.weak (h : Fls nm fs R n g K) (hk : K' ≤ K) : Fls nm fs R n g K' := by
  obtain ⟨D, h1, h2⟩ := h.fil
  refine ⟨h.name, h.shp, fun e => by have := h.nil e; omega, D, h1, fun a r e => ?_⟩
  obtain ⟨k1, j, k2, k3, k4⟩ := h2 a r e
  exact ⟨k1, j, k2, k3, by omega⟩
theorem Fls.le (h : Fls nm fs R n g K) : K ≤ R.length := by
  rcases List.eq_nil_or_concat g with e | ⟨a, r, e⟩
  · have := h.nil e
    omega
  · rw [List.concat_eq_append] at e
    subst e
    obtain ⟨D, h1, h2⟩ := h.fil
    obtain ⟨k1, j, k2, k3, k4⟩ := h2 a r rfl
    have := h.shp.at
    simp only [List.flatten_nil, List.length_nil] at this
    omega
/-- The last file's contents are changed. -/
theorem Fil.upd {r' : List (List UInt8)} {D' : Nat} {z' : List UInt8} (h : Fil nm fs n (a ++ [r]) D z) (hs : Shp R n (a ++ [r])) : Fil nm (updC fs (fileL nm (n + a.flatten.length)) ⟨fileL nm (n + a.flatten.length), framesL (n + a.flatten.length) r' ++ z', D'⟩) n (a ++ [r']) D' z' := by
  have hm := hs.in
  unfold inN at hm
  refine ⟨fun a2 r2 b2 e hb => ?_, fun a2 r2 e => ?_, fun x hx hn => ?_⟩
  · obtain ⟨b3, e1, e2⟩ := split_old e hb
    have hlt := hs.before e2
    rw [lk_upd (m := fileL nm (n + a.flatten.length)) rfl (fun e9 => by have := fileL_inj (by omega) (by omega) e9; omega)]
    exact h.old a2 r2 (b3 ++ [r]) (by rw [e2]; simp) (by simp)
  · obtain ⟨rfl, rfl⟩ := split_last e
    exact lk_upd_self (m := fileL nm (n + a.flatten.length)) rfl (h.last a r rfl)
  · have hxm : x ≠ n + a.flatten.length := hn a r' [] rfl
    unfold inN at hx
    rw [lk_upd (m := fileL nm (n + a.flatten.length)) rfl (fun e9 => by have := fileL_inj (by omega) (by omega) e9; omega)]
    refine h.none x hx fun a2 r2 b2 e => ?_
    rcases split_any e with ⟨rfl, rfl, rfl⟩ | ⟨b3, e1, e2⟩
    · exact hxm
    · exact hn a2 r2 (b3 ++ [r']) (by rw [e2]; simp)
theorem frames_snoc (m : Nat) (r : List (List UInt8)) (d : List UInt8) : framesL m (r ++ [d]) = framesL m r ++ frameL (m + r.length) d := by
  rw [framesL_app, framesL, framesL, List.append_nil]
theorem Shp.snoc (h : Shp R n (a ++ [r])) (h1 : R.length < 1000) (h2 : d.length ≤ 1000) : Shp (R ++ [d]) n (a ++ [r ++ [d]]) := by
  have hl := h.len
  refine ⟨h.n1, by rw [List.length_append]; have := h.nR; omega, ?_, fun a2 r2 b2 e hb => ?_, fun e => by simp at e, by rw [List.length_append]; simp; omega, fun x hx => ?_⟩
  · have := h.recs
    have h0 := h.n1
    have h9 := h.nR
    rw [List.drop_append_of_le_length (by omega), ← this]
    simp
  · obtain ⟨b3, e1, e2⟩ := split_old e hb
    exact h.mid a2 r2 (b3 ++ [r]) (by rw [e2]; simp) (by simp)
  · rcases List.mem_append.1 hx with hx | hx
    · exact h.small.2 x hx
    · simp at hx
      rw [hx]
      exact h2
/-- A record more in the last file. -/
theorem Fls.append (h : Fls nm fs R n (a ++ [r]) K) (h1 : R.length < 1000) (h2 : d.length ≤ 1000) {f : Fl} (hf : lkC fs (fileL nm (n + a.flatten.length)) = some f) :
    Fls nm (updC fs (fileL nm (n + a.flatten.length)) ⟨f.name, f.data ++ frameL (R.length + 1) d, f.dur⟩) (R ++ [d]) n (a ++ [r ++ [d]]) K := by
  obtain ⟨D, k1, k2⟩ := h.fil
  have hm := h.shp.at
  simp only [List.flatten_nil, List.length_nil] at hm
  rw [k1.last a r rfl] at hf
  cases hf
  dsimp only
  obtain ⟨q1, j, q2, q3, q4⟩ := k2 a r rfl
  refine ⟨h.name, h.shp.snoc h1 h2, fun e => by simp at e, D, ?_, fun a2 r2 e => ?_⟩
  · rw [List.append_nil, show R.length + 1 = n + a.flatten.length + r.length by omega, ← frames_snoc]
    have := k1.upd (r' := r ++ [d]) (D' := D) (z' := []) h.shp
    rwa [List.append_nil] at this
  · obtain ⟨rfl, rfl⟩ := split_last e
    refine ⟨by rw [bytesF_app]; omega, j, by rw [List.length_append]; omega, ?_, q4⟩
    rw [List.take_append_of_le_length q2]
    exact q3
/-- The last file is durable. -/
theorem Fls.sync (h : Fls nm fs R n (a ++ [r]) K) {f : Fl} (hf : lkC fs (fileL nm (n + a.flatten.length)) = some f) :
    Fls nm (updC fs (fileL nm (n + a.flatten.length)) { f with dur := f.data.length }) R n (a ++ [r]) R.length := by
  obtain ⟨D, k1, k2⟩ := h.fil
  have hm := h.shp.at
  simp only [List.flatten_nil, List.length_nil] at hm
  rw [k1.last a r rfl] at hf
  cases hf
  dsimp only
  refine ⟨h.name, h.shp, fun e => by simp at e, bytesF r, ?_, fun a2 r2 e => ?_⟩
  · have := k1.upd (r' := r) (D' := bytesF r) (z' := []) h.shp
    rw [List.append_nil, len_frames]
    rwa [List.append_nil] at this
  · obtain ⟨rfl, rfl⟩ := split_last e
    refine ⟨Nat.le_refl _, r.length, Nat.le_refl _, by rw [List.take_length]; exact Nat.le_refl _, by omega⟩
/-- A new segment. -/
theorem Fls.new (h : Fls nm fs R n g K) (h1 : R.length < 1000) (hn : g ≠ [] → K = R.length) (hr : ∀ a r, g = a ++ [r] → r ≠ []) : lkC fs (fileL nm (R.length + 1)) = none ∧ Fls nm (putFl fs ⟨fileL nm (R.length + 1), [], 0⟩) R n (g ++ [[]]) K := by
  obtain ⟨D, k1, k2⟩ := h.fil
  have hl := h.shp.len
  have hno : ∀ a r b, g = a ++ r :: b → R.length + 1 ≠ n + a.flatten.length := fun a r b e => by
    have h2 := (e ▸ h.shp).at
    have h3 : r ≠ [] := by
      by_cases hb : b = []
      · exact hr a r (by rw [e, hb])
      · exact h.shp.mid a r b e hb
    have := List.length_pos_iff.2 h3
    omega
  refine ⟨k1.none _ (by unfold inN; omega) hno, h.name, ⟨h.shp.n1, h.shp.nR, by rw [List.flatten_append, h.shp.recs]; simp, fun a r b e hb => ?_, fun e => by simp at e, h.shp.small⟩, fun e => by simp at e, 0, ⟨fun a r b e hb => ?_, fun a r e => ?_, fun x hx hn => ?_⟩, fun a r e => ?_⟩
  · obtain ⟨b3, e1, e2⟩ := split_old e hb
    by_cases hb3 : b3 = []
    · exact hr a r (by rw [e2, hb3])
    · exact h.shp.mid a r b3 e2 hb3
  · obtain ⟨b3, e1, e2⟩ := split_old e hb
    have h2 := (e2 ▸ h.shp).at
    have h4 := hno a r b3 e2
    have h5 := h.shp.small.1
    rw [lk_put (x := ⟨fileL nm (R.length + 1), [], 0⟩) (fun e9 => h4 (fileL_inj (by omega) (by omega) e9))]
    by_cases hb3 : b3 = []
    · subst hb3
      have hD : D = bytesF r := by
        obtain ⟨q1, j, q2, q3, q4⟩ := k2 a r e2
        have hK := hn (by rw [e2]; simp)
        simp only [List.flatten_nil, List.length_nil] at h2
        have hj : j = r.length := by omega
        rw [hj, List.take_length] at q3
        omega
      rw [k1.last a r e2, List.append_nil, hD]
    · exact k1.old a r b3 e2 hb3
  · obtain ⟨rfl, rfl⟩ := split_last e
    rw [hl]
    exact lk_put_self ⟨fileL nm (R.length + 1), [], 0⟩ fs
  · have hxm : x ≠ n + g.flatten.length := hn g [] [] rfl
    unfold inN at hx
    have h5 := h.shp.small.1
    rw [lk_put (x := ⟨fileL nm (R.length + 1), [], 0⟩) (fun e9 => by have := fileL_inj (by omega) (by omega) e9; omega)]
    exact k1.none x hx fun a r b e => hn a r (b ++ [[]]) (by rw [e]; simp)
  · obtain ⟨rfl, rfl⟩ := split_last e
    exact ⟨Nat.zero_le _, 0, Nat.zero_le _, by rw [List.take_zero, bytesF_nil]; exact Nat.zero_le _, by have := h.le; omega⟩
/-- The first segment is removed. -/
theorem Fls.drop (h : Fls nm fs R n (r :: g) K) (hg : g ≠ []) : (∃ f, lkC fs (fileL nm n) = some f) ∧ Fls nm (delC fs (fileL nm n)) R (n + r.length) g K := by
  obtain ⟨D, k1, k2⟩ := h.fil
  have hl := h.shp.len
  rw [List.flatten_cons, List.length_append] at hl
  have h0 := h.shp.n1
  have h5 := h.shp.small.1
  have hr : r ≠ [] := h.shp.mid [] r g rfl hg
  have hrl := List.length_pos_iff.2 hr
  have hac : ∀ a : List (List (List UInt8)), n + (r :: a).flatten.length = n + r.length + a.flatten.length := fun a => by rw [List.flatten_cons, List.length_append]; omega
  refine ⟨⟨_, k1.old [] r g rfl hg⟩, h.name, ⟨by omega, by omega, ?_, fun a r2 b e hb => h.shp.mid (r :: a) r2 b (by rw [e]; rfl) hb, fun e => absurd e hg, h.shp.small⟩, fun e => absurd e hg, D, ⟨fun a r2 b e hb => ?_, fun a r2 e => ?_, fun x hx hn => ?_⟩, fun a r2 e => ?_⟩
  · have := h.shp.recs
    rw [List.flatten_cons] at this
    rw [show n + r.length - 1 = n - 1 + r.length by omega, ← List.drop_drop, ← this, List.drop_left]
  · have h6 := (show Shp R n ((r :: a) ++ r2 :: b) by rw [List.cons_append, ← e]; exact h.shp).at
    rw [hac] at h6
    rw [lk_del (fun e9 => by have := fileL_inj (by omega) (by omega) e9; omega)]
    have := k1.old (r :: a) r2 b (by rw [e]; rfl) hb
    rwa [hac] at this
  · have h6 := (show Shp R n ((r :: a) ++ r2 :: []) by rw [List.cons_append, ← e]; exact h.shp).at
    rw [hac] at h6
    rw [lk_del (fun e9 => by have := fileL_inj (by omega) (by omega) e9; omega)]
    have := k1.last (r :: a) r2 (by rw [e]; rfl)
    rwa [hac] at this
  · by_cases hxn : x = n
    · rw [hxn]
      exact lk_del_self fs
    · unfold inN at hx
      rw [lk_del (fun e9 => by have := fileL_inj (by omega) (by omega) e9; omega)]
      refine k1.none x hx fun a r2 b e => ?_
      rcases a with _ | ⟨r3, a⟩
      · simpa using hxn
      · rw [List.cons_append] at e
        injection e with e1 e2
        subst e1
        rw [hac]
        exact hn a r2 b e2
  · obtain ⟨q1, j, q2, q3, q4⟩ := k2 (r :: a) r2 (by rw [e]; rfl)
    rw [hac] at q4
    exact ⟨q1, j, q2, q3, q4⟩
end
end Go.Proofs.YtbafnlccpbonmaaGreatDoor

namespace Go.Proofs.YtbafnlccpbonmaaGreatDoor
set_option linter.unusedVariables false
set_option linter.unnecessarySimpa false
set_option linter.unusedSimpArgs false

structure Inv (nm : List UInt8) (s : Ds) (l : Lg) (R : List (List UInt8)) (n : Nat) (g : List (List (List UInt8))) : Prop where
  nam : l.name = nm
  lim : 64 ≤ l.limit ∧ l.limit ≤ 4194304
  parts : l.parts = ptsG n g
  dur0 : 0 ≤ l.dur
  fls : Fls nm s.fs R n g l.dur
section
variable {nm : List UInt8} {s t : Ds} {l : Lg} {R : List (List UInt8)} {n : Nat} {g a b : List (List (List UInt8))} {r : List (List UInt8)} {K K' : Int} {D : Nat} {z d : List UInt8}
theorem snocL {α : Type} (l : List α) : l = [] ∨ ∃ i x, l = i ++ [x] := by
  rcases List.eq_nil_or_concat l with e | ⟨i, x, e⟩
  · exact .inl e
  · exact .inr ⟨i, x, by rw [e, List.concat_eq_append]⟩
theorem Inv.lastPt (h : Inv nm s l R n (a ++ [r])) : l.parts.getLast? = some ⟨n + a.flatten.length, offsF 0 r⟩ := by rw [h.parts, ptsG_snoc]; simp
theorem pt_behind (m : Nat) (r : List (List UInt8)) : (⟨m, offsF 0 r⟩ : Pt).behind = ((m + r.length : Nat) : Int) := by
  unfold Pt.behind
  dsimp only
  rw [offsF_len]
  omega
theorem pt_size (m : Nat) (r : List (List UInt8)) : (⟨m, offsF 0 r⟩ : Pt).size = bytesF r := by
  unfold Pt.size
  dsimp only
  rw [offsF_last]
  omega
theorem Inv.last (h : Inv nm s l R n g) : l.last = R.length := by
  rcases snocL g with rfl | ⟨a, r, rfl⟩
  · have h1 := h.fls.shp.nil rfl
    unfold Lg.last
    rw [h.parts, h1]
    rfl
  · have h1 := h.fls.shp.at
    simp only [List.flatten_nil, List.length_nil] at h1
    unfold Lg.last
    rw [h.lastPt]
    dsimp only
    rw [pt_behind]
    omega
theorem Inv.frst (h : Inv nm s l R n g) : l.frst = n := by
  rcases g with _ | ⟨r, g⟩
  · have h1 := h.fls.shp.nil rfl
    have h2 := h.fls.shp.nR
    have h3 := h.fls.shp.n1
    rw [h1] at h2
    unfold Lg.frst
    rw [h.parts]
    simp at h2
    simp only [ptsG, List.head?_nil]
    omega
  · unfold Lg.frst
    rw [h.parts]
    rfl
theorem Inv.file (h : Inv nm s l R n (a ++ r :: b)) : l.file ((n + a.flatten.length : Nat) : Int) = fileL nm (n + a.flatten.length) := by
  unfold Lg.file fileR
  rw [h.nam, if_neg (by rw [h.fls.name]; decide), if_neg (by have := h.fls.shp.in; exact fun x => x this)]
  rfl
theorem own_file (hx : inN (((n : Nat)) : Int)) : OwnF nm (fileL nm n) := ⟨n, hx, rfl⟩
theorem ptsG_mem : ∀ {g : List (List (List UInt8))} {n : Nat} {p : Pt}, p ∈ ptsG n g → ∃ a r b, g = a ++ r :: b ∧ p = ⟨n + a.flatten.length, offsF 0 r⟩
  | [], n, p, h => by cases h
  | r :: g, n, p, h => by
    rw [ptsG] at h
    rcases List.mem_cons.1 h with rfl | h
    · exact ⟨[], r, g, rfl, by simp⟩
    · obtain ⟨a, r2, b, e1, e2⟩ := ptsG_mem h
      exact ⟨r :: a, r2, b, by rw [e1]; rfl, by rw [e2, List.flatten_cons, List.length_append, Nat.add_assoc]⟩
theorem Shp.ptOk (h : Shp R n g) : (∀ p ∈ ptsG n g, (1 ≤ p.first ∧ p.first ≤ 100000000) ∧ p.offs.length ≤ 100000001 ∧ p.offs ≠ [] ∧ ∀ o ∈ p.offs, o ≤ 1099511627776) := fun p hp => by
  obtain ⟨a, r, b, e1, e2⟩ := ptsG_mem hp
  have h1 := (e1 ▸ h).at
  have h2 := (e1 ▸ h).bytes
  have h3 := h.n1
  have h4 := h.small.1
  subst e2
  refine ⟨⟨?_, ?_⟩, ?_, offsF_ne 0 r, fun o ho => ?_⟩
  · dsimp only; omega
  · dsimp only; omega
  · dsimp only; rw [offsF_len]; omega
  · have := offsF_le r 0 o ho
    omega
theorem Shp.cnt (h : Shp R n g) : g.length ≤ R.length + 2 := by
  have hm : ∀ (g : List (List (List UInt8))), (∀ r ∈ g, r ≠ []) → g.length ≤ g.flatten.length := fun g => by
    induction g with
    | nil => intro _; simp
    | cons r g ih =>
      intro h
      have h1 := ih fun x hx => h x (List.mem_cons_of_mem _ hx)
      have h2 := List.length_pos_iff.2 (h r (List.mem_cons_self ..))
      rw [List.length_cons, List.flatten_cons, List.length_append]
      omega
  rcases snocL g with rfl | ⟨a, r, rfl⟩
  · simp
  · have h1 := hm a fun x hx => by
      obtain ⟨p, q, e⟩ := List.append_of_mem hx
      exact h.mid p x (q ++ [r]) (by rw [e]; simp) (by simp)
    have h2 := h.at
    have h3 := h.n1
    rw [List.length_append, List.length_singleton]
    simp only [List.flatten_nil, List.length_nil] at h2
    omega
/-! ### Sync -/
theorem Inv.sync (h : Inv nm s l R n g) (hg : s.Good) (hd : s.down = false) :
    (∃ t, lsync s l = (0, t, { l with dur := R.length }) ∧ t.down = false ∧ Stp (OwnF nm) 0 0 1 s t ∧ Inv nm t { l with dur := R.length } R n g) ∨
    (s.lim = true ∧ s.left ≤ 0 ∧ ∃ t, lsync s l = (31, t, l) ∧ t.down = true ∧ Stp (OwnF nm) 0 0 1 s t ∧ Inv nm t l R n g ∧ t.fs = s.fs) := by
  rcases snocL g with rfl | ⟨a, r, rfl⟩
  · have h1 := h.fls.shp.nil rfl
    have h2 := h.fls.nil rfl
    have h3 := h.dur0
    have e : ({ l with dur := (R.length : Int) } : Lg) = l := by
      obtain ⟨l1, l2, l3, l4⟩ := l
      have : l4 = 0 := by dsimp only at h2 h3; omega
      rw [h1, this]
      rfl
    rw [e]
    refine .inl ⟨s, ?_, hd, (Stp.refl _ s).mono (Nat.le_refl _) (Nat.le_refl _) (Nat.zero_le _), h⟩
    unfold lsync
    rw [h.parts]
    rfl
  · obtain ⟨D, k1, k2⟩ := h.fls.fil
    have hf := k1.last a r rfl
    have hr := sync_ran hg hd (own_file h.fls.shp.in) hf
    have he : lsync s l = if (syncD s (fileL nm (n + a.flatten.length))).1 ≠ 0 then ((syncD s (fileL nm (n + a.flatten.length))).1, (syncD s (fileL nm (n + a.flatten.length))).2, l) else (0, (syncD s (fileL nm (n + a.flatten.length))).2, { l with dur := (R.length : Int) }) := by
      rw [← h.last]
      unfold lsync
      rw [h.lastPt]
      dsimp only
      rw [h.file]
    rcases hr with ⟨t, e, hdn, hs, ht⟩ | ⟨e1, e2, t, e, hdn, hs, ht⟩
    · rw [e] at he
      dsimp only at he
      rw [if_neg (by simp)] at he
      exact .inl ⟨t, he, hdn, hs, h.nam, h.lim, h.parts, by dsimp only; omega, by rw [ht]; exact h.fls.sync hf⟩
    · rw [e] at he
      dsimp only at he
      rw [if_pos (by decide)] at he
      exact .inr ⟨e1, e2, t, he, hdn, hs, ⟨h.nam, h.lim, h.parts, h.dur0, by rw [ht]; exact h.fls⟩, ht⟩
/-! ### Append -/
/-- A new segment is needed for a frame of z bytes. -/
def needG (lim : Int) (g : List (List (List UInt8))) (z : Nat) : Prop := match g.getLast? with
  | none => True
  | some r => 0 < bytesF r ∧ lim < ((bytesF r + z : Nat) : Int)
instance (lim : Int) (g : List (List (List UInt8))) (z : Nat) : Decidable (needG lim g z) := by unfold needG; split <;> infer_instance
theorem need_nil (lim : Int) (z : Nat) : needG lim [] z := by unfold needG; trivial
theorem need_snoc (lim : Int) (z : Nat) : needG lim (a ++ [r]) z ↔ 0 < bytesF r ∧ lim < ((bytesF r + z : Nat) : Int) := by unfold needG; simp
/-- A new segment. -/
theorem Inv.new (h : Inv nm s l R n g) (hd : s.down = false) (h1 : R.length < 1000) (hn : g ≠ [] → l.dur = R.length) (hr : ∀ a r, g = a ++ [r] → r ≠ []) (hc : s.fs.length < 4096) :
    (∃ t, lnew s l ((R.length + 1 : Nat) : Int) = (0, t, { l with parts := ptsG n (g ++ [[]]) }) ∧ t.down = false ∧ Stp (OwnF nm) 0 1 1 s t ∧ Inv nm t { l with parts := ptsG n (g ++ [[]]) } R n (g ++ [[]])) ∨
    (s.lim = true ∧ s.left ≤ 0 ∧ ∃ t, lnew s l ((R.length + 1 : Nat) : Int) = (31, t, l) ∧ t.down = true ∧ Stp (OwnF nm) 0 1 1 s t ∧ Inv nm t l R n g) := by
  obtain ⟨k1, k2⟩ := h.fls.new h1 hn hr
  have hi : inN ((R.length + 1 : Nat) : Int) := by unfold inN; omega
  have hf : l.file ((R.length + 1 : Nat) : Int) = fileL nm (R.length + 1) := by
    unfold Lg.file fileR
    rw [h.nam, if_neg (by rw [h.fls.name]; decide), if_neg (fun x => x hi)]
    rfl
  have hp : l.parts ++ [⟨R.length + 1, [0]⟩] = ptsG n (g ++ [[]]) := by
    rw [h.parts, ptsG_snoc, h.fls.shp.len]
    rfl
  have hr := create_ran hd (own_file (nm := nm) hi) (fileL_ok h.fls.name _) k1 hc
  unfold lnew
  rw [hf, Int.toNat_natCast, hp]
  rcases hr with ⟨t, e, hdn, hs, ht⟩ | ⟨e1, e2, t, e, hdn, hs, ht⟩
  · rw [e]
    dsimp only
    rw [if_neg (by simp)]
    exact .inl ⟨t, rfl, hdn, hs, h.nam, h.lim, rfl, h.dur0, by rw [ht]; exact k2⟩
  · rw [e]
    dsimp only
    rw [if_pos (by decide)]
    exact .inr ⟨e1, e2, t, rfl, hdn, hs, h.nam, h.lim, h.parts, h.dur0, by rw [ht]; exact h.fls⟩
theorem bytesF_pos (h : 0 < bytesF r) : r ≠ [] := fun e => by rw [e, bytesF_nil] at h; omega
/-- What rotate leaves. -/
def rotG (lim : Int) (g : List (List (List UInt8))) (z : Nat) : List (List (List UInt8)) := if needG lim g z then g ++ [[]] else g
def rotK (lim : Int) (g : List (List (List UInt8))) (z : Nat) (R : List (List UInt8)) (K : Int) : Int := if needG lim g z ∧ g ≠ [] then R.length else K
theorem Inv.rot (h : Inv nm s l R n g) (hg : s.Good) (hd : s.down = false) (h1 : R.length < 1000) (hc : s.fs.length < 4096) (z : Nat) :
    (∃ t, lrot s l ((R.length + 1 : Nat) : Int) z = (0, t, ⟨l.name, l.limit, ptsG n (rotG l.limit g z), rotK l.limit g z R l.dur⟩) ∧ t.down = false ∧ Stp (OwnF nm) 0 1 2 s t ∧ Inv nm t ⟨l.name, l.limit, ptsG n (rotG l.limit g z), rotK l.limit g z R l.dur⟩ R n (rotG l.limit g z) ∧ rotG l.limit g z ≠ []) ∨
    (s.lim = true ∧ (s.left ≤ 4611686018427387904 → s.left ≤ 1) ∧ ∃ t l', lrot s l ((R.length + 1 : Nat) : Int) z = (31, t, l') ∧ t.down = true ∧ Stp (OwnF nm) 0 1 2 s t ∧ Inv nm t l' R n g) := by
  unfold rotG rotK
  by_cases hnd : needG l.limit g z
  · rw [if_pos hnd]
    rcases snocL g with rfl | ⟨a, r, rfl⟩
    · rw [if_neg (fun x => x.2 rfl)]
      have he : lrot s l ((R.length + 1 : Nat) : Int) z = lnew s l ((R.length + 1 : Nat) : Int) := by
        unfold lrot
        rw [h.parts]
        rfl
      rw [he]
      rcases h.new hd h1 (fun x => absurd rfl x) (fun a r e => by simp at e) hc with ⟨t, e, k1, k2, k3⟩ | ⟨e1, e2, t, e, k1, k2, k3⟩
      · exact .inl ⟨t, e, k1, k2.mono (Nat.le_refl _) (Nat.le_refl _) (by omega), k3, by simp⟩
      · exact .inr ⟨e1, fun _ => by omega, t, l, e, k1, k2.mono (Nat.le_refl _) (Nat.le_refl _) (by omega), k3⟩
    · rw [if_pos ⟨hnd, by simp⟩]
      rw [need_snoc] at hnd
      have he : lrot s l ((R.length + 1 : Nat) : Int) z = if (lsync s l).1 ≠ 0 then lsync s l else lnew (lsync s l).2.1 (lsync s l).2.2 ((R.length + 1 : Nat) : Int) := by
        unfold lrot
        rw [h.lastPt]
        dsimp only
        rw [pt_size, if_neg (by omega)]
      rw [he]
      rcases h.sync hg hd with ⟨t, e, k1, k2, k3⟩ | ⟨e1, e2, t, e, k1, k2, k3, _⟩
      · rw [e]
        dsimp only
        rw [if_neg (by simp)]
        rcases k3.new k1 h1 (fun _ => rfl) (fun a' r' e9 => by obtain ⟨_, rfl⟩ := split_last e9; exact bytesF_pos hnd.1) (by have := k2.cnt; omega) with ⟨t2, e', j1, j2, j3⟩ | ⟨e1, e2, t2, e', j1, j2, j3⟩
        · exact .inl ⟨t2, e', j1, (k2.trans j2).mono (Nat.le_refl _) (Nat.le_refl _) (by omega), j3, by simp⟩
        · refine .inr ⟨by rw [← k2.lim]; exact e1, ?_, t2, _, e', j1, (k2.trans j2).mono (Nat.le_refl _) (Nat.le_refl _) (by omega), j3⟩
          intro hl2
          by_cases hl : 1 < s.left
          · have := k2.left (by omega) hl2
            omega
          · omega
      · rw [e]
        dsimp only
        rw [if_pos (by decide)]
        exact .inr ⟨e1, fun _ => by omega, t, l, rfl, k1, k2.mono (Nat.le_refl _) (by omega) (by omega), k3⟩
  · rw [if_neg hnd, if_neg (fun x => hnd x.1)]
    rcases snocL g with rfl | ⟨a, r, rfl⟩
    · exact absurd (need_nil _ _) hnd
    · rw [need_snoc] at hnd
      have he : lrot s l ((R.length + 1 : Nat) : Int) z = (0, s, l) := by
        unfold lrot
        rw [h.lastPt]
        dsimp only
        rw [pt_size, if_pos (by omega)]
      have hl : (⟨l.name, l.limit, ptsG n (a ++ [r]), l.dur⟩ : Lg) = l := by rw [← h.parts]
      rw [he, hl]
      exact .inl ⟨s, rfl, hd, (Stp.refl _ s).mono (by omega) (by omega) (by omega), h, by simp⟩
/-- The segments with a record more. -/
def appG (lim : Int) (g : List (List (List UInt8))) (d : List UInt8) : List (List (List UInt8)) := match (rotG lim g (16 + d.length)).getLast? with
  | none => []
  | some r => (rotG lim g (16 + d.length)).dropLast ++ [r ++ [d]]
theorem app_more (l : Lg) (a : List (List (List UInt8))) (r : List (List UInt8)) (n : Nat) (d : List UInt8) (k : Nat) (h : l.parts = ptsG n (a ++ [r])) : l.more (frameL k d).length = { l with parts := ptsG n (a ++ [r ++ [d]]) } := by
  unfold Lg.more
  rw [h, ptsG_snoc, ptsG_snoc]
  simp only [List.getLast?_append, List.getLast?_singleton, Option.some_or, List.dropLast_concat]
  rw [offsF_snoc, frameL_len, pt_size, Nat.zero_add]
theorem Inv.app (h : Inv nm s l R n g) (hg : s.Good) (hd : s.down = false) (h1 : R.length < 1000) (h2 : d.length ≤ 1000) (hc : s.fs.length < 4096) (hr : ((usedC s.fs + (16 + d.length) : Nat) : Int) ≤ s.room) :
    (∃ t, lapp s l d = ((((R.length + 1 : Nat) : Int), (0 : Int)), t, ⟨l.name, l.limit, ptsG n (appG l.limit g d), rotK l.limit g (16 + d.length) R l.dur⟩) ∧ t.down = false ∧ Stp (OwnF nm) (16 + d.length) 1 3 s t ∧ Inv nm t ⟨l.name, l.limit, ptsG n (appG l.limit g d), rotK l.limit g (16 + d.length) R l.dur⟩ (R ++ [d]) n (appG l.limit g d)) ∨
    (s.lim = true ∧ (s.left ≤ 4611686018427387904 → s.left ≤ 2) ∧ ∃ t l' R' g', lapp s l d = ((0, 31), t, l') ∧ t.down = true ∧ Stp (OwnF nm) (16 + d.length) 1 3 s t ∧ (R' = R ∨ R' = R ++ [d]) ∧ 0 ≤ l'.dur ∧ l'.dur ≤ R.length ∧ Fls nm t.fs R' n g' l'.dur) := by
  have e0 : lapp s l d = if (lrot s l ((R.length + 1 : Nat) : Int) ((16 + d.length : Nat) : Int)).1 ≠ 0 then ((0, (lrot s l ((R.length + 1 : Nat) : Int) ((16 + d.length : Nat) : Int)).1), (lrot s l ((R.length + 1 : Nat) : Int) ((16 + d.length : Nat) : Int)).2)
      else ladd (lrot s l ((R.length + 1 : Nat) : Int) ((16 + d.length : Nat) : Int)).2.1 (lrot s l ((R.length + 1 : Nat) : Int) ((16 + d.length : Nat) : Int)).2.2 ((R.length + 1 : Nat) : Int) (frameL (R.length + 1) d) := by
    unfold lapp
    rw [h.last, show (R.length : Int) + 1 = ((R.length + 1 : Nat) : Int) by omega, show (16 : Int) + (d.length : Int) = ((16 + d.length : Nat) : Int) by omega, if_neg (by omega), if_neg (by omega), Int.toNat_natCast]
  rw [e0]
  rcases h.rot hg hd h1 hc (16 + d.length) with ⟨t, e, k1, k2, k3, k4⟩ | ⟨e1, e2, t, l', e, k1, k2, k3⟩
  · rw [e]
    dsimp only
    rw [if_neg (by simp)]
    unfold appG
    rcases snocL (rotG l.limit g (16 + d.length)) with e9 | ⟨a, r, e9⟩
    · exact absurd e9 k4
    · rw [e9] at k3 ⊢
      obtain ⟨D, q1, q2⟩ := k3.fls.fil
      have hf := q1.last a r rfl
      have hby := k3.fls.shp.bytes
      have hap := append_ran (k2.good hg) k1 (own_file k3.fls.shp.in) hf (l := frameL (R.length + 1) d) (by dsimp only; rw [List.append_nil, len_frames, frameL_len]; omega) (by rw [frameL_len, k2.room]; have := k2.used; omega)
      have hF := k3.fls.append (d := d) h1 h2 hf
      rw [frameL_len] at hap
      have ea : ladd t ⟨l.name, l.limit, ptsG n (a ++ [r]), rotK l.limit g (16 + d.length) R l.dur⟩ ((R.length + 1 : Nat) : Int) (frameL (R.length + 1) d) =
          if (appendD t (fileL nm (n + a.flatten.length)) (frameL (R.length + 1) d)).1 ≠ 0 then ((0, (appendD t (fileL nm (n + a.flatten.length)) (frameL (R.length + 1) d)).1), (appendD t (fileL nm (n + a.flatten.length)) (frameL (R.length + 1) d)).2, ⟨l.name, l.limit, ptsG n (a ++ [r]), rotK l.limit g (16 + d.length) R l.dur⟩)
          else ((((R.length + 1 : Nat) : Int), (0 : Int)), (appendD t (fileL nm (n + a.flatten.length)) (frameL (R.length + 1) d)).2, ⟨l.name, l.limit, ptsG n (a ++ [r ++ [d]]), rotK l.limit g (16 + d.length) R l.dur⟩) := by
        unfold ladd
        rw [k3.lastPt]
        dsimp only
        rw [k3.file, app_more _ a r n d (R.length + 1) rfl]
      rw [ea]
      have hle := k3.fls.le
      simp only [List.getLast?_append, List.getLast?_singleton, Option.some_or, List.dropLast_concat]
      rcases hap with ⟨t2, e', j1, j2, j3⟩ | ⟨e1, e2, t2, e', j1, j2, j3⟩
      · rw [e']
        dsimp only
        rw [if_neg (by simp)]
        refine .inl ⟨t2, rfl, j1, (k2.trans j2).mono (by omega) (by omega) (by omega), k3.nam, k3.lim, rfl, k3.dur0, ?_⟩
        rw [j3]
        exact hF
      · rw [e']
        dsimp only
        rw [if_pos (by decide)]
        refine .inr ⟨by rw [← k2.lim]; exact e1, ?_, t2, _, R ++ [d], _, rfl, j1, (k2.trans j2).mono (by omega) (by omega) (by omega), .inr rfl, k3.dur0, hle, by rw [j3]; exact hF⟩
        intro hl2
        by_cases hl : 2 < s.left
        · have := k2.left (by omega) hl2
          omega
        · omega
  · rw [e]
    dsimp only
    rw [if_pos (by decide)]
    refine .inr ⟨e1, fun h9 => by have := e2 h9; omega, t, l', R, g, rfl, k1, k2.mono (by omega) (by omega) (by omega), .inl rfl, k3.dur0, k3.fls.le, k3.fls⟩
/-! ### Drop -/
/-- The segments that are left, and how many are removed. -/
def drpG (b : Int) : Nat → List (List (List UInt8)) → Nat × Nat × List (List (List UInt8))
  | n, r :: q :: g => if ((n + r.length : Nat) : Int) ≤ b then ((drpG b (n + r.length) (q :: g)).1 + 1, (drpG b (n + r.length) (q :: g)).2) else (0, n, r :: q :: g)
  | n, g => (0, n, g)
theorem drpG_go (b : Int) (n : Nat) (r q : List (List UInt8)) (g : List (List (List UInt8))) (h : ((n + r.length : Nat) : Int) ≤ b) : drpG b n (r :: q :: g) = ((drpG b (n + r.length) (q :: g)).1 + 1, (drpG b (n + r.length) (q :: g)).2) := by rw [drpG, if_pos h]
theorem drpG_end (b : Int) (n : Nat) (r q : List (List UInt8)) (g : List (List (List UInt8))) (h : ¬ ((n + r.length : Nat) : Int) ≤ b) : drpG b n (r :: q :: g) = (0, n, r :: q :: g) := by rw [drpG, if_neg h]
theorem Fls.dropAll {b : Int} : ∀ (g : List (List (List UInt8))) (n k : Nat) (s : Ds), Fls nm s.fs R n g K → s.Good → s.down = false →
    (∃ t, ldrop nm b s (ptsG n g) k = ((((k + (drpG b n g).1 : Nat) : Int), (0 : Int)), t, ptsG (drpG b n g).2.1 (drpG b n g).2.2) ∧ t.down = false ∧ Stp (OwnF nm) 0 0 (drpG b n g).1 s t ∧ Fls nm t.fs R (drpG b n g).2.1 (drpG b n g).2.2 K) ∨
    (s.lim = true ∧ ∃ t n' g', ldrop nm b s (ptsG n g) k = ((0, 31), t, ptsG n' g') ∧ t.down = true ∧ Stp (OwnF nm) 0 0 (g.length) s t ∧ Fls nm t.fs R n' g' K ∧ ((n' : Int) ≤ b ∨ n' = n))
  | [], n, k, s, h, hg, hd => .inl ⟨s, rfl, hd, Stp.refl _ s, h⟩
  | [r], n, k, s, h, hg, hd => .inl ⟨s, rfl, hd, Stp.refl _ s, h⟩
  | r :: q :: g, n, k, s, h, hg, hd => by
    have hp : ptsG n (r :: q :: g) = ⟨n, offsF 0 r⟩ :: ⟨n + r.length, offsF 0 q⟩ :: ptsG (n + r.length + q.length) g := rfl
    rw [hp, ldrop]
    dsimp only
    by_cases hb : ((n + r.length : Nat) : Int) ≤ b
    · rw [if_pos hb, drpG_go b n r q g hb]
      have hin : inN (n : Int) := by have := (show Shp R n ([] ++ r :: (q :: g)) from h.shp).in; simpa using this
      have hfr : (fileR nm (n : Int)).1 = fileL nm n := by
        unfold fileR
        rw [if_neg (by rw [h.name]; decide), if_neg (fun x => x hin)]
        rfl
      obtain ⟨⟨f, hf⟩, h3⟩ := h.drop (by simp)
      rw [hfr]
      rcases remove_ran hd (own_file hin) hf with ⟨t, e, k1, k2, k3⟩ | ⟨e1, e2, t, e, k1, k2, k3⟩
      · rw [e]
        dsimp only
        rw [if_neg (by simp)]
        rw [← k3] at h3
        rcases Fls.dropAll (q :: g) (n + r.length) (k + 1) t h3 (k2.good hg) k1 with ⟨u, j1, j2, j3, j4⟩ | ⟨e1, u, n', g', j1, j2, j3, j4, j5⟩
        · refine .inl ⟨u, ?_, j2, (k2.trans j3).mono (by omega) (by omega) (by omega), j4⟩
          have : ptsG (n + r.length) (q :: g) = ⟨n + r.length, offsF 0 q⟩ :: ptsG (n + r.length + q.length) g := rfl
          rw [← this, j1, show k + 1 + (drpG b (n + r.length) (q :: g)).1 = k + ((drpG b (n + r.length) (q :: g)).1 + 1) by omega]
        · refine .inr ⟨by rw [← k2.lim]; exact e1, u, n', g', ?_, j2, (k2.trans j3).mono (by omega) (by omega) (by simp; omega), j4, ?_⟩
          · have : ptsG (n + r.length) (q :: g) = ⟨n + r.length, offsF 0 q⟩ :: ptsG (n + r.length + q.length) g := rfl
            rw [← this, j1]
          · rcases j5 with j5 | j5
            · exact .inl j5
            · exact .inl (by rw [j5]; exact hb)
      · rw [e]
        dsimp only
        rw [if_pos (by decide)]
        exact .inr ⟨e1, t, n, r :: q :: g, rfl, k1, k2.mono (by omega) (by omega) (by simp), by rw [k3]; exact h, .inr rfl⟩
    · rw [if_neg hb, drpG_end b n r q g hb]
      exact .inl ⟨s, rfl, hd, Stp.refl _ s, h⟩
/-! ### Read -/
theorem split_at : ∀ (g : List (List (List UInt8))) (n k : Nat), n ≤ k → k < n + g.flatten.length → ∃ a r b, g = a ++ r :: b ∧ n + a.flatten.length ≤ k ∧ k < n + a.flatten.length + r.length
  | [], n, k, h1, h2 => by simp at h2; omega
  | r :: g, n, k, h1, h2 => by
    rw [List.flatten_cons, List.length_append] at h2
    by_cases h : k < n + r.length
    · exact ⟨[], r, g, rfl, by simpa using h1, by simpa using h⟩
    · obtain ⟨a, r2, b, e, h3, h4⟩ := split_at g (n + r.length) k (by omega) (by omega)
      refine ⟨r :: a, r2, b, by rw [e]; rfl, ?_, ?_⟩ <;> rw [List.flatten_cons, List.length_append] <;> omega
theorem pts_none : ∀ (g : List (List (List UInt8))) (n : Nat) (k : Int), k < n → (ptsG n g).filter (fun p => decide ((p.first : Int) ≤ k)) = []
  | [], n, k, h => rfl
  | r :: g, n, k, h => by
    rw [ptsG, List.filter_cons, if_neg (by rw [decide_eq_true_eq]; dsimp only; omega)]
    exact pts_none g _ k (by omega)
theorem Inv.part (h : Inv nm s l R n (a ++ r :: b)) {k : Nat} (h1 : n + a.flatten.length ≤ k) (h2 : k < n + a.flatten.length + r.length) : l.part k = some ⟨n + a.flatten.length, offsF 0 r⟩ := by
  unfold Lg.part
  rw [h.parts, ptsG_app, ptsG, List.filter_append, List.filter_cons, if_pos (decide_eq_true (show ((n + a.flatten.length : Nat) : Int) ≤ (k : Int) by omega)), pts_none b _ _ (by omega)]
  exact List.getLast?_concat ..
theorem data_at (h : Shp R n (a ++ r :: b)) {k : Nat} (h1 : n + a.flatten.length ≤ k) (h2 : k < n + a.flatten.length + r.length) : R[k - 1]? = r[k - (n + a.flatten.length)]? := by
  have h0 := h.n1
  have e : (R.drop (n - 1))[k - n]? = R[k - 1]? := by rw [List.getElem?_drop]; congr 1; omega
  rw [← e, ← h.recs, List.flatten_append, List.flatten_cons, List.getElem?_append_right (by omega), List.getElem?_append_left (by omega)]
  congr 1
  omega
theorem frames_at : ∀ (r : List (List UInt8)) (m i : Nat) (d : List UInt8), r[i]? = some d → ((framesL m r).drop (bytesF (r.take i))).take (16 + d.length) = frameL (m + i) d
  | [], m, i, d, h => by simp at h
  | x :: r, m, 0, d, h => by
    simp at h
    subst h
    rw [List.take_zero, bytesF_nil, List.drop_zero, framesL, List.take_left' (frameL_len _ _)]
    rfl
  | x :: r, m, i + 1, d, h => by
    have ih := frames_at r (m + 1) i d (by simpa using h)
    rw [List.take_succ_cons, bytesF_cons, framesL, ← frameL_len m x, List.drop_append, List.drop_of_length_le (by omega), List.nil_append, Nat.add_sub_cancel_left, ih, show m + 1 + i = m + (i + 1) by omega]
theorem bytes_take {i : Nat} (hi : r[i]? = some d) : bytesF (r.take (i + 1)) = bytesF (r.take i) + (16 + d.length) := by
  rw [List.take_add_one, hi, bytesF_app, Option.toList_some, bytesF_cons, bytesF_nil]
  omega
theorem bytes_take_le (i : Nat) : bytesF (r.take i) ≤ bytesF r := by
  conv => rhs; rw [← List.take_append_drop i r]
  rw [bytesF_app]
  omega
theorem Fls.data (h : Fls nm s.fs R n (a ++ r :: b) K) : ∃ D, lkC s.fs (fileL nm (n + a.flatten.length)) = some ⟨fileL nm (n + a.flatten.length), framesL (n + a.flatten.length) r, D⟩ := by
  obtain ⟨D, k1, k2⟩ := h.fil
  by_cases hb : b = []
  · subst hb
    have := k1.last a r rfl
    rw [List.append_nil] at this
    exact ⟨D, this⟩
  · exact ⟨_, k1.old a r b rfl hb⟩
/-- A record that is there is read. -/
theorem Inv.read (h : Inv nm s l R n g) (hd : s.down = false) {k : Nat} (h1 : n ≤ k) {d : List UInt8} (h2 : R[k - 1]? = some d) : lread s l k = (d, 0) := by
  have h0 := h.fls.shp.n1
  have hlt := (List.getElem?_eq_some_iff.1 h2).1
  have hlen := h.fls.shp.len
  obtain ⟨a, r, b, rfl, h3, h4⟩ := split_at g n k h1 (by omega)
  rw [data_at h.fls.shp h3 h4] at h2
  obtain ⟨i, hi⟩ : ∃ i, k - (n + a.flatten.length) = i := ⟨_, rfl⟩
  rw [hi] at h2
  obtain ⟨D, hf⟩ := h.fls.data
  unfold lread
  rw [h.frst, h.last, if_neg (by omega), h.part h3 h4]
  dsimp only
  rw [h.file, show ((k : Int) - ((n + a.flatten.length : Nat) : Int)).toNat = i by omega]
  have hir : i < r.length := (List.getElem?_eq_some_iff.1 h2).1
  have o1 : (offsF 0 r).getD i 0 = bytesF (r.take i) := by rw [List.getD_eq_getElem?_getD, offsF_get r 0 i (by omega)]; simp
  have o2 : (offsF 0 r).getD (i + 1) 0 = bytesF (r.take i) + (16 + d.length) := by rw [List.getD_eq_getElem?_getD, offsF_get r 0 (i + 1) (by omega), bytes_take h2]; simp
  have hle : bytesF (r.take i) + (16 + d.length) ≤ bytesF r := by rw [← bytes_take h2]; exact bytes_take_le (i + 1)
  rw [o1, o2, show ((bytesF (r.take i) + (16 + d.length) : Nat) : Int) - ((bytesF (r.take i) : Nat) : Int) = ((16 + d.length : Nat) : Int) by omega]
  have hrd : readD s (fileL nm (n + a.flatten.length)) ((bytesF (r.take i) : Nat) : Int) ((16 + d.length : Nat) : Int) = (frameL k d, 0) := by
    unfold readD
    rw [if_neg (by rw [hd]; decide), hf]
    dsimp only
    rw [if_neg (by rw [len_frames]; omega), Int.toNat_natCast, Int.toNat_natCast, frames_at r _ i d h2, show n + a.flatten.length + i = k by omega]
  rw [hrd]
  dsimp only
  rw [if_neg (by simp)]
  have hk : inN (k : Int) := by
    have := h.fls.shp.small.1
    unfold inN
    omega
  have hdl := h.fls.shp.mem d (List.mem_of_getElem? h2)
  have hpf := parse_frame (n := k) hk (d := d) (by omega) []
  rw [List.append_nil] at hpf
  unfold parseP
  rw [if_neg (by rw [frameL_len]; rintro (h9 | h9 | h9); omega; omega; exact h9 hk)]
  rw [show (0 : Int).toNat = 0 from rfl, List.drop_zero, hpf]
theorem Inv.noread (h : Inv nm s l R n g) {k : Int} (hk : k < n ∨ (R.length : Int) < k) : lread s l k = ([], 8) := by
  unfold lread
  rw [h.frst, h.last, if_pos hk]
end
end Go.Proofs.YtbafnlccpbonmaaGreatDoor

namespace Go.Proofs.YtbafnlccpbonmaaGreatDoor
set_option linter.unusedVariables false
set_option linter.unnecessarySimpa false
set_option linter.unusedSimpArgs false

def nums : Nat → List (List (List UInt8)) → List Nat
  | _, [] => []
  | n, r :: g => n :: nums (n + r.length) g
section
variable {nm : List UInt8} {s t : Ds} {l : Lg} {R : List (List UInt8)} {n : Nat} {g a b : List (List (List UInt8))} {r : List (List UInt8)} {K K' : Int} {D : Nat} {z d : List UInt8}
theorem nums_app : ∀ (a : List (List (List UInt8))) (n : Nat) (b : List (List (List UInt8))), nums n (a ++ b) = nums n a ++ nums (n + a.flatten.length) b
  | [], n, b => by simp [nums]
  | r :: a, n, b => by
    rw [List.cons_append, nums, nums_app a, nums, List.flatten_cons, List.length_append, Nat.add_assoc]
    rfl
theorem nums_mem : ∀ {g : List (List (List UInt8))} {n x : Nat}, x ∈ nums n g ↔ ∃ a r b, g = a ++ r :: b ∧ x = n + a.flatten.length
  | [], n, x => by simp [nums]
  | r :: g, n, x => by
    rw [nums, List.mem_cons]
    constructor
    · rintro (rfl | h)
      · exact ⟨[], r, g, rfl, by simp⟩
      · obtain ⟨a, r2, b, e1, e2⟩ := nums_mem.1 h
        exact ⟨r :: a, r2, b, by rw [e1]; rfl, by rw [e2, List.flatten_cons, List.length_append, Nat.add_assoc]⟩
    · rintro ⟨a, r2, b, e1, e2⟩
      rcases a with _ | ⟨r3, a⟩
      · exact .inl (by simpa using e2)
      · rw [List.cons_append] at e1
        injection e1 with h1 h2
        subst h1
        exact .inr (nums_mem.2 ⟨a, r2, b, h2, by rw [e2, List.flatten_cons, List.length_append, Nat.add_assoc]⟩)
theorem nums_ge {x : Nat} (h : x ∈ nums n g) : n ≤ x := by
  obtain ⟨a, r, b, e1, e2⟩ := nums_mem.1 h
  omega
theorem nums_lt : ∀ (g : List (List (List UInt8))) (n : Nat), (∀ a r b, g = a ++ r :: b → b ≠ [] → r ≠ []) → (nums n g).Pairwise (· < ·)
  | [], n, _ => List.Pairwise.nil
  | r :: g, n, h => by
    rw [nums]
    refine List.pairwise_cons.2 ⟨fun x hx => ?_, nums_lt g _ fun a r2 b e hb => h (r :: a) r2 b (by rw [e]; rfl) hb⟩
    have h1 := nums_ge hx
    have h2 : g ≠ [] := fun e => by rw [e] at hx; cases hx
    have h3 := List.length_pos_iff.2 (h [] r g rfl h2)
    omega
theorem firsts_of {fs : List Fl} (hsome : ∀ a r b, g = a ++ r :: b → ∃ f, lkC fs (fileL nm (n + a.flatten.length)) = some f) (hnone : ∀ x : Nat, inN (x : Int) → (∀ a r b, g = a ++ r :: b → x ≠ n + a.flatten.length) → lkC fs (fileL nm x) = none)
    (hS : Shp R n g) (hn : nameC nm = true) (hu : Uq fs) : firstsN nm (namesC fs) = nums n g := by
  have hmem : ∀ x, x ∈ (namesC fs).filterMap (numM nm) ↔ x ∈ nums n g := fun x => by
    rw [List.mem_filterMap, nums_mem]
    constructor
    · rintro ⟨f, hf, hx⟩
      obtain ⟨_, h2, rfl⟩ := (numM_iff _ _ _).1 hx
      obtain ⟨y, hy, e⟩ := List.mem_map.1 hf
      by_cases h : ∃ a r b, g = a ++ r :: b ∧ x = n + a.flatten.length
      · exact h
      · have := hnone x h2 fun a r b e1 e2 => h ⟨a, r, b, e1, e2⟩
        exact absurd e (lkC_none this y hy)
    · rintro ⟨a, r, b, e, rfl⟩
      obtain ⟨f, hf⟩ := hsome a r b e
      obtain ⟨h1, h2⟩ := lkC_some hf
      exact ⟨_, List.mem_map.2 ⟨f, h1, h2⟩, (numM_iff _ _ _).2 ⟨hn, (e ▸ hS).in, rfl⟩⟩
  have hnd : ((namesC fs).filterMap (numM nm)).Nodup := by
    have h1 : (namesC fs).Pairwise (· ≠ ·) := List.pairwise_map.2 hu
    refine List.Pairwise.filterMap _ (fun a a' hne x hx y hy e => hne ?_) h1
    subst e
    rw [((numM_iff _ _ _).1 hx).2.2, ((numM_iff _ _ _).1 hy).2.2]
  have hlt := nums_lt g n hS.mid
  have hnd2 : (nums n g).Nodup := hlt.imp fun h e => by omega
  have hp : ((namesC fs).filterMap (numM nm)).Perm (nums n g) := (List.perm_ext_iff_of_nodup hnd hnd2).2 hmem
  unfold firstsN
  refine List.Perm.eq_of_pairwise (le := fun a b => a ≤ b) (fun a b _ _ h1 h2 => Nat.le_antisymm h1 h2) ?_ (hlt.imp fun h => Nat.le_of_lt h) ((List.mergeSort_perm _ _).trans hp)
  have := List.pairwise_mergeSort (le := fun a b : Nat => decide (a ≤ b)) (fun a b c h1 h2 => by simp at h1 h2 ⊢; omega) (fun a b => by simp; omega) ((namesC fs).filterMap (numM nm))
  exact this.imp fun h => by simpa using h
theorem firsts_eq {fs : List Fl} (hF : Fil nm fs n g D z) (hS : Shp R n g) (hn : nameC nm = true) (hu : Uq fs) : firstsN nm (namesC fs) = nums n g :=
  firsts_of (fun a r b e => by
    by_cases hb : b = []
    · subst hb
      exact ⟨_, hF.last a r e⟩
    · exact ⟨_, hF.old a r b e hb⟩) hF.none hS hn hu
/-! ### The files, one after another -/
theorem lastB_pts (n : Nat) (a : List (List (List UInt8))) (h : ptsG n a ≠ []) : lastB (ptsG n a) = ((n + a.flatten.length : Nat) : Int) := by
  rcases snocL a with rfl | ⟨b, r, rfl⟩
  · exact absurd rfl h
  · rw [ptsG_snoc, lastB_some (List.getLast?_concat ..), pt_behind]
    simp
    omega
theorem text_of {nm : List UInt8} {f : Fl} (hd : s.down = false) (hf : lkC s.fs nm = some f) : textD s nm = (f.data, 0) := by
  unfold textD
  rw [if_neg (by rw [hd]; decide), hf]
theorem fileR_of (hn : nameC nm = true) {x : Nat} (hx : inN (x : Int)) : (fileR nm (x : Int)).1 = fileL nm x := by
  unfold fileR
  rw [if_neg (by rw [hn]; decide), if_neg (fun h => h hx)]
  rfl
theorem Shp.fit (h : Shp R n (a ++ r :: b)) : FitR (n + a.flatten.length) r := by
  have h1 := h.at
  have h2 := h.n1
  have h3 := h.small.1
  exact ⟨by omega, by omega, fun d hd => by have := h.mem d hd; omega⟩
/-- What a scan finds in a file. -/
theorem scan_file (m : Nat) (r : List (List UInt8)) (z : List UInt8) (hf : FitR m r) (hm : m + r.length ≤ 99999999) (hz : z = [] ∨ ∃ e, parseR z ((m + r.length : Nat) : Int) = .bad e) :
    scanT ((framesL m r ++ z).length + 1) (framesL m r ++ z) ⟨m, [0]⟩ = (⟨m, offsF 0 r⟩, if z = [] then 0 else match parseR z ((m + r.length : Nat) : Int) with | .bad e => e | .ok _ => 0) := by
  have := scan_frames m r [] ((framesL m r ++ z).length + 1) z (by simpa using hf) (by
    rw [List.length_append, len_frames]
    have : ∀ r : List (List UInt8), r.length ≤ bytesF r := fun r => by
      induction r with
      | nil => simp
      | cons d r ih => rw [bytesF_cons, List.length_cons]; omega
    have := this r
    omega) (by
    by_cases h0 : z = []
    · exact .inl h0
    · rcases hz with h1 | h1
      · exact absurd h1 h0
      · refine .inr ⟨h0, h1.choose, ?_, ?_⟩
        · simpa using h1.choose_spec
        · have := hf.1
          unfold inN
          simp
          omega)
  exact this
theorem open_one (hd : s.down = false) (hn : nameC nm = true) {x : Nat} (hx : inN (x : Int)) {f : Fl} (hf : lkC s.fs (fileL nm x) = some f) {ps : List Pt} (hps : ¬ (ps ≠ [] ∧ (x : Int) ≠ lastB ps)) {p : Pt} {e : Int}
    (hsc : scanT (f.data.length + 1) f.data ⟨x, [0]⟩ = (p, e)) (rest : List Nat) : openN nm (x :: rest) s ps =
    if e ≠ 0 ∧ rest ≠ [] then (e, s, ps) else if e ≠ 0 then
      (if (truncD s (fileL nm x) p.size).1 ≠ 0 then ((truncD s (fileL nm x) p.size).1, (truncD s (fileL nm x) p.size).2, ps) else openN nm rest (truncD s (fileL nm x) p.size).2 (ps ++ [p])) else openN nm rest s (ps ++ [p]) := by
  rw [openN, if_neg hps, fileR_of hn hx, text_of hd hf]
  dsimp only
  rw [if_neg (by simp), hsc]
theorem open_pre (hd : s.down = false) (hn : nameC nm = true) (rest : List Nat) : ∀ (c a : List (List (List UInt8))), (∀ c1 r c2, c = c1 ++ r :: c2 → FitR (n + (a ++ c1).flatten.length) r ∧ n + (a ++ c1).flatten.length + r.length ≤ 99999999 ∧ ∃ D, lkC s.fs (fileL nm (n + (a ++ c1).flatten.length)) = some ⟨fileL nm (n + (a ++ c1).flatten.length), framesL (n + (a ++ c1).flatten.length) r, D⟩) →
    openN nm (nums (n + a.flatten.length) c ++ rest) s (ptsG n a) = openN nm rest s (ptsG n (a ++ c))
  | [], a, _ => by rw [nums, List.append_nil]; rfl
  | r :: c, a, h => by
    obtain ⟨h1, h2, D, h3⟩ := h [] r c rfl
    rw [List.append_nil] at h1 h2 h3
    have hin : inN ((n + a.flatten.length : Nat) : Int) := by have := h1.1; unfold inN; omega
    have hsc := scan_file (n + a.flatten.length) r [] h1 h2 (.inl rfl)
    rw [List.append_nil, if_pos rfl] at hsc
    rw [nums, List.cons_append, open_one hd hn hin h3 (fun x => x.2 (lastB_pts n a x.1).symm) hsc, if_neg (by simp), if_neg (by simp), ← ptsG_snoc]
    have ih := open_pre hd hn rest c (a ++ [r]) fun c1 r2 c2 e => by
      have := h (r :: c1) r2 c2 (by rw [e]; rfl)
      rw [show a ++ r :: c1 = a ++ [r] ++ c1 by simp] at this
      exact this
    rw [show n + (a ++ [r]).flatten.length = n + a.flatten.length + r.length by simp; omega] at ih
    rw [ih]
    simp
/-- An earlier segment is not right. -/
theorem open_conflict (hd : s.down = false) (hn : nameC nm = true) {r : List (List UInt8)} {e : Int} {D : Nat} (rest : List Nat) (hrest : rest ≠ [])
    (h : ∀ c1 r c2, a = c1 ++ r :: c2 → FitR (n + c1.flatten.length) r ∧ n + c1.flatten.length + r.length ≤ 99999999 ∧ ∃ D, lkC s.fs (fileL nm (n + c1.flatten.length)) = some ⟨fileL nm (n + c1.flatten.length), framesL (n + c1.flatten.length) r, D⟩)
    (h1 : FitR (n + a.flatten.length) r) (h2 : n + a.flatten.length + r.length ≤ 99999999) (h3 : lkC s.fs (fileL nm (n + a.flatten.length)) = some ⟨fileL nm (n + a.flatten.length), framesL (n + a.flatten.length) r ++ z, D⟩)
    (hz : z ≠ []) (hp : parseR z ((n + a.flatten.length + r.length : Nat) : Int) = .bad e) (he : e ≠ 0) : openN nm (nums n a ++ (n + a.flatten.length) :: rest) s [] = (e, s, ptsG n a) := by
  have hpre := open_pre (n := n) hd hn ((n + a.flatten.length) :: rest) a [] (by simpa using h)
  simp only [List.flatten_nil, List.length_nil, Nat.add_zero, List.nil_append] at hpre
  rw [show ptsG n [] = [] from rfl] at hpre
  rw [hpre]
  have hin : inN ((n + a.flatten.length : Nat) : Int) := by have := h1.1; unfold inN; omega
  have hsc := scan_file (n + a.flatten.length) r z h1 h2 (.inr ⟨e, hp⟩)
  rw [if_neg hz, hp] at hsc
  rw [open_one hd hn hin h3 (fun x => x.2 (lastB_pts n a x.1).symm) hsc, if_pos ⟨he, hrest⟩]
/-! ### Open -/
def Full (fs : List Fl) : Prop := ∀ f ∈ fs, f.dur = f.data.length
theorem Full.upd {fs : List Fl} {x : Fl} (h : Full fs) (hx : x.dur = x.data.length) (nm : List UInt8) : Full (updC fs nm x) := fun f hf => by
  rcases updC_mem hf with rfl | hf
  · exact hx
  · exact h f hf
theorem open_files (hF : Fil nm s.fs n g D z) (hS : Shp R n g) (hg : s.Good) (hd : s.down = false) (hn : nameC nm = true) (hz : z = [] ∨ ∃ e, parseR z ((R.length + 1 : Nat) : Int) = .bad e) :
    (∃ t D', openN nm (nums n g) s [] = (0, t, ptsG n g) ∧ t.down = false ∧ Stp (OwnF nm) 0 0 1 s t ∧ Fil nm t.fs n g D' [] ∧ (Full s.fs → Full t.fs)) ∨
    (s.lim = true ∧ ∃ t ps, openN nm (nums n g) s [] = (31, t, ps) ∧ t.down = true ∧ Stp (OwnF nm) 0 0 1 s t ∧ t.fs = s.fs) := by
  rcases snocL g with rfl | ⟨a, r, rfl⟩
  · exact .inl ⟨s, D, rfl, hd, (Stp.refl _ s).mono (by omega) (by omega) (by omega), ⟨fun a r b e => by simp at e, fun a r e => by simp at e, hF.none⟩, id⟩
  · have hl := hS.at
    have hsm := hS.small.1
    have h01 := hS.n1
    simp only [List.flatten_nil, List.length_nil] at hl
    have hpre := open_pre (s := s) (nm := nm) (n := n) hd hn [n + a.flatten.length] a [] fun c1 r2 c2 e => by
      rw [List.nil_append]
      have hs2 : Shp R n (c1 ++ r2 :: (c2 ++ [r])) := by rw [e] at hS; simpa using hS
      have h3 := hs2.at
      exact ⟨hs2.fit, by omega, _, hF.old c1 r2 (c2 ++ [r]) (by rw [e]; simp) (by simp)⟩
    simp only [List.flatten_nil, List.length_nil, Nat.add_zero, List.nil_append] at hpre
    rw [show ptsG n [] = [] from rfl] at hpre
    have hf := hF.last a r rfl
    have hsc := scan_file (n + a.flatten.length) r z hS.fit (by omega) (by rw [show n + a.flatten.length + r.length = R.length + 1 by omega]; exact hz)
    rw [nums_app, show nums (n + a.flatten.length) [r] = [n + a.flatten.length] from rfl, hpre]
    by_cases hz0 : z = []
    · subst hz0
      rw [if_pos rfl] at hsc
      rw [open_one hd hn hS.in hf (fun x => x.2 (lastB_pts n a x.1).symm) hsc, if_neg (by simp), if_neg (by simp), ← ptsG_snoc]
      exact .inl ⟨s, D, rfl, hd, (Stp.refl _ s).mono (by omega) (by omega) (by omega), hF, id⟩
    · obtain ⟨e, he⟩ : ∃ e, parseR z ((R.length + 1 : Nat) : Int) = .bad e := hz.resolve_left hz0
      have he0 := (parseR_bad he).1
      rw [if_neg hz0, show n + a.flatten.length + r.length = R.length + 1 by omega, he] at hsc
      dsimp only at hsc
      rw [open_one hd hn hS.in hf (fun x => x.2 (lastB_pts n a x.1).symm) hsc, if_neg (by simp), if_pos he0, pt_size]
      have htl : (framesL (n + a.flatten.length) r ++ z).take (bytesF r) = framesL (n + a.flatten.length) r := List.take_left' (len_frames _ _)
      have ht := trunc_ran hg hd (own_file hS.in) hf (k := bytesF r) (by dsimp only; rw [List.length_append, len_frames]; omega)
      dsimp only at ht
      rw [htl] at ht
      rcases ht with ⟨t, e', j1, j2, j3⟩ | ⟨e1, e2, t, e', j1, j2, j3⟩
      · rw [e']
        dsimp only
        rw [if_neg (by simp), ← ptsG_snoc]
        refine .inl ⟨t, min D (bytesF r), rfl, j1, j2, ?_, fun hfu => ?_⟩
        · have := hF.upd (r' := r) (D' := min D (bytesF r)) (z' := []) hS
          rw [List.append_nil] at this
          rw [j3]
          exact this
        · rw [j3]
          refine hfu.upd ?_ _
          have := hfu _ (lkC_some hf).1
          dsimp only at this ⊢
          rw [List.length_append, len_frames] at this
          rw [len_frames]
          omega
      · rw [e']
        dsimp only
        rw [if_pos (by decide)]
        exact .inr ⟨e1, t, _, rfl, j1, j2, j3⟩
theorem open_inv (hF : Fil nm s.fs n g D z) (hS : Shp R n g) (hg : s.Good) (hd : s.down = false) (hn : nameC nm = true) {lim : Int} (hl : 64 ≤ lim ∧ lim ≤ 4194304) (hz : z = [] ∨ ∃ e, parseR z ((R.length + 1 : Nat) : Int) = .bad e) :
    (∃ t, openG s nm lim = (0, t, some ⟨nm, lim, ptsG n g, R.length⟩) ∧ t.down = false ∧ Stp (OwnF nm) 0 0 2 s t ∧ Inv nm t ⟨nm, lim, ptsG n g, R.length⟩ R n g) ∨
    (s.lim = true ∧ ∃ t D' z', openG s nm lim = (31, t, none) ∧ t.down = true ∧ Stp (OwnF nm) 0 0 2 s t ∧ Fil nm t.fs n g D' z' ∧ (z' = [] ∨ z' = z) ∧ (Full s.fs → Full t.fs)) := by
  have e0 : openG s nm lim = let r := openN nm (nums n g) s []
    if r.1 ≠ 0 then (r.1, r.2.1, none) else
      let q := lsync r.2.1 ⟨nm, lim, r.2.2, 0⟩
      if q.1 ≠ 0 then (q.1, q.2.1, none) else (0, q.2.1, some q.2.2) := by
    unfold openG
    rw [if_neg (by rw [hd]; decide), if_neg (by rw [hn]; decide), if_neg (by omega), firsts_eq hF hS hn hg.uq]
  rw [e0]
  rcases open_files hF hS hg hd hn hz with ⟨t, D', e, k1, k2, k3, k4⟩ | ⟨e1, t, ps, e, k1, k2, k3⟩
  · rw [e]
    dsimp only
    rw [if_neg (by simp)]
    have hI : Inv nm t ⟨nm, lim, ptsG n g, 0⟩ R n g := ⟨rfl, hl, rfl, Int.le_refl _, hn, hS, fun _ => Int.le_refl _, D', k3, fun a r e9 => by
      have h1 := (k2.good hg).ok.du _ (lkC_some (k3.last a r e9)).1
      dsimp only at h1
      rw [List.append_nil, len_frames] at h1
      have := hS.n1
      exact ⟨h1, 0, Nat.zero_le _, by rw [List.take_zero, bytesF_nil]; omega, by dsimp only; omega⟩⟩
    rcases hI.sync (k2.good hg) k1 with ⟨u, e', j1, j2, j3⟩ | ⟨e1, e2, u, e', j1, j2, j3, j4⟩
    · rw [e']
      dsimp only
      rw [if_neg (by simp)]
      exact .inl ⟨u, rfl, j1, (k2.trans j2).mono (by omega) (by omega) (by omega), j3⟩
    · rw [e']
      dsimp only
      rw [if_pos (by decide)]
      exact .inr ⟨by rw [← k2.lim]; exact e1, u, D', [], rfl, j1, (k2.trans j2).mono (by omega) (by omega) (by omega), by rw [j4]; exact k3, .inl rfl, fun hfu => by rw [j4]; exact k4 hfu⟩
  · rw [e]
    dsimp only
    rw [if_pos (by decide)]
    exact .inr ⟨e1, t, D, z, rfl, k1, k2.mono (by omega) (by omega) (by omega), by rw [k3]; exact hF, .inr rfl, fun hfu => by rw [k3]; exact hfu⟩
end
end Go.Proofs.YtbafnlccpbonmaaGreatDoor

namespace Go.Proofs.YtbafnlccpbonmaaGreatDoor
set_option linter.unusedVariables false
set_option linter.unnecessarySimpa false
set_option linter.unusedSimpArgs false

section
variable {nm : List UInt8} {s t : Ds} {l : Lg} {R : List (List UInt8)} {n : Nat} {g a b : List (List (List UInt8))} {r : List (List UInt8)} {K K' : Int} {D : Nat} {z d : List UInt8}
theorem lk_start : ∀ (fs : List Fl) (ch : List UInt8) (m : List UInt8), (lkC fs m = none → lkC (startL fs ch) m = none) ∧ ∀ f, lkC fs m = some f →
    (f.data.length ≤ f.dur ∧ lkC (startL fs ch) m = some ⟨f.name, f.data, f.data.length⟩) ∨ (f.dur < f.data.length ∧ ∃ c, c ≤ 255 ∧ lkC (startL fs ch) m = some ⟨f.name, chopB f c, (chopB f c).length⟩)
  | [], ch, m => ⟨fun _ => rfl, fun f h => by cases h⟩
  | y :: fs, ch, m => by
    have hc : (ch.headD 0).toNat ≤ 255 := by have := (ch.headD 0).toNat_lt; omega
    rw [startL]
    by_cases hd : y.data.length ≤ y.dur
    · rw [if_pos hd]
      have ih := lk_start fs ch m
      unfold lkC at ih ⊢
      rw [List.find?_cons, List.find?_cons]
      dsimp only
      rcases hy : (y.name == m) with _ | _
      · exact ih
      · exact ⟨fun h => (by cases h), fun f h => by cases h; exact .inl ⟨hd, rfl⟩⟩
    · rw [if_neg hd]
      have ih := lk_start fs ch.tail m
      unfold lkC at ih ⊢
      rw [List.find?_cons, List.find?_cons]
      dsimp only
      rcases hy : (y.name == m) with _ | _
      · exact ih
      · exact ⟨fun h => (by cases h), fun f h => by cases h; exact .inr ⟨by omega, _, hc, rfl⟩⟩
theorem start_full : ∀ (fs : List Fl) (ch : List UInt8), Full fs → startL fs ch = fs
  | [], ch, _ => rfl
  | y :: fs, ch, h => by
    have h1 := h y (List.mem_cons_self ..)
    rw [startL, if_pos (by omega), start_full fs ch fun f hf => h f (List.mem_cons_of_mem _ hf), ← h1]
theorem take_max : ∀ (r : List (List UInt8)) (N : Nat), N ≤ bytesF r → ∃ i, i ≤ r.length ∧ bytesF (r.take i) ≤ N ∧ (i = r.length ∨ N < bytesF (r.take (i + 1)))
  | [], N, h => ⟨0, Nat.le_refl _, by simp [bytesF_nil], .inl rfl⟩
  | d :: r, N, h => by
    rw [bytesF_cons] at h
    by_cases hd : N < 16 + d.length
    · exact ⟨0, Nat.zero_le _, by simp [bytesF_nil], .inr (by rw [List.take_succ_cons, bytesF_cons]; omega)⟩
    · obtain ⟨i, h1, h2, h3⟩ := take_max r (N - (16 + d.length)) (by omega)
      refine ⟨i + 1, by rw [List.length_cons]; omega, by rw [List.take_succ_cons, bytesF_cons]; omega, ?_⟩
      rcases h3 with h3 | h3
      · exact .inl (by rw [List.length_cons, h3])
      · exact .inr (by rw [List.take_succ_cons, bytesF_cons]; omega)
theorem bytes_mono {i j : Nat} (h : i ≤ j) : bytesF (r.take i) ≤ bytesF (r.take j) := by
  have := bytes_take_le (r := r.take j) i
  rwa [List.take_take, Nat.min_eq_left h] at this
/-- The first bytes of the frames. -/
theorem frames_take (m : Nat) {i N : Nat} (h1 : bytesF (r.take i) ≤ N) : (framesL m r).take N = framesL m (r.take i) ++ (framesL (m + (r.take i).length) (r.drop i)).take (N - bytesF (r.take i)) := by
  conv => lhs; rw [← List.take_append_drop i r]
  rw [framesL_app, List.take_append, len_frames, List.take_of_length_le (by rw [len_frames]; exact h1)]
theorem drop_get {i : Nat} (h : i < r.length) : ∃ d, r[i]? = some d ∧ r.drop i = d :: r.drop (i + 1) := ⟨r[i], List.getElem?_eq_getElem h, (List.getElem_cons_drop h).symm⟩
theorem neg_ne (x : UInt8) : 255 - x ≠ x := fun h => by
  have h1 := congrArg UInt8.toNat h
  have h2 := x.toNat_lt
  rw [UInt8.toNat_sub] at h1
  simp at h1
  omega
/-- What the failure leaves of the last file. -/
theorem chop_frames (m : Nat) (f : Fl) (hf : f.data = framesL m r) (hd : f.dur ≤ bytesF r) (hm : ∀ d ∈ r, d.length ≤ 1000) {c : Nat} (hc : c ≤ 255) :
    ∃ i z, i ≤ r.length ∧ chopB f c = framesL m (r.take i) ++ z ∧ (z = [] ∨ ∃ e, parseR z ((m + i : Nat) : Int) = .bad e) ∧ ∀ j, j ≤ r.length → bytesF (r.take j) ≤ f.dur → j ≤ i := by
  have hk := kept_le hc (by rw [hf, len_frames]; exact hd : f.dur ≤ f.data.length)
  rw [hf, len_frames] at hk
  unfold chopB
  rw [hf]
  by_cases hfl : c % 2 = 1 ∧ 0 < keptB f c
  · rw [if_pos hfl]
    obtain ⟨N, hN⟩ : ∃ N, f.dur + keptB f c = N := ⟨_, rfl⟩
    rw [hN] at hk ⊢
    obtain ⟨i, h1, h2, h3⟩ := take_max r (N - 1) (by omega)
    have h3 : i < r.length ∧ N - 1 < bytesF (r.take (i + 1)) := by
      rcases h3 with h3 | h3
      · rw [h3, List.take_length] at h2
        omega
      · refine ⟨?_, h3⟩
        by_cases h : i = r.length
        · rw [h, List.take_length] at h2
          omega
        · omega
    obtain ⟨d, hd1, hd2⟩ := drop_get h3.1
    have hb := bytes_take hd1
    obtain ⟨q, hq⟩ : ∃ q, N - bytesF (r.take i) = q := ⟨_, rfl⟩
    have hil : (r.take i).length = i := by rw [List.length_take]; omega
    have hql : q ≤ (frameL (m + i) d).length := by rw [frameL_len]; omega
    have ht : (framesL m r).take N = framesL m (r.take i) ++ (frameL (m + i) d).take q := by
      rw [frames_take m (i := i) (by omega), hil, hd2, framesL, hq, List.take_append_of_le_length hql]
    obtain ⟨c2, hc2⟩ : ∃ c2, 255 - ((framesL m r).take N).getD (((framesL m r).take N).length - 1) 0 = c2 := ⟨_, rfl⟩
    have hfr : flipB ((framesL m r).take N) = framesL m (r.take i) ++ cutB (frameL (m + i) d) q (some c2) := by
      unfold flipB
      rw [hc2, ht, List.length_append, len_frames, List.length_take, Nat.min_eq_left hql, List.set_append_right _ _ (by rw [len_frames]; omega), len_frames]
      unfold cutB
      dsimp only
      rw [show bytesF (r.take i) + q - 1 - bytesF (r.take i) = q - 1 by omega]
    refine ⟨i, cutB (frameL (m + i) d) q (some c2), h1, hfr, .inr ?_, fun j hj hj2 => ?_⟩
    · have hdl := hm d (List.mem_of_getElem? hd1)
      by_cases hqq : q < (frameL (m + i) d).length
      · exact ⟨29, parse_cut (by omega) hqq _ _⟩
      · have hqe : q = (frameL (m + i) d).length := by omega
        refine ⟨28, ?_⟩
        unfold cutB
        dsimp only
        rw [hqe, List.take_length]
        refine parse_changed (by omega) (by rw [frameL_len]; omega) (by rw [frameL_len]; omega) ?_ _
        intro he
        rw [ht, hqe, List.take_length, List.length_append, len_frames, List.getD_eq_getElem?_getD, List.getElem?_append_right (by rw [len_frames, frameL_len]; omega), len_frames, show bytesF (r.take i) + (frameL (m + i) d).length - 1 - bytesF (r.take i) = (frameL (m + i) d).length - 1 by omega, he] at hc2
        simp at hc2
        exact neg_ne c2 hc2
    · by_cases h : j ≤ i
      · exact h
      · have := bytes_mono (r := r) (show i + 1 ≤ j by omega)
        omega
  · rw [if_neg hfl]
    obtain ⟨N, hN⟩ : ∃ N, f.dur + keptB f c = N := ⟨_, rfl⟩
    rw [hN] at hk ⊢
    obtain ⟨i, h1, h2, h3⟩ := take_max r N hk
    have hil : (r.take i).length = i := by rw [List.length_take]; omega
    refine ⟨i, _, h1, frames_take m h2, ?_, fun j hj hj2 => ?_⟩
    · rw [hil]
      rcases h3 with h3 | h3
      · rw [h3, List.drop_length]
        exact .inl (by simp [framesL])
      · by_cases hi : i < r.length
        · obtain ⟨d, hd1, hd2⟩ := drop_get hi
          have hb := bytes_take hd1
          have hdl := hm d (List.mem_of_getElem? hd1)
          have hql : N - bytesF (r.take i) < (frameL (m + i) d).length := by rw [frameL_len]; omega
          rw [hd2, framesL, List.take_append_of_le_length (by omega)]
          exact .inr ⟨29, parse_cut (by omega) hql none _⟩
        · rw [List.drop_of_length_le (by omega)]
          exact .inl (by simp [framesL])
    · rcases h3 with h3 | h3
      · omega
      · by_cases h : j ≤ i
        · exact h
        · have := bytes_mono (r := r) (show i + 1 ≤ j by omega)
          omega
theorem Shp.cut (h : Shp R n (a ++ [r])) {i : Nat} (hi : i ≤ r.length) : Shp (R.take (n - 1 + a.flatten.length + i)) n (a ++ [r.take i]) := by
  have h1 := h.at
  have h2 := h.n1
  simp only [List.flatten_nil, List.length_nil] at h1
  refine ⟨h2, by rw [List.length_take]; omega, ?_, fun a2 r2 b2 e hb => ?_, fun e => by simp at e, by rw [List.length_take]; have := h.small.1; omega, fun d hd => h.small.2 d (List.mem_of_mem_take hd)⟩
  · rw [List.drop_take, ← h.recs]
    simp only [List.flatten_append, List.flatten_cons, List.flatten_nil, List.append_nil]
    rw [show n - 1 + a.flatten.length + i - (n - 1) = a.flatten.length + i by omega, List.take_append, List.take_of_length_le (show a.flatten.length ≤ a.flatten.length + i by omega), Nat.add_sub_cancel_left]
  · obtain ⟨b3, e1, e2⟩ := split_old e hb
    exact h.mid a2 r2 (b3 ++ [r]) (by rw [e2]; simp) (by simp)
theorem Shp.cutLen (h : Shp R n (a ++ [r])) {i : Nat} (hi : i ≤ r.length) : (R.take (n - 1 + a.flatten.length + i)).length = n - 1 + a.flatten.length + i := by
  have h1 := h.at
  have h2 := h.n1
  simp only [List.flatten_nil, List.length_nil] at h1
  rw [List.length_take]
  omega
/-- What a failure leaves. -/
theorem Fls.start (h : Fls nm s.fs R n g K) (hg : s.Good) (ch : List UInt8) : ∃ R' g' z D', R' <+: R ∧ Fil nm (startL s.fs ch) n g' D' z ∧ Shp R' n g' ∧ (z = [] ∨ ∃ e, parseR z ((R'.length + 1 : Nat) : Int) = .bad e) ∧ K ≤ R'.length ∧ Full (startL s.fs ch) := by
  have hfull : Full (startL s.fs ch) := fun f hf => (start_each s.fs ch (fun f hf => ⟨hg.ok.du f hf, hg.ok.sz f hf⟩) f hf).1
  obtain ⟨D, k1, k2⟩ := h.fil
  rcases snocL g with rfl | ⟨a, r, rfl⟩
  · exact ⟨R, [], [], 0, List.prefix_refl _, ⟨fun a r b e => by simp at e, fun a r e => by simp at e, fun x hx hn => (lk_start s.fs ch _).1 (k1.none x hx hn)⟩, h.shp, .inl rfl, by have := h.nil rfl; omega, hfull⟩
  · obtain ⟨q1, j, q2, q3, q4⟩ := k2 a r rfl
    have hl := h.shp.at
    have h0 := h.shp.n1
    simp only [List.flatten_nil, List.length_nil] at hl
    have hf := k1.last a r rfl
    rw [List.append_nil] at hf
    obtain ⟨i, z, D', hi, hlast, hz, hj⟩ : ∃ i z D', i ≤ r.length ∧ lkC (startL s.fs ch) (fileL nm (n + a.flatten.length)) = some ⟨fileL nm (n + a.flatten.length), framesL (n + a.flatten.length) (r.take i) ++ z, D'⟩ ∧ (z = [] ∨ ∃ e, parseR z ((n + a.flatten.length + i : Nat) : Int) = .bad e) ∧ j ≤ i := by
      rcases (lk_start s.fs ch _).2 _ hf with ⟨e1, e2⟩ | ⟨e1, c, e2, e3⟩
      · exact ⟨r.length, [], _, Nat.le_refl _, by rw [List.take_length, List.append_nil]; exact e2, .inl rfl, q2⟩
      · obtain ⟨i, z, p1, p2, p3, p4⟩ := chop_frames (n + a.flatten.length) ⟨fileL nm (n + a.flatten.length), framesL (n + a.flatten.length) r, D⟩ rfl q1 h.shp.mem e2
        rw [p2] at e3
        exact ⟨i, z, _, p1, e3, p3, p4 j q2 q3⟩
    have hcl := h.shp.cutLen hi
    refine ⟨R.take (n - 1 + a.flatten.length + i), a ++ [r.take i], z, D', List.take_prefix _ _, ⟨fun a2 r2 b2 e hb => ?_, fun a2 r2 e => ?_, fun x hx hn => ?_⟩, h.shp.cut hi, by rw [hcl, show n - 1 + a.flatten.length + i + 1 = n + a.flatten.length + i by omega]; exact hz, by rw [hcl]; omega, hfull⟩
    · obtain ⟨b3, e1, e2⟩ := split_old e hb
      have ho := k1.old a2 r2 (b3 ++ [r]) (by rw [e2]; simp) (by simp)
      rcases (lk_start s.fs ch _).2 _ ho with ⟨_, e3⟩ | ⟨e3, _⟩
      · dsimp only at e3
        rw [len_frames] at e3
        exact e3
      · dsimp only at e3
        rw [len_frames] at e3
        omega
    · obtain ⟨rfl, rfl⟩ := split_last e
      exact hlast
    · refine (lk_start s.fs ch _).1 (k1.none x hx fun a2 r2 b2 e => ?_)
      rcases split_any e with ⟨rfl, rfl, rfl⟩ | ⟨b3, e1, e2⟩
      · exact hn a (r.take i) [] rfl
      · exact hn a2 r2 (b3 ++ [r.take i]) (by rw [e2]; simp)
/-! ### A byte that was changed -/
theorem parse_front {x y : List UInt8} {k : Nat} (hx : x.length = 16 + k) (hs : smallN (x.take 4) = k) (hk : k ≤ 1048576) (m : Int) : parseR (x ++ y) m = parseR x m := by
  unfold parseR
  have e4 : (x ++ y).take 4 = x.take 4 := List.take_append_of_le_length (by omega)
  have e12 : (x ++ y).take 12 = x.take 12 := List.take_append_of_le_length (by omega)
  have e2 : ((x ++ y).drop 12).take 4 = (x.drop 12).take 4 := by rw [List.drop_append_of_le_length (by omega), List.take_append_of_le_length (by rw [List.length_drop]; omega)]
  have e3 : ((x ++ y).drop 4).take 8 = (x.drop 4).take 8 := by rw [List.drop_append_of_le_length (by omega), List.take_append_of_le_length (by rw [List.length_drop]; omega)]
  have e5 : ((x ++ y).drop 16).take k = (x.drop 16).take k := by rw [List.drop_append_of_le_length (by omega), List.take_append_of_le_length (by rw [List.length_drop]; omega)]
  rw [e4, e12, e2, e3, hs, e5, List.length_append, if_neg (show ¬ x.length + y.length < 16 by omega), if_neg (show ¬ x.length < 16 by omega), if_neg (show ¬ 1048576 < k by omega), if_neg (show ¬ x.length + y.length < 16 + k by omega), if_neg (show ¬ 1048576 < k by omega), if_neg (show ¬ x.length < 16 + k by omega)]
theorem frame_size (N : Nat) {d : List UInt8} (hd : d.length ≤ 1048576) : smallN ((frameL N d).take 4) = d.length := by
  have := (frame_parts N d []).1
  rw [List.append_nil] at this
  rw [this, small_big 4 _ (by omega)]
theorem parse_damaged {N : Nat} {d y : List UInt8} (hd : d.length ≤ 1048576) {i : Nat} (h4 : 4 ≤ i) (hi : i < 16 + d.length) {c : UInt8} (hc : (frameL N d)[i]? ≠ some c) (m : Int) : parseR ((frameL N d).set i c ++ y) m = .bad 28 := by
  rw [parse_front (k := d.length) (by rw [List.length_set, frameL_len]) (by rw [List.take_set_of_le h4]; exact frame_size N hd) hd]
  exact parse_changed hd h4 (by rw [frameL_len]; exact hi) hc m
end
end Go.Proofs.YtbafnlccpbonmaaGreatDoor
