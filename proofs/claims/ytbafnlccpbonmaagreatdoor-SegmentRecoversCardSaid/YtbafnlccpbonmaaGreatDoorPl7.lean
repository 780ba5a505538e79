/- Plain Lean: the law's model beside the log. -/
import Derived.Test.YtbafnlccpbonmaaGreatDoorAg1
namespace Go.Proofs.YtbafnlccpbonmaaGreatDoor
set_option linter.unusedVariables false
set_option linter.unnecessarySimpa false
set_option linter.unusedSimpArgs false

/-- The model has all that the log has. -/
structure Mdl (l : Lg) (R : List (List UInt8)) (n : Nat) (g : List (List (List UInt8))) (sh : Sh) : Prop where
  agr : Agr l R n g sh
  size : sh.size = match g.getLast? with | none => 0 | some r => bytesF r
  limit : sh.limit = l.limit
  ne : ∀ r ∈ g, r ≠ []
section
variable {nm : List UInt8} {s t : Ds} {l : Lg} {R : List (List UInt8)} {n : Nat} {g a b : List (List (List UInt8))} {r : List (List UInt8)} {d : List UInt8} {sh : Sh}
theorem nums_nil {n : Nat} : nums n g = [] ↔ g = [] := by
  rcases g with _ | ⟨r, g⟩
  · simp [nums]
  · simp [nums]
theorem Mdl.need (h : Mdl l R n g sh) (z : Nat) : sh.need z ↔ needG l.limit g (16 + z) := by
  unfold Sh.need
  rw [h.agr.segs, nums_nil, h.limit, h.size]
  rcases snocL g with rfl | ⟨a, r, rfl⟩
  · simp [need_nil]
  · rw [need_snoc]
    simp only [List.getLast?_append, List.getLast?_singleton, Option.some_or, List.append_eq_nil_iff, List.cons_ne_self, and_false, false_or]
    rw [show bytesF r + 16 + z = bytesF r + (16 + z) by omega]
theorem nums_snoc (a : List (List (List UInt8))) (n : Nat) (r : List (List UInt8)) : nums n (a ++ [r]) = nums n a ++ [n + a.flatten.length] := by rw [nums_app]; rfl
theorem Mdl.app (h : Mdl l R n g sh) (hS : Shp R n g) (d : List UInt8) : Mdl ⟨l.name, l.limit, ptsG n (appG l.limit g d), rotK l.limit g (16 + d.length) R l.dur⟩ (R ++ [d]) n (appG l.limit g d) (sh.app d) := by
  have hn := h.need d.length
  have hlen := hS.len
  unfold Sh.app
  by_cases hnd : needG l.limit g (16 + d.length)
  · rw [if_pos (hn.2 hnd)]
    have hG : appG l.limit g d = g ++ [[d]] := by unfold appG rotG; rw [if_pos hnd]; simp
    rw [hG]
    refine ⟨⟨by dsimp only; rw [h.agr.recs], ?_, h.agr.first, ?_⟩, ?_, h.limit, fun r hr => ?_⟩
    · dsimp only
      rw [h.agr.segs, h.agr.recs, nums_snoc, hlen]
    · dsimp only
      unfold rotK
      rw [h.agr.segs]
      by_cases hg : g = []
      · rw [if_neg (fun x => x.2 hg), if_pos (nums_nil.2 hg)]
        exact h.agr.dur
      · rw [if_pos ⟨hnd, hg⟩, if_neg (fun x => hg (nums_nil.1 x)), h.agr.recs]
    · simp [bytesF_cons, bytesF_nil]
    · rcases List.mem_append.1 hr with hr | hr
      · exact h.ne r hr
      · simp at hr
        rw [hr]
        simp
  · rw [if_neg (fun x => hnd (hn.1 x))]
    rcases snocL g with rfl | ⟨a, r, rfl⟩
    · exact absurd (need_nil _ _) hnd
    · have hG : appG l.limit (a ++ [r]) d = a ++ [r ++ [d]] := by unfold appG rotG; rw [if_neg hnd]; simp
      rw [hG]
      have hsz := h.size
      simp only [List.getLast?_append, List.getLast?_singleton, Option.some_or] at hsz
      refine ⟨⟨by dsimp only; rw [h.agr.recs], ?_, h.agr.first, ?_⟩, ?_, h.limit, fun x hx => ?_⟩
      · dsimp only
        rw [h.agr.segs, nums_snoc, nums_snoc]
      · dsimp only
        unfold rotK
        rw [if_neg (fun x => hnd x.1)]
        exact h.agr.dur
      · dsimp only
        simp only [List.getLast?_append, List.getLast?_singleton, Option.some_or]
        rw [hsz, bytesF_app, bytesF_cons, bytesF_nil]
        omega
      · rcases List.mem_append.1 hx with hx | hx
        · exact h.ne x (List.mem_append_left _ hx)
        · simp at hx
          rw [hx]
          simp
theorem drop_model (bb : Int) : ∀ (g : List (List (List UInt8))) (n : Nat), dropS bb (nums n g) = ((drpG bb n g).1, nums (drpG bb n g).2.1 (drpG bb n g).2.2)
  | [], n => rfl
  | [r], n => rfl
  | r :: q :: g, n => by
    have e : nums n (r :: q :: g) = n :: (n + r.length) :: nums (n + r.length + q.length) g := rfl
    rw [e]
    by_cases h : ((n + r.length : Nat) : Int) ≤ bb
    · rw [dropS_go _ _ _ _ h, drpG_go _ _ _ _ _ h, show (n + r.length) :: nums (n + r.length + q.length) g = nums (n + r.length) (q :: g) from rfl, drop_model bb (q :: g) (n + r.length)]
    · rw [dropS_end _ _ _ _ h, drpG_end _ _ _ _ _ h]
      rfl
theorem drp_last (bb : Int) : ∀ (g : List (List (List UInt8))) (n : Nat), (drpG bb n g).2.2.getLast? = g.getLast? ∧ (∀ r ∈ (drpG bb n g).2.2, r ∈ g) ∧ ((drpG bb n g).2.2 = [] → (drpG bb n g).2.1 = n) ∧ ((drpG bb n g).2.1 = n ∨ ((drpG bb n g).2.1 : Int) ≤ bb)
  | [], n => ⟨rfl, fun r hr => hr, fun _ => rfl, .inl rfl⟩
  | [r], n => ⟨rfl, fun r hr => hr, fun h => (by cases h), .inl rfl⟩
  | r :: q :: g, n => by
    by_cases h : ((n + r.length : Nat) : Int) ≤ bb
    · rw [drpG_go _ _ _ _ _ h]
      obtain ⟨h1, h2, h3, h4⟩ := drp_last bb (q :: g) (n + r.length)
      refine ⟨h1.trans (by simp), fun x hx => List.mem_cons_of_mem _ (h2 x hx), fun e => ?_, ?_⟩
      · dsimp only at e
        rw [e, List.getLast?_nil, eq_comm, List.getLast?_eq_none_iff] at h1
        cases h1
      · rcases h4 with h4 | h4
        · right; rw [h4]; exact h
        · exact .inr h4
    · rw [drpG_end _ _ _ _ _ h]
      exact ⟨rfl, fun r hr => hr, fun h => (by cases h), .inl rfl⟩
theorem Mdl.drop (h : Mdl l R n g sh) (bb : Int) : Mdl { l with parts := ptsG (drpG bb n g).2.1 (drpG bb n g).2.2 } R (drpG bb n g).2.1 (drpG bb n g).2.2 (sh.drop bb) ∧ (dropS bb sh.segs).1 = (drpG bb n g).1 := by
  have hd := drop_model bb g n
  rw [← h.agr.segs] at hd
  obtain ⟨h1, h2, h3, h4⟩ := drp_last bb g n
  refine ⟨⟨⟨h.agr.recs, ?_, ?_, h.agr.dur⟩, ?_, h.limit, fun r hr => h.ne r (h2 r hr)⟩, by rw [hd]⟩
  · unfold Sh.drop
    dsimp only
    rw [hd]
  · unfold Sh.drop
    dsimp only
    rw [hd]
    dsimp only
    rcases hg : (drpG bb n g).2.2 with _ | ⟨x, y⟩
    · rw [h3 hg]
      exact h.agr.first
    · rfl
  · unfold Sh.drop
    dsimp only
    rw [h1]
    exact h.size
theorem Mdl.sync (h : Mdl l R n g sh) : Mdl { l with dur := R.length } R n g { sh with dur := sh.recs.length } :=
  ⟨⟨h.agr.recs, h.agr.segs, h.agr.first, by dsimp only; rw [h.agr.recs]⟩, h.size, h.limit, h.ne⟩
theorem Mdl.lg {l' : Lg} (h : Mdl l R n g sh) (h1 : l'.limit = l.limit) (h2 : l'.dur = l.dur) : Mdl l' R n g sh := ⟨⟨h.agr.recs, h.agr.segs, h.agr.first, by rw [h2]; exact h.agr.dur⟩, h.size, by rw [h1]; exact h.limit, h.ne⟩
theorem Mdl.start {limit : Int} : Mdl ⟨nm, limit, [], 0⟩ [] 1 [] ⟨limit, [], [], 0, 1, 0⟩ := ⟨⟨rfl, rfl, rfl, rfl⟩, rfl, rfl, fun r hr => by cases hr⟩
theorem Mdl.sizes (h : Mdl l R n g sh) (hS : Shp R n g) : sh.recs.length ≤ 1000 ∧ sh.segs.length ≤ 1002 ∧ sh.size ≤ 1016000 := by
  have h1 := hS.small.1
  have h2 := hS.cnt
  refine ⟨by rw [h.agr.recs]; exact h1, by rw [h.agr.segs, nums_len]; omega, ?_⟩
  rw [h.size]
  rcases snocL g with rfl | ⟨a, r, rfl⟩
  · simp
  · simp only [List.getLast?_append, List.getLast?_singleton, Option.some_or]
    exact hS.bytes
end
end Go.Proofs.YtbafnlccpbonmaaGreatDoor
