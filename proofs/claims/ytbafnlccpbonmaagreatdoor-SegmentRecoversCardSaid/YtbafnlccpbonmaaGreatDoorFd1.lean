/- Plain Lean: the names of a log's files in order. -/
import Derived.Test.YtbafnlccpbonmaaGreatDoorPl7
import Derived.WideAt
import Derived.WideShapes
namespace Go.Proofs.YtbafnlccpbonmaaGreatDoor
set_option linter.unusedVariables false
set_option linter.unnecessarySimpa false
set_option linter.unusedSimpArgs false
open Go.RowKit Go.WideAt Go.WideShapes

theorem before_same (a : List UInt8) : ∀ l m : List UInt8, bytesBefore (a ++ l) (a ++ m) = bytesBefore l m := by
  induction a with
  | nil => intro l m; rfl
  | cons x a ih =>
    intro l m
    rw [List.cons_append, List.cons_append, bytesBefore, ih]
    simp
theorem before_snoc : ∀ (l m : List UInt8) (c d : UInt8), l.length = m.length → (bytesBefore l m = true ∨ (l = m ∧ c.toNat < d.toNat)) → bytesBefore (l ++ [c]) (m ++ [d]) = true
  | [], [], c, d, _, h => by
    rcases h with h | ⟨_, h⟩
    · cases h
    · simp only [List.nil_append]
      unfold bytesBefore
      have : c < d := UInt8.lt_iff_toNat_lt.2 h
      simp [this]
  | x :: l, y :: m, c, d, hl, h => by
    have hl' : l.length = m.length := by simpa using hl
    rw [List.cons_append, List.cons_append]
    rw [bytesBefore] at h ⊢
    rcases h with h | ⟨h1, h2⟩
    · by_cases hxy : x < y
      · simp [hxy]
      · simp only [hxy, decide_false, Bool.false_or, Bool.and_eq_true] at h
        have := before_snoc l m c d hl' (.inl h.2)
        simp [h.1, this]
    · injection h1 with e1 e2
      have := before_snoc l m c d hl' (.inr ⟨e2, h2⟩)
      simp [e1, this]
  | [], y :: m, c, d, hl, h => by simp at hl
  | x :: l, [], c, d, hl, h => by simp at hl
theorem dig_before : ∀ (k x y : Nat), x < y → y < 10 ^ k → bytesBefore (digL x k) (digL y k) = true
  | 0, x, y, h, hy => by simp at hy; omega
  | k + 1, x, y, h, hy => by
    rw [digL, digL]
    refine before_snoc _ _ _ _ (by rw [digL_len, digL_len]) ?_
    by_cases he : x / 10 = y / 10
    · refine .inr ⟨by rw [he], ?_⟩
      rw [dig_nat, dig_nat]
      omega
    · exact .inl (dig_before k _ _ (by omega) (by rw [Nat.pow_succ] at hy; omega))
theorem file_before (nm : List UInt8) {x y : Nat} (h : x < y) (hy : y < 100000000) : bytesBefore (fileL nm x) (fileL nm y) = true := by
  unfold fileL
  rw [before_same]
  have := dig_before 8 x y h (by omega)
  rw [bytesBefore]
  simp [this]
theorem before_asym {a b : List UInt8} (h1 : bytesBefore a b = true) (h2 : bytesBefore b a = true) : a = b := by
  have := bytes_trans a b a h1 h2
  rw [bytes_irrefl] at this
  cases this
section
variable {nm : List UInt8} {fs : List Fl} {R : List (List UInt8)} {n D : Nat} {g : List (List (List UInt8))} {z : List UInt8}
/-- The device's files are those of the segments, in order. -/
theorem names_eq (hF : Fil nm fs n g D z) (hS : Shp R n g) (hr : fs.Pairwise fun x y => bytesBefore x.name y.name = true) (hall : ∀ m, ¬ OwnF nm m → lkC fs m = none) : namesC fs = (nums n g).map (fileL nm) := by
  have hlt := nums_lt g n hS.mid
  have hb : ∀ x ∈ nums n g, x < 100000000 := fun x hx => by
    obtain ⟨a, r, b, e1, e2⟩ := nums_mem.1 hx
    have h1 := (e1 ▸ hS).at
    have h2 := hS.small.1
    have h3 := hS.n1
    omega
  have hmem : ∀ m, m ∈ namesC fs ↔ m ∈ (nums n g).map (fileL nm) := fun m => by
    constructor
    · intro hm
      obtain ⟨y, hy, e⟩ := List.mem_map.1 hm
      by_cases ho : OwnF nm m
      · obtain ⟨x, hx, rfl⟩ := ho
        by_cases h : ∃ a r b, g = a ++ r :: b ∧ x = n + a.flatten.length
        · exact List.mem_map.2 ⟨x, nums_mem.2 h, rfl⟩
        · exact absurd e (lkC_none (hF.none x hx fun a r b e1 e2 => h ⟨a, r, b, e1, e2⟩) y hy)
      · exact absurd e (lkC_none (hall m ho) y hy)
    · intro hm
      obtain ⟨x, hx, rfl⟩ := List.mem_map.1 hm
      obtain ⟨a, r, b, e1, rfl⟩ := nums_mem.1 hx
      have hs : ∃ f, lkC fs (fileL nm (n + a.flatten.length)) = some f := by
        by_cases hb : b = []
        · subst hb
          exact ⟨_, hF.last a r e1⟩
        · exact ⟨_, hF.old a r b e1 hb⟩
      obtain ⟨f, hf⟩ := hs
      obtain ⟨h1, h2⟩ := lkC_some hf
      exact List.mem_map.2 ⟨f, h1, h2⟩
  have h1 : (namesC fs).Pairwise fun x y => bytesBefore x y = true := List.pairwise_map.2 hr
  have h2 : ((nums n g).map (fileL nm)).Pairwise fun x y => bytesBefore x y = true := by
    refine List.pairwise_map.2 ?_
    refine (List.pairwise_iff_getElem.2 fun i j hi hj hij => ?_)
    exact file_before nm (List.pairwise_iff_getElem.1 hlt i j hi hj hij) (hb _ (List.getElem_mem _))
  have ne : ∀ {l : List (List UInt8)}, l.Pairwise (fun x y => bytesBefore x y = true) → l.Nodup := fun h => h.imp fun {a b} h e => by
    subst e
    rw [bytes_irrefl] at h
    cases h
  exact List.Perm.eq_of_pairwise (fun a b _ _ x y => before_asym x y) h1 h2 ((List.perm_ext_iff_of_nodup (ne h1) (ne h2)).2 hmem)
end
theorem DevW.rise {w : World} {d : Nat} {S : Nat → Prop} {s : Ds} (h : DevW w d S s) : s.fs.Pairwise fun x y => bytesBefore x.name y.name = true := by
  obtain ⟨mb, fs, h1, _⟩ := h
  have := own_rise h1.map (by kernel_rfl)
  rw [h1.eq, List.pairwise_map]
  exact this
end Go.Proofs.YtbafnlccpbonmaaGreatDoor
