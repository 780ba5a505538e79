/- ChannelMerges: the plain law. -/
import Derived.Test.YtjldpodehffbnaaCOrd1
import Derived.Test.YtjldpodehffbnaaMod6
import Derived.Test.YtjldpodehffbnaaChan5
import Derived.Test.YtjldpodehffbnaaSo2
namespace Go.Proofs.Ytjldpodehffbnaa
set_option linter.unusedVariables false
set_option linter.unnecessarySimpa false
set_option linter.unusedSimpArgs false
open Go.RowKit

/-- What the items of a channel are like. -/
structure MInv (c : Ch) : Prop where
  used : c.used = false → c.items = []
  up : c.items.Pairwise fun a b => cmpS a.e a.p b.e b.p < 0
  last : ∀ it ∈ c.items, cmpS it.e it.p c.le c.lp ≤ 0
  small : ∀ it ∈ c.items, it.e ≤ 1048576
theorem Made.minv {K : Nat} {c : Ch} (h : Made K c) : MInv c := by
  induction h with
  | new => exact ⟨fun _ => rfl, List.Pairwise.nil, fun it h => (List.not_mem_nil h).elim, fun it h => (List.not_mem_nil h).elim⟩
  | @put c0 z it h ih =>
    unfold putC
    split
    · exact ih
    · rename_i hk
      split
      · exact ih
      · rename_i hor
        split
        · exact ih
        · have hz : chkI z it = 0 := by
            rcases Classical.em (chkI z it = 0) with h | h
            · exact h
            · exact absurd h hk
          have hold : ∀ a ∈ c0.items, cmpS a.e a.p it.e it.p < 0 := fun a ha => by
            rcases hu : c0.used with _ | _
            · rw [ih.used hu] at ha; exact (List.not_mem_nil ha).elim
            · have h1 := ih.last a ha
              have h2 : ¬ cmpS it.e it.p c0.le c0.lp ≤ 0 := fun h => hor (.inr ⟨hu, h⟩)
              have h3 := cmpS_neg it.e c0.le it.p c0.lp
              have h4 := (cmpS_tri a.e c0.le it.e a.p c0.lp it.p).1 h1 (by omega)
              omega
          refine ⟨fun h => Bool.noConfusion h, ?_, fun a ha => ?_, fun a ha => ?_⟩
          · rw [List.pairwise_append]
            refine ⟨ih.up, List.pairwise_singleton _ _, fun a ha b hb => ?_⟩
            rw [List.mem_singleton] at hb
            subst hb
            exact hold a ha
          · rcases List.mem_append.1 ha with ha | ha
            · have := hold a ha
              exact Int.le_of_lt this
            · rw [List.mem_singleton] at ha
              subst ha
              exact Int.le_of_eq (cmpS_zero.2 ⟨rfl, rfl⟩)
          · rcases List.mem_append.1 ha with ha | ha
            · exact ih.small a ha
            · rw [List.mem_singleton] at ha
              subst ha
              exact (chkI_entry hz).2
  | adv e p h ih =>
    unfold advC
    split
    · exact ih
    · exact ⟨ih.used, ih.up, ih.last, ih.small⟩
  | take h hl ih =>
    obtain ⟨i1, i2, i3, i4⟩ := ih
    rw [hl] at i1 i2 i3 i4
    exact ⟨fun h => absurd (i1 h) (by simp), (List.pairwise_cons.1 i2).2, fun it h => i3 it (List.mem_cons_of_mem _ h), fun it h => i4 it (List.mem_cons_of_mem _ h)⟩

def allL (cur : List Ch) : List Ent := cur.flatMap fun c => c.items.map stI
/-- The channels while they are merged: what is still to come. -/
structure MS (cur : List Ch) (rest : List Ent) : Prop where
  perm : rest.Perm (allL cur)
  up : rest.Pairwise fun a b => cmpE a b < 0
  inv : ∀ c ∈ cur, c.items.Pairwise (fun a b => cmpS a.e a.p b.e b.p < 0) ∧ (∀ it ∈ c.items, it.e ≤ 1048576) ∧ 1099511627776 ≤ c.me
theorem allL_mem {cur : List Ch} {x : Ent} : x ∈ allL cur ↔ ∃ c ∈ cur, ∃ it ∈ c.items, stI it = x := by
  unfold allL
  rw [List.mem_flatMap]
  constructor
  · rintro ⟨c, hc, h⟩
    obtain ⟨it, h1, h2⟩ := List.mem_map.1 h
    exact ⟨c, hc, it, h1, h2⟩
  · rintro ⟨c, hc, it, h1, h2⟩
    exact ⟨c, hc, List.mem_map.2 ⟨it, h1, h2⟩⟩
theorem allL_set {c : Ch} {it : It} {l : List It} (h : c.items = it :: l) : ∀ (cur : List Ch) (j : Nat), cur[j]? = some c → (allL cur).Perm (stI it :: allL (cur.set j { c with items := l }))
  | [], j, hj => by simp at hj
  | a :: cur, 0, hj => by
    simp at hj
    subst hj
    simp only [allL, List.set_cons_zero, List.flatMap_cons, h, List.map_cons, List.cons_append]
    exact List.Perm.refl _
  | a :: cur, j + 1, hj => by
    simp at hj
    have ih := allL_set h cur j hj
    simp only [allL, List.set_cons_succ, List.flatMap_cons] at ih ⊢
    exact (List.Perm.append_left _ ih).trans List.perm_middle
theorem bestO_le (l : List CP) : ∀ (k : Nat) {q b r : Nat} {c : Ch}, q < k → l[q]? = some (some (b, r, c)) → c.items ≠ [] → ∃ j c', bestO l k = some (j, c') ∧ cmpS (leE c') (leP c') (leE c) (leP c) ≤ 0
  | 0, q, b, r, c, h, _, _ => absurd h (Nat.not_lt_zero _)
  | k + 1, q, b, r, c, h, hq, hne => by
    have hlen : 0 < c.items.length := List.length_pos_iff.2 hne
    unfold bestO
    rcases Nat.lt_or_ge q k with hqk | hqk
    · obtain ⟨j, c', h1, h2⟩ := bestO_le l k hqk hq hne
      rcases hx : l[k]? with _ | x
      · exact ⟨j, c', h1, h2⟩
      · rcases x with _ | ⟨b2, r2, c2⟩
        · exact ⟨j, c', h1, h2⟩
        · simp only [stepB]
          rw [h1]
          split
          · rename_i hb
            simp only [Bool.and_eq_true, decide_eq_true_eq, better] at hb
            refine ⟨k, c2, rfl, ?_⟩
            have := (cmpS_tri (leE c2) (leE c') (leE c) (leP c2) (leP c') (leP c)).1 (by omega) h2
            omega
          · exact ⟨j, c', rfl, h2⟩
    · obtain rfl : q = k := by omega
      rw [hq]
      simp only [stepB]
      split
      · exact ⟨q, c, rfl, Int.le_of_eq (cmpS_zero.2 ⟨rfl, rfl⟩)⟩
      · rename_i hb
        rcases hbo : bestO l q with _ | ⟨j, c'⟩
        · rw [hbo] at hb
          simp [better, hlen] at hb
        · rw [hbo] at hb
          refine ⟨j, c', rfl, ?_⟩
          simp only [better, Bool.and_eq_true, decide_eq_true_eq, not_and] at hb
          have h1 := hb hlen
          have h2 := cmpS_neg (leE c) (leE c') (leP c) (leP c')
          omega
/-- How a list of pointers is told by the channels' states. -/
def Told (l : List CP) (cur : List Ch) : Prop := l.length = cur.length ∧ ∀ (i : Nat) (c : Ch), cur[i]? = some c → ∃ b r, l[i]? = some (some (b, r, c))
theorem Told.back {l : List CP} {cur : List Ch} (h : Told l cur) {i b r : Nat} {c : Ch} (hi : l[i]? = some (some (b, r, c))) : cur[i]? = some c := by
  have hl := (List.getElem?_eq_some_iff.1 hi).1
  have hl2 : i < cur.length := by have := h.1; omega
  obtain ⟨b', r', h2⟩ := h.2 i cur[i] (List.getElem?_eq_getElem hl2)
  rw [hi] at h2
  cases h2
  exact List.getElem?_eq_getElem (by have := h.1; omega)
theorem MS.next {l : List CP} {cur : List Ch} {x : Ent} {rest : List Ent} (h : MS cur (x :: rest)) (hl : Told l cur) :
    ∃ (j : Nat) (c : Ch) (it : It) (m : List It), nextC l = ((j : Int), true) ∧ cur[j]? = some c ∧ c.items = it :: m ∧ stI it = x ∧ MS (cur.set j { c with items := m }) rest := by
  obtain ⟨h1, h2, h3⟩ := h
  have hmin : ∀ y ∈ allL cur, cmpE x y ≤ 0 := fun y hy => by
    rcases List.mem_cons.1 (h1.mem_iff.2 hy) with rfl | hy
    · exact Int.le_of_eq (cmpS_zero.2 ⟨rfl, rfl⟩)
    · have := (List.pairwise_cons.1 h2).1 y hy; omega
  obtain ⟨c, hc, it, hit, rfl⟩ := allL_mem.1 (h1.mem_iff.1 (List.mem_cons_self ..))
  obtain ⟨i, hi⟩ := List.getElem?_of_mem hc
  obtain ⟨b, r, hli⟩ := hl.2 i c hi
  have hilt : i < l.length := (List.getElem?_eq_some_iff.1 hli).1
  have hne : c.items ≠ [] := fun e => by rw [e] at hit; exact (List.not_mem_nil hit).elim
  obtain ⟨j, c', hbo, hle⟩ := bestO_le l l.length hilt hli hne
  obtain ⟨hj, ⟨bj, rj, hlj⟩, hpos⟩ := bestO_at l _ hbo
  have hcj := hl.back hlj
  have hcm' : c' ∈ cur := List.mem_of_getElem? hcj
  obtain ⟨it', m, hm⟩ : ∃ it m, c'.items = it :: m := by
    rcases hh : c'.items with _ | ⟨a, m⟩
    · rw [hh] at hpos; exact absurd hpos (Nat.lt_irrefl _)
    · exact ⟨a, m, rfl⟩
  have hmE : leE c' = it'.e ∧ leP c' = it'.p := by unfold leE leP; rw [hm]; exact ⟨rfl, rfl⟩
  -- the head of c is no greater than the item
  have hhead : cmpS (leE c) (leP c) it.e it.p ≤ 0 := by
    rcases hh : c.items with _ | ⟨a, m2⟩
    · exact absurd hh hne
    · have e1 : leE c = a.e ∧ leP c = a.p := by unfold leE leP; rw [hh]; exact ⟨rfl, rfl⟩
      rw [e1.1, e1.2]
      have h4 := (h3 c hc).1
      rw [hh] at h4 hit
      rcases List.mem_cons.1 hit with rfl | hit
      · exact Int.le_of_eq (cmpS_zero.2 ⟨rfl, rfl⟩)
      · exact Int.le_of_lt ((List.pairwise_cons.1 h4).1 it hit)
  have hx1 : cmpE (stI it) (stI it') ≤ 0 := hmin _ (allL_mem.2 ⟨c', hcm', it', by rw [hm]; exact List.mem_cons_self .., rfl⟩)
  have hx2 : cmpE (stI it') (stI it) ≤ 0 := by
    rw [hmE.1, hmE.2] at hle
    have := (cmpS_tri it'.e (leE c) it.e it'.p (leP c) it.p).1 hle hhead
    show cmpS it'.e it'.p it.e it.p ≤ 0
    omega
  have hxe : stI it' = stI it := by
    have h5 := cmpE_neg (stI it) (stI it')
    have h6 := cmpS_zero.1 (show cmpS it'.e it'.p it.e it.p = 0 from by
      have : cmpE (stI it') (stI it) = cmpS it'.e it'.p it.e it.p := rfl
      omega)
    unfold stI
    rw [h6.1, h6.2]
  refine ⟨j, c', it', m, ?_, hcj, hm, hxe, ?_, (List.pairwise_cons.1 h2).2, fun d hd => ?_⟩
  · unfold nextC
    rw [hbo]
    dsimp only
    rw [if_neg]
    intro hany
    obtain ⟨y, hy, hlt⟩ := List.any_eq_true.1 hany
    rcases y with _ | ⟨b2, r2, d⟩
    · simp [lessO] at hlt
    · have hlt' : cmpS (leE d) (leP d) (leE c') (leP c') < 0 := of_decide_eq_true hlt
      obtain ⟨q, hq⟩ := List.getElem?_of_mem hy
      have hdm : d ∈ cur := List.mem_of_getElem? (hl.back hq)
      rw [hmE.1, hmE.2] at hlt'
      rcases hdi : d.items with _ | ⟨a, m2⟩
      · have e1 : leE d = d.me := by unfold leE; rw [hdi]
        have h7 := (h3 d hdm).2.2
        have h8 := (h3 c' hcm').2.1 it' (by rw [hm]; exact List.mem_cons_self ..)
        rw [e1, cmpS_ne (by omega)] at hlt'
        unfold cmpI at hlt'
        split at hlt'
        · omega
        · split at hlt' <;> omega
      · have e1 : leE d = a.e ∧ leP d = a.p := by unfold leE leP; rw [hdi]; exact ⟨rfl, rfl⟩
        rw [e1.1, e1.2] at hlt'
        have h7 := hmin (stI a) (allL_mem.2 ⟨d, hdm, a, by rw [hdi]; exact List.mem_cons_self .., rfl⟩)
        rw [← hxe] at h7
        have h8 : cmpS it'.e it'.p a.e a.p ≤ 0 := h7
        have h9 := cmpS_neg a.e it'.e a.p it'.p
        omega
  · have := h1.trans (allL_set hm cur j hcj)
    rw [hxe] at this
    exact this.cons_inv
  · rcases List.mem_or_eq_of_mem_set hd with hd | rfl
    · exact h3 d hd
    · obtain ⟨g1, g2, g3⟩ := h3 c' hcm'
      rw [hm] at g1 g2
      exact ⟨(List.pairwise_cons.1 g1).2, fun y hy => g2 y (List.mem_cons_of_mem _ hy), g3⟩
theorem MS.done {l : List CP} {cur : List Ch} (h : MS cur []) (hl : Told l cur) : nextC l = (0, false) := by
  unfold nextC
  rcases hbo : bestO l l.length with _ | ⟨j, c⟩
  · rfl
  · exfalso
    obtain ⟨hj, ⟨bj, rj, hlj⟩, hpos⟩ := bestO_at l _ hbo
    have hcm : c ∈ cur := List.mem_of_getElem? (hl.back hlj)
    rcases hh : c.items with _ | ⟨a, m⟩
    · rw [hh] at hpos; exact absurd hpos (Nat.lt_irrefl _)
    · have : stI a ∈ allL cur := allL_mem.2 ⟨c, hcm, a, by rw [hh]; exact List.mem_cons_self .., rfl⟩
      exact (List.not_mem_nil (h.perm.mem_iff.2 this)).elim
end Go.Proofs.Ytjldpodehffbnaa
