/- ChannelOrders: the plain law, and the two lists of stamps in memory. -/
import Derived.Test.YtjldpodehffbnaaChan7
import Derived.Test.YtjldpodehffbnaaCLaw3
namespace Go.Proofs.Ytjldpodehffbnaa
set_option linter.unusedVariables false
set_option linter.unnecessarySimpa false
set_option linter.unusedSimpArgs false
open Go.RowKit

abbrev Ent := Int × List Int
def cmpE (a b : Ent) : Int := cmpS a.1 a.2 b.1 b.2
theorem cmpE_neg (a b : Ent) : cmpE b a = - cmpE a b := cmpS_neg _ _ _ _
def stI (it : It) : Ent := (it.e, it.p)
def allS (c : Ch) (tks : List Ent) : List Ent := tks ++ c.items.map stI
structure OInv (K : Nat) (c : Ch) (mks tks : List Ent) : Prop where
  cap : c.cap = K
  len : (allS c tks).length = mks.length
  up : ∀ (i : Nat) (a b : Ent), (allS c tks)[i]? = some a → (allS c tks)[i + 1]? = some b → cmpE a b < 0
  ge : ∀ (i : Nat) (a m : Ent), (allS c tks)[i]? = some a → mks[i]? = some m → 0 ≤ cmpE a m
  last : allS c tks = [] ∨ c.used = true ∧ (allS c tks).getLast? = some (c.le, c.lp)
theorem OInv.start (K : Nat) : OInv K (ch0 K) [] [] := ⟨rfl, rfl, fun i a b h => by simp [allS] at h, fun i a m h => by simp [allS] at h, .inl rfl⟩
theorem OInv.adv {K : Nat} {c : Ch} {mks tks : List Ent} (h : OInv K c mks tks) (e : Int) (p : List Int) : OInv K (advC c e p).2 mks tks := by
  unfold advC
  split
  · exact h
  · exact ⟨h.cap, h.len, h.up, h.ge, h.last⟩
theorem OInv.take {K : Nat} {c : Ch} {mks tks : List Ent} (h : OInv K c mks tks) {it : It} {l : List It} (hl : c.items = it :: l) : OInv K { c with items := l } mks (tks ++ [stI it]) := by
  have e : allS { c with items := l } (tks ++ [stI it]) = allS c tks := by simp [allS, hl]
  exact ⟨h.cap, by rw [e]; exact h.len, by rw [e]; exact h.up, by rw [e]; exact h.ge, by rw [e]; exact h.last⟩
theorem OInv.put {K : Nat} {c : Ch} {mks tks : List Ent} (h : OInv K c mks tks) {k : Int} {it : It} (h0 : (putC k c it).1 = 0) : OInv K (putC k c it).2 (mks ++ [(c.me, c.mp)]) tks := by
  unfold putC at h0 ⊢
  split at h0
  · rename_i hk; exact absurd h0 hk
  rename_i hk
  rw [if_neg hk]
  split at h0
  · cases h0
  rename_i hor
  rw [if_neg hor]
  split at h0
  · cases h0
  rename_i hfull
  rw [if_neg hfull]
  have e : allS { c with items := c.items ++ [it], me := it.e, mp := it.p, le := it.e, lp := it.p, used := true } tks = allS c tks ++ [stI it] := by simp [allS]
  have h1 : 0 ≤ cmpE (stI it) (c.me, c.mp) := by
    show 0 ≤ cmpS it.e it.p c.me c.mp
    rcases Int.lt_or_le (cmpS it.e it.p c.me c.mp) 0 with hh | hh
    · exact absurd (.inl hh) hor
    · exact hh
  refine ⟨h.cap, by rw [e]; simp [h.len], ?_, ?_, .inr ⟨rfl, by rw [e]; simp [stI]⟩⟩
  · rw [e]
    intro i a b ha hb
    rcases Nat.lt_or_ge (i + 1) (allS c tks).length with hi | hi
    · rw [List.getElem?_append_left (by omega)] at ha
      rw [List.getElem?_append_left hi] at hb
      exact h.up i a b ha hb
    · have hb' := (List.getElem?_eq_some_iff.1 hb).1
      simp at hb'
      have hie : i + 1 = (allS c tks).length := by omega
      rw [List.getElem?_append_right (by omega), hie, Nat.sub_self] at hb
      cases hb
      rw [List.getElem?_append_left (by omega)] at ha
      rcases h.last with h2 | ⟨hu, h2⟩
      · rw [h2] at hie; simp at hie
      · rw [List.getLast?_eq_getElem?, ← hie, Nat.add_sub_cancel, ha] at h2
        cases h2
        rw [cmpE_neg (stI it)]
        have : ¬ cmpS it.e it.p c.le c.lp ≤ 0 := fun hh => hor (.inr ⟨hu, hh⟩)
        show - cmpS it.e it.p c.le c.lp < 0
        omega
  · rw [e]
    intro i a m ha hm
    rcases Nat.lt_or_ge i (allS c tks).length with hi | hi
    · rw [List.getElem?_append_left hi] at ha
      rw [List.getElem?_append_left (by rw [← h.len]; exact hi)] at hm
      exact h.ge i a m ha hm
    · have ha' := (List.getElem?_eq_some_iff.1 ha).1
      simp at ha'
      have hie : i = (allS c tks).length := by omega
      subst hie
      rw [List.getElem?_append_right (Nat.le_refl _), Nat.sub_self] at ha
      rw [h.len, List.getElem?_append_right (Nat.le_refl _), Nat.sub_self] at hm
      cases ha
      cases hm
      exact h1
theorem OInv.taken_mk {K : Nat} {c : Ch} {mks tks : List Ent} (h : OInv K c mks tks) {i : Nat} {a m : Ent} (ha : tks[i]? = some a) (hm : mks[i]? = some m) : 0 ≤ cmpE a m :=
  h.ge i a m (by unfold allS; rw [List.getElem?_append_left (List.getElem?_eq_some_iff.1 ha).1]; exact ha) hm
theorem OInv.taken_up {K : Nat} {c : Ch} {mks tks : List Ent} (h : OInv K c mks tks) {i : Nat} {a b : Ent} (ha : tks[i]? = some a) (hb : tks[i + 1]? = some b) : cmpE a b < 0 :=
  h.up i a b (by unfold allS; rw [List.getElem?_append_left (List.getElem?_eq_some_iff.1 ha).1]; exact ha) (by unfold allS; rw [List.getElem?_append_left (List.getElem?_eq_some_iff.1 hb).1]; exact hb)
theorem OInv.lens {K : Nat} {c : Ch} {mks tks : List Ent} (h : OInv K c mks tks) : c.items.length + tks.length = mks.length := by
  have := h.len
  unfold allS at this
  simp at this
  omega

/-- Data in none of the blocks that the law writes. -/
def OkO (b r : Nat) (v1 v2 : Value) : Nat → Prop := fun x => x ≠ b ∧ x ≠ r ∧ v1.ownBlock ≠ some x ∧ v2.ownBlock ≠ some x
/-- A list of stamps that the law has made. -/
def SL (ok : Nat → Prop) (base : Nat) (w : World) (A : Option Addr) (n c : Nat) (l : List Ent) : Prop :=
  ∃ zs, w.ownsRow base 24 2 (.slice A n c) n zs ∧ l.length = n ∧ ∀ q e p, l[q]? = some (e, p) → ∃ A' n' c', (zs.drop (q * 2)).take 2 = [.int .i64 e, .slice A' n' c'] ∧ PathIs ok w A' n' c' p
theorem own_block {w w' : World} {base : Nat} {e : TypeId} {size : Nat} {v : Value} {n : Nat} {xs : List Value} (h : w.ownsRow base e size v n xs) (hk : ∀ g, v.ownBlock = some g → w'.heap[g]? = w.heap[g]?) : w'.ownsRow base e size v n xs := by
  refine ⟨h.1, ?_⟩
  rcases h.2 with h0 | ⟨g, cap, cur, hv, hg, hh, hr⟩
  · exact .inl h0
  · refine .inr ⟨g, cap, cur, hv, hg, ?_, hr⟩
    rw [hk g (by rw [hv]; rfl)]
    exact hh
theorem SL.keep {ok : Nat → Prop} {base : Nat} {w w' : World} {A : Option Addr} {n c : Nat} {l : List Ent} (h : SL ok base w A n c l) (hk : Keeps ok w w') (hb : ∀ g, (Value.slice A n c).ownBlock = some g → w'.heap[g]? = w.heap[g]?) : SL ok base w' A n c l := by
  obtain ⟨zs, h1, h2, h3⟩ := h
  exact ⟨zs, own_block h1 hb, h2, fun q e p hq => let ⟨A', n', c', h4, h5⟩ := h3 q e p hq; ⟨A', n', c', h4, h5.keep hk⟩⟩
theorem SL.mono {ok ok' : Nat → Prop} {base : Nat} {w : World} {A : Option Addr} {n c : Nat} {l : List Ent} (h : SL ok base w A n c l) (hk : ∀ x, x < w.heap.size → ok x → ok' x) : SL ok' base w A n c l := by
  obtain ⟨zs, h1, h2, h3⟩ := h
  exact ⟨zs, h1, h2, fun q e p hq => let ⟨A', n', c', h4, h5⟩ := h3 q e p hq; ⟨A', n', c', h4, h5.mono hk⟩⟩
theorem SL.nil (ok : Nat → Prop) (base : Nat) (w : World) : SL ok base w none 0 0 [] := ⟨[], World.ownsRow_nil _ _ _ _, rfl, fun q e p h => by simp at h⟩
/-- The law's world. -/
def OrdW (base b r : Nat) (w : World) (c : Ch) (A1 : Option Addr) (n1 c1 : Nat) (A2 : Option Addr) (n2 c2 : Nat) (mks tks : List Ent) : Prop :=
  ChanAt (OkO b r (.slice A1 n1 c1) (.slice A2 n2 c2)) w b r c ∧ SL (OkO b r (.slice A1 n1 c1) (.slice A2 n2 c2)) base w A1 n1 c1 mks ∧ SL (OkO b r (.slice A1 n1 c1) (.slice A2 n2 c2)) base w A2 n2 c2 tks ∧
    b < base ∧ r < base ∧ base ≤ w.heap.size ∧ ∀ x, (Value.slice A1 n1 c1).ownBlock = some x → (Value.slice A2 n2 c2).ownBlock ≠ some x
section
variable {base b r : Nat} {w w' : World} {c c' : Ch} {A1 A2 : Option Addr} {n1 c1 n2 c2 : Nat} {mks tks : List Ent}
theorem SL.lt {ok : Nat → Prop} {A : Option Addr} {n c : Nat} {l : List Ent} (h : SL ok base w A n c l) {g : Nat} (hg : (Value.slice A n c).ownBlock = some g) : base ≤ g ∧ g < w.heap.size := by
  obtain ⟨zs, h1, _⟩ := h
  exact h1.lt g hg
/-- An operation of the channel. -/
theorem OrdW.chan (h : OrdW base b r w c A1 n1 c1 A2 n2 c2 mks tks) (hc : Chg b r w w') (hC : ChanAt (OkO b r (.slice A1 n1 c1) (.slice A2 n2 c2)) w' b r c') : OrdW base b r w' c' A1 n1 c1 A2 n2 c2 mks tks := by
  obtain ⟨h1, h2, h3, h4, h5, h6, h7⟩ := h
  have hk := hc.keeps (ok := OkO b r (.slice A1 n1 c1) (.slice A2 n2 c2)) (fun h => h.1 rfl) (fun h => h.2.1 rfl)
  exact ⟨hC, h2.keep hk fun g hg => hc.2.2 g (by have := (h2.lt hg).1; exact ⟨by omega, by omega⟩) (h2.lt hg).2, h3.keep hk fun g hg => hc.2.2 g (by have := (h3.lt hg).1; exact ⟨by omega, by omega⟩) (h3.lt hg).2, h4, h5, Nat.le_trans h6 hc.size, h7⟩
theorem OrdW.grow (h : OrdW base b r w c A1 n1 c1 A2 n2 c2 mks tks) (hb : Below w.heap.size w w') : OrdW base b r w' c A1 n1 c1 A2 n2 c2 mks tks := h.chan (Chg.of_below hb) (h.1.grow hb)
theorem OrdW.fresh (h : OrdW base b r w c A1 n1 c1 A2 n2 c2 mks tks) : ∀ x, w.heap.size ≤ x → OkO b r (.slice A1 n1 c1) (.slice A2 n2 c2) x := fun x hx =>
  ⟨by have := h.1.lt; omega, by have := h.1.lt; omega, fun e => by have := (h.2.1.lt e).2; omega, fun e => by have := (h.2.2.1.lt e).2; omega⟩
theorem SL.app {ok : Nat → Prop} {zs : List Value} {A' : Option Addr} {n c' : Nat} {l : List Ent} {P : Option Addr} {pn pc : Nat} {e : Int} {p : List Int} (hz : zs.length = n * 2) (hl : l.length = n)
    (h3 : ∀ q e p, l[q]? = some (e, p) → ∃ A' n' c', (zs.drop (q * 2)).take 2 = [.int .i64 e, .slice A' n' c'] ∧ PathIs ok w A' n' c' p)
    (hown : w.ownsRow base 24 2 (.slice A' (n + 1) c') (n + 1) (zs ++ [.int .i64 e, .slice P pn pc])) (hp : PathIs ok w P pn pc p) : SL ok base w A' (n + 1) c' (l ++ [(e, p)]) := by
  refine ⟨_, hown, by simp [hl], fun q e' p' hq => ?_⟩
  rcases Nat.lt_or_ge q n with h | h
  · rw [List.getElem?_append_left (by omega)] at hq
    rw [chunk_old hz h]
    exact h3 q e' p' hq
  · have hq' := (List.getElem?_eq_some_iff.1 hq).1
    simp [hl] at hq'
    have : q = n := by omega
    subst this
    rw [List.getElem?_append_right (by omega), hl, Nat.sub_self] at hq
    cases hq
    rw [chunk_new hz rfl]
    exact ⟨P, pn, pc, rfl, hp⟩
/-- An append onto the first list. -/
theorem OrdW.app1 {A' : Option Addr} {c1' : Nat} {P : Option Addr} {pn pc : Nat} {e : Int} {p : List Int} (h : OrdW base b r w c A1 n1 c1 A2 n2 c2 mks tks) (hg : w.grownBy w' (Value.slice A1 n1 c1).ownBlock)
    (hob : (Value.slice A' (n1 + 1) c1').ownBlock = (Value.slice A1 n1 c1).ownBlock ∨ (Value.slice A' (n1 + 1) c1').ownBlock = some w.heap.size) {zs : List Value} (hz : zs.length = n1 * 2) (hl : mks.length = n1)
    (h3 : ∀ q e p, mks[q]? = some (e, p) → ∃ A' n' c', (zs.drop (q * 2)).take 2 = [.int .i64 e, .slice A' n' c'] ∧ PathIs (OkO b r (.slice A1 n1 c1) (.slice A2 n2 c2)) w A' n' c' p)
    (hown : w'.ownsRow base 24 2 (.slice A' (n1 + 1) c1') (n1 + 1) (zs ++ [.int .i64 e, .slice P pn pc])) (hp : PathIs (OkO b r (.slice A1 n1 c1) (.slice A2 n2 c2)) w P pn pc p) :
    OrdW base b r w' c A' (n1 + 1) c1' A2 n2 c2 (mks ++ [(e, p)]) tks := by
  obtain ⟨g1, g2, g3, g4, g5, g6, g7⟩ := h
  have hup : ∀ x, x < w.heap.size → OkO b r (.slice A1 n1 c1) (.slice A2 n2 c2) x → OkO b r (.slice A1 n1 c1) (.slice A2 n2 c2) x ∧ OkO b r (.slice A' (n1 + 1) c1') (.slice A2 n2 c2) x := fun x hx ho =>
    ⟨ho, ho.1, ho.2.1, fun e => by rcases hob with h | h; (rw [h] at e; exact ho.2.2.1 e); (rw [h] at e; cases e; omega), ho.2.2.2⟩
  have hk : Keeps (fun x => OkO b r (.slice A1 n1 c1) (.slice A2 n2 c2) x ∧ OkO b r (.slice A' (n1 + 1) c1') (.slice A2 n2 c2) x) w w' := (Keeps.refl _ _).grown hg fun k hk => .inr fun hx => hx.1.2.2.1 hk
  have hblk : ∀ x, x < w.heap.size → (Value.slice A1 n1 c1).ownBlock ≠ some x → w'.heap[x]? = w.heap[x]? := fun x hx hn => hg.block x hx (fun e => hn e.symm)
  have hl1 := g1.lt
  refine ⟨?_, ?_, ?_, g4, g5, Nat.le_trans g6 hg.size, fun x e1 e2 => ?_⟩
  · exact ((g1.mono (ok' := fun x => OkO b r (.slice A1 n1 c1) (.slice A2 n2 c2) x ∧ OkO b r (.slice A' (n1 + 1) c1') (.slice A2 n2 c2) x) hup (fun h => h.1.1 rfl) (fun h => h.1.2.1 rfl)).keep hk fun x hx => hblk x (by rcases hx with rfl | rfl; exact hl1.1; exact hl1.2) (fun e => by have := (g2.lt e).1; rcases hx with rfl | rfl <;> omega)).mono (fun _ _ h => h.2) (fun h => h.1 rfl) (fun h => h.2.1 rfl)
  · exact SL.app hz hl (fun q e p hq => let ⟨A', n', c', h4, h5⟩ := h3 q e p hq; ⟨A', n', c', h4, ((h5.mono hup).keep hk).mono fun _ _ h => h.2⟩) hown (((hp.mono hup).keep hk).mono fun _ _ h => h.2)
  · exact ((g3.mono hup).keep hk fun x hx => hblk x (g3.lt hx).2 (fun e => g7 x e hx)).mono fun _ _ h => h.2
  · rcases hob with h | h
    · rw [h] at e1; exact g7 x e1 e2
    · rw [h] at e1; cases e1; have := (g3.lt e2).2; omega
/-- An append onto the second list. -/
theorem OrdW.app2 {A' : Option Addr} {c2' : Nat} {P : Option Addr} {pn pc : Nat} {e : Int} {p : List Int} (h : OrdW base b r w c A1 n1 c1 A2 n2 c2 mks tks) (hg : w.grownBy w' (Value.slice A2 n2 c2).ownBlock)
    (hob : (Value.slice A' (n2 + 1) c2').ownBlock = (Value.slice A2 n2 c2).ownBlock ∨ (Value.slice A' (n2 + 1) c2').ownBlock = some w.heap.size) {zs : List Value} (hz : zs.length = n2 * 2) (hl : tks.length = n2)
    (h3 : ∀ q e p, tks[q]? = some (e, p) → ∃ A' n' c', (zs.drop (q * 2)).take 2 = [.int .i64 e, .slice A' n' c'] ∧ PathIs (OkO b r (.slice A1 n1 c1) (.slice A2 n2 c2)) w A' n' c' p)
    (hown : w'.ownsRow base 24 2 (.slice A' (n2 + 1) c2') (n2 + 1) (zs ++ [.int .i64 e, .slice P pn pc])) (hp : PathIs (OkO b r (.slice A1 n1 c1) (.slice A2 n2 c2)) w P pn pc p) :
    OrdW base b r w' c A1 n1 c1 A' (n2 + 1) c2' mks (tks ++ [(e, p)]) := by
  obtain ⟨g1, g2, g3, g4, g5, g6, g7⟩ := h
  have hup : ∀ x, x < w.heap.size → OkO b r (.slice A1 n1 c1) (.slice A2 n2 c2) x → OkO b r (.slice A1 n1 c1) (.slice A2 n2 c2) x ∧ OkO b r (.slice A1 n1 c1) (.slice A' (n2 + 1) c2') x := fun x hx ho =>
    ⟨ho, ho.1, ho.2.1, ho.2.2.1, fun e => by rcases hob with h | h; (rw [h] at e; exact ho.2.2.2 e); (rw [h] at e; cases e; omega)⟩
  have hk : Keeps (fun x => OkO b r (.slice A1 n1 c1) (.slice A2 n2 c2) x ∧ OkO b r (.slice A1 n1 c1) (.slice A' (n2 + 1) c2') x) w w' := (Keeps.refl _ _).grown hg fun k hk => .inr fun hx => hx.1.2.2.2 hk
  have hblk : ∀ x, x < w.heap.size → (Value.slice A2 n2 c2).ownBlock ≠ some x → w'.heap[x]? = w.heap[x]? := fun x hx hn => hg.block x hx (fun e => hn e.symm)
  have hl1 := g1.lt
  refine ⟨?_, ?_, ?_, g4, g5, Nat.le_trans g6 hg.size, fun x e1 e2 => ?_⟩
  · exact ((g1.mono (ok' := fun x => OkO b r (.slice A1 n1 c1) (.slice A2 n2 c2) x ∧ OkO b r (.slice A1 n1 c1) (.slice A' (n2 + 1) c2') x) hup (fun h => h.1.1 rfl) (fun h => h.1.2.1 rfl)).keep hk fun x hx => hblk x (by rcases hx with rfl | rfl; exact hl1.1; exact hl1.2) (fun e => by have := (g3.lt e).1; rcases hx with rfl | rfl <;> omega)).mono (fun _ _ h => h.2) (fun h => h.1 rfl) (fun h => h.2.1 rfl)
  · exact ((g2.mono hup).keep hk fun x hx => hblk x (g2.lt hx).2 (fun e => g7 x hx e)).mono fun _ _ h => h.2
  · exact SL.app hz hl (fun q e p hq => let ⟨A', n', c', h4, h5⟩ := h3 q e p hq; ⟨A', n', c', h4, ((h5.mono hup).keep hk).mono fun _ _ h => h.2⟩) hown (((hp.mono hup).keep hk).mono fun _ _ h => h.2)
  · rcases hob with h | h
    · rw [h] at e2; exact g7 x e1 e2
    · rw [h] at e2; cases e2; have := (g2.lt e1).2; omega
end
theorem Try.infoSt : (Try.prog.info? 24).map (fun i => (i.zero, i.size, i.bytes)) = some (some (.agg #[.int .i64 0, .slice none 0 0]), 2, 32) := by kernel_rfl
end Go.Proofs.Ytjldpodehffbnaa
