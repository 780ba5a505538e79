/- ChannelMerges: the law's world. -/
import Derived.Test.YtjldpodehffbnaaMergeM
import Derived.Test.YtjldpodehffbnaaCLaw5
import Derived.Test.YtjldpodehffbnaaPlay3
import Derived.Test.YtjldpodehffbnaaSo8
namespace Go.Proofs.Ytjldpodehffbnaa
set_option linter.unusedVariables false
set_option linter.unnecessarySimpa false
set_option linter.unusedSimpArgs false
open Go.RowKit

def okC (ok0 : Nat → Prop) (T : Nat) (v : Value) : Nat → Prop := fun x => ok0 x ∧ x ≠ T ∧ v.ownBlock ≠ some x
/-- Data that lie in w4 already, in none of the channels. -/
def okB (ok0 : Nat → Prop) (prs : List PRec) (n4 : Nat) : Nat → Prop := fun x => x < n4 ∧ okK prs x ∧ ok0 x
/-- The channels' states. -/
def cpz (prs : List PRec) (cur : List Ch) : List CP := List.zipWith (fun p c => some (p.b, p.r, c)) prs cur
theorem cpz_get {prs : List PRec} {cur : List Ch} {i : Nat} {p : PRec} {c : Ch} (hp : prs[i]? = some p) (hc : cur[i]? = some c) : (cpz prs cur)[i]? = some (some (p.b, p.r, c)) := by
  unfold cpz
  rw [List.getElem?_zipWith, hp, hc]
theorem cpz_told {prs : List PRec} {cur : List Ch} (h : cur.length = prs.length) : Told (cpz prs cur) cur := by
  refine ⟨by unfold cpz; rw [List.length_zipWith, h, Nat.min_self], fun i c hi => ?_⟩
  have hlt := (List.getElem?_eq_some_iff.1 hi).1
  exact ⟨_, _, cpz_get (List.getElem?_eq_getElem (by omega)) hi⟩
theorem cpz_chs {prs : List PRec} {cur : List Ch} (h : cur.length = prs.length) : chs (cpz prs cur) = chs (cps prs) := by
  unfold chs cps
  apply List.ext_getElem?
  intro i
  rw [List.getElem?_map, List.getElem?_map, List.getElem?_map]
  rcases hp : prs[i]? with _ | p
  · have : (cpz prs cur)[i]? = none := by
      rw [List.getElem?_eq_none_iff] at hp ⊢
      unfold cpz
      rw [List.length_zipWith]
      omega
    rw [this]; rfl
  · obtain ⟨c, hc⟩ : ∃ c, cur[i]? = some c := ⟨_, List.getElem?_eq_getElem (by have := (List.getElem?_eq_some_iff.1 hp).1; omega)⟩
    rw [cpz_get hp hc]
    rfl
/-- What is known of the channels and the data's blocks ahead of all. -/
structure SepC (ok0 : Nat → Prop) (prs : List PRec) (n4 : Nat) : Prop where
  no : ∀ p ∈ prs, ¬ ok0 p.b ∧ ¬ ok0 p.r
  lt : ∀ p ∈ prs, p.b < n4 ∧ p.r < n4
  apart : ∀ (i j : Nat) (p q : PRec), prs[i]? = some p → prs[j]? = some q → i ≠ j → (p.b ≠ q.b ∧ p.b ≠ q.r) ∧ p.r ≠ q.b ∧ p.r ≠ q.r
  fresh : ∀ x, n4 ≤ x → ok0 x
def ChF (ok : Nat → Prop) (w : World) (prs : List PRec) (cur : List Ch) : Prop := ∀ (i : Nat) (p : PRec) (c : Ch), prs[i]? = some p → cur[i]? = some c → ChanAt ok w p.b p.r c
structure Mg (ok0 : Nat → Prop) (prs : List PRec) (w4 : World) (T : Nat) (w : World) (cur : List Ch) (P : Option Addr) (k q : Nat) (l : List Ent) (e : Int) (p : List Int) : Prop where
  kept : Keeps (okK prs) w4 w
  chans : ChF (okC ok0 T (.slice P k q)) w prs cur
  all : SL (okB ok0 prs w4.heap.size) (T + 1) w P k q l
  box : ∃ EA En Ec, Bx w T [.int .i64 e, .slice EA En Ec] ∧ PathIs (okB ok0 prs w4.heap.size) w EA En Ec p
  le : w4.heap.size ≤ T
section
variable {ok0 : Nat → Prop} {prs : List PRec} {w4 w w' : World} {T : Nat} {cur : List Ch} {P P' : Option Addr} {k q q' : Nat} {l : List Ent} {e : Int} {p : List Int} {n4 : Nat}
theorem okB_keeps (h : Keeps (okK prs) w w') : Keeps (okB ok0 prs n4) w w' := h.mono fun x hx => hx.2.1
theorem ChF.keepAll {ok : Nat → Prop} (h : ChF ok w prs cur) (hb : Below w.heap.size w w') : ChF ok w' prs cur := fun i p c h1 h2 => (h i p c h1 h2).grow hb
theorem SL.own (h : SL (okB ok0 prs n4) T w P k q l) {g : Nat} (hg : (Value.slice P k q).ownBlock = some g) : T ≤ g ∧ g < w.heap.size := h.lt hg
theorem Mg.lt (h : Mg ok0 prs w4 T w cur P k q l e p) : T < w.heap.size := by
  obtain ⟨EA, En, Ec, hb, _⟩ := h.box
  exact hb.lt
theorem Mg.grow (h : Mg ok0 prs w4 T w cur P k q l e p) (hb : Below w.heap.size w w') : Mg ok0 prs w4 T w' cur P k q l e p := by
  obtain ⟨h1, h2, h3, ⟨EA, En, Ec, h4, h5⟩, h6⟩ := h
  exact ⟨h1.trans (Keeps.of_below hb), h2.keepAll hb, h3.keep (Keeps.of_below hb) fun g hg => hb.block g (h3.lt hg).2, ⟨EA, En, Ec, h4.grow hb, h5.grow hb⟩, h6⟩
/-- One stamp more. -/
theorem Mg.app (S : SepC ok0 prs w4.heap.size) (h : Mg ok0 prs w4 T w cur P k q l e p) {zs : List Value} {f : Int} {A : Option Addr} {n c : Nat} {m : List Int} (hg : w.grownBy w' (Value.slice P k q).ownBlock)
    (hob : (Value.slice P' (k + 1) q').ownBlock = (Value.slice P k q).ownBlock ∨ (Value.slice P' (k + 1) q').ownBlock = some w.heap.size)
    (hz : zs.length = k * 2) (hl : l.length = k) (hd : ∀ j f m, l[j]? = some (f, m) → ∃ A' n' c', (zs.drop (j * 2)).take 2 = [.int .i64 f, .slice A' n' c'] ∧ PathIs (okB ok0 prs w4.heap.size) w A' n' c' m)
    (hown : w'.ownsRow (T + 1) 24 2 (.slice P' (k + 1) q') (k + 1) (zs ++ [.int .i64 f, .slice A n c])) (hp : PathIs (okB ok0 prs w4.heap.size) w A n c m) :
    Mg ok0 prs w4 T w' cur P' (k + 1) q' (l ++ [(f, m)]) e p := by
  have hT := h.lt
  obtain ⟨h1, h2, h3, ⟨EA, En, Ec, h4, h5⟩, h6⟩ := h
  have hob1 : ∀ g, (Value.slice P k q).ownBlock = some g → T + 1 ≤ g ∧ g < w.heap.size := fun g hg => h3.lt hg
  have hs := hg.size
  have hKB : Keeps (okB ok0 prs w4.heap.size) w w' := (Keeps.refl _ _).grown hg fun g hg' => .inr fun hh => by
    have := (hob1 g hg').1
    have := hh.1
    omega
  have hw4 := h1.1
  refine ⟨h1.grown hg fun g hg' => .inl (by have := (hob1 g hg').1; omega), fun i p c hp' hc' => ?_, ⟨_, hown, by simp [hl], fun j f' m' hj => ?_⟩, ⟨EA, En, Ec, h4.block hg.size (hg.block _ hT fun ee => by have := (hob1 T ee.symm).1; omega), h5.keep hKB⟩, h6⟩
  · have hn := S.no p (List.mem_of_getElem? hp')
    have hlt := S.lt p (List.mem_of_getElem? hp')
    have hup : ∀ x, x < w.heap.size → okC ok0 T (.slice P k q) x → okC ok0 T (.slice P k q) x ∧ okC ok0 T (.slice P' (k + 1) q') x := fun x hx ho => ⟨ho, ho.1, ho.2.1, fun ee => by
      rcases hob with hh | hh
      · rw [hh] at ee; exact ho.2.2 ee
      · rw [hh] at ee; cases ee; omega⟩
    have hk : Keeps (fun x => okC ok0 T (.slice P k q) x ∧ okC ok0 T (.slice P' (k + 1) q') x) w w' := (Keeps.refl _ _).grown hg fun g hg' => .inr fun hh => hh.1.2.2 hg'
    refine (((h2 i p c hp' hc').mono hup (fun hh => hn.1 hh.1.1) (fun hh => hn.2 hh.1.1)).keep hk fun x hx => hg.block x ?_ fun ee => ?_).mono (fun x _ hh => hh.2) (fun hh => hn.1 hh.1) (fun hh => hn.2 hh.1)
    · rcases hx with rfl | rfl <;> omega
    · have := (hob1 x ee.symm).1
      rcases hx with rfl | rfl <;> omega
  · rcases Nat.lt_or_ge j k with hjk | hjk
    · rw [chunk_old hz hjk]
      obtain ⟨A6, n6, c6, g1, g2⟩ := hd j f' m' (by rwa [List.getElem?_append_left (by omega)] at hj)
      exact ⟨A6, n6, c6, g1, g2.keep hKB⟩
    · have hjl := (List.getElem?_eq_some_iff.1 hj).1
      simp at hjl
      obtain rfl : j = k := by omega
      rw [List.getElem?_append_right (by omega), hl, Nat.sub_self] at hj
      cases hj
      rw [chunk_new hz rfl]
      exact ⟨A, n, c, rfl, hp.keep hKB⟩
/-- One channel's operation. -/
theorem Mg.chan (S : SepC ok0 prs w4.heap.size) (h : Mg ok0 prs w4 T w cur P k q l e p) {i : Nat} {r : PRec} {c : Ch} (hr : prs[i]? = some r) (hc : Chg r.b r.r w w') (hC : ChanAt (okC ok0 T (.slice P k q)) w' r.b r.r c) :
    Mg ok0 prs w4 T w' (cur.set i c) P k q l e p := by
  have hT := h.lt
  obtain ⟨h1, h2, h3, ⟨EA, En, Ec, h4, h5⟩, h6⟩ := h
  have hrm := List.mem_of_getElem? hr
  have hlt := S.lt r hrm
  have hn := S.no r hrm
  have hkk : Keeps (okK prs) w w' := hc.keepK hrm
  refine ⟨h1.trans hkk, fun j p' c' hp' hc' => ?_, h3.keep (hkk.mono fun x hx => hx.2.1) fun g hg => hc.2.2 g ?_ (h3.lt hg).2, ⟨EA, En, Ec, h4.keep hc.2 (by omega), h5.keep (hkk.mono fun x hx => hx.2.1)⟩, h6⟩
  · by_cases hji : j = i
    · subst hji
      rw [hr] at hp'
      cases hp'
      rw [List.getElem?_set_self (by have := (List.getElem?_eq_some_iff.1 hc').1; rw [List.length_set] at this; exact this)] at hc'
      cases hc'
      exact hC
    · rw [List.getElem?_set_ne (fun e => hji e.symm)] at hc'
      have hap := S.apart j i p' r hp' hr hji
      exact (h2 j p' c' hp' hc').other hc (fun hh => hn.1 hh.1) (fun hh => hn.2 hh.1) hap.1 hap.2
  · have := (h3.lt hg).1
    omega
/-- The end is a channel's mark. -/
theorem Mg.setEnd (S : SepC ok0 prs w4.heap.size) (h : Mg ok0 prs w4 T w cur P k q l e p) {e' : Int} {A : Option Addr} {n c : Nat} {p' : List Int} (hp : PathIs (okB ok0 prs w4.heap.size) w A n c p') :
    Mg ok0 prs w4 T ((w.setCell ⟨T, 0, none⟩ (.int .i64 e')).setCell ⟨T, 1, none⟩ (.slice A n c)) cur P k q l e' p' := by
  have hT := h.lt
  obtain ⟨h1, h2, h3, ⟨EA, En, Ec, h4, h5⟩, h6⟩ := h
  have hk : ∀ ok : Nat → Prop, ¬ ok T → Keeps ok w ((w.setCell ⟨T, 0, none⟩ (.int .i64 e')).setCell ⟨T, 1, none⟩ (.slice A n c)) := fun ok ho => ((Keeps.refl _ _).setCell ho _).setCell ho _
  have hB : ∀ g, g ≠ T → ((w.setCell ⟨T, 0, none⟩ (.int .i64 e')).setCell ⟨T, 1, none⟩ (.slice A n c)).heap[g]? = w.heap[g]? := fun g hg => (Below.heap_setCell _ _ _ g hg).trans (Below.heap_setCell _ _ _ g hg)
  have hk4 : Keeps (fun x => x ≠ T) w ((w.setCell ⟨T, 0, none⟩ (.int .i64 e')).setCell ⟨T, 1, none⟩ (.slice A n c)) := hk _ (fun h => h rfl)
  refine ⟨⟨Nat.le_trans h1.1 hk4.1, fun x hx hl => (hk4.2 x (by omega) (by have := h1.1; omega)).trans (h1.2 x hx hl)⟩, fun j r c' hr hc' => ?_, h3.keep (hk _ fun hh => by have := hh.1; omega) fun g hg => hB g (by have := (h3.lt hg).1; omega), ⟨A, n, c, Bx.put (Bx.put h4 rfl) rfl, hp.keep (hk _ fun hh => by have := hh.1; omega)⟩, h6⟩
  have hlt := S.lt r (List.mem_of_getElem? hr)
  exact (h2 j r c' hr hc').keep (hk _ fun hh => hh.2.1 rfl) fun x hx => hB x (by rcases hx with rfl | rfl <;> omega)
theorem Mg.toC (h : Mg ok0 prs w4 T w cur P k q l e p) {x : Nat} (hx : okB ok0 prs w4.heap.size x) : okC ok0 T (.slice P k q) x :=
  ⟨hx.2.2, by have := hx.1; have := h.le; omega, fun ee => by have := (h.all.lt ee).1; have := hx.1; have := h.le; omega⟩
theorem Mg.freshC (S : SepC ok0 prs w4.heap.size) (h : Mg ok0 prs w4 T w cur P k q l e p) : ∀ x, w.heap.size ≤ x → okC ok0 T (.slice P k q) x := fun x hx =>
  ⟨S.fresh x (by have := h.kept.1; omega), by have := h.lt; omega, fun ee => by have := (h.all.lt ee).2; omega⟩
theorem ChF.step {ok : Nat → Prop} (S : SepC ok0 prs n4) (hok : ∀ x, ok x → ok0 x) (h : ChF ok w prs cur) {i : Nat} {r : PRec} {c : Ch} (hr : prs[i]? = some r) (hc : Chg r.b r.r w w') (hC : ChanAt ok w' r.b r.r c) : ChF ok w' prs (cur.set i c) := by
  intro j p' c' hp' hc'
  have hn := S.no r (List.mem_of_getElem? hr)
  by_cases hji : j = i
  · subst hji
    rw [hr] at hp'
    cases hp'
    rw [List.getElem?_set_self (by have := (List.getElem?_eq_some_iff.1 hc').1; rw [List.length_set] at this; exact this)] at hc'
    cases hc'
    exact hC
  · rw [List.getElem?_set_ne (fun e => hji e.symm)] at hc'
    have hap := S.apart j i p' r hp' hr hji
    exact (h j p' c' hp' hc').other hc (fun hh => hn.1 (hok _ hh)) (fun hh => hn.2 (hok _ hh)) hap.1 hap.2
theorem ChF.at_ {ok : Nat → Prop} (h : ChF ok w prs cur) : ChansAt ok w (cpz prs cur) := fun b r c hm => by
  obtain ⟨i, hi⟩ := List.getElem?_of_mem hm
  unfold cpz at hi
  rw [List.getElem?_zipWith] at hi
  rcases hp : prs[i]? with _ | p
  · rw [hp] at hi; cases hi
  · rcases hc : cur[i]? with _ | c'
    · rw [hp, hc] at hi; cases hi
    · rw [hp, hc] at hi
      cases hi
      exact h i p _ hp hc
/-- The list as what Sort takes. -/
theorem Mg.list (h : Mg ok0 prs w4 T w cur P k q l e p) : StL (fun _ => True) w P k q l := by
  obtain ⟨zs, h1, h2, h3⟩ := h.all
  exact ⟨zs, (Rw.of_own h1).mono (by decide) (fun _ _ _ => trivial), h2, fun j e p hj => let ⟨A', n', c', h4, h5⟩ := h3 j e p hj; ⟨A', n', c', h4, h5.mono fun _ _ _ => trivial⟩⟩
end
/-- A sorted row stays while older blocks are written. -/
theorem RowS.keepF {w w' : World} {P : Option Addr} {B n S : Nat} {f : Sq} (h : RowS w P B n f) (hB : S ≤ B) (hloc : ∀ i, i < n → 0 < (f i).m → ∀ ad, (f i).A = some ad → S ≤ ad.block) (hk : Keeps (From S) w w') : RowS w' P B n f := by
  refine ⟨h.at_, fun hn => Nat.lt_of_lt_of_le (h.lt hn) hk.1, fun i hi => hk.cell (h.c0 i hi) hB, fun i hi => hk.cell (h.c1 i hi) hB, fun i hi => ?_, fun i hi => ?_⟩
  · have := hk.2 B hB (h.lt (by omega))
    have h5 := h.fr i hi
    unfold World.frozen? at h5 ⊢
    rw [show w'.heap[(⟨B, i, none⟩ : Addr).block]? = w.heap[(⟨B, i, none⟩ : Addr).block]? from this]
    exact h5
  · have h6 := h.el i hi
    exact ⟨⟨h6.1.1, fun hn => let ⟨b, off, e, hl, hc⟩ := h6.1.2 hn; ⟨b, off, e, Nat.lt_of_lt_of_le hl hk.1, fun j u hu => hk.cell (hc j u hu) (show S ≤ b from hloc i hi hn _ e)⟩⟩, h6.2⟩
section
variable {ok : Nat → Prop} {L : Nat} {w w' : World} {prs l1 l2 : List PRec} {A1 A2 : Option Addr} {n1 n2 q1 q2 : Nat}
theorem ChW.rowK2 (h : ChW ok L w prs l1 l2 A1 n1 q1 A2 n2 q2) : OkA (okK prs) A2 := fun ad e p hp => by
  subst e
  have h1 := h.2.2.1 p hp _ (.inl rfl)
  have h2 := h.2.2.1 p hp _ (.inr (.inl rfl))
  exact ⟨fun e => h1.2 (by rw [← e]; rfl), fun e => h2.2 (by rw [← e]; rfl)⟩
theorem ChW.modK (h : ChW ok L w prs l1 l2 A1 n1 q1 A2 n2 q2) {p : PRec} (hp : p ∈ prs) {x : Nat} (hx : x = p.mb ∨ ∃ ad, p.A = some ad ∧ ad.block = x) : okK prs x := by
  obtain ⟨i, hi⟩ := List.getElem?_of_mem hp
  have hxp : p.has x := by rcases hx with h | h; exact .inr (.inr (.inl h)); exact .inr (.inr (.inr h))
  have hself : x ≠ p.b ∧ x ≠ p.r := by
    obtain ⟨_, _, _, h4, h5, h6⟩ := h.rec hp
    rcases hx with rfl | ⟨ad, e, rfl⟩
    · exact ⟨h4, h5⟩
    · exact h6 ad e
  intro q hq
  obtain ⟨j, hj⟩ := List.getElem?_of_mem hq
  have hil := (List.getElem?_eq_some_iff.1 hi).1
  have hjl := (List.getElem?_eq_some_iff.1 hj).1
  have e1 := (List.getElem?_eq_some_iff.1 hi).2
  have e2 := (List.getElem?_eq_some_iff.1 hj).2
  rcases Nat.lt_trichotomy i j with hlt | rfl | hlt
  · have hd := List.pairwise_iff_getElem.1 h.1.2 i j hil hjl hlt
    rw [e1, e2] at hd
    exact ⟨fun e => hd x hxp (.inl e), fun e => hd x hxp (.inr (.inl e))⟩
  · rw [hi] at hj; cases hj; exact hself
  · have hd := List.pairwise_iff_getElem.1 h.1.2 j i hjl hil hlt
    rw [e1, e2] at hd
    exact ⟨fun e => hd x (.inl e) hxp, fun e => hd x (.inr (.inl e)) hxp⟩
theorem ChW.okB_of (h : ChW ok L w prs l1 l2 A1 n1 q1 A2 n2 q2) {x : Nat} (hx : x < w.heap.size) (ho : okS (ok2 ok (.slice A1 n1 q1) (.slice A2 n2 q2)) prs x) : okB (okS (ok2 ok (.slice A1 n1 q1) (.slice A2 n2 q2)) prs) prs w.heap.size x :=
  ⟨hx, fun p hp => ⟨fun e => ho.2 p hp (.inl e), fun e => ho.2 p hp (.inr (.inl e))⟩, ho⟩
theorem ChW.sepC (h : ChW ok L w prs l1 l2 A1 n1 q1 A2 n2 q2) (hf : ∀ x, L ≤ x → ok x) : SepC (okS (ok2 ok (.slice A1 n1 q1) (.slice A2 n2 q2)) prs) prs w.heap.size := by
  refine ⟨fun p hp => ⟨fun ho => ho.2 p hp (.inl rfl), fun ho => ho.2 p hp (.inr (.inl rfl))⟩, fun p hp => (h.rec hp).1.lt, fun i j p q hi hj hne => ?_, h.fresh hf⟩
  have hil := (List.getElem?_eq_some_iff.1 hi).1
  have hjl := (List.getElem?_eq_some_iff.1 hj).1
  have e1 := (List.getElem?_eq_some_iff.1 hi).2
  have e2 := (List.getElem?_eq_some_iff.1 hj).2
  rcases Nat.lt_or_gt_of_ne hne with hlt | hlt
  · have hd := List.pairwise_iff_getElem.1 h.1.2 i j hil hjl hlt
    rw [e1, e2] at hd
    exact ⟨⟨fun e => hd p.b (.inl rfl) (.inl e), fun e => hd p.b (.inl rfl) (.inr (.inl e))⟩, fun e => hd p.r (.inr (.inl rfl)) (.inl e), fun e => hd p.r (.inr (.inl rfl)) (.inr (.inl e))⟩
  · have hd := List.pairwise_iff_getElem.1 h.1.2 j i hjl hil hlt
    rw [e1, e2] at hd
    exact ⟨⟨fun e => hd q.b (.inl rfl) (.inl e.symm), fun e => hd q.r (.inr (.inl rfl)) (.inl e.symm)⟩, fun e => hd q.b (.inl rfl) (.inr (.inl e.symm)), fun e => hd q.r (.inr (.inl rfl)) (.inr (.inl e.symm))⟩
/-- A model's item, later. -/
theorem ChW.itemAt (h : ChW ok L w prs l1 l2 A1 n1 q1 A2 n2 q2) (hk : Keeps (okK prs) w w') {p : PRec} (hp : p ∈ prs) {j : Nat} {it : It} (hj : p.c.items[j]? = some it) :
    ∃ g off z0 A5 n5 c5' z1 A6 n6 c6' z2 z3 z4 z5 A7 n7 c7' A8 n8 c8' A9 n9 c9', p.A = some ⟨g, off, none⟩ ∧ g < w'.heap.size ∧
      ItemV (okB (okS (ok2 ok (.slice A1 n1 q1) (.slice A2 n2 q2)) prs) prs w.heap.size) w' [.int .i64 z0, .slice A5 n5 c5', .int .i64 z1, .slice A6 n6 c6', .int .i64 z2, .int .i64 z3, .int .i64 z4, .string z5, .slice A7 n7 c7', .slice A8 n8 c8', .slice A9 n9 c9'] it ∧
      ∀ i u, [Value.int .i64 z0, .slice A5 n5 c5', .int .i64 z1, .slice A6 n6 c6', .int .i64 z2, .int .i64 z3, .int .i64 z4, .string z5, .slice A7 n7 c7', .slice A8 n8 c8', .slice A9 n9 c9'][i]? = some u → w'.cell? ⟨g, off + j * 11 + i, none⟩ = some u := by
  obtain ⟨g, off, z0, A5, n5, c5', z1, A6, n6, c6', z2, z3, z4, z5, A7, n7, c7', A8, n8, c8', A9, n9, c9', hA, hgl, hiv, hch⟩ := (h.rec hp).2.1.item hj
  exact ⟨g, off, z0, A5, n5, c5', z1, A6, n6, c6', z2, z3, z4, z5, A7, n7, c7', A8, n8, c8', A9, n9, c9', hA, Nat.lt_of_lt_of_le hgl hk.1, (hiv.mono fun x hx ho => h.okB_of hx ho.1).keep (okB_keeps hk), fun i u hu => hk.cell (hch i u hu) (h.modK hp (.inr ⟨_, hA, rfl⟩))⟩
/-- A model's struct, later. -/
theorem ChW.boxAt (h : ChW ok L w prs l1 l2 A1 n1 q1 A2 n2 q2) (hk : Keeps (okK prs) w w') {p : PRec} (hp : p ∈ prs) :
    ∃ q P1 P2 m1 c1 m2 c2, Bx w' p.mb [.int .i64 p.c.cap, .slice p.A p.c.items.length q, .int .i64 p.c.me, .slice P1 m1 c1, .int .i64 p.c.le, .slice P2 m2 c2] ∧ PathIs (okB (okS (ok2 ok (.slice A1 n1 q1) (.slice A2 n2 q2)) prs) prs w.heap.size) w' P1 m1 c1 p.c.mp ∧ p.c.items.length ≤ q := by
  obtain ⟨q, P1, P2, m1, c1, m2, c2, hb, h1, h2, h3⟩ := (h.rec hp).2.1.box
  exact ⟨q, P1, P2, m1, c1, m2, c2, hb.keep hk (h.modK hp (.inl rfl)), (h1.mono fun x hx ho => h.okB_of hx ho.1).keep (okB_keeps hk), h3⟩
theorem Mg.start {T : Nat} (h : ChW ok L w prs l1 l2 A1 n1 q1 A2 n2 q2) (hf : ∀ x, L ≤ x → ok x) (hT : T = w.heap.size) (hb : Below w.heap.size w w') {e : Int} (hx : Bx w' T [.int .i64 e, .slice none 0 0]) :
    Mg (okS (ok2 ok (.slice A1 n1 q1) (.slice A2 n2 q2)) prs) prs w T w' (prs.map (·.c)) none 0 0 [] e [] := by
  subst hT
  refine ⟨Keeps.of_below hb, fun i p c hp hc => ?_, SL.nil _ _ _, ⟨none, 0, 0, hx, PathIs.nil _ _⟩, Nat.le_refl _⟩
  rw [List.getElem?_map, hp] at hc
  cases hc
  have hpm := List.mem_of_getElem? hp
  exact ((h.rec hpm).1.mono (fun x hx ho => ⟨ho, by omega, by simp [Value.ownBlock]⟩) (fun hh => hh.1.2 p hpm (.inl rfl)) (fun hh => hh.1.2 p hpm (.inr (.inl rfl)))).grow hb
end
theorem cmpS_ge {e f : Int} {xs ys : List Int} (h : 0 ≤ cmpS e xs f ys) : f ≤ e := by
  by_cases he : e = f
  · omega
  · rw [cmpS_ne he] at h
    unfold cmpI at h
    split at h
    · omega
    · split at h <;> omega
/-- The stamps of a row as a list. -/
def entX (x : El) : Ent := (x.e, x.p)
def seqL (n : Nat) (g : Sq) : List Ent := (List.range n).map fun i => entX (g i)
theorem seqL_len (n : Nat) (g : Sq) : (seqL n g).length = n := by simp [seqL]
theorem seqL_get {n i : Nat} (g : Sq) (h : i < n) : (seqL n g)[i]? = some (entX (g i)) := by simp [seqL, h]
theorem seqL_drop {n i : Nat} (g : Sq) (h : i < n) : (seqL n g).drop i = entX (g i) :: (seqL n g).drop (i + 1) := by
  have hl : i < (seqL n g).length := by rw [seqL_len]; exact h
  rw [List.drop_eq_getElem_cons hl]
  congr 1
  have := seqL_get g h
  rw [List.getElem?_eq_getElem hl] at this
  exact Option.some.inj this
theorem seqL_of {f : Sq} {l : List Ent} (h : ∀ (i : Nat) (e : Int) (p : List Int), l[i]? = some (e, p) → (f i).e = e ∧ (f i).p = p) : seqL l.length f = l := by
  apply List.ext_getElem?
  intro i
  rcases Nat.lt_or_ge i l.length with hi | hi
  · rw [seqL_get f hi, List.getElem?_eq_getElem hi]
    have := h i l[i].1 l[i].2 (List.getElem?_eq_getElem hi)
    unfold entX
    rw [this.1, this.2]
  · rw [List.getElem?_eq_none (by rw [seqL_len]; exact hi), List.getElem?_eq_none hi]
theorem Re.perm {n : Nat} {f g : Sq} (r : Re 0 n f g) : (seqL n g).Perm (seqL n f) := by
  obtain ⟨s, t, k1, k2, k3, k4⟩ := r
  have hp : ((List.range n).map s).Perm (List.range n) := by
    rw [List.perm_ext_iff_of_nodup]
    · intro a
      rw [List.mem_map, List.mem_range]
      constructor
      · rintro ⟨x, hx, rfl⟩
        rw [List.mem_range] at hx
        rcases Nat.lt_or_ge (s x) n with h | h
        · exact h
        · have h5 := k3 (s x) (.inr h)
          have h6 := k2 (s x)
          rw [h5, k2 x] at h6
          omega
      · intro ha
        refine ⟨t a, ?_, k1 a⟩
        rw [List.mem_range]
        rcases Nat.lt_or_ge (t a) n with h | h
        · exact h
        · have h5 := k3 (t a) (.inr h)
          rw [k1 a] at h5
          omega
    · have hnd : (List.range n).Nodup := List.nodup_range
      rw [List.Nodup, List.pairwise_map]
      exact hnd.imp fun {a b} hne hh => hne (by rw [← k2 a, ← k2 b, hh])
    · exact List.nodup_range
  have h1 := hp.map fun i => entX (f i)
  unfold seqL
  rw [List.map_map] at h1
  have e : (List.range n).map (fun i => entX (g i)) = (List.range n).map ((fun i => entX (f i)) ∘ s) := by
    apply List.map_congr_left
    intro i _
    rw [k4 i]
    rfl
  rw [e]
  exact h1
theorem seqL_up {n : Nat} {g : Sq} (h : Srt g 0 n) (hne : ∀ x, x + 1 < n → cmpX (g x) (g (x + 1)) ≠ 0) : (seqL n g).Pairwise fun a b => cmpE a b < 0 := by
  rw [List.pairwise_iff_getElem]
  intro i j hi hj hij
  rw [seqL_len] at hi hj
  have e1 : (seqL n g)[i]'(by rw [seqL_len]; exact hi) = entX (g i) := by have := seqL_get g hi; rw [List.getElem?_eq_getElem (by rw [seqL_len]; exact hi)] at this; exact Option.some.inj this
  have e2 : (seqL n g)[j]'(by rw [seqL_len]; exact hj) = entX (g j) := by have := seqL_get g hj; rw [List.getElem?_eq_getElem (by rw [seqL_len]; exact hj)] at this; exact Option.some.inj this
  rw [e1, e2]
  have h1 := h i (i + 1) (Nat.zero_le _) (by omega) (by omega)
  have h2 := hne i (by omega)
  have h3 := h (i + 1) j (Nat.zero_le _) (by omega) hj
  have h4 : cmpS (g i).e (g i).p (g (i + 1)).e (g (i + 1)).p ≤ 0 := h1
  have h5 : cmpS (g (i + 1)).e (g (i + 1)).p (g j).e (g j).p ≤ 0 := h3
  have h6 : cmpS (g i).e (g i).p (g (i + 1)).e (g (i + 1)).p ≠ 0 := h2
  have := (cmpS_tri (g i).e (g (i + 1)).e (g j).e (g i).p (g (i + 1)).p (g j).p).1 h4 h5
  show cmpS (g i).e (g i).p (g j).e (g j).p < 0
  omega
/-- What is told of the states while the marks are set. -/
structure MgP (prs : List PRec) (cur : List Ch) (l : List Ent) (i : Nat) (e : Int) : Prop where
  len : cur.length = prs.length
  list : l = allL ((prs.take i).map (·.c))
  big : 1099511627776 ≤ e
  st : ∀ (j : Nat) (p : PRec) (c : Ch), prs[j]? = some p → cur[j]? = some c → c.items = p.c.items ∧ (j < i → 1099511627776 ≤ c.me) ∧ (i ≤ j → c = p.c)
theorem MgP.start (prs : List PRec) : MgP prs (prs.map (·.c)) [] 0 1099511627776 :=
  ⟨by simp, rfl, Int.le_refl _, fun j p c hp hc => by rw [List.getElem?_map, hp] at hc; cases hc; exact ⟨rfl, fun h => absurd h (Nat.not_lt_zero _), fun _ => rfl⟩⟩
theorem MgP.next {prs : List PRec} {cur : List Ch} {l : List Ent} {i : Nat} {e e' : Int} {p : PRec} {c : Ch} (h : MgP prs cur l i e) (hp : prs[i]? = some p) (hc : c.items = p.c.items) (hm : 1099511627776 ≤ c.me) (he : 1099511627776 ≤ e') :
    MgP prs (cur.set i c) (l ++ p.c.items.map stI) (i + 1) e' := by
  obtain ⟨h1, h2, h3, h4⟩ := h
  refine ⟨by rw [List.length_set]; exact h1, ?_, he, fun j q d hq hd => ?_⟩
  · rw [List.take_add_one, hp, h2]
    simp [allL]
  · by_cases hji : j = i
    · subst hji
      rw [hp] at hq
      cases hq
      rw [List.getElem?_set_self (by have := (List.getElem?_eq_some_iff.1 hd).1; rw [List.length_set] at this; exact this)] at hd
      cases hd
      exact ⟨hc, fun _ => hm, fun hh => absurd hh (by omega)⟩
    · rw [List.getElem?_set_ne (fun e => hji e.symm)] at hd
      obtain ⟨g1, g2, g3⟩ := h4 j q d hq hd
      exact ⟨g1, fun hh => g2 (by omega), fun hh => g3 (by omega)⟩
theorem MgP.same {prs : List PRec} {cur : List Ch} {l : List Ent} {i : Nat} {e e' : Int} {p : PRec} (h : MgP prs cur l i e) (hp : prs[i]? = some p) (hm : 1099511627776 ≤ p.c.me) (he : 1099511627776 ≤ e') :
    MgP prs cur (l ++ p.c.items.map stI) (i + 1) e' := by
  obtain ⟨c, hc⟩ : ∃ c, cur[i]? = some c := ⟨_, List.getElem?_eq_getElem (by rw [h.len]; exact (List.getElem?_eq_some_iff.1 hp).1)⟩
  have h5 := (h.st i p c hp hc).2.2 (Nat.le_refl _)
  have := h.next hp (c := c) (by rw [h5]) (by rw [h5]; exact hm) he
  have e1 : cur.set i c = cur := by
    apply List.ext_getElem?
    intro j
    by_cases hji : j = i
    · subst hji
      rw [List.getElem?_set_self (List.getElem?_eq_some_iff.1 hc).1, hc]
    · rw [List.getElem?_set_ne (fun e => hji e.symm)]
  rwa [e1] at this
theorem allL_items : ∀ {a b : List Ch}, a.length = b.length → (∀ (j : Nat) (c d : Ch), a[j]? = some c → b[j]? = some d → c.items = d.items) → allL a = allL b
  | [], [], _, _ => rfl
  | x :: a, y :: b, hl, h => by
    have h1 := h 0 x y rfl rfl
    have h2 := allL_items (a := a) (b := b) (by simpa using hl) fun j c d hc hd => h (j + 1) c d (by simpa using hc) (by simpa using hd)
    unfold allL at h2 ⊢
    rw [List.flatMap_cons, List.flatMap_cons, h1, h2]
  | [], _ :: _, hl, _ => by simp at hl
  | _ :: _, [], hl, _ => by simp at hl
theorem MgP.ms {prs : List PRec} {cur : List Ch} {l S : List Ent} {e : Int} (h : MgP prs cur l prs.length e) (hM : ∀ p ∈ prs, ∃ K, Made K p.c) (hp : S.Perm l) (hu : S.Pairwise fun a b => cmpE a b < 0) : MS cur S := by
  obtain ⟨h1, h2, h3, h4⟩ := h
  refine ⟨?_, hu, fun c hc => ?_⟩
  · rw [List.take_length] at h2
    have : allL cur = l := by
      rw [h2]
      refine allL_items (by rw [List.length_map]; exact h1) fun j c d hc hd => ?_
      rw [List.getElem?_map] at hd
      rcases hq : prs[j]? with _ | p
      · rw [hq] at hd; cases hd
      · rw [hq] at hd
        cases hd
        exact (h4 j p c hq hc).1
    rw [this]
    exact hp
  · obtain ⟨j, hj⟩ := List.getElem?_of_mem hc
    have hjl := (List.getElem?_eq_some_iff.1 hj).1
    have hq : prs[j]? = some prs[j] := List.getElem?_eq_getElem (by omega)
    obtain ⟨g1, g2, g3⟩ := h4 j _ c hq hj
    obtain ⟨K, hK⟩ := hM _ (List.mem_of_getElem? hq)
    have hi := hK.minv
    exact ⟨by rw [g1]; exact hi.up, by rw [g1]; exact hi.small, g2 (by omega)⟩
end Go.Proofs.Ytjldpodehffbnaa
