/- ChannelClones returns true. -/
import Derived.Test.YtjldpodehffbnaaNil1
import Derived.Test.YtjldpodehffbnaaCLaw5
import Derived.Test.YtjldpodehffbnaaPlay3
import Derived.Test.YtjldpodehffbnaaCFrame4
import Derived.Test.YtjldpodehffbnaaCKnown
import Derived.Test.YtjldpodehffbnaaTree
import Derived.Deep.DeepCutAuto
import Derived.Deep.CutBlock
namespace Go.Proofs.Ytjldpodehffbnaa
set_option linter.unusedVariables false
set_option linter.unnecessarySimpa false
set_option linter.unusedSimpArgs false
open Go.RowKit

/-- Two plays, in a list that the law makes. -/
theorem plays_two {w : World} {B k1 k2 m1 c1 m2 c2 : Nat} {P1 P2 : Option Addr} {ys1 ys2 : List Value} {o1 o2 : List (Int × It)} {t : TypeId} (hB : B = w.heap.size) (hk1 : k1 ≤ 255) (hd1 : ∀ o ∈ o1, 0 ≤ o.1 ∧ o.1 ≤ 255) (h1 : OpsV Any' w P1 m1 c1 ys1 o1)
    (hk2 : k2 ≤ 255) (hd2 : ∀ o ∈ o2, 0 ≤ o.1 ∧ o.1 ≤ 255) (h2 : OpsV Any' w P2 m2 c2 ys2 o2) :
    PlaysV Any' (w.alloc (.cells #[.int .u8 k1, .slice P1 m1 c1, .int .u8 k2, .slice P2 m2 c2] t)) (some ⟨B, 0, none⟩) 2 2 [.int .u8 k1, .slice P1 m1 c1, .int .u8 k2, .slice P2 m2 c2] [(k1, o1), (k2, o2)] := by
  refine ⟨⟨Nat.le_refl _, by unfold maxLen; omega, Sl.new hB rfl, fun _ ad e => trivial⟩, rfl, fun j k ops hj => ?_⟩
  rcases j with _ | _ | j
  · cases hj
    exact ⟨hk1, hd1, P1, m1, c1, ys1, rfl, h1.grow (G.alloc (G.refl _) _)⟩
  · cases hj
    exact ⟨hk2, hd2, P2, m2, c2, ys2, rfl, h2.grow (G.alloc (G.refl _) _)⟩
  · simp at hj
/-- The law's equality of two models. -/
def eqM (c d : Ch) : Bool := decide (c.cap = d.cap) && ((cmpS c.me c.mp d.me d.mp == 0) && ((cmpS c.le c.lp d.le d.lp == 0) && decide (c.items.length = d.items.length)))
theorem Made.used {K : Nat} {c : Ch} (h : Made K c) : (c.used = false → c.le = 0) ∧ (c.used = true → 1 ≤ c.le) := by
  induction h with
  | new => exact ⟨fun _ => rfl, fun h => Bool.noConfusion h⟩
  | put z it h ih =>
    unfold putC
    split
    · exact ih
    · rename_i hk
      split
      · exact ih
      · split
        · exact ih
        · exact ⟨fun h => Bool.noConfusion h, fun _ => (chkI_entry (z := z) (it := it) (by omega)).1⟩
  | adv e p h ih =>
    unfold advC
    split
    · exact ih
    · exact ih
  | take h hl ih => exact ih
theorem eqC_eqM {K L : Nat} {c d : Ch} (hc : Made K c) (hd : Made L d) : eqC c d = (eqM c d && eqIs c.items d.items) := by
  obtain ⟨u1, u2⟩ := hc.used
  obtain ⟨v1, v2⟩ := hd.used
  unfold eqC eqM
  rw [Bool.eq_iff_iff]
  simp only [Bool.and_eq_true, beq_iff_eq, decide_eq_true_eq]
  constructor
  · rintro ⟨h1, h2, h3, h4, h5⟩
    exact ⟨⟨h1, h2, h4, eqIs_len h5⟩, h5⟩
  · rintro ⟨⟨h1, h2, h4, h6⟩, h5⟩
    refine ⟨h1, h2, ?_, h4, h5⟩
    have := (cmpS_zero.1 h4).1
    cases hcu : c.used <;> cases hdu : d.used
    · rfl
    · have := u1 hcu; have := v2 hdu; omega
    · have := u2 hcu; have := v1 hdu; omega
    · rfl
theorem eqIs_comm : ∀ l m : List It, eqIs l m = eqIs m l
  | [], [] => rfl
  | [], _ :: _ => rfl
  | _ :: _, [] => rfl
  | a :: l, b :: m => by simp only [eqIs]; rw [eqI_comm a b, eqIs_comm l m]
theorem eqC_comm (c d : Ch) : eqC c d = eqC d c := by
  unfold eqC
  have h1 := cmpS_neg c.me d.me c.mp d.mp
  have h2 := cmpS_neg c.le d.le c.lp d.lp
  rw [eqIs_comm c.items]
  rw [Bool.eq_iff_iff]
  simp only [Bool.and_eq_true, beq_iff_eq, decide_eq_true_eq]
  constructor
  · rintro ⟨h1, h2, h3, h4, h5⟩; exact ⟨h1.symm, by omega, h3.symm, by omega, h5⟩
  · rintro ⟨h1, h2, h3, h4, h5⟩; exact ⟨h1.symm, by omega, h3.symm, by omega, h5⟩
theorem eqIs_self : ∀ l : List It, eqIs l l = true
  | [] => rfl
  | a :: l => by simp only [eqIs, eqI_self, eqIs_self l, Bool.and_self]
theorem eqC_self (c : Ch) : eqC c c = true := by
  unfold eqC
  simp [cmpS_zero, eqIs_self]
theorem ItemV.r9 {ok : Nat → Prop} {w : World} {v0 v1 v2 v3 v4 v5 v6 v7 v8 v9 : Value} {A9 : Option Addr} {n9 c9 : Nat} {it : It} (h : ItemV ok w [v0, v1, v2, v3, v4, v5, v6, v7, v8, v9, .slice A9 n9 c9] it) : n9 = it.r := by
  obtain ⟨me, A, n, c, mp, O, l, lc, os, k, i, s, t, BA, bn, bc, BB, bm, bd, R, q, rs, d, he, _⟩ := h
  simp only [List.cons.injEq, Value.slice.injEq, and_true] at he
  exact he.2.2.2.2.2.2.2.2.2.2.2.1
theorem PRecW.chn {ok : Nat → Prop} {L : Nat} {w : World} {p : PRec} (h : PRecW ok L w p) : ChanAt ok w p.b p.r p.c := h.1
theorem PRecW.mdl {ok : Nat → Prop} {L : Nat} {w : World} {p : PRec} (h : PRecW ok L w p) : ModR ok L w p.mb p.c p.A := h.2.1
theorem take_or {ok : Nat → Prop} {w : World} {b r : Nat} {c : Ch} (h : ChanAt ok w b r c) :
    Calls Try.prog 24 #[.pointer (some ⟨b, 0, none⟩)] w fun e w' => ∃ v c', e = .returned v ∧ ChanAt ok w' b r c' ∧ Chg b r w w' := by
  rcases hc : c.items with _ | ⟨it, l⟩
  · refine (take0_any h hc).mono fun e w' hp => ?_
    obtain ⟨he, hb⟩ := hp
    exact ⟨_, c, he, h.grow hb, Chg.of_below hb⟩
  · refine (take1_any h hc).mono fun e w' hp => ?_
    obtain ⟨cs, he, _, hC, hch⟩ := hp
    exact ⟨_, _, he, hC, hch⟩
/-- How far the law's loop has come. -/
def EInv (c d : Ch) (eM : Bool) (i : Nat) (e : Bool) : Prop := (eM = false → e = false) ∧ (eM = true → (e = true ↔ ∀ (j : Nat) (a b : It), j < i → c.items[j]? = some a → d.items[j]? = some b → eqI a b = true))
theorem EInv.start (c d : Ch) (eM : Bool) : EInv c d eM 0 eM := ⟨fun h => h, fun h => ⟨fun _ j a b hj => absurd hj (Nat.not_lt_zero _), fun _ => h⟩⟩
theorem EInv.up {c d : Ch} {eM : Bool} {i : Nat} (h : EInv c d eM i true) (heM : eM = true) {a b : It} (ha : c.items[i]? = some a) (hb : d.items[i]? = some b) {u : Bool} (hu : eqI a b = u) : EInv c d eM (i + 1) u := by
  refine ⟨fun h => (by rw [heM] at h; cases h), fun _ => ⟨fun h1 j a' b' hj ha' hb' => ?_, fun h1 => ?_⟩⟩
  · rcases Nat.lt_or_ge j i with hji | hji
    · exact (h.2 heM).1 rfl j a' b' hji ha' hb'
    · obtain rfl : j = i := by omega
      rw [ha] at ha'
      rw [hb] at hb'
      cases ha'
      cases hb'
      rw [hu, h1]
  · rw [← hu]
    exact h1 i a b (by omega) ha hb
theorem EInv.stop {c d : Ch} {eM : Bool} {i : Nat} {e : Bool} (h : EInv c d eM i e) (hl : eM = true → c.items.length = d.items.length) (hx : e = false ∨ i = c.items.length) (hi : i ≤ c.items.length) : e = (eM && eqIs c.items d.items) := by
  rcases heM : eM with _ | _
  · rw [h.1 heM]; rfl
  · rw [Bool.true_and]
    have h2 := h.2 heM
    have h3 := eqIs_at (hl heM)
    rcases hx with hx | hx
    · rw [hx, eq_comm, Bool.eq_false_iff]
      intro hh
      rw [h3] at hh
      have := h2.2 fun j a b _ ha hb => hh j a b ha hb
      rw [hx] at this
      cases this
    · rw [Bool.eq_iff_iff, h2, h3]
      constructor
      · intro hh j a b ha hb
        exact hh j a b (by rw [hx]; exact (List.getElem?_eq_some_iff.1 ha).1) ha hb
      · intro hh j a b _ ha hb
        exact hh j a b ha hb
set_option maxRecDepth 20000 in set_option maxHeartbeats 8000000 in
theorem channelClones_any {w : World} {cs1 cs2 : List Value} {k1 k2 : Nat} {o1 o2 : List (Int × It)} (h1 : PlayV w cs1 k1 o1) (h2 : PlayV w cs2 k2 o2) :
    Calls Try.prog 9 #[.agg cs1.toArray, .agg cs2.toArray] w fun e w' => e = .returned (.bool true) ∧ Below w.heap.size w w' := by
  obtain ⟨hk1, hd1, P1, m1, c1, ys1, rfl, hO1⟩ := h1
  obtain ⟨hk2, hd2, P2, m2, c2, ys2, rfl, hO2⟩ := h2
  have HO1 := Lib.hid hO1
  have HO2 := Lib.hid hO2
  have hd1 := Lib.hid hd1
  have hd2 := Lib.hid hd2
  clear hO1 hO2
  go_enter Try.func9, Try.ntmps9
  go_wp2_with fail
  refine (known_any _).mono ?_
  rintro e1 w1 ⟨rfl, hb1⟩
  have x1 : Bx w1 w.heap.size [.int .u8 k1, .slice P1 m1 c1] := Bx.grow (by repeat (first | with_reducible assumption | (with_reducible exact Bx.new (by simp; done) (by rfl)) | (with_reducible refine Bx.alloc ?_ _) | (with_reducible refine Bx.drewN ?_ _) | ((with_reducible apply Bx.put); rotate_right; (first | rfl | skip)) | (with_reducible refine Bx.other ?_ (by first | (simp; done) | (simp; omega)) _))) hb1
  have x2 : Bx w1 (w.heap.size + 1) [.int .u8 k2, .slice P2 m2 c2] := Bx.grow (by repeat (first | with_reducible assumption | (with_reducible exact Bx.new (by simp; done) (by rfl)) | (with_reducible refine Bx.alloc ?_ _) | (with_reducible refine Bx.drewN ?_ _) | ((with_reducible apply Bx.put); rotate_right; (first | rfl | skip)) | (with_reducible refine Bx.other ?_ (by first | (simp; done) | (simp; omega)) _))) hb1
  have hbw1 : Below w.heap.size w w1 := G.trans (by repeat (first | with_reducible assumption | with_reducible exact G.refl _ | with_reducible refine G.drew ?_ | with_reducible refine G.drewN ?_ _ | with_reducible refine G.alloc ?_ _ | with_reducible refine Below.setCell ?_ (by first | (simp; done) | (simp; omega)) _ | with_reducible refine G.trans ?_ hb12 | with_reducible refine G.trans ?_ hb11 | with_reducible refine G.trans ?_ hb10 | with_reducible refine G.trans ?_ hb9 | with_reducible refine G.trans ?_ hb8 | with_reducible refine G.trans ?_ hb7 | with_reducible refine G.trans ?_ hb6 | with_reducible refine G.trans ?_ hb5 | with_reducible refine G.trans ?_ hb4 | with_reducible refine G.trans ?_ hb3 | with_reducible refine G.trans ?_ hb2 | with_reducible refine G.trans ?_ hb1 | with_reducible refine G.trans ?_ hb | assumption)) hb1
  have a0 := (x1.2 0 _ rfl).1
  have a1 := (x1.2 1 _ rfl).1
  have b0 := (x2.2 0 _ rfl).1
  have b1 := (x2.2 1 _ rfl).1
  have lt1 := x1.lt
  have lt2 := x2.lt
  go_wp2_with fail
  refine (fine_any (plays_two rfl hk1 hd1.out (HO1.out.grow hbw1) hk2 hd2.out (HO2.out.grow hbw1))).mono ?_
  rintro e2 w2 ⟨rfl, hb2⟩
  have hb12 : Below w1.heap.size w1 w2 := G.trans (by repeat (first | with_reducible assumption | with_reducible exact G.refl _ | with_reducible refine G.drew ?_ | with_reducible refine G.drewN ?_ _ | with_reducible refine G.alloc ?_ _ | with_reducible refine Below.setCell ?_ (by first | (simp; done) | (simp; omega)) _ | with_reducible refine G.trans ?_ hb12 | with_reducible refine G.trans ?_ hb11 | with_reducible refine G.trans ?_ hb10 | with_reducible refine G.trans ?_ hb9 | with_reducible refine G.trans ?_ hb8 | with_reducible refine G.trans ?_ hb7 | with_reducible refine G.trans ?_ hb6 | with_reducible refine G.trans ?_ hb5 | with_reducible refine G.trans ?_ hb4 | with_reducible refine G.trans ?_ hb3 | with_reducible refine G.trans ?_ hb2 | with_reducible refine G.trans ?_ hb1 | with_reducible refine G.trans ?_ hb | assumption)) hb2
  have hbw2 := G.trans hbw1 hb12
  replace a0 := G.cell a0 hb12
  replace a1 := G.cell a1 hb12
  replace b0 := G.cell b0 hb12
  replace b1 := G.cell b1 hb12
  have lt1 := cell_lt a0
  have lt2 := cell_lt b0
  dsimp only at lt1 lt2
  rcases hfi : fineL [(k1, o1), (k2, o2)] with _ | _
  · replace hfi := Lib.hid hfi
    go_wp2_with fail
    refine (known_any _).mono ?_
    rintro e3 w3 ⟨rfl, hb3⟩
    go_wp2_with fail
    go_ret
    exact ⟨rfl, G.trans hbw2 hb3⟩
  have hall : Hid (∀ p ∈ [(k1, o1), (k2, o2)], smallL p.2 = true) := fun p hp => by
    obtain ⟨k, hk⟩ := List.getElem?_of_mem hp
    exact fine_all hfi (j := k) (k := p.1) (ops := p.2) hk
  replace hfi := Lib.hid hfi
  clear hb2 hb12 hb1 x1 x2
  go_wp2_with fail
  refine (channels_any (plays_two rfl hk1 hd1.out (HO1.out.grow hbw2) hk2 hd2.out (HO2.out.grow hbw2)) hall.out (by decide) (fun _ _ => trivial)).mono ?_
  rintro e4 w4 ⟨A1, q1, A2, q2, prs, rfl, hC4, hpl, hM4, hb4⟩
  have hb24 : Below w2.heap.size w2 w4 := G.trans (by repeat (first | with_reducible assumption | with_reducible exact G.refl _ | with_reducible refine G.drew ?_ | with_reducible refine G.drewN ?_ _ | with_reducible refine G.alloc ?_ _ | with_reducible refine Below.setCell ?_ (by first | (simp; done) | (simp; omega)) _ | with_reducible refine G.trans ?_ hb12 | with_reducible refine G.trans ?_ hb11 | with_reducible refine G.trans ?_ hb10 | with_reducible refine G.trans ?_ hb9 | with_reducible refine G.trans ?_ hb8 | with_reducible refine G.trans ?_ hb7 | with_reducible refine G.trans ?_ hb6 | with_reducible refine G.trans ?_ hb5 | with_reducible refine G.trans ?_ hb4 | with_reducible refine G.trans ?_ hb3 | with_reducible refine G.trans ?_ hb2 | with_reducible refine G.trans ?_ hb1 | with_reducible refine G.trans ?_ hb | assumption)) hb4
  have hbw4 := G.trans hbw2 hb24
  obtain ⟨p, q, rfl⟩ := list_two hpl
  obtain ⟨K1, hK1, hK2, hMp⟩ := hM4 p (by simp)
  obtain ⟨K3, hK3, hK4, hMq⟩ := hM4 q (by simp)
  have hEQ := Lib.hid (eqC_eqM hMp hMq)
  have hr1 := hC4.row1
  have hr2 := hC4.row2
  obtain ⟨bx, ox, hA1, hbx, _⟩ := hr1.2 (by decide)
  obtain ⟨by_, oy, hA2, hby, _⟩ := hr2.2 (by decide)
  subst hA1 hA2
  have ca0 : w4.cell? ⟨bx, ox, none⟩ = some (.pointer (some ⟨p.b, 0, none⟩)) := hr1.getC (k := 0) (by decide) rfl
  have ca1 : w4.cell? ⟨bx, ox + 1, none⟩ = some (.pointer (some ⟨q.b, 0, none⟩)) := hr1.getC (k := 1) (by decide) rfl
  have cm0 : w4.cell? ⟨by_, oy, none⟩ = some (.pointer (some ⟨p.mb, 0, none⟩)) := hr2.getM2 (k := 0) (by decide) rfl
  have cm1 : w4.cell? ⟨by_, oy + 1, none⟩ = some (.pointer (some ⟨q.mb, 0, none⟩)) := hr2.getM2 (k := 1) (by decide) rfl
  have hP4 := Lib.hid (hC4.rec (show p ∈ [p, q] by simp))
  have hQ4 := Lib.hid (hC4.rec (show q ∈ [p, q] by simp))
  clear hM4 hMp hMq hC4 hr1 hr2 hb4 hb24 a0 a1 b0 b1 lt1 lt2
  obtain ⟨qp, PA1, PA2, pn1, pc1, pn2, pc2, hbp, hpp1, hpp2, hqp⟩ := hP4.out.2.1.box
  obtain ⟨qq, QA1, QA2, qn1, qc1, qn2, qc2, hbq, hqp1, hqp2, hqq⟩ := hQ4.out.2.1.box
  have p0 := (hbp.2 0 _ rfl).1
  have p1 := (hbp.2 1 _ rfl).1
  have p2 := (hbp.2 2 _ rfl).1
  have p3 := (hbp.2 3 _ rfl).1
  have p4 := (hbp.2 4 _ rfl).1
  have p5 := (hbp.2 5 _ rfl).1
  have r0 := (hbq.2 0 _ rfl).1
  have r1 := (hbq.2 1 _ rfl).1
  have r2 := (hbq.2 2 _ rfl).1
  have r3 := (hbq.2 3 _ rfl).1
  have r4 := (hbq.2 4 _ rfl).1
  have r5 := (hbq.2 5 _ rfl).1
  have ltp := hbp.lt
  have ltq := hbq.lt
  replace hpp1 := Lib.hid hpp1
  replace hpp2 := Lib.hid hpp2
  replace hqp1 := Lib.hid hqp1
  replace hqp2 := Lib.hid hqp2
  obtain ⟨cc, hcc⟩ : ∃ x, p.c.cap = x := ⟨_, rfl⟩
  obtain ⟨dc, hdc⟩ : ∃ x, q.c.cap = x := ⟨_, rfl⟩
  obtain ⟨v1, hv1⟩ : ∃ v, (cmpS p.c.me p.c.mp q.c.me q.c.mp == 0) = v := ⟨_, rfl⟩
  obtain ⟨v2, hv2⟩ : ∃ v, (cmpS p.c.le p.c.lp q.c.le q.c.lp == 0) = v := ⟨_, rfl⟩
  have hs : Hid (eqM p.c q.c = (decide (cc = dc) && (v1 && (v2 && decide (p.c.items.length = q.c.items.length))))) := by unfold Hid eqM; rw [hcc, hdc, hv1, hv2]
  rw [hcc] at p0
  rw [hdc] at r0
  replace hv1 := Lib.hid hv1
  replace hv2 := Lib.hid hv2
  have ltx := cell_lt cm0
  dsimp only at ltx
  replace hpl := Lib.hid hpl
  clear hcc hdc hbp hbq
  go_upto_region 6 with (fail)
  go_cut [8] (fun ev wx => ev = .bool (eqM p.c q.c) ∧ Below w4.heap.size w4 wx)
  case first => as_aux_lemma =>
    by_cases h1 : cc = dc
    · subst h1
      rcases v1 with _ | _
      · have hs' : Hid (eqM p.c q.c = false) := by unfold Hid; rw [hs.out]; simp [*]
        refine wp_region_ord [(0, 1), (1, 1), (2, 1), (3, 1), (4, 1), (5, 1), (6, 1), (7, 1), (8, 1), (9, 1), (10, 1), (11, 1), (12, 1), (13, 1), (14, 1), (15, 1), (16, 1), (17, 1), (18, 1), (19, 1), (20, 1), (21, 1), (22, 1), (23, 1), (24, 1), (25, 1), (26, 2), (27, 1), (28, 1), (29, 1), (30, 1), (31, 1), (32, 1), (33, 1), (34, 1), (35, 1), (36, 1), (37, 1), (38, 1), (39, 1), (40, 1), (41, 2), (42, 1), (43, 1), (44, 1), (45, 1), (46, 1), (47, 1), (48, 1), (49, 1), (50, 1), (51, 1), (52, 1), (53, 1), (54, 1), (55, 1), (56, 1), (57, 1), (58, 1), (59, 1), (60, 1)] [] 5 (by kernel_rfl) (by decide +kernel) ?_
        simp only [pickO, List.append_eq, List.cons_append, List.nil_append, List.getElem?_cons_succ, List.getElem?_cons_zero]
        intro w0 hG
        (repeat ((first | (with_reducible refine ord_q1 ?_) | (with_reducible refine ord_q0 ?_)); intro K hK; first | (refine Or.inr ⟨?_, ?_⟩; (focus (go_simp; first | done | (simp [undef]; done))); go_simp; (with_reducible refine hK _ ?_); clear hK K) | (refine Or.inl ⟨?_, ?_⟩; (focus (go_simp; done)); apply Exists.intro; refine And.intro ?_ ?_; (focus (first | (intro wq hq; obtain ⟨hcq, hfq⟩ := G.old hq; go_simp; (first | done | exact rfl); done) | (intro wq; go_simp; (first | done | exact rfl); done))); go_simp; (with_reducible refine hK _ ?_); clear hK K) | fail))
        (with_reducible refine ord_run ?_ hG)
        intro K hK
        go_simp
        go_at_call 15; (with_reducible refine (equal_any p.c.me q.c.me PA1 QA1 pn1 qn1 pc1 qc1 p.c.mp q.c.mp _ (hpp1.out.sl.grow hG.b) (hqp1.out.sl.grow hG.b) hpp1.out.max).mono ?_); rintro e' w5 ⟨rfl, hb5⟩; rw [hv1.out]
        replace hG := Grew.trans hG hb5
        (try dsimp only)
        (with_reducible refine hK _ _ hG ?_)
        clear hK K
        (repeat ((first | (with_reducible refine ord_q1 ?_) | (with_reducible refine ord_q0 ?_)); intro K hK; first | (refine Or.inr ⟨?_, ?_⟩; (focus (go_simp; first | done | (simp [undef]; done))); go_simp; (with_reducible refine hK _ ?_); clear hK K) | (refine Or.inl ⟨?_, ?_⟩; (focus (go_simp; done)); apply Exists.intro; refine And.intro ?_ ?_; (focus (first | (intro wq hq; obtain ⟨hcq, hfq⟩ := G.old hq; go_simp; (first | done | exact rfl); done) | (intro wq; go_simp; (first | done | exact rfl); done))); go_simp; (with_reducible refine hK _ ?_); clear hK K) | fail))
        (with_reducible refine ord_skip ?_ hG ?_); (focus (go_simp; first | done | (simp [undef]; done))); intro K hK; go_simp; (with_reducible refine hK _ ?_); clear hK K; (repeat ((first | (with_reducible refine ord_q1 ?_) | (with_reducible refine ord_q0 ?_)); intro K hK; first | (refine Or.inr ⟨?_, ?_⟩; (focus (go_simp; first | done | (simp [undef]; done))); go_simp; (with_reducible refine hK _ ?_); clear hK K) | (refine Or.inl ⟨?_, ?_⟩; (focus (go_simp; done)); apply Exists.intro; refine And.intro ?_ ?_; (focus (first | (intro wq hq; obtain ⟨hcq, hfq⟩ := G.old hq; go_simp; (first | done | exact rfl); done) | (intro wq; go_simp; (first | done | exact rfl); done))); go_simp; (with_reducible refine hK _ ?_); clear hK K) | fail))
        (with_reducible refine ord_nil ?_)
        go_wp2_with fail
        go_meet
        exact ⟨by rw [hs'.out], hG.b⟩
      · rcases v2 with _ | _
        · have hs' : Hid (eqM p.c q.c = false) := by unfold Hid; rw [hs.out]; simp [*]
          refine wp_region_ord [(0, 1), (1, 1), (2, 1), (3, 1), (4, 1), (5, 1), (6, 1), (7, 1), (8, 1), (9, 1), (10, 1), (11, 1), (12, 1), (13, 1), (14, 1), (15, 1), (16, 1), (17, 1), (18, 1), (19, 1), (20, 1), (21, 1), (22, 1), (23, 1), (24, 1), (25, 1), (26, 2), (27, 1), (28, 1), (29, 1), (30, 1), (31, 1), (32, 1), (33, 1), (34, 1), (35, 1), (36, 1), (37, 1), (38, 1), (39, 1), (40, 1), (41, 2), (42, 1), (43, 1), (44, 1), (45, 1), (46, 1), (47, 1), (48, 1), (49, 1), (50, 1), (51, 1), (52, 1), (53, 1), (54, 1), (55, 1), (56, 1), (57, 1), (58, 1), (59, 1), (60, 1)] [] 5 (by kernel_rfl) (by decide +kernel) ?_
          simp only [pickO, List.append_eq, List.cons_append, List.nil_append, List.getElem?_cons_succ, List.getElem?_cons_zero]
          intro w0 hG
          (repeat ((first | (with_reducible refine ord_q1 ?_) | (with_reducible refine ord_q0 ?_)); intro K hK; first | (refine Or.inr ⟨?_, ?_⟩; (focus (go_simp; first | done | (simp [undef]; done))); go_simp; (with_reducible refine hK _ ?_); clear hK K) | (refine Or.inl ⟨?_, ?_⟩; (focus (go_simp; done)); apply Exists.intro; refine And.intro ?_ ?_; (focus (first | (intro wq hq; obtain ⟨hcq, hfq⟩ := G.old hq; go_simp; (first | done | exact rfl); done) | (intro wq; go_simp; (first | done | exact rfl); done))); go_simp; (with_reducible refine hK _ ?_); clear hK K) | fail))
          (with_reducible refine ord_run ?_ hG)
          intro K hK
          go_simp
          go_at_call 15; (with_reducible refine (equal_any p.c.me q.c.me PA1 QA1 pn1 qn1 pc1 qc1 p.c.mp q.c.mp _ (hpp1.out.sl.grow hG.b) (hqp1.out.sl.grow hG.b) hpp1.out.max).mono ?_); rintro e' w5 ⟨rfl, hb5⟩; rw [hv1.out]
          replace hG := Grew.trans hG hb5
          (try dsimp only)
          (with_reducible refine hK _ _ hG ?_)
          clear hK K
          (repeat ((first | (with_reducible refine ord_q1 ?_) | (with_reducible refine ord_q0 ?_)); intro K hK; first | (refine Or.inr ⟨?_, ?_⟩; (focus (go_simp; first | done | (simp [undef]; done))); go_simp; (with_reducible refine hK _ ?_); clear hK K) | (refine Or.inl ⟨?_, ?_⟩; (focus (go_simp; done)); apply Exists.intro; refine And.intro ?_ ?_; (focus (first | (intro wq hq; obtain ⟨hcq, hfq⟩ := G.old hq; go_simp; (first | done | exact rfl); done) | (intro wq; go_simp; (first | done | exact rfl); done))); go_simp; (with_reducible refine hK _ ?_); clear hK K) | fail))
          (with_reducible refine ord_run ?_ hG)
          intro K hK
          go_simp
          go_at_call 15; (with_reducible refine (equal_any p.c.le q.c.le PA2 QA2 pn2 qn2 pc2 qc2 p.c.lp q.c.lp _ (hpp2.out.sl.grow hG.b) (hqp2.out.sl.grow hG.b) hpp2.out.max).mono ?_); rintro e' w6 ⟨rfl, hb6⟩; rw [hv2.out]
          replace hG := Grew.trans hG hb6
          (try dsimp only)
          (with_reducible refine hK _ _ hG ?_)
          clear hK K
          (repeat ((first | (with_reducible refine ord_q1 ?_) | (with_reducible refine ord_q0 ?_)); intro K hK; first | (refine Or.inr ⟨?_, ?_⟩; (focus (go_simp; first | done | (simp [undef]; done))); go_simp; (with_reducible refine hK _ ?_); clear hK K) | (refine Or.inl ⟨?_, ?_⟩; (focus (go_simp; done)); apply Exists.intro; refine And.intro ?_ ?_; (focus (first | (intro wq hq; obtain ⟨hcq, hfq⟩ := G.old hq; go_simp; (first | done | exact rfl); done) | (intro wq; go_simp; (first | done | exact rfl); done))); go_simp; (with_reducible refine hK _ ?_); clear hK K) | fail))
          (with_reducible refine ord_nil ?_)
          go_wp2_with fail
          go_meet
          exact ⟨by rw [hs'.out], hG.b⟩
        · have hs' : Hid (eqM p.c q.c = decide (p.c.items.length = q.c.items.length)) := by unfold Hid; rw [hs.out]; simp [*]
          refine wp_region_ord [(0, 1), (1, 1), (2, 1), (3, 1), (4, 1), (5, 1), (6, 1), (7, 1), (8, 1), (9, 1), (10, 1), (11, 1), (12, 1), (13, 1), (14, 1), (15, 1), (16, 1), (17, 1), (18, 1), (19, 1), (20, 1), (21, 1), (22, 1), (23, 1), (24, 1), (25, 1), (26, 2), (27, 1), (28, 1), (29, 1), (30, 1), (31, 1), (32, 1), (33, 1), (34, 1), (35, 1), (36, 1), (37, 1), (38, 1), (39, 1), (40, 1), (41, 2), (42, 1), (43, 1), (44, 1), (45, 1), (46, 1), (47, 1), (48, 1), (49, 1), (50, 1), (51, 1), (52, 1), (53, 1), (54, 1), (55, 1), (56, 1), (57, 1), (58, 1), (59, 1), (60, 1)] [] 5 (by kernel_rfl) (by decide +kernel) ?_
          simp only [pickO, List.append_eq, List.cons_append, List.nil_append, List.getElem?_cons_succ, List.getElem?_cons_zero]
          intro w0 hG
          (repeat ((first | (with_reducible refine ord_q1 ?_) | (with_reducible refine ord_q0 ?_)); intro K hK; first | (refine Or.inr ⟨?_, ?_⟩; (focus (go_simp; first | done | (simp [undef]; done))); go_simp; (with_reducible refine hK _ ?_); clear hK K) | (refine Or.inl ⟨?_, ?_⟩; (focus (go_simp; done)); apply Exists.intro; refine And.intro ?_ ?_; (focus (first | (intro wq hq; obtain ⟨hcq, hfq⟩ := G.old hq; go_simp; (first | done | exact rfl); done) | (intro wq; go_simp; (first | done | exact rfl); done))); go_simp; (with_reducible refine hK _ ?_); clear hK K) | fail))
          (with_reducible refine ord_run ?_ hG)
          intro K hK
          go_simp
          go_at_call 15; (with_reducible refine (equal_any p.c.me q.c.me PA1 QA1 pn1 qn1 pc1 qc1 p.c.mp q.c.mp _ (hpp1.out.sl.grow hG.b) (hqp1.out.sl.grow hG.b) hpp1.out.max).mono ?_); rintro e' w5 ⟨rfl, hb5⟩; rw [hv1.out]
          replace hG := Grew.trans hG hb5
          (try dsimp only)
          (with_reducible refine hK _ _ hG ?_)
          clear hK K
          (repeat ((first | (with_reducible refine ord_q1 ?_) | (with_reducible refine ord_q0 ?_)); intro K hK; first | (refine Or.inr ⟨?_, ?_⟩; (focus (go_simp; first | done | (simp [undef]; done))); go_simp; (with_reducible refine hK _ ?_); clear hK K) | (refine Or.inl ⟨?_, ?_⟩; (focus (go_simp; done)); apply Exists.intro; refine And.intro ?_ ?_; (focus (first | (intro wq hq; obtain ⟨hcq, hfq⟩ := G.old hq; go_simp; (first | done | exact rfl); done) | (intro wq; go_simp; (first | done | exact rfl); done))); go_simp; (with_reducible refine hK _ ?_); clear hK K) | fail))
          (with_reducible refine ord_run ?_ hG)
          intro K hK
          go_simp
          go_at_call 15; (with_reducible refine (equal_any p.c.le q.c.le PA2 QA2 pn2 qn2 pc2 qc2 p.c.lp q.c.lp _ (hpp2.out.sl.grow hG.b) (hqp2.out.sl.grow hG.b) hpp2.out.max).mono ?_); rintro e' w6 ⟨rfl, hb6⟩; rw [hv2.out]
          replace hG := Grew.trans hG hb6
          (try dsimp only)
          (with_reducible refine hK _ _ hG ?_)
          clear hK K
          (repeat ((first | (with_reducible refine ord_q1 ?_) | (with_reducible refine ord_q0 ?_)); intro K hK; first | (refine Or.inr ⟨?_, ?_⟩; (focus (go_simp; first | done | (simp [undef]; done))); go_simp; (with_reducible refine hK _ ?_); clear hK K) | (refine Or.inl ⟨?_, ?_⟩; (focus (go_simp; done)); apply Exists.intro; refine And.intro ?_ ?_; (focus (first | (intro wq hq; obtain ⟨hcq, hfq⟩ := G.old hq; go_simp; (first | done | exact rfl); done) | (intro wq; go_simp; (first | done | exact rfl); done))); go_simp; (with_reducible refine hK _ ?_); clear hK K) | fail))
          (with_reducible refine ord_nil ?_)
          go_wp2_with fail
          go_meet
          exact ⟨by rw [hs'.out]; congr 1; rw [Bool.eq_iff_iff]; simp; omega, hG.b⟩
    · have h1' : ((cc : Int) == (dc : Int)) = false := by simp; omega
      have hs' : Hid (eqM p.c q.c = false) := by unfold Hid; rw [hs.out]; simp [*]
      refine wp_region_ord [(0, 1), (1, 1), (2, 1), (3, 1), (4, 1), (5, 1), (6, 1), (7, 1), (8, 1), (9, 1), (10, 1), (11, 1), (12, 1), (13, 1), (14, 1), (15, 1), (16, 1), (17, 1), (18, 1), (19, 1), (20, 1), (21, 1), (22, 1), (23, 1), (24, 1), (25, 1), (26, 2), (27, 1), (28, 1), (29, 1), (30, 1), (31, 1), (32, 1), (33, 1), (34, 1), (35, 1), (36, 1), (37, 1), (38, 1), (39, 1), (40, 1), (41, 2), (42, 1), (43, 1), (44, 1), (45, 1), (46, 1), (47, 1), (48, 1), (49, 1), (50, 1), (51, 1), (52, 1), (53, 1), (54, 1), (55, 1), (56, 1), (57, 1), (58, 1), (59, 1), (60, 1)] [] 5 (by kernel_rfl) (by decide +kernel) ?_
      simp only [pickO, List.append_eq, List.cons_append, List.nil_append, List.getElem?_cons_succ, List.getElem?_cons_zero]
      intro w0 hG
      (repeat ((first | (with_reducible refine ord_q1 ?_) | (with_reducible refine ord_q0 ?_)); intro K hK; first | (refine Or.inr ⟨?_, ?_⟩; (focus (go_simp; first | done | (simp [undef]; done))); go_simp; (with_reducible refine hK _ ?_); clear hK K) | (refine Or.inl ⟨?_, ?_⟩; (focus (go_simp; done)); apply Exists.intro; refine And.intro ?_ ?_; (focus (first | (intro wq hq; obtain ⟨hcq, hfq⟩ := G.old hq; go_simp; (first | done | exact rfl); done) | (intro wq; go_simp; (first | done | exact rfl); done))); go_simp; (with_reducible refine hK _ ?_); clear hK K) | fail))
      (with_reducible refine ord_skip ?_ hG ?_); (focus (go_simp; first | done | (simp [undef]; done))); intro K hK; go_simp; (with_reducible refine hK _ ?_); clear hK K; (repeat ((first | (with_reducible refine ord_q1 ?_) | (with_reducible refine ord_q0 ?_)); intro K hK; first | (refine Or.inr ⟨?_, ?_⟩; (focus (go_simp; first | done | (simp [undef]; done))); go_simp; (with_reducible refine hK _ ?_); clear hK K) | (refine Or.inl ⟨?_, ?_⟩; (focus (go_simp; done)); apply Exists.intro; refine And.intro ?_ ?_; (focus (first | (intro wq hq; obtain ⟨hcq, hfq⟩ := G.old hq; go_simp; (first | done | exact rfl); done) | (intro wq; go_simp; (first | done | exact rfl); done))); go_simp; (with_reducible refine hK _ ?_); clear hK K) | fail))
      (with_reducible refine ord_skip ?_ hG ?_); (focus (go_simp; first | done | (simp [undef]; done))); intro K hK; go_simp; (with_reducible refine hK _ ?_); clear hK K; (repeat ((first | (with_reducible refine ord_q1 ?_) | (with_reducible refine ord_q0 ?_)); intro K hK; first | (refine Or.inr ⟨?_, ?_⟩; (focus (go_simp; first | done | (simp [undef]; done))); go_simp; (with_reducible refine hK _ ?_); clear hK K) | (refine Or.inl ⟨?_, ?_⟩; (focus (go_simp; done)); apply Exists.intro; refine And.intro ?_ ?_; (focus (first | (intro wq hq; obtain ⟨hcq, hfq⟩ := G.old hq; go_simp; (first | done | exact rfl); done) | (intro wq; go_simp; (first | done | exact rfl); done))); go_simp; (with_reducible refine hK _ ?_); clear hK K) | fail))
      (with_reducible refine ord_nil ?_)
      go_wp2_with fail
      go_meet
      exact ⟨by rw [hs'.out], hG.b⟩
  case rest => as_aux_lemma =>
    obtain ⟨rfl, hcb⟩ := hcut
    obtain ⟨eM, heM⟩ : ∃ x, eqM p.c q.c = x := ⟨_, rfl⟩
    have hEQ' : Hid (eqC p.c q.c = (eM && eqIs p.c.items q.c.items)) := by unfold Hid; rw [hEQ.out, heM]
    have hlenM : Hid (eM = true → p.c.items.length = q.c.items.length) := fun h => by
      rw [← heM] at h
      unfold eqM at h
      simp only [Bool.and_eq_true, decide_eq_true_eq] at h
      exact h.2.2.2
    have hlp : p.c.items.length ≤ 1024 := by
      obtain ⟨_, _, _, _, _, _, _, _, h1⟩ := hP4.out.1
      have := h1.2.2.2.2.2.2.1
      have := h1.2.2.2.2.2.2.2.1
      omega
    rw [heM]
    replace p1 := Lib.hid p1
    replace r1 := Lib.hid r1
    replace ca0 := Lib.hid ca0
    replace ca1 := Lib.hid ca1
    replace cm0 := Lib.hid cm0
    replace cm1 := Lib.hid cm1
    replace heM := Lib.hid heM
    clear p0 p2 p3 p4 p5 r0 r2 r3 r4 r5 hs hv1 hv2 ltx ltp ltq hpp1 hpp2 hqp1 hqp2 hEQ
    go_upto_block 0 with (fail)
    go_cut [8] (fun ev wx => ev = .bool (eM && eqIs p.c.items q.c.items) ∧ Below w4.heap.size w4 wx)
    case first => as_aux_lemma =>
      go_wp2_with fail
      go_loopw [8, 9] (fun ev iv wr => ∃ (i : Nat) (e : Bool), i ≤ p.c.items.length ∧ iv = .int .i64 i ∧ ev = .bool e ∧ EInv p.c q.c eM i e ∧ Below w4.heap.size w4 wr) (fun _ iv _ => p.c.items.length - (intOf iv).toNat)
      case atStart => exact ⟨0, eM, Nat.zero_le _, rfl, rfl, EInv.start _ _ _, hcb⟩
      case round =>
        clear hcb
        obtain ⟨i, e, hi, rfl, rfl, hinv, hbr⟩ := hrel
        have cm0r := G.cell cm0.out hbr
        have cm1r := G.cell cm1.out hbr
        have p1r := G.cell p1.out hbr
        have r1r := G.cell r1.out hbr
        have lt1 := cell_lt cm0r
        have lt2 := cell_lt p1r
        have lt3 := cell_lt r1r
        dsimp only at lt1 lt2 lt3
        by_cases hlt : i < p.c.items.length
        · rcases e with _ | _
          · have hfin := Lib.hid (hinv.stop hlenM.out (.inl rfl) hi)
            have hltz : (i : Int) < (p.c.items.length : Int) := by omega
            go_wp2_with fail
            go_meet
            exact ⟨by rw [← hfin.out], hbr⟩
          · have heM1 : eM = true := by
              rcases hee : eM with _ | _
              · exact absurd (hinv.1 hee) (by simp)
              · rfl
            have hle := hlenM.out heM1
            have hlt' : i < q.c.items.length := by omega
            have hltz : (i : Int) < (q.c.items.length : Int) := by omega
            obtain ⟨a, ha⟩ : ∃ a, p.c.items[i]? = some a := ⟨_, List.getElem?_eq_getElem hlt⟩
            obtain ⟨b, hb⟩ : ∃ b, q.c.items[i]? = some b := ⟨_, List.getElem?_eq_getElem hlt'⟩
            obtain ⟨gX, offX, z0X, A5X, n5X, c5X, z1X, A6X, n6X, c6X, z2X, z3X, z4X, z5X, A7X, n7X, c7X, A8X, n8X, c8X, A9X, n9X, c9X, hAX, hglX, hivX, hchX⟩ := (hP4.out.grow hbr).2.1.item ha
            obtain ⟨gY, offY, z0Y, A5Y, n5Y, c5Y, z1Y, A6Y, n6Y, c6Y, z2Y, z3Y, z4Y, z5Y, A7Y, n7Y, c7Y, A8Y, n8Y, c8Y, A9Y, n9Y, c9Y, hAY, hglY, hivY, hchY⟩ := (hQ4.out.grow hbr).2.1.item hb
            rw [hAX] at p1r
            rw [hAY] at r1r
            have f0X : wr.cell? ⟨gX, offX + i * 11, none⟩ = _ := hchX 0 _ rfl
            have f1X := hchX 1 _ rfl
            have f2X := hchX 2 _ rfl
            have f3X := hchX 3 _ rfl
            have f4X := hchX 4 _ rfl
            have f5X := hchX 5 _ rfl
            have f6X := hchX 6 _ rfl
            have f7X := hchX 7 _ rfl
            have f8X := hchX 8 _ rfl
            have f9X := hchX 9 _ rfl
            have f10X := hchX 10 _ rfl
            have f0Y : wr.cell? ⟨gY, offY + i * 11, none⟩ = _ := hchY 0 _ rfl
            have f1Y := hchY 1 _ rfl
            have f2Y := hchY 2 _ rfl
            have f3Y := hchY 3 _ rfl
            have f4Y := hchY 4 _ rfl
            have f5Y := hchY 5 _ rfl
            have f6Y := hchY 6 _ rfl
            have f7Y := hchY 7 _ rfl
            have f8Y := hchY 8 _ rfl
            have f9Y := hchY 9 _ rfl
            have f10Y := hchY 10 _ rfl
            have hnX := Lib.hid hivX.r9
            have hnY := Lib.hid hivY.r9
            replace hivX := Lib.hid hivX
            replace hivY := Lib.hid hivY
            replace ha := Lib.hid ha
            replace hb := Lib.hid hb
            clear hchX hchY
            go_wp2_with fail
            go_upto_region 10 with (fail)
            go_cut [10, 11] (fun px py wx => ∃ X Y, px = .pointer (some ⟨X, 0, none⟩) ∧ py = .pointer (some ⟨Y, 0, none⟩) ∧ Bx wx X [.int .i64 z0X, .slice A5X n5X c5X, .int .i64 z1X, .slice A6X n6X c6X, .int .i64 z2X, .int .i64 z3X, .int .i64 z4X, .string z5X, .slice A7X n7X c7X, .slice A8X n8X c8X, .slice A9X n9X c9X] ∧ Bx wx Y [.int .i64 z0Y, .slice A5Y n5Y c5Y, .int .i64 z1Y, .slice A6Y n6Y c6Y, .int .i64 z2Y, .int .i64 z3Y, .int .i64 z4Y, .string z5Y, .slice A7Y n7Y c7Y, .slice A8Y n8Y c8Y, .slice A9Y n9Y c9Y] ∧ Below wr.heap.size wr wx)
            case first => as_aux_lemma =>
              refine wp_region_tree (.quiet 0 1 (.quiet 1 1 (.quiet 2 1 (.quiet 3 1 (.quiet 4 1 (.quiet 5 1 (.quiet 6 1 (.quiet 7 1 (.quiet 8 1 (.quiet 9 1 (.quiet 10 1 (.quiet 11 1 (.quiet 12 1 (.quiet 13 1 (.quiet 14 1 (.quiet 15 1 (.quiet 16 1 (.quiet 17 1 (.run 18 2 (.run 19 2 (.run 20 2 (.run 21 2 .nil .stop) .stop) .stop) (.run 19 2 (.run 18 2 (.run 20 2 (.run 21 2 .nil .stop) .stop) .stop) .stop)))))))))))))))))))) [] 5 (by kernel_rfl) (by decide +kernel) ?_
              simp only [pickT, List.getElem?_cons_succ, List.getElem?_cons_zero]
              intro w0 hG
              have hG0 := hG.b
              have szG := hG0.size
              (try simp at szG)
              (repeat ((first | (with_reducible refine tree_q1 ?_) | (with_reducible refine tree_q0 ?_)); intro K hK; first | (refine Or.inr ⟨?_, ?_⟩; (focus (go_simp; first | done | (simp [undef]; done))); go_simp; (with_reducible refine hK _ ?_); clear hK K) | (refine Or.inl ⟨?_, ?_⟩; (focus (go_simp; done)); apply Exists.intro; refine And.intro ?_ ?_; (focus (first | (intro wq hq; obtain ⟨hcq, hfq⟩ := G.old hq; go_simp; (first | done | exact rfl); done) | (intro wq; go_simp; (first | done | exact rfl); done))); go_simp; (with_reducible refine hK _ ?_); clear hK K) | fail))
              (with_reducible refine tree_run hG ?_ ?_)
              · intro K hK
                go_simp
                replace hG := Grew.alloc hG (.cells #[.int .i64 0, .slice none 0 0, .int .i64 0, .slice none 0 0, .int .i64 0, .int .i64 0, .int .i64 0, .string ⟨#[]⟩, .slice none 0 0, .slice none 0 0, .slice none 0 0] 33)
                (with_reducible refine hK _ _ hG ?_)
                clear hK K
                (with_reducible refine tree_run hG ?_ ?_)
                · intro K hK
                  go_simp
                  replace hG := Grew.alloc hG (.cells #[.int .i64 0, .slice none 0 0, .int .i64 0, .slice none 0 0, .int .i64 0, .int .i64 0, .int .i64 0, .string ⟨#[]⟩, .slice none 0 0, .slice none 0 0, .slice none 0 0] 33)
                  (with_reducible refine hK _ _ hG ?_)
                  clear hK K
                  (with_reducible refine tree_run hG ?_ ?_)
                  · intro K hK
                    go_simp
                    (with_reducible refine (fun (hGn : Grew wr _) => hK _ _ hGn ?_) ?_)
                    rotate_left
                    focus (show Below _ _ _; (repeat (first | with_reducible exact hG0 | with_reducible refine G.alloc ?_ _ | with_reducible refine Below.setCell ?_ (by first | (simp; done) | (simp; omega)) _ | exact Below.setCells' (by first | (simp; done) | (simp; omega)) _ _ _ (by assumption))))
                    replace hG := hGn
                    --done
                    clear hK K
                    (with_reducible refine tree_run hG ?_ ?_)
                    · intro K hK
                      go_simp
                      (with_reducible refine (fun (hGn : Grew wr _) => hK _ _ hGn ?_) ?_)
                      rotate_left
                      focus (show Below _ _ _; (repeat (first | with_reducible exact hG0 | with_reducible refine G.alloc ?_ _ | with_reducible refine Below.setCell ?_ (by first | (simp; done) | (simp; omega)) _ | exact Below.setCells' (by first | (simp; done) | (simp; omega)) _ _ _ (by assumption))))
                      replace hG := hGn
                      --done
                      clear hK K
                      (with_reducible refine tree_nil ?_)
                      go_wp2_with fail
                      go_meet
                      refine ⟨_, _, rfl, rfl, ?_, ?_, hG.b⟩
                      · first | exact Bx.new (by simp) rfl | exact Bx.alloc (Bx.new rfl rfl) _
                      · first | exact Bx.new (by simp) rfl | exact Bx.alloc (Bx.new rfl rfl) _
                    exact tree_stop
                  exact tree_stop
                exact tree_stop
              (with_reducible refine tree_run hG ?_ ?_)
              · intro K hK
                go_simp
                replace hG := Grew.alloc hG (.cells #[.int .i64 0, .slice none 0 0, .int .i64 0, .slice none 0 0, .int .i64 0, .int .i64 0, .int .i64 0, .string ⟨#[]⟩, .slice none 0 0, .slice none 0 0, .slice none 0 0] 33)
                (with_reducible refine hK _ _ hG ?_)
                clear hK K
                (with_reducible refine tree_run hG ?_ ?_)
                · intro K hK
                  go_simp
                  replace hG := Grew.alloc hG (.cells #[.int .i64 0, .slice none 0 0, .int .i64 0, .slice none 0 0, .int .i64 0, .int .i64 0, .int .i64 0, .string ⟨#[]⟩, .slice none 0 0, .slice none 0 0, .slice none 0 0] 33)
                  (with_reducible refine hK _ _ hG ?_)
                  clear hK K
                  (with_reducible refine tree_run hG ?_ ?_)
                  · intro K hK
                    go_simp
                    (with_reducible refine (fun (hGn : Grew wr _) => hK _ _ hGn ?_) ?_)
                    rotate_left
                    focus (show Below _ _ _; (repeat (first | with_reducible exact hG0 | with_reducible refine G.alloc ?_ _ | with_reducible refine Below.setCell ?_ (by first | (simp; done) | (simp; omega)) _ | exact Below.setCells' (by first | (simp; done) | (simp; omega)) _ _ _ (by assumption))))
                    replace hG := hGn
                    --done
                    clear hK K
                    (with_reducible refine tree_run hG ?_ ?_)
                    · intro K hK
                      go_simp
                      (with_reducible refine (fun (hGn : Grew wr _) => hK _ _ hGn ?_) ?_)
                      rotate_left
                      focus (show Below _ _ _; (repeat (first | with_reducible exact hG0 | with_reducible refine G.alloc ?_ _ | with_reducible refine Below.setCell ?_ (by first | (simp; done) | (simp; omega)) _ | exact Below.setCells' (by first | (simp; done) | (simp; omega)) _ _ _ (by assumption))))
                      replace hG := hGn
                      --done
                      clear hK K
                      (with_reducible refine tree_nil ?_)
                      go_wp2_with fail
                      go_meet
                      refine ⟨_, _, rfl, rfl, ?_, ?_, hG.b⟩
                      · first | exact Bx.new (by simp) rfl | exact Bx.alloc (Bx.new rfl rfl) _
                      · first | exact Bx.new (by simp) rfl | exact Bx.alloc (Bx.new rfl rfl) _
                    exact tree_stop
                  exact tree_stop
                exact tree_stop
              exact tree_stop
            case rest => as_aux_lemma =>
              obtain ⟨X, Y, rfl, rfl, hX, hY, hcb⟩ := hcut
              have hbc := G.trans hbr hcb
              obtain ⟨c0, c1', c2', c3, c4, c5, c6, c7, c8, c9, c10⟩ := hX.c11
              obtain ⟨y0, y1, y2, y3, y4, y5', y6', y7, y8, y9, y10⟩ := hY.c11
              have ltX := hX.lt
              have ltY := hY.lt
              have hvx := Lib.hid (hivX.out.grow hcb)
              have hvy := Lib.hid (hivY.out.grow hcb)
              obtain ⟨v, hv⟩ : ∃ v, (cmpS a.e a.p b.e b.p == 0) = v := ⟨_, rfl⟩
              have hab : Hid (eqI a b = (v && decide (a.r = b.r))) := by unfold Hid eqI; rw [← hv]; congr 1
              replace hv := Lib.hid hv
              rcases v with _ | _
              · have hu0 : eqI a b = false := by rw [hab.out]; rfl
                have hinv' := Lib.hid (hinv.up heM1 ha.out hb.out hu0)
                go_wp2_with fail
                refine wp_region_ord [(0, 1), (2, 1), (1, 2), (3, 2), (4, 2), (5, 1), (6, 1), (7, 1), (8, 1), (9, 1), (10, 1), (11, 1), (12, 1), (13, 1), (14, 1)] [] 5 (by kernel_rfl) (by decide +kernel) ?_
                simp only [pickO, List.append_eq, List.cons_append, List.nil_append, List.getElem?_cons_succ, List.getElem?_cons_zero]
                intro w0 hG
                (repeat ((first | (with_reducible refine ord_q1 ?_) | (with_reducible refine ord_q0 ?_)); intro K hK; first | (refine Or.inr ⟨?_, ?_⟩; (focus (go_simp; first | done | (simp [undef]; done))); go_simp; (with_reducible refine hK _ ?_); clear hK K) | (refine Or.inl ⟨?_, ?_⟩; (focus (go_simp; done)); apply Exists.intro; refine And.intro ?_ ?_; (focus (first | (intro wq hq; obtain ⟨hcq, hfq⟩ := G.old hq; go_simp; (first | done | exact rfl); done) | (intro wq; go_simp; (first | done | exact rfl); done))); go_simp; (with_reducible refine hK _ ?_); clear hK K) | fail))
                (with_reducible refine ord_run ?_ hG)
                intro K hK
                go_simp
                go_at_call 17; (with_reducible refine (ofc_any hvx.out hG.b).mono ?_); rintro e' w5 ⟨X5, x5, y5, rfl, hp5, hb5⟩
                replace hG := Grew.trans hG hb5
                (try dsimp only)
                (with_reducible refine hK _ _ hG ?_)
                clear hK K
                (repeat ((first | (with_reducible refine ord_q1 ?_) | (with_reducible refine ord_q0 ?_)); intro K hK; first | (refine Or.inr ⟨?_, ?_⟩; (focus (go_simp; first | done | (simp [undef]; done))); go_simp; (with_reducible refine hK _ ?_); clear hK K) | (refine Or.inl ⟨?_, ?_⟩; (focus (go_simp; done)); apply Exists.intro; refine And.intro ?_ ?_; (focus (first | (intro wq hq; obtain ⟨hcq, hfq⟩ := G.old hq; go_simp; (first | done | exact rfl); done) | (intro wq; go_simp; (first | done | exact rfl); done))); go_simp; (with_reducible refine hK _ ?_); clear hK K) | fail))
                (with_reducible refine ord_run ?_ hG)
                intro K hK
                go_simp
                go_at_call 17; (with_reducible refine (ofc_any hvy.out hG.b).mono ?_); rintro e' w6 ⟨X6, x6, y6, rfl, hp6, hb6⟩
                replace hG := Grew.trans hG hb6
                (try dsimp only)
                (with_reducible refine hK _ _ hG ?_)
                clear hK K
                (repeat ((first | (with_reducible refine ord_q1 ?_) | (with_reducible refine ord_q0 ?_)); intro K hK; first | (refine Or.inr ⟨?_, ?_⟩; (focus (go_simp; first | done | (simp [undef]; done))); go_simp; (with_reducible refine hK _ ?_); clear hK K) | (refine Or.inl ⟨?_, ?_⟩; (focus (go_simp; done)); apply Exists.intro; refine And.intro ?_ ?_; (focus (first | (intro wq hq; obtain ⟨hcq, hfq⟩ := G.old hq; go_simp; (first | done | exact rfl); done) | (intro wq; go_simp; (first | done | exact rfl); done))); go_simp; (with_reducible refine hK _ ?_); clear hK K) | fail))
                (with_reducible refine ord_run ?_ hG)
                intro K hK
                go_simp
                go_at_call 15; (with_reducible refine (equal_any a.e b.e X5 X6 x5 x6 y5 y6 a.p b.p _ (hp5.sl.grow hb6) hp6.sl hp5.max).mono ?_); rintro e' w7 ⟨rfl, hb7⟩; rw [hv.out]
                replace hG := Grew.trans hG hb7
                (try dsimp only)
                (with_reducible refine hK _ _ hG ?_)
                clear hK K
                (repeat ((first | (with_reducible refine ord_q1 ?_) | (with_reducible refine ord_q0 ?_)); intro K hK; first | (refine Or.inr ⟨?_, ?_⟩; (focus (go_simp; first | done | (simp [undef]; done))); go_simp; (with_reducible refine hK _ ?_); clear hK K) | (refine Or.inl ⟨?_, ?_⟩; (focus (go_simp; done)); apply Exists.intro; refine And.intro ?_ ?_; (focus (first | (intro wq hq; obtain ⟨hcq, hfq⟩ := G.old hq; go_simp; (first | done | exact rfl); done) | (intro wq; go_simp; (first | done | exact rfl); done))); go_simp; (with_reducible refine hK _ ?_); clear hK K) | fail))
                (with_reducible refine ord_nil ?_)
                go_wp2_with fail
                go_roundw
                case rel => exact ⟨i + 1, false, by omega, by go_num, rfl, hinv'.out, G.trans hbc hG.b⟩
                case measure => simp [intOf]; omega
              · have hu0 : eqI a b = ((a.r : Int) == (b.r : Int)) := by rw [hab.out, Bool.true_and, Bool.eq_iff_iff]; simp; omega
                have hinv' := Lib.hid (hinv.up heM1 ha.out hb.out hu0)
                go_wp2_with fail
                refine wp_region_ord [(0, 1), (2, 1), (1, 2), (3, 2), (4, 2), (5, 1), (6, 1), (7, 1), (8, 1), (9, 1), (10, 1), (11, 1), (12, 1), (13, 1), (14, 1)] [] 5 (by kernel_rfl) (by decide +kernel) ?_
                simp only [pickO, List.append_eq, List.cons_append, List.nil_append, List.getElem?_cons_succ, List.getElem?_cons_zero]
                intro w0 hG
                (repeat ((first | (with_reducible refine ord_q1 ?_) | (with_reducible refine ord_q0 ?_)); intro K hK; first | (refine Or.inr ⟨?_, ?_⟩; (focus (go_simp; first | done | (simp [undef]; done))); go_simp; (with_reducible refine hK _ ?_); clear hK K) | (refine Or.inl ⟨?_, ?_⟩; (focus (go_simp; done)); apply Exists.intro; refine And.intro ?_ ?_; (focus (first | (intro wq hq; obtain ⟨hcq, hfq⟩ := G.old hq; go_simp; (first | done | exact rfl); done) | (intro wq; go_simp; (first | done | exact rfl); done))); go_simp; (with_reducible refine hK _ ?_); clear hK K) | fail))
                (with_reducible refine ord_run ?_ hG)
                intro K hK
                go_simp
                go_at_call 17; (with_reducible refine (ofc_any hvx.out hG.b).mono ?_); rintro e' w5 ⟨X5, x5, y5, rfl, hp5, hb5⟩
                replace hG := Grew.trans hG hb5
                (try dsimp only)
                (with_reducible refine hK _ _ hG ?_)
                clear hK K
                (repeat ((first | (with_reducible refine ord_q1 ?_) | (with_reducible refine ord_q0 ?_)); intro K hK; first | (refine Or.inr ⟨?_, ?_⟩; (focus (go_simp; first | done | (simp [undef]; done))); go_simp; (with_reducible refine hK _ ?_); clear hK K) | (refine Or.inl ⟨?_, ?_⟩; (focus (go_simp; done)); apply Exists.intro; refine And.intro ?_ ?_; (focus (first | (intro wq hq; obtain ⟨hcq, hfq⟩ := G.old hq; go_simp; (first | done | exact rfl); done) | (intro wq; go_simp; (first | done | exact rfl); done))); go_simp; (with_reducible refine hK _ ?_); clear hK K) | fail))
                (with_reducible refine ord_run ?_ hG)
                intro K hK
                go_simp
                go_at_call 17; (with_reducible refine (ofc_any hvy.out hG.b).mono ?_); rintro e' w6 ⟨X6, x6, y6, rfl, hp6, hb6⟩
                replace hG := Grew.trans hG hb6
                (try dsimp only)
                (with_reducible refine hK _ _ hG ?_)
                clear hK K
                (repeat ((first | (with_reducible refine ord_q1 ?_) | (with_reducible refine ord_q0 ?_)); intro K hK; first | (refine Or.inr ⟨?_, ?_⟩; (focus (go_simp; first | done | (simp [undef]; done))); go_simp; (with_reducible refine hK _ ?_); clear hK K) | (refine Or.inl ⟨?_, ?_⟩; (focus (go_simp; done)); apply Exists.intro; refine And.intro ?_ ?_; (focus (first | (intro wq hq; obtain ⟨hcq, hfq⟩ := G.old hq; go_simp; (first | done | exact rfl); done) | (intro wq; go_simp; (first | done | exact rfl); done))); go_simp; (with_reducible refine hK _ ?_); clear hK K) | fail))
                (with_reducible refine ord_run ?_ hG)
                intro K hK
                go_simp
                go_at_call 15; (with_reducible refine (equal_any a.e b.e X5 X6 x5 x6 y5 y6 a.p b.p _ (hp5.sl.grow hb6) hp6.sl hp5.max).mono ?_); rintro e' w7 ⟨rfl, hb7⟩; rw [hv.out]
                replace hG := Grew.trans hG hb7
                (try dsimp only)
                (with_reducible refine hK _ _ hG ?_)
                clear hK K
                (repeat ((first | (with_reducible refine ord_q1 ?_) | (with_reducible refine ord_q0 ?_)); intro K hK; first | (refine Or.inr ⟨?_, ?_⟩; (focus (go_simp; first | done | (simp [undef]; done))); go_simp; (with_reducible refine hK _ ?_); clear hK K) | (refine Or.inl ⟨?_, ?_⟩; (focus (go_simp; done)); apply Exists.intro; refine And.intro ?_ ?_; (focus (first | (intro wq hq; obtain ⟨hcq, hfq⟩ := G.old hq; go_simp; (first | done | exact rfl); done) | (intro wq; go_simp; (first | done | exact rfl); done))); go_simp; (with_reducible refine hK _ ?_); clear hK K) | fail))
                (with_reducible refine ord_nil ?_)
                go_wp2_with fail
                go_roundw
                case rel => exact ⟨i + 1, ((a.r : Int) == (b.r : Int)), by omega, by go_num, by rw [hnX.out, hnY.out], hinv'.out, G.trans hbc hG.b⟩
                case measure => simp [intOf]; omega
        · have hie : i = p.c.items.length := by omega
          have hfin := Lib.hid (hinv.stop hlenM.out (.inr hie) hi)
          have hltz : ¬ (i : Int) < (p.c.items.length : Int) := by omega
          replace hie := Lib.hid hie
          rcases e with _ | _
          all_goals (go_wp2_with fail)
          all_goals (go_meet; exact ⟨by rw [← hfin.out], hbr⟩)
    case rest => as_aux_lemma =>
      clear hcb
      obtain ⟨rfl, hcb⟩ := hcut
      have hbwc := G.trans hbw4 hcb
      have ca0r := G.cell ca0.out hcb
      have ca1r := G.cell ca1.out hcb
      have cm0r := G.cell cm0.out hcb
      have lt1 := cell_lt ca0r
      have lt2 := cell_lt cm0r
      dsimp only at lt1 lt2
      obtain ⟨E, hE⟩ : ∃ x, (eM && eqIs p.c.items q.c.items) = x := ⟨_, rfl⟩
      have hEE : Hid (eqC p.c q.c = E) := by unfold Hid; rw [hEQ'.out, hE]
      rw [hE]
      replace hE := Lib.hid hE
      go_wp2_with fail
      refine (clone_any' (hP4.out.grow hcb).1).mono ?_
      rintro e5 w5 ⟨T, R, rfl, hT, hR, hClo, hb5⟩
      have hb45 := G.trans hcb hb5
      replace ca0r := G.cell ca0r hb5
      replace ca1r := G.cell ca1r hb5
      replace lt1 := cell_lt ca0r
      dsimp only at lt1
      have hD5 : ChanAt (fun x => wc.heap.size ≤ x ∧ x ≠ T ∧ x ≠ R) w5 T R p.c := hClo _ (fun h => h.2.1 rfl) (fun h => h.2.2 rfl) (fun x h1 h2 h3 => ⟨h1, h2, h3⟩)
      have hEself := Lib.hid (eqC_self p.c)
      have hEc : Hid (eqC q.c p.c = E) := by unfold Hid; rw [eqC_comm]; exact hEE.out
      replace hD5 := Lib.hid hD5
      clear hClo cm0r lt2
      go_wp2_with fail
      refine wp_region_ord [(0, 1), (1, 1), (2, 1), (3, 1), (4, 1), (5, 1), (7, 1), (6, 2), (8, 1), (9, 1), (10, 1), (11, 1), (12, 1), (13, 1), (14, 1), (15, 1), (17, 1), (16, 2), (18, 1), (19, 1), (20, 1), (21, 1), (22, 1), (23, 1), (24, 1), (25, 2), (26, 1), (27, 1)] [] 5 (by kernel_rfl) (by decide +kernel) ?_
      simp only [pickO, List.append_eq, List.cons_append, List.nil_append, List.getElem?_cons_succ, List.getElem?_cons_zero]
      intro w0 hG
      (repeat ((first | (with_reducible refine ord_q1 ?_) | (with_reducible refine ord_q0 ?_)); intro K hK; first | (refine Or.inr ⟨?_, ?_⟩; (focus (go_simp; first | done | (simp [undef]; done))); go_simp; (with_reducible refine hK _ ?_); clear hK K) | (refine Or.inl ⟨?_, ?_⟩; (focus (go_simp; done)); apply Exists.intro; refine And.intro ?_ ?_; (focus (first | (intro wq hq; obtain ⟨hcq, hfq⟩ := G.old hq; go_simp; (first | done | exact rfl); done) | (intro wq; go_simp; (first | done | exact rfl); done))); go_simp; (with_reducible refine hK _ ?_); clear hK K) | fail))
      (with_reducible refine ord_run ?_ hG)
      intro K hK
      go_simp
      go_at_call 35; (with_reducible refine (eqC_any (hP4.out.grow (G.trans hb45 hG.b)).chn (hQ4.out.grow (G.trans hb45 hG.b)).chn).mono ?_); rintro e6 w6 ⟨rfl, hb6⟩; rw [hEE.out]
      replace hG := Grew.trans hG hb6
      (try dsimp only)
      (with_reducible refine hK _ _ hG ?_)
      clear hK K
      (repeat ((first | (with_reducible refine ord_q1 ?_) | (with_reducible refine ord_q0 ?_)); intro K hK; first | (refine Or.inr ⟨?_, ?_⟩; (focus (go_simp; first | done | (simp [undef]; done))); go_simp; (with_reducible refine hK _ ?_); clear hK K) | (refine Or.inl ⟨?_, ?_⟩; (focus (go_simp; done)); apply Exists.intro; refine And.intro ?_ ?_; (focus (first | (intro wq hq; obtain ⟨hcq, hfq⟩ := G.old hq; go_simp; (first | done | exact rfl); done) | (intro wq; go_simp; (first | done | exact rfl); done))); go_simp; (with_reducible refine hK _ ?_); clear hK K) | fail))
      (with_reducible refine ord_run ?_ hG)
      intro K hK
      go_simp
      go_at_call 35; (with_reducible refine (eqC_any (hQ4.out.grow (G.trans hb45 hG.b)).chn (hP4.out.grow (G.trans hb45 hG.b)).chn).mono ?_); rintro e7 w7 ⟨rfl, hb7⟩; rw [hEc.out]
      replace hG := Grew.trans hG hb7
      (try dsimp only)
      (with_reducible refine hK _ _ hG ?_)
      clear hK K
      (repeat ((first | (with_reducible refine ord_q1 ?_) | (with_reducible refine ord_q0 ?_)); intro K hK; first | (refine Or.inr ⟨?_, ?_⟩; (focus (go_simp; first | done | (simp [undef]; done))); go_simp; (with_reducible refine hK _ ?_); clear hK K) | (refine Or.inl ⟨?_, ?_⟩; (focus (go_simp; done)); apply Exists.intro; refine And.intro ?_ ?_; (focus (first | (intro wq hq; obtain ⟨hcq, hfq⟩ := G.old hq; go_simp; (first | done | exact rfl); done) | (intro wq; go_simp; (first | done | exact rfl); done))); go_simp; (with_reducible refine hK _ ?_); clear hK K) | fail))
      (with_reducible refine ord_run ?_ hG)
      intro K hK
      go_simp
      go_at_call 35; (with_reducible refine (eqC_any (hD5.out.grow hG.b) (hP4.out.grow (G.trans hb45 hG.b)).chn).mono ?_); rintro e8 w8 ⟨rfl, hb8⟩; rw [hEself.out]
      replace hG := Grew.trans hG hb8
      (try dsimp only)
      (with_reducible refine hK _ _ hG ?_)
      clear hK K
      (repeat ((first | (with_reducible refine ord_q1 ?_) | (with_reducible refine ord_q0 ?_)); intro K hK; first | (refine Or.inr ⟨?_, ?_⟩; (focus (go_simp; first | done | (simp [undef]; done))); go_simp; (with_reducible refine hK _ ?_); clear hK K) | (refine Or.inl ⟨?_, ?_⟩; (focus (go_simp; done)); apply Exists.intro; refine And.intro ?_ ?_; (focus (first | (intro wq hq; obtain ⟨hcq, hfq⟩ := G.old hq; go_simp; (first | done | exact rfl); done) | (intro wq; go_simp; (first | done | exact rfl); done))); go_simp; (with_reducible refine hK _ ?_); clear hK K) | fail))
      (with_reducible refine ord_nil ?_)
      have hb58 := hG.b
      have hbc8 : Below wc.heap.size wc w8 := G.trans hb5 hb58
      have hD8 := Lib.hid (hD5.out.grow hb58)
      clear hG hb6 hb7 hb8
      go_wp2_with fail
      refine (take_or hD8.out).mono ?_
      rintro e9 w9 ⟨v9, c9, rfl, hC9, hc9⟩
      have hbc9 : Below wc.heap.size wc w9 := hbc8.trans (hc9.below hT hR hbc8.size)
      go_wp2_with fail
      have hlt9 := hC9.lt
      have hs9 := hbc9.size
      refine (advance_any hC9 (PathIs.nil _ _) (fun x hx => ⟨by omega, by omega, by omega⟩)).mono ?_
      rintro e10 w10 ⟨rfl, hC10, hc10⟩
      have hbc10 : Below wc.heap.size wc w10 := hbc9.trans (hc10.below hT hR hbc9.size)
      clear hC9 hc9 hD8 hb58 hbc8 hbc9 hs9 hlt9 hC10 hc10 hEself hEc hD5
      go_wp2_with fail
      refine (take_nil _).mono ?_
      rintro e11 w11 ⟨rfl, hb11⟩
      have hbc11 := G.trans hbc10 hb11
      go_wp2_with fail
      refine (peek_nil _).mono ?_
      rintro e12 w12 ⟨rfl, hb12⟩
      have hb112 : Below w11.heap.size w11 w12 := G.trans (by repeat (first | with_reducible assumption | with_reducible exact G.refl _ | with_reducible refine G.drew ?_ | with_reducible refine G.drewN ?_ _ | with_reducible refine G.alloc ?_ _ | with_reducible refine Below.setCell ?_ (by first | (simp; done) | (simp; omega)) _ | with_reducible refine G.trans ?_ hb12 | with_reducible refine G.trans ?_ hb11 | with_reducible refine G.trans ?_ hb10 | with_reducible refine G.trans ?_ hb9 | with_reducible refine G.trans ?_ hb8 | with_reducible refine G.trans ?_ hb7 | with_reducible refine G.trans ?_ hb6 | with_reducible refine G.trans ?_ hb5 | with_reducible refine G.trans ?_ hb4 | with_reducible refine G.trans ?_ hb3 | with_reducible refine G.trans ?_ hb2 | with_reducible refine G.trans ?_ hb1 | with_reducible refine G.trans ?_ hb | assumption)) hb12
      have hbc12 := G.trans hbc11 hb112
      go_wp2_with fail
      refine wp_name (fun wx => Below w12.heap.size w12 wx ∧ Bx wx w12.heap.size [.int .i64 0, .slice none 0 0, .int .i64 0, .slice none 0 0, .int .i64 0, .int .i64 0, .int .i64 0, .string ⟨#[]⟩, .slice none 0 0, .slice none 0 0, .slice none 0 0]) ⟨by repeat (first | with_reducible assumption | with_reducible exact G.refl _ | with_reducible refine G.drew ?_ | with_reducible refine G.drewN ?_ _ | with_reducible refine G.alloc ?_ _ | with_reducible refine Below.setCell ?_ (by first | (simp; done) | (simp; omega)) _ | with_reducible refine G.trans ?_ hb12 | with_reducible refine G.trans ?_ hb11 | with_reducible refine G.trans ?_ hb10 | with_reducible refine G.trans ?_ hb9 | with_reducible refine G.trans ?_ hb8 | with_reducible refine G.trans ?_ hb7 | with_reducible refine G.trans ?_ hb6 | with_reducible refine G.trans ?_ hb5 | with_reducible refine G.trans ?_ hb4 | with_reducible refine G.trans ?_ hb3 | with_reducible refine G.trans ?_ hb2 | with_reducible refine G.trans ?_ hb1 | with_reducible refine G.trans ?_ hb | assumption), by repeat (first | with_reducible assumption | (with_reducible exact Bx.new (by simp; done) (by rfl)) | (with_reducible refine Bx.alloc ?_ _) | (with_reducible refine Bx.drewN ?_ _) | ((with_reducible apply Bx.put); rotate_right; (first | rfl | skip)) | (with_reducible refine Bx.other ?_ (by first | (simp; done) | (simp; omega)) _))⟩ ?_
      rintro w13 ⟨hb13, x⟩
      have hbc13 := G.trans hbc12 hb13
      obtain ⟨c0, c1', c2', c3, c4, c5, c6, c7, c8, c9', c10⟩ := x.c11
      have ltx := x.lt
      have cm0r := G.cell cm0.out (G.trans hcb hbc13)
      have ca0r := G.cell ca0.out (G.trans hcb hbc13)
      have lt1 := cell_lt ca0r
      have lt2 := cell_lt cm0r
      dsimp only at lt1 lt2
      have hP13 := Lib.hid (hP4.out.grow (G.trans hcb hbc13))
      have hw00 : IntKind.i64.wrap 0 = 0 := by decide
      simp only [List.append_eq, List.cons_append, List.nil_append]
      refine wp_region_ord [(0, 1), (1, 1), (2, 1), (3, 1), (4, 1), (5, 1), (6, 2), (7, 1), (8, 1), (9, 2), (10, 2), (11, 2), (12, 1), (13, 1), (14, 1), (15, 1), (16, 1), (17, 2), (18, 1), (19, 1), (20, 1), (21, 1), (22, 1), (23, 1), (24, 1), (25, 1), (26, 1), (27, 1), (28, 1), (29, 1), (30, 1), (31, 2), (32, 1), (33, 1), (34, 1), (36, 1), (39, 1), (42, 1), (35, 2), (37, 2), (38, 1), (40, 2), (41, 1), (43, 2), (44, 1), (45, 1), (46, 1), (47, 1), (48, 1), (49, 1), (50, 2), (51, 1), (52, 1), (53, 1), (54, 1), (55, 1), (56, 2), (57, 1), (58, 1), (59, 1), (60, 1), (61, 1), (62, 2), (63, 1), (64, 1), (65, 1), (66, 1), (67, 2), (68, 1), (69, 1), (70, 1), (71, 1), (72, 2), (73, 1), (74, 1), (75, 1), (76, 1), (77, 2), (78, 1), (79, 1), (80, 1)] [] 14 (by kernel_rfl) (by decide +kernel) ?_
      simp only [pickO, List.append_eq, List.cons_append, List.nil_append, List.getElem?_cons_succ, List.getElem?_cons_zero]
      intro w0 hG
      (repeat ((first | (with_reducible refine ord_q1 ?_) | (with_reducible refine ord_q0 ?_)); intro K hK; first | (refine Or.inr ⟨?_, ?_⟩; (focus (go_simp; first | done | (simp [undef]; done))); go_simp; (with_reducible refine hK _ ?_); clear hK K) | (refine Or.inl ⟨?_, ?_⟩; (focus (go_simp; done)); apply Exists.intro; refine And.intro ?_ ?_; (focus (first | (intro wq hq; obtain ⟨hcq, hfq⟩ := G.old hq; go_simp; (first | done | exact rfl); done) | (intro wq; go_simp; (first | done | exact rfl); done))); go_simp; (with_reducible refine hK _ ?_); clear hK K) | fail))
      (with_reducible refine ord_run ?_ hG)
      intro K hK
      go_simp
      go_at_call 36; (with_reducible refine (is_any (hP13.out.grow hG.b).mdl (hP13.out.grow hG.b).chn).mono ?_); rintro e' wx1 ⟨rfl, hb1⟩
      replace hG := Grew.trans hG hb1
      (try dsimp only)
      (with_reducible refine hK _ _ hG ?_)
      clear hK K
      (repeat ((first | (with_reducible refine ord_q1 ?_) | (with_reducible refine ord_q0 ?_)); intro K hK; first | (refine Or.inr ⟨?_, ?_⟩; (focus (go_simp; first | done | (simp [undef]; done))); go_simp; (with_reducible refine hK _ ?_); clear hK K) | (refine Or.inl ⟨?_, ?_⟩; (focus (go_simp; done)); apply Exists.intro; refine And.intro ?_ ?_; (focus (first | (intro wq hq; obtain ⟨hcq, hfq⟩ := G.old hq; go_simp; (first | done | exact rfl); done) | (intro wq; go_simp; (first | done | exact rfl); done))); go_simp; (with_reducible refine hK _ ?_); clear hK K) | fail))
      (with_reducible refine ord_run ?_ hG)
      intro K hK
      go_simp
      replace hG := Grew.alloc hG (.cells #[.int .i64 1] 3)
      (with_reducible refine hK _ _ hG ?_)
      clear hK K
      (repeat ((first | (with_reducible refine ord_q1 ?_) | (with_reducible refine ord_q0 ?_)); intro K hK; first | (refine Or.inr ⟨?_, ?_⟩; (focus (go_simp; first | done | (simp [undef]; done))); go_simp; (with_reducible refine hK _ ?_); clear hK K) | (refine Or.inl ⟨?_, ?_⟩; (focus (go_simp; done)); apply Exists.intro; refine And.intro ?_ ?_; (focus (first | (intro wq hq; obtain ⟨hcq, hfq⟩ := G.old hq; go_simp; (first | done | exact rfl); done) | (intro wq; go_simp; (first | done | exact rfl); done))); go_simp; (with_reducible refine hK _ ?_); clear hK K) | fail))
      (with_reducible refine ord_run ?_ hG)
      intro K hK
      go_simp
      go_at_call 37; (with_reducible refine (item_any 1 _ 1 1 _).mono ?_); rintro e' wx2 ⟨rfl, hb2⟩
      replace hG := Grew.trans hG hb2
      (try dsimp only)
      (with_reducible refine hK _ _ hG ?_)
      clear hK K
      (repeat ((first | (with_reducible refine ord_q1 ?_) | (with_reducible refine ord_q0 ?_)); intro K hK; first | (refine Or.inr ⟨?_, ?_⟩; (focus (go_simp; first | done | (simp [undef]; done))); go_simp; (with_reducible refine hK _ ?_); clear hK K) | (refine Or.inl ⟨?_, ?_⟩; (focus (go_simp; done)); apply Exists.intro; refine And.intro ?_ ?_; (focus (first | (intro wq hq; obtain ⟨hcq, hfq⟩ := G.old hq; go_simp; (first | done | exact rfl); done) | (intro wq; go_simp; (first | done | exact rfl); done))); go_simp; (with_reducible refine hK _ ?_); clear hK K) | fail))
      (with_reducible refine ord_run ?_ hG)
      intro K hK
      go_simp
      go_at_call 22; (with_reducible refine (put_nil _ _ _ _ _ _ _ _ _ _ _ _).mono ?_); rintro e' wx3 ⟨rfl, hb3⟩
      replace hG := Grew.trans hG hb3
      (try dsimp only)
      (with_reducible refine hK _ _ hG ?_)
      clear hK K
      (repeat ((first | (with_reducible refine ord_q1 ?_) | (with_reducible refine ord_q0 ?_)); intro K hK; first | (refine Or.inr ⟨?_, ?_⟩; (focus (go_simp; first | done | (simp [undef]; done))); go_simp; (with_reducible refine hK _ ?_); clear hK K) | (refine Or.inl ⟨?_, ?_⟩; (focus (go_simp; done)); apply Exists.intro; refine And.intro ?_ ?_; (focus (first | (intro wq hq; obtain ⟨hcq, hfq⟩ := G.old hq; go_simp; (first | done | exact rfl); done) | (intro wq; go_simp; (first | done | exact rfl); done))); go_simp; (with_reducible refine hK _ ?_); clear hK K) | fail))
      (with_reducible refine ord_run ?_ hG)
      intro K hK
      go_simp
      go_at_call 19; (with_reducible refine (adv_nil _ _ _).mono ?_); rintro e' wx4 ⟨rfl, hb4⟩
      replace hG := Grew.trans hG hb4
      (try dsimp only)
      (with_reducible refine hK _ _ hG ?_)
      clear hK K
      (repeat ((first | (with_reducible refine ord_q1 ?_) | (with_reducible refine ord_q0 ?_)); intro K hK; first | (refine Or.inr ⟨?_, ?_⟩; (focus (go_simp; first | done | (simp [undef]; done))); go_simp; (with_reducible refine hK _ ?_); clear hK K) | (refine Or.inl ⟨?_, ?_⟩; (focus (go_simp; done)); apply Exists.intro; refine And.intro ?_ ?_; (focus (first | (intro wq hq; obtain ⟨hcq, hfq⟩ := G.old hq; go_simp; (first | done | exact rfl); done) | (intro wq; go_simp; (first | done | exact rfl); done))); go_simp; (with_reducible refine hK _ ?_); clear hK K) | fail))
      (with_reducible refine ord_run ?_ hG)
      intro K hK
      go_simp
      go_at_call 38; (with_reducible refine (empty_any 0 0 0 0 0 _ none none none none 0 0 0 0 0 0 0 0 _).mono ?_); rintro e' wx5 ⟨rfl, hb5⟩; rw [zero_z]
      replace hG := Grew.trans hG hb5
      (try dsimp only)
      (with_reducible refine hK _ _ hG ?_)
      clear hK K
      (repeat ((first | (with_reducible refine ord_q1 ?_) | (with_reducible refine ord_q0 ?_)); intro K hK; first | (refine Or.inr ⟨?_, ?_⟩; (focus (go_simp; first | done | (simp [undef]; done))); go_simp; (with_reducible refine hK _ ?_); clear hK K) | (refine Or.inl ⟨?_, ?_⟩; (focus (go_simp; done)); apply Exists.intro; refine And.intro ?_ ?_; (focus (first | (intro wq hq; obtain ⟨hcq, hfq⟩ := G.old hq; go_simp; (first | done | exact rfl); done) | (intro wq; go_simp; (first | done | exact rfl); done))); go_simp; (with_reducible refine hK _ ?_); clear hK K) | fail))
      (with_reducible refine ord_run ?_ hG)
      intro K hK
      go_simp
      go_at_call 21; (with_reducible refine (len0_any _).mono ?_); rintro e' wx6 ⟨rfl, hw⟩; subst hw; have hb6 := G.refl wx6
      replace hG := Grew.trans hG hb6
      (try dsimp only)
      (with_reducible refine hK _ _ hG ?_)
      clear hK K
      (repeat ((first | (with_reducible refine ord_q1 ?_) | (with_reducible refine ord_q0 ?_)); intro K hK; first | (refine Or.inr ⟨?_, ?_⟩; (focus (go_simp; first | done | (simp [undef]; done))); go_simp; (with_reducible refine hK _ ?_); clear hK K) | (refine Or.inl ⟨?_, ?_⟩; (focus (go_simp; done)); apply Exists.intro; refine And.intro ?_ ?_; (focus (first | (intro wq hq; obtain ⟨hcq, hfq⟩ := G.old hq; go_simp; (first | done | exact rfl); done) | (intro wq; go_simp; (first | done | exact rfl); done))); go_simp; (with_reducible refine hK _ ?_); clear hK K) | fail))
      (with_reducible refine ord_run ?_ hG)
      intro K hK
      go_simp
      go_at_call 20; (with_reducible refine (room_nil _).mono ?_); rintro e' wx8 ⟨rfl, hw⟩; subst hw; have hb8 := G.refl wx8
      replace hG := Grew.trans hG hb8
      (try dsimp only)
      (with_reducible refine hK _ _ hG ?_)
      clear hK K
      (repeat ((first | (with_reducible refine ord_q1 ?_) | (with_reducible refine ord_q0 ?_)); intro K hK; first | (refine Or.inr ⟨?_, ?_⟩; (focus (go_simp; first | done | (simp [undef]; done))); go_simp; (with_reducible refine hK _ ?_); clear hK K) | (refine Or.inl ⟨?_, ?_⟩; (focus (go_simp; done)); apply Exists.intro; refine And.intro ?_ ?_; (focus (first | (intro wq hq; obtain ⟨hcq, hfq⟩ := G.old hq; go_simp; (first | done | exact rfl); done) | (intro wq; go_simp; (first | done | exact rfl); done))); go_simp; (with_reducible refine hK _ ?_); clear hK K) | fail))
      (with_reducible refine ord_run ?_ hG)
      intro K hK
      go_simp
      go_at_call 39; (with_reducible refine (cap_nil _).mono ?_); rintro e' wx7 ⟨rfl, hw⟩; subst hw; have hb7 := G.refl wx7
      replace hG := Grew.trans hG hb7
      (try dsimp only)
      (with_reducible refine hK _ _ hG ?_)
      clear hK K
      (repeat ((first | (with_reducible refine ord_q1 ?_) | (with_reducible refine ord_q0 ?_)); intro K hK; first | (refine Or.inr ⟨?_, ?_⟩; (focus (go_simp; first | done | (simp [undef]; done))); go_simp; (with_reducible refine hK _ ?_); clear hK K) | (refine Or.inl ⟨?_, ?_⟩; (focus (go_simp; done)); apply Exists.intro; refine And.intro ?_ ?_; (focus (first | (intro wq hq; obtain ⟨hcq, hfq⟩ := G.old hq; go_simp; (first | done | exact rfl); done) | (intro wq; go_simp; (first | done | exact rfl); done))); go_simp; (with_reducible refine hK _ ?_); clear hK K) | fail))
      (with_reducible refine ord_run ?_ hG)
      intro K hK
      go_simp
      go_at_call 40; (with_reducible refine (items_nil _).mono ?_); rintro e' wx9 ⟨rfl, hb9⟩
      replace hG := Grew.trans hG hb9
      (try dsimp only)
      (with_reducible refine hK _ _ hG ?_)
      clear hK K
      (repeat ((first | (with_reducible refine ord_q1 ?_) | (with_reducible refine ord_q0 ?_)); intro K hK; first | (refine Or.inr ⟨?_, ?_⟩; (focus (go_simp; first | done | (simp [undef]; done))); go_simp; (with_reducible refine hK _ ?_); clear hK K) | (refine Or.inl ⟨?_, ?_⟩; (focus (go_simp; done)); apply Exists.intro; refine And.intro ?_ ?_; (focus (first | (intro wq hq; obtain ⟨hcq, hfq⟩ := G.old hq; go_simp; (first | done | exact rfl); done) | (intro wq; go_simp; (first | done | exact rfl); done))); go_simp; (with_reducible refine hK _ ?_); clear hK K) | fail))
      (with_reducible refine ord_run ?_ hG)
      intro K hK
      go_simp
      go_at_call 23; (with_reducible refine (mark_nil _).mono ?_); rintro e' wx10 ⟨rfl, hb10⟩
      replace hG := Grew.trans hG hb10
      (try dsimp only)
      (with_reducible refine hK _ _ hG ?_)
      clear hK K
      (repeat ((first | (with_reducible refine ord_q1 ?_) | (with_reducible refine ord_q0 ?_)); intro K hK; first | (refine Or.inr ⟨?_, ?_⟩; (focus (go_simp; first | done | (simp [undef]; done))); go_simp; (with_reducible refine hK _ ?_); clear hK K) | (refine Or.inl ⟨?_, ?_⟩; (focus (go_simp; done)); apply Exists.intro; refine And.intro ?_ ?_; (focus (first | (intro wq hq; obtain ⟨hcq, hfq⟩ := G.old hq; go_simp; (first | done | exact rfl); done) | (intro wq; go_simp; (first | done | exact rfl); done))); go_simp; (with_reducible refine hK _ ?_); clear hK K) | fail))
      (with_reducible refine ord_run ?_ hG)
      intro K hK
      go_simp
      go_at_call 41; (with_reducible refine (least_nil _).mono ?_); rintro e' wx11 ⟨rfl, hb11⟩
      replace hG := Grew.trans hG hb11
      (try dsimp only)
      (with_reducible refine hK _ _ hG ?_)
      clear hK K
      (repeat ((first | (with_reducible refine ord_q1 ?_) | (with_reducible refine ord_q0 ?_)); intro K hK; first | (refine Or.inr ⟨?_, ?_⟩; (focus (go_simp; first | done | (simp [undef]; done))); go_simp; (with_reducible refine hK _ ?_); clear hK K) | (refine Or.inl ⟨?_, ?_⟩; (focus (go_simp; done)); apply Exists.intro; refine And.intro ?_ ?_; (focus (first | (intro wq hq; obtain ⟨hcq, hfq⟩ := G.old hq; go_simp; (first | done | exact rfl); done) | (intro wq; go_simp; (first | done | exact rfl); done))); go_simp; (with_reducible refine hK _ ?_); clear hK K) | fail))
      (with_reducible refine ord_run ?_ hG)
      intro K hK
      go_simp
      go_at_call 34; (with_reducible refine (clone_nil _).mono ?_); rintro e' wx12 ⟨rfl, hb12⟩
      replace hG := Grew.trans hG hb12
      (try dsimp only)
      (with_reducible refine hK _ _ hG ?_)
      clear hK K
      (repeat ((first | (with_reducible refine ord_q1 ?_) | (with_reducible refine ord_q0 ?_)); intro K hK; first | (refine Or.inr ⟨?_, ?_⟩; (focus (go_simp; first | done | (simp [undef]; done))); go_simp; (with_reducible refine hK _ ?_); clear hK K) | (refine Or.inl ⟨?_, ?_⟩; (focus (go_simp; done)); apply Exists.intro; refine And.intro ?_ ?_; (focus (first | (intro wq hq; obtain ⟨hcq, hfq⟩ := G.old hq; go_simp; (first | done | exact rfl); done) | (intro wq; go_simp; (first | done | exact rfl); done))); go_simp; (with_reducible refine hK _ ?_); clear hK K) | fail))
      (with_reducible refine ord_run ?_ hG)
      intro K hK
      go_simp
      go_at_call 35; (with_reducible refine (eq_nil _).mono ?_); rintro e' wx13 ⟨rfl, hb13⟩
      replace hG := Grew.trans hG hb13
      (try dsimp only)
      (with_reducible refine hK _ _ hG ?_)
      clear hK K
      (repeat ((first | (with_reducible refine ord_q1 ?_) | (with_reducible refine ord_q0 ?_)); intro K hK; first | (refine Or.inr ⟨?_, ?_⟩; (focus (go_simp; first | done | (simp [undef]; done))); go_simp; (with_reducible refine hK _ ?_); clear hK K) | (refine Or.inl ⟨?_, ?_⟩; (focus (go_simp; done)); apply Exists.intro; refine And.intro ?_ ?_; (focus (first | (intro wq hq; obtain ⟨hcq, hfq⟩ := G.old hq; go_simp; (first | done | exact rfl); done) | (intro wq; go_simp; (first | done | exact rfl); done))); go_simp; (with_reducible refine hK _ ?_); clear hK K) | fail))
      (with_reducible refine ord_run ?_ hG)
      intro K hK
      go_simp
      go_at_call 35; (with_reducible refine (eq_nil1 _ _).mono ?_); rintro e' wx14 ⟨rfl, hb14⟩
      replace hG := Grew.trans hG hb14
      (try dsimp only)
      (with_reducible refine hK _ _ hG ?_)
      clear hK K
      (repeat ((first | (with_reducible refine ord_q1 ?_) | (with_reducible refine ord_q0 ?_)); intro K hK; first | (refine Or.inr ⟨?_, ?_⟩; (focus (go_simp; first | done | (simp [undef]; done))); go_simp; (with_reducible refine hK _ ?_); clear hK K) | (refine Or.inl ⟨?_, ?_⟩; (focus (go_simp; done)); apply Exists.intro; refine And.intro ?_ ?_; (focus (first | (intro wq hq; obtain ⟨hcq, hfq⟩ := G.old hq; go_simp; (first | done | exact rfl); done) | (intro wq; go_simp; (first | done | exact rfl); done))); go_simp; (with_reducible refine hK _ ?_); clear hK K) | fail))
      (with_reducible refine ord_run ?_ hG)
      intro K hK
      go_simp
      go_at_call 35; (with_reducible refine (eq_nil2 _ _).mono ?_); rintro e' wx15 ⟨rfl, hb15⟩
      replace hG := Grew.trans hG hb15
      (try dsimp only)
      (with_reducible refine hK _ _ hG ?_)
      clear hK K
      (repeat ((first | (with_reducible refine ord_q1 ?_) | (with_reducible refine ord_q0 ?_)); intro K hK; first | (refine Or.inr ⟨?_, ?_⟩; (focus (go_simp; first | done | (simp [undef]; done))); go_simp; (with_reducible refine hK _ ?_); clear hK K) | (refine Or.inl ⟨?_, ?_⟩; (focus (go_simp; done)); apply Exists.intro; refine And.intro ?_ ?_; (focus (first | (intro wq hq; obtain ⟨hcq, hfq⟩ := G.old hq; go_simp; (first | done | exact rfl); done) | (intro wq; go_simp; (first | done | exact rfl); done))); go_simp; (with_reducible refine hK _ ?_); clear hK K) | fail))
      (with_reducible refine ord_nil ?_)
      go_wp2_with fail
      go_ret
      exact ⟨rfl, G.trans (G.trans hbwc hbc13) hG.b⟩
end Go.Proofs.Ytjldpodehffbnaa
