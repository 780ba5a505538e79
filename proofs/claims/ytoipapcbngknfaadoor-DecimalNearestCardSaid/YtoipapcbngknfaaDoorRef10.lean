/- What the reference's Minus and Nearest compute. -/
import Derived.Test.YtoipapcbngknfaaDoorRef8
import Derived.Test.YtoipapcbngknfaaDoorDivM
namespace Go.Proofs.YtoipapcbngknfaaDoor
set_option linter.unusedVariables false
set_option linter.unnecessarySimpa false
set_option linter.unusedSimpArgs false
open Go.RowKit

theorem sgn_neg (z : Int) : sgn (-z) = -sgn z := by unfold sgn; (repeat' split) <;> omega
theorem sgn_pos {z : Int} (h : 0 < z) : sgn z = 1 := by unfold sgn; rw [if_neg (by omega), if_neg (by omega)]
theorem sgn_bd (z : Int) : -1 ≤ sgn z ∧ sgn z ≤ 1 := by unfold sgn; (repeat' split) <;> omega
theorem Wd.neg {w : World} {A : Option Addr} {n c : Nat} {z : Int} (h : Wd w A n c z) : Wd w A n c (-z) := by unfold Wd at *; rw [Int.natAbs_neg]; exact h
set_option maxRecDepth 20000 in set_option maxHeartbeats 400000 in
theorem minus_any (z : Int) (A : Option Addr) (n c : Nat) (w : World) :
    Calls Tryd.prog 21 #[.agg #[.int .i64 (sgn z), .slice A n c]] w fun e w' => e = .returned (.agg #[.int .i64 (sgn (-z)), .slice A n c]) ∧ Below w.heap.size w w' := by
  have hb := sgn_bd z
  rw [sgn_neg]
  generalize sgn z = s at *
  have hw : IntKind.i64.wrap (-s) = -s := IntWalk.i64_in _ (by omega)
  clear hb
  go_enter Tryd.func21, Tryd.ntmps21
  go_wp2
  exact bodyPost_ret (v := .agg #[.int .i64 (-s), .slice A n c]) (by simp only [results, Tryd.results21]; go_simp) rfl ⟨rfl, by repeat (first | with_reducible assumption | with_reducible exact G.refl _ | with_reducible refine G.drew ?_ | with_reducible refine G.drewN ?_ _ | with_reducible refine G.alloc ?_ _ | with_reducible refine Below.setCell ?_ (by first | (simp; done) | (simp; omega)) _ | with_reducible refine G.trans ?_ hb12 | with_reducible refine G.trans ?_ hb11 | with_reducible refine G.trans ?_ hb10 | with_reducible refine G.trans ?_ hb9 | with_reducible refine G.trans ?_ hb8 | with_reducible refine G.trans ?_ hb7 | with_reducible refine G.trans ?_ hb6 | with_reducible refine G.trans ?_ hb5 | with_reducible refine G.trans ?_ hb4 | with_reducible refine G.trans ?_ hb3 | with_reducible refine G.trans ?_ hb2 | with_reducible refine G.trans ?_ hb1 | with_reducible refine G.trans ?_ hb | assumption)⟩

theorem Box2.set2 {w : World} {B : Nat} {u v x y : Value} (h : Box2 w B u v) : Box2 ((w.setCell ⟨B, 0, none⟩ x).setCell ⟨B, 1, none⟩ y) B x y := by
  obtain ⟨h1, h2, h3, h4⟩ := h
  exact ⟨by go_simp, by go_simp, by go_simp, by go_simp⟩
theorem Wd.zero (w : World) : Wd w none 0 0 0 := by
  refine ⟨?_, Nat.le_refl _, Nat.zero_le _⟩
  rw [show (0 : Int).natAbs = 0 from rfl, digs_zero]
  exact Sl.nil _ _
theorem Wd.set {w : World} {A : Option Addr} {n c : Nat} {z : Int} (h : Wd w A n c z) {N : Nat} (ha : Abv N A) {p : Addr} (hp : p.block < N) (u : Value) : Wd (w.setCell p u) A n c z := ⟨h.1.setCell ha hp u, h.2⟩
/-- A wide integer of an argument's: a store elsewhere. -/
theorem Sl.old {w0 w : World} {A : Option Addr} {n : Nat} {xs : List Value} (h : Sl w0 A n xs) (hb : Below w0.heap.size w0 w) : Sl w A n xs := h.grow hb
def rdI (w : World) (a : Addr) : Int := match w.cell? a with
  | some (.int _ x) => x
  | _ => 0
theorem rdI_of {w : World} {a : Addr} {k : IntKind} {x : Int} (h : w.cell? a = some (.int k x)) : rdI w a = x := by unfold rdI; rw [h]
theorem own_lit1 {w : World} {base g : Nat} {e : TypeId} {v : Value} (hg : g = w.heap.size) (hb : base ≤ g) : (w.alloc (.cells #[v] e)).ownsRow base e 1 (.slice (some ⟨g, 0, none⟩) 1 1) 1 [v] := by
  subst hg
  exact ⟨rfl, .inr ⟨w.heap.size, 1, #[v], rfl, hb, heap_alloc_new w _, Nat.le_refl _, by unfold maxLen; omega, rfl, rfl⟩⟩
theorem len_digs_mono {a b : Nat} (h : a ≤ b) : (digs a).length ≤ (digs b).length := by
  refine len_digs_le ?_
  have h1 := valD_lt (dig_digs b)
  rw [valD_digs] at h1
  have h2 : ((10 ^ (digs b).length : Nat) : Int) = p10 (digs b).length := by unfold p10; simp
  omega
theorem Wd.len_le {w : World} {A : Option Addr} {n c : Nat} {r z : Int} (h : Wd w A n c r) (h0 : 0 ≤ r) (h1 : r ≤ z) {m : Nat} (hm : (digs z.natAbs).length = m) : n ≤ m := by
  have := len_digs_mono (a := r.natAbs) (b := z.natAbs) (by omega)
  rw [h.len, hm] at this
  exact this
theorem len_ten {r z : Int} {w : World} {A : Option Addr} {n c : Nat} (h : Wd w A n c r) (h0 : 0 ≤ r) (hz : 0 < z) (h1 : r ≤ 10 * z) {m : Nat} (hm : (digs z.natAbs).length = m) : n ≤ m + 1 := by
  have h2 := h.len_le h0 h1 (m := m + 1) (by
    rw [digs_pos (by omega), show (10 * z).natAbs / 10 = z.natAbs by omega, List.length_cons, hm])
  exact h2
/-- The digit in front of the rest. -/
theorem front_val {d r : Int} (hr : 0 ≤ r) : valD (d :: digs r.natAbs) = d + 10 * r := by
  simp only [valD, valD_digs]
  omega
theorem front_dig {d r : Int} (h0 : 0 ≤ d) (h9 : d ≤ 9) : Dig (d :: digs r.natAbs) := Dig.mk h0 h9 (dig_digs _)
theorem tsgn1 {l : List Int} (hd : Dig l) {v : Int} (hv : valD l = v) : tsgn 1 l = sgn v ∧ (valD l).toNat = v.natAbs := by
  have := valD_nonneg hd
  subst hv
  unfold tsgn sgn
  refine ⟨?_, by omega⟩
  (repeat' split) <;> omega
/-- What the digits found give. -/
def NearI (xs L : List Int) (z r : Int) (i : Nat) : Prop := Near xs L z r i ∧ 0 ≤ r ∧ Dig L ∧ ∀ j, j < i → dg L j = 0
theorem dg_rep (N i : Nat) : dg (List.replicate N 0) i = 0 := by
  unfold dg
  rw [List.getD_eq_getElem?_getD, List.getElem?_replicate]
  split <;> rfl
theorem dig_rep (N : Nat) : Dig (List.replicate N 0) := fun d hd => by
  have := List.eq_of_mem_replicate hd
  omega
theorem dig_setD {L : List Int} (h : Dig L) {y : Int} (h0 : 0 ≤ y) (h9 : y ≤ 9) (i : Nat) : Dig (L.set i y) := fun x hx => by
  rcases List.mem_or_eq_of_mem_set hx with h' | rfl
  · exact h x h'
  · exact ⟨h0, h9⟩
theorem nearI_start {xs : List Int} {z : Int} {n : Nat} (hn : xs.length = n) : NearI xs (List.replicate n 0) z 0 n := by
  refine ⟨?_, Int.le_refl _, dig_rep _, fun j _ => dg_rep _ _⟩
  unfold Near
  rw [List.drop_of_length_le (by omega), List.drop_of_length_le (by simp)]
  simp [valD]
theorem nearI_next {xs L : List Int} {z r d : Int} {i : Nat} (h : NearI xs L z r (i + 1)) (hx : dg xs i = d) (hd : 0 ≤ d) : NearI xs L z (d + 10 * r) i :=
  ⟨near_next h.1 hx (h.2.2.2 i (by omega)), by have := h.2.1; omega, h.2.2.1, fun j hj => h.2.2.2 j (by omega)⟩
theorem nearI_sub {xs L : List Int} {z r : Int} {i : Nat} (hi : i < L.length) (h : NearI xs L z r i) (hz : z ≤ r) (hc : dg L i + 1 ≤ 9) : NearI xs (L.set i (dg L i + 1)) z (r - z) i :=
  ⟨near_sub hi h.1, by omega, dig_setD h.2.2.1 (by have := dg_dig h.2.2.1 i; omega) hc i, fun j hj => by rw [dg_set_ne _ (by omega)]; exact h.2.2.2 j hj⟩
theorem rnd_of {X z Q r : Int} (hQ : Q = X / z) (hr : r = X % z) : rnd X z = if z < 2 * r ∨ (2 * r = z ∧ Q % 2 = 1) then Q + 1 else Q := by subst hQ hr; rfl

theorem wd_other {w : World} {b o n c : Nat} {z : Int} (h : Wd w (some ⟨b, o, none⟩) n c z) {X i : Nat} (hne : X ≠ b) (u : Value) : Wd (w.setCell ⟨X, i, none⟩ u) (some ⟨b, o, none⟩) n c z := by
  refine ⟨⟨h.1.1, fun hn => ?_⟩, h.2⟩
  obtain ⟨b', off, e, hl, hc⟩ := h.1.2 hn
  injection e with e
  injection e with e1 e2 e3
  subst e1 e2
  refine ⟨_, _, rfl, by simpa [World.setCell] using hl, fun j v hv => ?_⟩
  rw [World.cell?_setCell_other _ _ _ _ (fun e' => hne (by injection e'))]
  exact hc j v hv
theorem near_digit2 {b c r T : Int} (hb : 0 < b) (h : b * c + r = T) (hr : 0 ≤ r) (hT : T < 10 * b) : c ≤ 9 := by
  rcases Int.lt_or_le c 10 with h' | h'
  · omega
  · have : b * 10 ≤ b * c := Int.mul_le_mul_of_nonneg_left h' (Int.le_of_lt hb)
    omega
theorem len_one : (digs (1 : Int).natAbs).length = 1 := by rw [show (1 : Int).natAbs = 1 from rfl, digs_pos (by omega), show 1 / 10 = 0 from rfl, digs_zero]; rfl
theorem plus1_any (Q : Int) (A B : Option Addr) (n m c d N : Nat) (w : World) (hQ : 0 ≤ Q) (ha : Wd w A n c Q) (hb : Wd w B m d 1) (hn : n ≤ 1000) (hm : m ≤ 1000) (hB : Abv N B) (hN : N ≤ w.heap.size) :
    Calls Tryd.prog 19 #[.agg #[.int .i64 (sgn Q), .slice A n c], .agg #[.int .i64 (sgn 1), .slice B m d]] w fun e w' => ∃ A9 n9 c9, e = .returned (.agg #[.int .i64 (sgn (Q + 1)), .slice A9 n9 c9]) ∧ Wd w' A9 n9 c9 (Q + 1) ∧ Abv N A9 ∧ Below w.heap.size w w' := by
  by_cases h0 : Q = 0
  · subst h0
    rw [show sgn 0 = 0 from rfl]
    exact (plus_l0 (sgn 1) A B n m c d w).mono fun e w' h => ⟨B, m, d, by rw [show (0 : Int) + 1 = 1 from rfl]; exact h.1, by rw [show (0 : Int) + 1 = 1 from rfl]; exact hb.grow h.2, hB, h.2⟩
  · have := plus_pp A B n m c d _ _ w ha.1 hb.1 (dig_digs _) (dig_digs _) hn hm
    rw [valD_digs, valD_digs, show (1 : Int) * (((Q.natAbs : Nat) : Int) + 1 * (((1 : Int).natAbs : Nat) : Int)) = Q + 1 by omega] at this
    rw [sgn_pos (show 0 < Q by omega), sgn_pos (show (0 : Int) < 1 by omega)]
    exact this.mono fun e w' h => by
      obtain ⟨A9, n9, c9, h1, h2, h3, h4⟩ := h
      exact ⟨A9, n9, c9, h1, h2, h3.mono hN, h4⟩
/-- The quotient of y and z, rounded. -/
def nearV (y z : Int) : Int := if y < 0 then -rnd y.natAbs z else rnd y.natAbs z
set_option maxRecDepth 20000 in set_option maxHeartbeats 4000000 in
theorem nearest_any (y z : Int) (A B : Option Addr) (n m c d : Nat) (w : World) (hx : Wd w A n c y) (hy : Wd w B m d z) (hz : 0 < z) (hn : n ≤ 100) (hm : m ≤ 100) :
    Calls Tryd.prog 45 #[.agg #[.int .i64 (sgn y), .slice A n c], .agg #[.int .i64 (sgn z), .slice B m d]] w (RetV (nearV y z) w) := by
  obtain ⟨i0, hi0, hz0, hz1, hz2⟩ := info_parts Tryd.infoI
  have hsl := hx.1
  have hlx := Lib.hid hsl.len
  have hmz := Lib.hid hy.len
  have HX := Lib.hid (dig_digs y.natAbs)
  have hV1 := Lib.hid (valD_digs y.natAbs)
  have hs1 : Hid (sgn y < 0 ↔ y < 0) := by unfold Hid sgn; (repeat' split) <;> omega
  have hzz := Lib.hid hz
  have AB : Hid (∀ (r : Int) A5 n5 c5 (wq : World), 0 ≤ r → n5 ≤ 1000 → Wd wq A5 n5 c5 r → Wd wq B m d z → Calls Tryd.prog 46 #[.agg #[.int .i64 (sgn r), .slice A5 n5 c5], .agg #[.int .i64 (sgn z), .slice B m d]] wq fun e w' => e = .returned (.int .i64 (cmpI r z)) ∧ Below wq.heap.size wq w') := by
    intro r A5 n5 c5 wq h0 hn5 hr hb
    have := above_any (sgn r) (sgn z) A5 B n5 m c5 d _ _ wq hr.1 hb.1 (dig_digs r.natAbs) (dig_digs z.natAbs) (by omega) (by omega)
    rw [valD_digs, valD_digs, show ((r.natAbs : Nat) : Int) = r by omega, show ((z.natAbs : Nat) : Int) = z by omega] at this
    exact this
  have PS : Hid (∀ (r : Int) A5 n5 c5 (wq : World), z ≤ r → n5 ≤ 1000 → Wd wq A5 n5 c5 r → Wd wq B m d z → Calls Tryd.prog 19 #[.agg #[.int .i64 (sgn r), .slice A5 n5 c5], .agg #[.int .i64 (sgn (-z)), .slice B m d]] wq (RetW (r - z) wq)) := by
    intro r A5 n5 c5 wq h0 hn5 hr hb
    have := plus_pm A5 B n5 m c5 d _ _ wq hr.1 hb.1 (dig_digs r.natAbs) (dig_digs z.natAbs) (by omega) (by omega) (by rw [valD_digs, valD_digs]; omega)
    rw [valD_digs, valD_digs, show 1 * (((r.natAbs : Nat) : Int) + -1 * ((z.natAbs : Nat) : Int)) = r - z by omega] at this
    rw [sgn_pos (show 0 < r by omega), sgn_neg, sgn_pos (show 0 < z by omega)]
    exact this
  have ONE : Hid (∀ w, Calls Tryd.prog 23 #[.int .i64 1, .int .i64 0] w (RetW 1 w)) := fun w => by
    have := of_any 1 0 w (by omega) (by omega) (by omega)
    rwa [p10_zero, Int.mul_one] at this
  have MZ := Lib.hid (fun w => minus_any z B m d w)
  have sz := sgn_bd z
  generalize hxs : digs y.natAbs = xs at *
  clear hxs
  have hmk := fun w => run_makeSlice (P := Tryd.prog) w 31 3 i0 (.int .i64 0) Tryd.underlying31 hi0 hz0 .i64 .i64 n n (by omega) (Int.le_refl _) (by rw [hz1, Int.toNat_natCast]; omega) (by rw [hz2]; omega) (by omega)
  rw [hz1, Int.toNat_natCast, Nat.mul_one, made_row] at hmk
  generalize hsy : sgn y = s1 at *
  clear hsy
  generalize hsz' : sgn z = s2 at *
  have hs2 := Lib.hid hsz'
  clear hsz'
  go_enter Tryd.func45, Tryd.ntmps45
  go_wp2_with fail
  obtain ⟨X3, hX3⟩ : ∃ X, Hid (w.heap.size + 1 + 1 + 1 = X) := ⟨_, rfl⟩
  refine wp_name (fun w1 => Below w.heap.size w w1 ∧ w.heap.size + 1 + 1 < X3 ∧ X3 + 1 + 1 < w1.heap.size ∧ Box2 w1 w.heap.size (.int .i64 s1) (.slice A n c) ∧ Box2 w1 (w.heap.size + 1) (.int .i64 s2) (.slice B m d) ∧ Box2 w1 (w.heap.size + 1 + 1) (.int .i64 0) (.slice none 0 0) ∧ Box2 w1 X3 (.int .i64 0) (.slice none 0 0) ∧ Row w1 (X3 + 1) n (List.replicate n 0) ∧ Box2 w1 (X3 + 1 + 1) (.int .i64 1) (.slice (some ⟨X3 + 1, 0, none⟩) n n)) ⟨by repeat (first | with_reducible assumption | with_reducible exact G.refl _ | with_reducible refine G.drew ?_ | with_reducible refine G.drewN ?_ _ | with_reducible refine G.alloc ?_ _ | with_reducible refine Below.setCell ?_ (by first | (simp; done) | (simp; omega)) _ | with_reducible refine G.trans ?_ hb12 | with_reducible refine G.trans ?_ hb11 | with_reducible refine G.trans ?_ hb10 | with_reducible refine G.trans ?_ hb9 | with_reducible refine G.trans ?_ hb8 | with_reducible refine G.trans ?_ hb7 | with_reducible refine G.trans ?_ hb6 | with_reducible refine G.trans ?_ hb5 | with_reducible refine G.trans ?_ hb4 | with_reducible refine G.trans ?_ hb3 | with_reducible refine G.trans ?_ hb2 | with_reducible refine G.trans ?_ hb1 | with_reducible refine G.trans ?_ hb | assumption), by have := hX3.out; omega, by rw [← hX3.out]; simp, ⟨by go_simp, by go_simp, by go_simp, by go_simp⟩, ⟨by go_simp, by go_simp, by go_simp, by go_simp⟩, ⟨by go_simp, by go_simp, by go_simp, by go_simp⟩, by rw [← hX3.out]; exact ⟨by go_simp, by go_simp, by go_simp, by go_simp⟩, by rw [← hX3.out]; exact ((Row.new (rep_row n) (by simp) (by simp)).alloc _), by rw [← hX3.out]; exact ⟨by go_simp, by go_simp, by go_simp, by go_simp⟩⟩ ?_

  rintro w1 ⟨hb1, hX2, hXl, hBa, hBb, hBr, hBx, hRow, hBo⟩
  rw [hX3.out]
  clear hmk hX3
  have hsz1 := hb1.size
  go_loopw [7] (fun iv wr => ∃ (v r sr : Int) (L : List Int) (A5 : Option Addr) (n5 c5 : Nat), iv = .int .i64 v ∧ -1 ≤ v ∧ v < n ∧ Hid (NearI xs L z r (v + 1).toNat ∧ r < z) ∧ Hid (sr = sgn r) ∧ Hid (Wd wr A5 n5 c5 r ∧ Abv w1.heap.size A5) ∧ Row wr (X3 + 1) n L ∧ Below w.heap.size w wr ∧ w1.heap.size ≤ wr.heap.size ∧ Box2 wr (X3 + 1 + 1) (.int .i64 1) (.slice (some ⟨X3 + 1, 0, none⟩) n n) ∧ Box2 wr X3 (.int .i64 sr) (.slice A5 n5 c5) ∧ Box2 wr w.heap.size (.int .i64 s1) (.slice A n c) ∧ Box2 wr (w.heap.size + 1) (.int .i64 s2) (.slice B m d) ∧ Box2 wr (w.heap.size + 1 + 1) (.int .i64 0) (.slice none 0 0)) (fun iv _ => (intOf iv + 1).toNat)
  case atStart => exact ⟨(n : Int) - 1, 0, 0, List.replicate n 0, none, 0, 0, by first | rfl | go_num, by omega, by omega, ⟨by rw [show ((n : Int) - 1 + 1).toNat = n by omega]; exact nearI_start hlx.out, hzz.out⟩, rfl, ⟨Wd.zero _, Abv.none_ _⟩, hRow, hb1, Nat.le_refl _, hBo, hBx, hBa, hBb, hBr⟩
  case round =>
    obtain ⟨v, r, sr, L, A5, n5, c5, rfl, hv0, hvn, hI, hsr, hW, hRr, hbr, hszr, hBo', hBx', hBa', hBb', hBr'⟩ := hrel
    clear hRow hBo hBx hBa hBb hBr
    have hr0 := hI.out.1.2.1
    have hrz := hI.out.2
    have hn5 : n5 ≤ m := hW.out.1.len_le hr0 (by omega) hmz.out
    by_cases hv1 : 0 ≤ v
    · obtain ⟨k, rfl⟩ : ∃ k : Nat, v = k := ⟨v.toNat, by omega⟩
      rw [show ((k : Int) + 1).toNat = k + 1 by omega] at hI
      have hkn : k < n := by omega
      obtain ⟨bA, oA, dk, hA, hbA, hdk, hcA⟩ := (hsl.grow hbr).at_ hkn
      have hdg : dg xs k = dk := by unfold dg; rw [List.getD_eq_getElem?_getD, hdk]; rfl
      have hdd := HX.out dk (List.mem_of_getElem? hdk)
      have hI2 := nearI_next hI.out.1 hdg hdd.1
      have hcz := hI.out.1.2.2.2 k (by omega)
      have hts := tsgn1 (front_dig (r := r) hdd.1 hdd.2) (front_val (d := dk) hr0)
      have hfd := Lib.hid (front_dig (r := r) hdd.1 hdd.2)
      have hws := hW.out.1.1
      have hTb : dk + 10 * r < 10 * z := by omega
      obtain ⟨T, hT⟩ : ∃ T, dk + 10 * r = T := ⟨_, rfl⟩
      rw [hT] at hI2 hts hTb
      replace hI2 := Lib.hid hI2
      replace hts := Lib.hid hts
      replace hTb := Lib.hid hTb
      replace hcz := Lib.hid hcz
      clear hT hdg hdk hI hdd
      obtain ⟨a0, a1, _, _⟩ := id hBa'
      rw [hA] at a1
      replace hA := Lib.hid hA
      obtain ⟨x0, x1, x2, x3⟩ := id hBx'
      have lta := hBa'.lt
      have ltx := hBx'.lt
      go_wp2_with fail
      refine wp_region_ord [(0, 1), (1, 1), (2, 1), (3, 1), (4, 1), (6, 1), (7, 1), (5, 2), (8, 2), (9, 1), (10, 2), (11, 3)] [11] 5 (by kernel_rfl) (by decide +kernel) ?_
      simp only [pickO, List.getElem?_cons_succ, List.getElem?_cons_zero]
      intro w0 hG
      (repeat ((first | (with_reducible refine ord_q1 ?_) | (with_reducible refine ord_q0 ?_)); intro K hK; first | (refine Or.inr ⟨?_, ?_⟩; (focus (go_simp; first | done | (simp [undef]; done))); go_simp; (with_reducible refine hK _ ?_); clear hK K) | (refine Or.inl ⟨?_, ?_⟩; (focus (go_simp; done)); apply Exists.intro; refine And.intro ?_ ?_; (focus (first | (intro wq hq; obtain ⟨hcq, hfq⟩ := G.old hq; go_simp; (first | done | exact rfl); done) | (intro wq; go_simp; (first | done | exact rfl); done))); go_simp; (with_reducible refine hK _ ?_); clear hK K) | fail))
      have hGo := hG
      have hszo := hGo.b.size
      (with_reducible refine ord_run ?_ hG)
      intro K hK
      go_simp
      replace hG := Grew.alloc hG (.cells #[.int .i64 dk] 3)
      (with_reducible refine hK _ _ hG ?_)
      clear hK K
      (repeat ((first | (with_reducible refine ord_q1 ?_) | (with_reducible refine ord_q0 ?_)); intro K hK; first | (refine Or.inr ⟨?_, ?_⟩; (focus (go_simp; first | done | (simp [undef]; done))); go_simp; (with_reducible refine hK _ ?_); clear hK K) | (refine Or.inl ⟨?_, ?_⟩; (focus (go_simp; done)); apply Exists.intro; refine And.intro ?_ ?_; (focus (first | (intro wq hq; obtain ⟨hcq, hfq⟩ := G.old hq; go_simp; (first | done | exact rfl); done) | (intro wq; go_simp; (first | done | exact rfl); done))); go_simp; (with_reducible refine hK _ ?_); clear hK K) | fail))
      (with_reducible refine ord_run ?_ hG)
      intro K hK
      refine step_app _ rfl (.tmp 29) (.tmp 31) _ rfl w0.heap.size 3 i0 _ 1 8 Tryd.underlying31 hi0 hz0 hz1 hz2 rfl Nat.zero_lt_one (.slice (some ⟨w0.heap.size, 0, none⟩) 1 1) 1 [.int .i64 dk] rfl (own_lit1 rfl (Nat.le_refl _)) A5 n5 c5 (i64s (digs r.natAbs)) rfl (by rw [Nat.mul_one]; exact (hws.grow hGo.b).alloc _) (oneCell_i64s _) (by show _ ≤ 2 ^ 63 - 1; omega) (by omega) (by simp) ?_; intro A3 c3 w3 hown3 hc3 hm3 hg3; have hb3 : Below w0.heap.size w0 w3 := Below.grown ((Below.refl _ _).alloc (Nat.le_refl _) _) hg3 (by simp) (fun q hq => ((own_lit1 (w := w0) (base := w0.heap.size) (g := w0.heap.size) (e := 3) (v := .int .i64 dk) rfl (Nat.le_refl _)).lt q hq).1); replace hG := hGo; have ha3 := Abv.of_own hown3; have hs3 : Sl w3 A3 (1 + n5) (i64s (dk :: digs r.natAbs)) := (by have := Sl.of_own1 hown3; simpa using this)
      replace hG := Grew.trans hG hb3
      (try dsimp only)
      (with_reducible refine hK _ _ hG ?_)
      clear hK K
      (repeat ((first | (with_reducible refine ord_q1 ?_) | (with_reducible refine ord_q0 ?_)); intro K hK; first | (refine Or.inr ⟨?_, ?_⟩; (focus (go_simp; first | done | (simp [undef]; done))); go_simp; (with_reducible refine hK _ ?_); clear hK K) | (refine Or.inl ⟨?_, ?_⟩; (focus (go_simp; done)); apply Exists.intro; refine And.intro ?_ ?_; (focus (first | (intro wq hq; obtain ⟨hcq, hfq⟩ := G.old hq; go_simp; (first | done | exact rfl); done) | (intro wq; go_simp; (first | done | exact rfl); done))); go_simp; (with_reducible refine hK _ ?_); clear hK K) | fail))
      (with_reducible refine ord_run ?_ hG)
      intro K hK
      go_simp
      go_at_call 48; (with_reducible refine (trim_any 1 A3 (1 + n5) c3 (dk :: digs r.natAbs) _ hs3 hfd.out hc3 hm3).mono ?_); rintro e4 w4 ⟨n6, rfl, hs4, hn6, hb4⟩; rw [hts.out.1]; rw [hts.out.2] at hs4
      replace hG := Grew.trans hG hb4
      (try dsimp only)
      (with_reducible refine hK _ _ hG ?_)
      clear hK K
      (repeat ((first | (with_reducible refine ord_q1 ?_) | (with_reducible refine ord_q0 ?_)); intro K hK; first | (refine Or.inr ⟨?_, ?_⟩; (focus (go_simp; first | done | (simp [undef]; done))); go_simp; (with_reducible refine hK _ ?_); clear hK K) | (refine Or.inl ⟨?_, ?_⟩; (focus (go_simp; done)); apply Exists.intro; refine And.intro ?_ ?_; (focus (first | (intro wq hq; obtain ⟨hcq, hfq⟩ := G.old hq; go_simp; (first | done | exact rfl); done) | (intro wq; go_simp; (first | done | exact rfl); done))); go_simp; (with_reducible refine hK _ ?_); clear hK K) | fail))
      have hbg := hG.b
      have hBx4 := hBx'.grow hbg
      obtain ⟨y0, y1, y2, y3⟩ := id hBx4
      have lty := hBx4.lt
      ((with_reducible refine ord_tail ?_); intro K hK; go_simp; (with_reducible refine hK _ _ ?_); clear hK K)
      (repeat ((first | (with_reducible refine ord_q1 ?_) | (with_reducible refine ord_q0 ?_)); intro K hK; first | (refine Or.inr ⟨?_, ?_⟩; (focus (go_simp; first | done | (simp [undef]; done))); go_simp; (with_reducible refine hK _ ?_); clear hK K) | (refine Or.inl ⟨?_, ?_⟩; (focus (go_simp; done)); apply Exists.intro; refine And.intro ?_ ?_; (focus (first | (intro wq hq; obtain ⟨hcq, hfq⟩ := G.old hq; go_simp; (first | done | exact rfl); done) | (intro wq; go_simp; (first | done | exact rfl); done))); go_simp; (with_reducible refine hK _ ?_); clear hK K) | fail))
      (with_reducible refine ord_nil ?_)
      replace ha3 : Abv w1.heap.size A3 := ha3.mono (by omega)
      go_wp2_with fail
      refine wp_name (fun wr => Hid (Wd wr A3 n6 c3 T ∧ Abv w1.heap.size A3) ∧ Row wr (X3 + 1) n L ∧ Below w.heap.size w wr ∧ w1.heap.size ≤ wr.heap.size ∧ Box2 wr (X3 + 1 + 1) (.int .i64 1) (.slice (some ⟨X3 + 1, 0, none⟩) n n) ∧ Box2 wr X3 (.int .i64 (sgn T)) (.slice A3 n6 c3) ∧ Box2 wr w.heap.size (.int .i64 s1) (.slice A n c) ∧ Box2 wr (w.heap.size + 1) (.int .i64 s2) (.slice B m d) ∧ Box2 wr (w.heap.size + 1 + 1) (.int .i64 0) (.slice none 0 0)) ⟨⟨Wd.set (Wd.set ⟨hs4, hn6, hm3⟩ ha3 (by first | (simp; done) | (simp; omega) | omega) _) ha3 (by first | (simp; done) | (simp; omega) | omega) _, ha3⟩, ((hRr.grow hbg).other (by omega) _).other (by omega) _, ((hbr.trans (hbg.mono (by have := hbr.size; omega))).setCell (by first | (simp; done) | (simp; omega) | omega) _).setCell (by first | (simp; done) | (simp; omega) | omega) _, by have := hbg.size; simp; omega, ((hBo'.grow hbg).other (by omega)).other (by omega), hBx4.set2, ((hBa'.grow hbg).other (by omega)).other (by omega), ((hBb'.grow hbg).other (by omega)).other (by omega), ((hBr'.grow hbg).other (by omega)).other (by omega)⟩ ?_
      clear hG hGo hszo hbg hBx4 y0 y1 y2 y3 lty hb3 hb4 hs4 hs3 hown3 hg3 hc3 hm3 hn6 hRr hbr hszr hBo' hBx' hBa' hBb' hBr' hW hws hsr hr0 hrz hn5 a0 a1 x0 x1 x2 x3 lta ltx ha3 hcA hbA hfd hts
      rintro wr2 ⟨hW, hRr, hbr, hszr, hBo', hBx', hBa', hBb', hBr'⟩
      go_loopw [] (fun wr => ∃ (r sr : Int) (L : List Int) (A5 : Option Addr) (n5 c5 : Nat), Hid (NearI xs L z r k ∧ z * dg L k + r = T) ∧ Hid (sr = sgn r) ∧ Hid (Wd wr A5 n5 c5 r ∧ Abv w1.heap.size A5) ∧ Row wr (X3 + 1) n L ∧ Below w.heap.size w wr ∧ w1.heap.size ≤ wr.heap.size ∧ Box2 wr (X3 + 1 + 1) (.int .i64 1) (.slice (some ⟨X3 + 1, 0, none⟩) n n) ∧ Box2 wr X3 (.int .i64 sr) (.slice A5 n5 c5) ∧ Box2 wr w.heap.size (.int .i64 s1) (.slice A n c) ∧ Box2 wr (w.heap.size + 1) (.int .i64 s2) (.slice B m d) ∧ Box2 wr (w.heap.size + 1 + 1) (.int .i64 0) (.slice none 0 0)) (fun wr => (10 - rdI wr ⟨X3 + 1, k, none⟩).toNat)
      case atStart => exact ⟨T, sgn T, L, A3, n6, c3, ⟨hI2.out, by rw [hcz.out, Int.mul_zero, Int.zero_add]⟩, rfl, hW, hRr, hbr, hszr, hBo', hBx', hBa', hBb', hBr'⟩
      case round =>
        clear hW hRr hbr hszr hBo' hBx' hBa' hBb' hBr' hI2 hcz
        obtain ⟨r, sr, L, A5, n5, c5, hI, hsr, hW, hRr, hbr, hszr, hBo', hBx', hBa', hBb', hBr'⟩ := hrel
        have hsr' := hsr.out
        subst hsr'
        have hr0 := hI.out.1.2.1
        have hck := dg_dig hI.out.1.2.2.1 k
        have hzc := Int.mul_nonneg (Int.le_of_lt hz) hck.1
        have hT10 := hTb.out
        have hTe := hI.out.2
        have hn5 : n5 ≤ m + 1 := len_ten hW.out.1 hr0 hz (by omega) hmz.out
        have hLk : L[k]? = some (dg L k) := by unfold dg; rw [List.getD_eq_getElem?_getD, List.getElem?_eq_getElem (by rw [hRr.1]; exact hkn)]; rfl
        have hcl := hRr.2.2.1 k _ hLk
        have AC := AB.out r A5 n5 c5 wr hr0 (by omega) hW.out.1 (hy.grow hbr)
        obtain ⟨cv, hcv⟩ : ∃ cv, cmpI r z = cv := ⟨_, rfl⟩
        rw [hcv] at AC
        replace AC := Lib.hid AC
        obtain ⟨x0, x1, x2, x3⟩ := id hBx'
        obtain ⟨b0, b1, _, _⟩ := id hBb'
        have ltx := hBx'.lt
        have ltb := hBb'.lt
        by_cases hcmp : z ≤ r
        · have hcv0 : 0 ≤ cv := by rw [← hcv]; unfold cmpI; (repeat' split) <;> omega
          have hc9 : dg L k + 1 ≤ 9 := near_digit2 (r := r - z) hz (by rw [Int.mul_add, Int.mul_one]; omega) (by omega) hT10
          have hI3 : Hid (NearI xs (L.set k (dg L k + 1)) z (r - z) k ∧ z * dg (L.set k (dg L k + 1)) k + (r - z) = T) := ⟨nearI_sub (by rw [hRr.1]; exact hkn) hI.out.1 hcmp hc9, by rw [dg_set _ (by rw [hRr.1]; exact hkn), Int.mul_add, Int.mul_one]; omega⟩
          obtain ⟨ck, hckk⟩ : ∃ ck, dg L k = ck := ⟨_, rfl⟩
          rw [hckk] at hck hcl hc9 hI3
          have hcw : IntKind.i64.wrap (ck + 1) = ck + 1 := IntWalk.i64_in _ (by omega)
          have hsn : ¬ sgn (r - z) < 0 := by unfold sgn; (repeat' split) <;> omega
          clear hcv hzc hTe hT10 hLk hckk hI
          go_wp2_with fail
          refine AC.out.mono ?_
          rintro e2 w2 ⟨rfl, hb2⟩
          replace hW := Lib.hid (show Wd w2 A5 n5 c5 r from hW.out.1.grow hb2)
          replace hRr := hRr.grow hb2
          have hclo := Lib.hid hcl
          have hcl2 := Lib.hid (G.cell hcl hb2)
          replace hbr := G.trans hbr hb2
          replace hBo' := hBo'.grow hb2
          replace hBx' := hBx'.grow hb2
          replace hBa' := hBa'.grow hb2
          replace hBb' := hBb'.grow hb2
          replace hBr' := hBr'.grow hb2
          have hsz2 := hb2.size
          clear x0 x1 x2 x3 b0 b1 ltx ltb AC hcl hb2 hsr
          obtain ⟨x0, x1, x2, x3⟩ := id hBx'
          obtain ⟨b0, b1, _, _⟩ := id hBb'
          have ltx := hBx'.lt
          have ltb := hBb'.lt
          go_wp2_with fail
          refine wp_region_ord [(0, 1), (1, 1), (2, 2), (3, 2), (4, 3)] [4] 5 (by kernel_rfl) (by decide +kernel) ?_
          simp only [pickO, List.getElem?_cons_succ, List.getElem?_cons_zero]
          intro w0 hG
          (repeat ((first | (with_reducible refine ord_q1 ?_) | (with_reducible refine ord_q0 ?_)); intro K hK; first | (refine Or.inr ⟨?_, ?_⟩; (focus (go_simp; first | done | (simp [undef]; done))); go_simp; (with_reducible refine hK _ ?_); clear hK K) | (refine Or.inl ⟨?_, ?_⟩; (focus (go_simp; done)); apply Exists.intro; refine And.intro ?_ ?_; (focus (first | (intro wq hq; obtain ⟨hcq, hfq⟩ := G.old hq; go_simp; (first | done | exact rfl); done) | (intro wq; go_simp; (first | done | exact rfl); done))); go_simp; (with_reducible refine hK _ ?_); clear hK K) | fail))
          (with_reducible refine ord_run ?_ hG)
          intro K hK
          go_simp
          go_at_call 21; (with_reducible refine (MZ.out _).mono ?_); rintro e3 w3 ⟨rfl, hb3⟩
          replace hG := Grew.trans hG hb3
          (try dsimp only)
          (with_reducible refine hK _ _ hG ?_)
          clear hK K
          (repeat ((first | (with_reducible refine ord_q1 ?_) | (with_reducible refine ord_q0 ?_)); intro K hK; first | (refine Or.inr ⟨?_, ?_⟩; (focus (go_simp; first | done | (simp [undef]; done))); go_simp; (with_reducible refine hK _ ?_); clear hK K) | (refine Or.inl ⟨?_, ?_⟩; (focus (go_simp; done)); apply Exists.intro; refine And.intro ?_ ?_; (focus (first | (intro wq hq; obtain ⟨hcq, hfq⟩ := G.old hq; go_simp; (first | done | exact rfl); done) | (intro wq; go_simp; (first | done | exact rfl); done))); go_simp; (with_reducible refine hK _ ?_); clear hK K) | fail))
          (with_reducible refine ord_run ?_ hG)
          intro K hK
          go_simp
          go_at_call 19; have hsq := hG.b.size; (with_reducible refine (PS.out r A5 n5 c5 _ hcmp (by omega) (hW.out.grow hG.b) (hy.grow (G.trans hbr hG.b))).mono ?_); rintro e4 w4 ⟨A6, n6, c6, rfl, hw6, ha6, hb4⟩
          replace hG := Grew.trans hG hb4
          (try dsimp only)
          (with_reducible refine hK _ _ hG ?_)
          clear hK K
          (repeat ((first | (with_reducible refine ord_q1 ?_) | (with_reducible refine ord_q0 ?_)); intro K hK; first | (refine Or.inr ⟨?_, ?_⟩; (focus (go_simp; first | done | (simp [undef]; done))); go_simp; (with_reducible refine hK _ ?_); clear hK K) | (refine Or.inl ⟨?_, ?_⟩; (focus (go_simp; done)); apply Exists.intro; refine And.intro ?_ ?_; (focus (first | (intro wq hq; obtain ⟨hcq, hfq⟩ := G.old hq; go_simp; (first | done | exact rfl); done) | (intro wq; go_simp; (first | done | exact rfl); done))); go_simp; (with_reducible refine hK _ ?_); clear hK K) | fail))
          have hbg := hG.b
          have hsg := hbg.size
          replace ha6 : Abv w1.heap.size A6 := ha6.mono (by omega)
          have hBx4 := hBx'.grow hbg
          have hBo4 := hBo'.grow hbg
          have hRr4 := hRr.grow hbg
          have hcl4 : w4.cell? ⟨X3 + 1, k, none⟩ = some (.int .i64 ck) := G.cell hcl2.out hbg
          have hfl4 := hRr4.2.2.2 k
          have hltr := hRr4.2.1
          obtain ⟨y0, y1, y2, y3⟩ := id hBx4
          obtain ⟨o0, o1, _, _⟩ := id hBo4
          have lty := hBx4.lt
          have lto := hBo4.lt
          ((with_reducible refine ord_tail ?_); intro K hK; go_simp; (with_reducible refine hK _ _ ?_); clear hK K)
          (repeat ((first | (with_reducible refine ord_q1 ?_) | (with_reducible refine ord_q0 ?_)); intro K hK; first | (refine Or.inr ⟨?_, ?_⟩; (focus (go_simp; first | done | (simp [undef]; done))); go_simp; (with_reducible refine hK _ ?_); clear hK K) | (refine Or.inl ⟨?_, ?_⟩; (focus (go_simp; done)); apply Exists.intro; refine And.intro ?_ ?_; (focus (first | (intro wq hq; obtain ⟨hcq, hfq⟩ := G.old hq; go_simp; (first | done | exact rfl); done) | (intro wq; go_simp; (first | done | exact rfl); done))); go_simp; (with_reducible refine hK _ ?_); clear hK K) | fail))
          (with_reducible refine ord_nil ?_)
          go_wp2_with fail
          go_roundw
          case rel => exact ⟨r - z, sgn (r - z), L.set k (ck + 1), A6, n6, c6, hI3.out, rfl, ⟨Wd.set (Wd.set (Wd.set hw6 ha6 (by first | (simp; done) | (simp; omega) | omega) _) ha6 (by first | (simp; done) | (simp; omega) | omega) _) ha6 (by first | (simp; done) | (simp; omega) | omega) _, ha6⟩, ((hRr4.other (by omega) _).other (by omega) _).set hkn _, (((hbr.trans (hbg.mono (by have := hbr.size; omega))).setCell (by first | (simp; done) | (simp; omega) | omega) _).setCell (by first | (simp; done) | (simp; omega) | omega) _).setCell (by first | (simp; done) | (simp; omega) | omega) _, by simp; omega, (((hBo4.other (by first | (simp; done) | (simp; omega) | omega)).other (by first | (simp; done) | (simp; omega) | omega)).other (by first | (simp; done) | (simp; omega) | omega)), (hBx4.set2.other (by first | (simp; done) | (simp; omega) | omega)), ((((hBa'.grow hbg).other (by first | (simp; done) | (simp; omega) | omega)).other (by first | (simp; done) | (simp; omega) | omega)).other (by first | (simp; done) | (simp; omega) | omega)), ((((hBb'.grow hbg).other (by first | (simp; done) | (simp; omega) | omega)).other (by first | (simp; done) | (simp; omega) | omega)).other (by first | (simp; done) | (simp; omega) | omega)), ((((hBr'.grow hbg).other (by first | (simp; done) | (simp; omega) | omega)).other (by first | (simp; done) | (simp; omega) | omega)).other (by first | (simp; done) | (simp; omega) | omega))⟩
          case measure =>
            rw [rdI_of hclo.out, rdI_of (k := .i64) (x := ck + 1) (World.cell?_setCell_same _ _ _ (by rw [World.cell?_setCell_other _ _ _ _ (by simp), World.cell?_setCell_other _ _ _ _ (by simp)]; exact hcl4))]
            omega
        · have hcv0 : cv < 0 := by rw [← hcv]; unfold cmpI; rw [if_pos (by omega)]; decide
          clear hcv hzc hTe hT10 hLk hcl hck
          go_wp2_with fail
          refine AC.out.mono ?_
          rintro e2 w2 ⟨rfl, hb2⟩
          have hsz2 := hb2.size
          go_wp2_with fail
          go_roundw
          case rel => exact ⟨(k : Int) - 1, r, sgn r, L, A5, n5, c5, by go_num, by omega, by omega, ⟨by rw [show ((k : Int) - 1 + 1).toNat = k by omega]; exact hI.out.1, by omega⟩, rfl, ⟨hW.out.1.grow hb2, hW.out.2⟩, hRr.grow hb2, G.trans hbr hb2, by omega, hBo'.grow hb2, hBx'.grow hb2, hBa'.grow hb2, hBb'.grow hb2, hBr'.grow hb2⟩
          case measure => first | (simp [intOf]; done) | (simp [intOf]; omega)
    · have h0 : v = -1 := by omega
      subst h0
      have hI0 : NearI xs L z r 0 := by have := hI.out.1; simpa using this
      have hDL := hI0.2.2.1
      obtain ⟨hQ, hrr⟩ := near_end hI0.1 hz hr0 hrz
      have hup := rnd_of hQ hrr
      rw [hV1.out] at hup
      have hodd := odd_first hDL
      have hd0 := dg_dig hDL 0
      have hts := tsgn1 hDL (v := valD L) rfl
      have hQn := valD_nonneg hDL
      have TR := Lib.hid (fun w hq => trim_any 1 (some ⟨X3 + 1, 0, none⟩) n n L w hq hDL (Nat.le_refl _) (by unfold maxLen; omega))
      have hcl0 : 0 < n → ∃ q0, dg L 0 = q0 ∧ wr.cell? ⟨X3 + 1, 0, none⟩ = some (.int .i64 q0) := fun hn0 => by
        refine ⟨dg L 0, rfl, hRr.2.2.1 0 _ ?_⟩
        unfold dg; rw [List.getD_eq_getElem?_getD, List.getElem?_eq_getElem (by rw [hRr.1]; exact hn0)]; rfl
      have hevn : n = 0 → valD L % 2 = 0 := fun h => by
        have : L = [] := List.eq_nil_of_length_eq_zero (by rw [hRr.1]; exact h)
        rw [this]; rfl
      obtain ⟨Q, hQe⟩ : ∃ Q, valD L = Q := ⟨_, rfl⟩
      rw [hQe] at hup hodd hts hQn hevn
      have hWr := hW.out.1
      have ABr := AB.out (r + r)
      obtain ⟨tw, htw⟩ : ∃ tw, cmpI (r + r) z = tw := ⟨_, rfl⟩
      rw [htw] at ABr
      have PR := Lib.hid (fun w h1 h2 => plus_any r r A5 A5 n5 n5 c5 c5 w h1 h2 (by omega) (by omega))
      have hAB := Lib.hid (fun A6 n6 c6 wq h1 h2 h3 => ABr A6 n6 c6 wq (by omega) h1 h2 h3)
      have hrb : r + r ≤ 10 * z := by omega
      have hcase : ∀ od : Bool, (od = true ↔ Q % 2 = 1) → (tw = 1 ∧ Hid (rnd (y.natAbs : Int) z = Q + 1)) ∨ (tw = 0 ∧ od = true ∧ Hid (rnd (y.natAbs : Int) z = Q + 1)) ∨ (tw = 0 ∧ od = false ∧ Hid (rnd (y.natAbs : Int) z = Q)) ∨ (tw = -1 ∧ Hid (rnd (y.natAbs : Int) z = Q)) := by
        intro od hod
        unfold Hid
        rcases Int.lt_trichotomy (r + r) z with h | h | h
        · refine .inr (.inr (.inr ⟨by rw [← htw]; exact cmpI_lt h, ?_⟩))
          rw [hup, if_neg (by omega)]
        · have h3 : tw = 0 := by rw [← htw]; exact cmpI_zero.2 h
          cases od
          · refine .inr (.inr (.inl ⟨h3, rfl, ?_⟩))
            rw [hup, if_neg (by have : ¬ Q % 2 = 1 := fun h => by have := hod.2 h; cases this
                                omega)]
          · refine .inr (.inl ⟨h3, rfl, ?_⟩)
            rw [hup, if_pos (.inr ⟨by omega, hod.1 rfl⟩)]
        · refine .inl ⟨by rw [← htw]; exact cmpI_gt h, ?_⟩
          rw [hup, if_pos (.inl (by omega))]
      replace hcase := Lib.hid hcase
      replace hodd := Lib.hid hodd
      replace hts := Lib.hid hts
      have hQ0 := Lib.hid hQn
      replace hevn := Lib.hid hevn
      replace hcl0 := Lib.hid hcl0
      have hQe' := Lib.hid hQe
      have hsr' := hsr.out
      subst hsr'
      clear htw ABr hup hQe hQ hrr hI0 hDL hI hQn hv1 hv0 hvn hsr
      obtain ⟨x0, x1, x2, x3⟩ := id hBx'
      obtain ⟨b0, b1, _, _⟩ := id hBb'
      have ltx := hBx'.lt
      have ltb := hBb'.lt
      go_wp2_with fail
      refine wp_region_ord [(0, 1), (1, 1), (3, 1), (2, 2), (4, 2), (5, 1)] [] 5 (by kernel_rfl) (by decide +kernel) ?_
      simp only [pickO, List.getElem?_cons_succ, List.getElem?_cons_zero]
      intro w0 hG
      (repeat ((first | (with_reducible refine ord_q1 ?_) | (with_reducible refine ord_q0 ?_)); intro K hK; first | (refine Or.inr ⟨?_, ?_⟩; (focus (go_simp; first | done | (simp [undef]; done))); go_simp; (with_reducible refine hK _ ?_); clear hK K) | (refine Or.inl ⟨?_, ?_⟩; (focus (go_simp; done)); apply Exists.intro; refine And.intro ?_ ?_; (focus (first | (intro wq hq; obtain ⟨hcq, hfq⟩ := G.old hq; go_simp; (first | done | exact rfl); done) | (intro wq; go_simp; (first | done | exact rfl); done))); go_simp; (with_reducible refine hK _ ?_); clear hK K) | fail))
      (with_reducible refine ord_run ?_ hG)
      intro K hK
      go_simp
      go_at_call 19; (with_reducible refine (PR.out _ (hWr.grow hG.b) (hWr.grow hG.b)).mono ?_); rintro e2 w2 ⟨A6, n6, c6, rfl, hw6, hb2⟩; have hn6 : n6 ≤ m + 1 := len_ten hw6 (by omega) hz hrb hmz.out
      replace hG := Grew.trans hG hb2
      (try dsimp only)
      (with_reducible refine hK _ _ hG ?_)
      clear hK K
      (repeat ((first | (with_reducible refine ord_q1 ?_) | (with_reducible refine ord_q0 ?_)); intro K hK; first | (refine Or.inr ⟨?_, ?_⟩; (focus (go_simp; first | done | (simp [undef]; done))); go_simp; (with_reducible refine hK _ ?_); clear hK K) | (refine Or.inl ⟨?_, ?_⟩; (focus (go_simp; done)); apply Exists.intro; refine And.intro ?_ ?_; (focus (first | (intro wq hq; obtain ⟨hcq, hfq⟩ := G.old hq; go_simp; (first | done | exact rfl); done) | (intro wq; go_simp; (first | done | exact rfl); done))); go_simp; (with_reducible refine hK _ ?_); clear hK K) | fail))
      (with_reducible refine ord_run ?_ hG)
      intro K hK
      go_simp
      go_at_call 46; (with_reducible refine (hAB.out A6 n6 c6 _ (by omega) hw6 (hy.grow (G.trans hbr hG.b))).mono ?_); rintro e3 w3 ⟨rfl, hb3⟩
      replace hG := Grew.trans hG hb3
      (try dsimp only)
      (with_reducible refine hK _ _ hG ?_)
      clear hK K
      (repeat ((first | (with_reducible refine ord_q1 ?_) | (with_reducible refine ord_q0 ?_)); intro K hK; first | (refine Or.inr ⟨?_, ?_⟩; (focus (go_simp; first | done | (simp [undef]; done))); go_simp; (with_reducible refine hK _ ?_); clear hK K) | (refine Or.inl ⟨?_, ?_⟩; (focus (go_simp; done)); apply Exists.intro; refine And.intro ?_ ?_; (focus (first | (intro wq hq; obtain ⟨hcq, hfq⟩ := G.old hq; go_simp; (first | done | exact rfl); done) | (intro wq; go_simp; (first | done | exact rfl); done))); go_simp; (with_reducible refine hK _ ?_); clear hK K) | fail))
      (with_reducible refine ord_nil ?_)
      have hbg := hG.b
      have hcl3 : 0 < n → ∃ q0, dg L 0 = q0 ∧ w3.cell? ⟨X3 + 1, 0, none⟩ = some (.int .i64 q0) := fun h => by
        obtain ⟨q0, h1, h2⟩ := hcl0.out h
        exact ⟨q0, h1, G.cell h2 hbg⟩
      replace hcl3 := Lib.hid hcl3
      replace hRr := hRr.grow hbg
      replace hbr := G.trans hbr hbg
      replace hszr := Nat.le_trans hszr hbg.size
      replace hBo' := hBo'.grow hbg
      replace hBa' := hBa'.grow hbg
      replace hBr' := hBr'.grow hbg
      clear x0 x1 x2 x3 b0 b1 ltx ltb hBx' hBb' hG hbg hb2 hb3 hw6 hWr hW hcl0
      obtain ⟨o0, o1, _, _⟩ := id hBo'
      have lto := hBo'.lt
      have ltr := hRr.2.1
      go_upto_region 13 with (fail)
      go_cut [9] (fun v wx => ∃ od : Bool, v = .bool od ∧ Hid (od = true ↔ Q % 2 = 1) ∧ wx = w3)
      case first =>
        by_cases hn0 : 0 < n
        · obtain ⟨q0, hq0, hc0⟩ := hcl3.out hn0
          have hod := hodd.out
          rw [hq0] at hod hd0
          have htm : q0.tmod 2 = q0 % 2 := Int.tmod_eq_emod_of_nonneg hd0.1
          have hpar : q0 % 2 = 1 ∨ q0 % 2 = 0 := by omega
          rcases hpar with hp | hp
          · rw [hp] at htm hod
            clear hq0 hp
            replace hod := Lib.hid hod
            go_wp2_with fail
            go_meet
            exact ⟨true, rfl, ⟨fun _ => hod.out, fun _ => rfl⟩, rfl⟩
          · rw [hp] at htm hod
            clear hq0 hp
            replace hod := Lib.hid hod
            go_wp2_with fail
            go_meet
            exact ⟨false, rfl, ⟨fun h => (by cases h), fun h => (by have := hod.out; omega)⟩, rfl⟩
        · have hn00 : Hid (n = 0) := by unfold Hid; omega
          go_wp2_with fail
          go_meet
          exact ⟨false, rfl, ⟨fun h => (by cases h), fun h => (by have := hevn.out hn00.out; omega)⟩, rfl⟩
      case rest =>
        obtain ⟨od, rfl, hod, rfl⟩ := hcut
        replace hcase := hcase.out od hod.out
        go_wp2_with fail
        refine (TR.out _ hRr.sl).mono ?_
        rintro e5 w5 ⟨n7, rfl, hs5, hn7, hb5⟩
        rw [hts.out.1]
        rw [hQe'.out, hts.out.2] at hs5
        have hsz5 := hb5.size
        have hBo5 := hBo'.grow hb5
        have hBa5 := hBa'.grow hb5
        have hBr5 := hBr'.grow hb5
        replace hb5 := hbr.trans (hb5.mono (by have := hbr.size; omega))
        have hW7 : Hid (Wd ((w5.setCell ⟨X3 + 1 + 1, 0, none⟩ (.int .i64 (sgn Q))).setCell ⟨X3 + 1 + 1, 1, none⟩ (.slice (some ⟨X3 + 1, 0, none⟩) n7 n)) (some ⟨X3 + 1, 0, none⟩) n7 n Q) := by
          have h1 : Wd w5 (some ⟨X3 + 1, 0, none⟩) n7 n Q := ⟨hs5, hn7, by unfold maxLen; omega⟩
          exact wd_other (wd_other h1 (by omega) _) (by omega) _
        clear hs5 hRr hbr hBo' hBa' hBr' hcl3 o0 o1 lto ltr
        obtain ⟨o0, o1, o2, o3⟩ := id hBo5
        obtain ⟨a0, a1, _, _⟩ := id hBa5
        obtain ⟨r0, r1, r2, r3⟩ := id hBr5
        have lto := hBo5.lt
        have lta := hBa5.lt
        have ltr := hBr5.lt
        go_upto_region 15 with (fail)
        go_cut [81] (fun v wx => ∃ up : Bool, v = .bool up ∧ Hid (rnd (y.natAbs : Int) z = if up then Q + 1 else Q) ∧ wx = (w5.setCell ⟨X3 + 1 + 1, 0, none⟩ (.int .i64 (sgn Q))).setCell ⟨X3 + 1 + 1, 1, none⟩ (.slice (some ⟨X3 + 1, 0, none⟩) n7 n))
        case first =>
          rcases hcase with ⟨htw, hup⟩ | ⟨htw, hodt, hup⟩ | ⟨htw, hodt, hup⟩ | ⟨htw, hup⟩
          · subst htw
            go_wp2_with fail
            go_meet
            exact ⟨true, rfl, by unfold Hid; rw [hup.out]; rfl, rfl⟩
          · subst htw; subst hodt
            go_wp2_with fail
            go_meet
            exact ⟨true, rfl, by unfold Hid; rw [hup.out]; rfl, rfl⟩
          · subst htw; subst hodt
            go_wp2_with fail
            go_meet
            exact ⟨false, rfl, by unfold Hid; rw [hup.out]; rfl, rfl⟩
          · subst htw
            go_wp2_with fail
            go_meet
            exact ⟨false, rfl, by unfold Hid; rw [hup.out]; rfl, rfl⟩
        case rest =>
          clear hcase
          obtain ⟨up, rfl, hup, rfl⟩ := hcut
          by_cases hsn : s1 < 0
          · cases up
            · replace hup : Hid (rnd (y.natAbs : Int) z = Q) := by unfold Hid; rw [hup.out]; rfl
              have hBo7 : Box2 ((w5.setCell ⟨X3 + 1 + 1, 0, none⟩ (.int .i64 (sgn Q))).setCell ⟨X3 + 1 + 1, 1, none⟩ (.slice (some ⟨X3 + 1, 0, none⟩) n7 n)) (X3 + 1 + 1) (.int .i64 (sgn Q)) (.slice (some ⟨X3 + 1, 0, none⟩) n7 n) := hBo5.set2
              have hBr7 : Box2 ((w5.setCell ⟨X3 + 1 + 1, 0, none⟩ (.int .i64 (sgn Q))).setCell ⟨X3 + 1 + 1, 1, none⟩ (.slice (some ⟨X3 + 1, 0, none⟩) n7 n)) (w.heap.size + 1 + 1) (.int .i64 0) (.slice none 0 0) := ((hBr5.other (by first | (simp; done) | (simp; omega) | omega)).other (by first | (simp; done) | (simp; omega) | omega))
              have hb7 : Below w.heap.size w ((w5.setCell ⟨X3 + 1 + 1, 0, none⟩ (.int .i64 (sgn Q))).setCell ⟨X3 + 1 + 1, 1, none⟩ (.slice (some ⟨X3 + 1, 0, none⟩) n7 n)) := (hb5.setCell (by first | (simp; done) | (simp; omega) | omega) _).setCell (by first | (simp; done) | (simp; omega) | omega) _
              have hW9 : Wd ((w5.setCell ⟨X3 + 1 + 1, 0, none⟩ (.int .i64 (sgn Q))).setCell ⟨X3 + 1 + 1, 1, none⟩ (.slice (some ⟨X3 + 1, 0, none⟩) n7 n)) (some ⟨X3 + 1, 0, none⟩) n7 n Q := hW7.out
              have ha9 : Abv (w.heap.size + 1 + 1 + 1) (some ⟨X3 + 1, 0, none⟩) := Abv.some_ (by first | (simp; done) | (simp; omega) | omega)
              have hres : Hid (nearV y z = -Q) := by unfold Hid nearV; rw [if_pos (hs1.out.1 (by omega)), hup.out]
              have hBa7 : Box2 ((w5.setCell ⟨X3 + 1 + 1, 0, none⟩ (.int .i64 (sgn Q))).setCell ⟨X3 + 1 + 1, 1, none⟩ (.slice (some ⟨X3 + 1, 0, none⟩) n7 n)) w.heap.size (.int .i64 s1) (.slice A n c) := ((hBa5.other (by first | (simp; done) | (simp; omega) | omega)).other (by first | (simp; done) | (simp; omega) | omega))
              go_upto_region 17 with (fail)
              refine wp_name (fun w7 => Below w.heap.size w w7 ∧ Hid (Wd w7 (some ⟨X3 + 1, 0, none⟩) n7 n Q) ∧ Box2 w7 (X3 + 1 + 1) (.int .i64 (sgn Q)) (.slice (some ⟨X3 + 1, 0, none⟩) n7 n) ∧ Box2 w7 w.heap.size (.int .i64 s1) (.slice A n c) ∧ Box2 w7 (w.heap.size + 1 + 1) (.int .i64 0) (.slice none 0 0)) ⟨hb7, hW9, hBo7, hBa7, hBr7⟩ ?_
              clear hb7 hW9 hBo7 hBa7 hBr7 o0 o1 o2 o3 lto
              clear a0 a1 r0 r1 r2 r3 lta ltr
              rintro w7 ⟨hb7, hW9, hBo7, hBa7, hBr7⟩
              obtain ⟨a0, a1, _, _⟩ := id hBa7
              obtain ⟨r0, r1, r2, r3⟩ := id hBr7
              obtain ⟨o0, o1, o2, o3⟩ := id hBo7
              have lta := hBa7.lt
              have ltr := hBr7.lt
              have lto := hBo7.lt
              go_wp2_with fail
              refine (minus_any Q (some ⟨X3 + 1, 0, none⟩) n7 n _).mono ?_
              rintro e8 w8 ⟨rfl, hb8⟩
              have hBr8 := hBr7.grow hb8
              have hW8 := hW9.out.grow hb8
              have hb9 := hb7.trans (hb8.mono (by have := hb7.size; omega))
              replace r0 := hBr8.1
              replace r1 := hBr8.2.1
              replace r2 := hBr8.2.2.1
              replace r3 := hBr8.2.2.2
              replace ltr := hBr8.lt
              go_wp2_with fail
              refine bodyPost_ret (v := .agg #[.int .i64 (sgn (-Q)), .slice (some ⟨X3 + 1, 0, none⟩) n7 n]) (by simp only [results, Tryd.results45]; go_simp) rfl ⟨some ⟨X3 + 1, 0, none⟩, n7, n, by rw [hres.out], ?_, ?_⟩
              · rw [hres.out]; exact (hW8.neg.set ha9 (by first | (simp; done) | (simp; omega) | omega) _).set ha9 (by first | (simp; done) | (simp; omega) | omega) _
              · exact (hb9.setCell (by first | (simp; done) | (simp; omega) | omega) _).setCell (by first | (simp; done) | (simp; omega) | omega) _
            · replace hup : Hid (rnd (y.natAbs : Int) z = Q + 1) := by unfold Hid; rw [hup.out]; rfl
              go_wp2_with fail
              refine wp_name (fun w4 => Below w.heap.size w w4 ∧ w1.heap.size ≤ w4.heap.size ∧ Hid (Wd w4 (some ⟨X3 + 1, 0, none⟩) n7 n Q) ∧ Box2 w4 (X3 + 1 + 1) (.int .i64 (sgn Q)) (.slice (some ⟨X3 + 1, 0, none⟩) n7 n) ∧ Box2 w4 w.heap.size (.int .i64 s1) (.slice A n c) ∧ Box2 w4 (w.heap.size + 1 + 1) (.int .i64 0) (.slice none 0 0)) ⟨(hb5.setCell (by first | (simp; done) | (simp; omega) | omega) _).setCell (by first | (simp; done) | (simp; omega) | omega) _, by simp; omega, hW7.out, hBo5.set2, ((hBa5.other (by first | (simp; done) | (simp; omega) | omega)).other (by first | (simp; done) | (simp; omega) | omega)), ((hBr5.other (by first | (simp; done) | (simp; omega) | omega)).other (by first | (simp; done) | (simp; omega) | omega))⟩ ?_
              clear hb5 hW7 hBo5 hBa5 hBr5 o0 o1 o2 o3 a0 a1 r0 r1 r2 r3 lto lta ltr hsz5
              rintro w4 ⟨hb4, hsz4, hW7, hBo4, hBa4, hBr4⟩
              obtain ⟨o0, o1, o2, o3⟩ := id hBo4
              have lto := hBo4.lt
              refine wp_region_ord [(0, 1), (1, 2), (2, 2), (3, 3)] [3] 5 (by kernel_rfl) (by decide +kernel) ?_
              simp only [pickO, List.getElem?_cons_succ, List.getElem?_cons_zero]
              intro w0 hG
              (repeat ((first | (with_reducible refine ord_q1 ?_) | (with_reducible refine ord_q0 ?_)); intro K hK; first | (refine Or.inr ⟨?_, ?_⟩; (focus (go_simp; first | done | (simp [undef]; done))); go_simp; (with_reducible refine hK _ ?_); clear hK K) | (refine Or.inl ⟨?_, ?_⟩; (focus (go_simp; done)); apply Exists.intro; refine And.intro ?_ ?_; (focus (first | (intro wq hq; obtain ⟨hcq, hfq⟩ := G.old hq; go_simp; (first | done | exact rfl); done) | (intro wq; go_simp; (first | done | exact rfl); done))); go_simp; (with_reducible refine hK _ ?_); clear hK K) | fail))
              have hG0 := hG
              have hszg := hG0.b.size
              (with_reducible refine ord_run ?_ hG)
              intro K hK
              go_simp
              go_at_call 23; (with_reducible refine (ONE.out _).mono ?_); rintro e5 w5 ⟨A8, n8, c8, rfl, hw8, ha8, hb5⟩; have hsz5 := hb5.size; have hl8 : n8 ≤ 1 := (by have := hw8.len; rw [len_one] at this; omega)
              replace hG := Grew.trans hG hb5
              (try dsimp only)
              (with_reducible refine hK _ _ hG ?_)
              clear hK K
              (repeat ((first | (with_reducible refine ord_q1 ?_) | (with_reducible refine ord_q0 ?_)); intro K hK; first | (refine Or.inr ⟨?_, ?_⟩; (focus (go_simp; first | done | (simp [undef]; done))); go_simp; (with_reducible refine hK _ ?_); clear hK K) | (refine Or.inl ⟨?_, ?_⟩; (focus (go_simp; done)); apply Exists.intro; refine And.intro ?_ ?_; (focus (first | (intro wq hq; obtain ⟨hcq, hfq⟩ := G.old hq; go_simp; (first | done | exact rfl); done) | (intro wq; go_simp; (first | done | exact rfl); done))); go_simp; (with_reducible refine hK _ ?_); clear hK K) | fail))
              (with_reducible refine ord_run ?_ hG)
              intro K hK
              go_simp
              go_at_call 19; (with_reducible refine (plus1_any Q _ _ _ _ _ _ w0.heap.size _ hQ0.out ((hW7.out.grow hG0.b).grow hb5) hw8 (by omega) (by omega) ha8 hsz5).mono ?_); rintro e6 w6 ⟨A9, n9, c9, rfl, hw9, ha9, hb6⟩
              replace hG := Grew.trans hG hb6
              (try dsimp only)
              (with_reducible refine hK _ _ hG ?_)
              clear hK K
              (repeat ((first | (with_reducible refine ord_q1 ?_) | (with_reducible refine ord_q0 ?_)); intro K hK; first | (refine Or.inr ⟨?_, ?_⟩; (focus (go_simp; first | done | (simp [undef]; done))); go_simp; (with_reducible refine hK _ ?_); clear hK K) | (refine Or.inl ⟨?_, ?_⟩; (focus (go_simp; done)); apply Exists.intro; refine And.intro ?_ ?_; (focus (first | (intro wq hq; obtain ⟨hcq, hfq⟩ := G.old hq; go_simp; (first | done | exact rfl); done) | (intro wq; go_simp; (first | done | exact rfl); done))); go_simp; (with_reducible refine hK _ ?_); clear hK K) | fail))
              have hbB := hG.b
              have hszB := hbB.size
              have hBo6 := hBo4.grow hbB
              have hBa6 := hBa4.grow hbB
              have hBr6 := hBr4.grow hbB
              replace ha9 : Abv w1.heap.size A9 := ha9.mono (by omega)
              replace hb4 := hb4.trans (hbB.mono (by have := hb4.size; omega))
              replace o0 := hBo6.1
              replace o1 := hBo6.2.1
              replace o2 := hBo6.2.2.1
              replace o3 := hBo6.2.2.2
              replace lto := hBo6.lt
              ((with_reducible refine ord_tail ?_); intro K hK; go_simp; (with_reducible refine hK _ _ ?_); clear hK K)
              (repeat ((first | (with_reducible refine ord_q1 ?_) | (with_reducible refine ord_q0 ?_)); intro K hK; first | (refine Or.inr ⟨?_, ?_⟩; (focus (go_simp; first | done | (simp [undef]; done))); go_simp; (with_reducible refine hK _ ?_); clear hK K) | (refine Or.inl ⟨?_, ?_⟩; (focus (go_simp; done)); apply Exists.intro; refine And.intro ?_ ?_; (focus (first | (intro wq hq; obtain ⟨hcq, hfq⟩ := G.old hq; go_simp; (first | done | exact rfl); done) | (intro wq; go_simp; (first | done | exact rfl); done))); go_simp; (with_reducible refine hK _ ?_); clear hK K) | fail))
              (with_reducible refine ord_nil ?_)
              have hBo7 : Box2 ((w6.setCell ⟨X3 + 1 + 1, 0, none⟩ (.int .i64 (sgn (Q + 1)))).setCell ⟨X3 + 1 + 1, 1, none⟩ (.slice A9 n9 c9)) (X3 + 1 + 1) (.int .i64 (sgn (Q + 1))) (.slice A9 n9 c9) := hBo6.set2
              have hBa7 : Box2 ((w6.setCell ⟨X3 + 1 + 1, 0, none⟩ (.int .i64 (sgn (Q + 1)))).setCell ⟨X3 + 1 + 1, 1, none⟩ (.slice A9 n9 c9)) w.heap.size (.int .i64 s1) (.slice A n c) := ((hBa6.other (by first | (simp; done) | (simp; omega) | omega)).other (by first | (simp; done) | (simp; omega) | omega))
              have hBr7 : Box2 ((w6.setCell ⟨X3 + 1 + 1, 0, none⟩ (.int .i64 (sgn (Q + 1)))).setCell ⟨X3 + 1 + 1, 1, none⟩ (.slice A9 n9 c9)) (w.heap.size + 1 + 1) (.int .i64 0) (.slice none 0 0) := ((hBr6.other (by first | (simp; done) | (simp; omega) | omega)).other (by first | (simp; done) | (simp; omega) | omega))
              have hb7 : Below w.heap.size w ((w6.setCell ⟨X3 + 1 + 1, 0, none⟩ (.int .i64 (sgn (Q + 1)))).setCell ⟨X3 + 1 + 1, 1, none⟩ (.slice A9 n9 c9)) := (hb4.setCell (by first | (simp; done) | (simp; omega) | omega) _).setCell (by first | (simp; done) | (simp; omega) | omega) _
              have hW9 : Wd ((w6.setCell ⟨X3 + 1 + 1, 0, none⟩ (.int .i64 (sgn (Q + 1)))).setCell ⟨X3 + 1 + 1, 1, none⟩ (.slice A9 n9 c9)) A9 n9 c9 (Q + 1) := (hw9.set ha9 (by first | (simp; done) | (simp; omega) | omega) _).set ha9 (by first | (simp; done) | (simp; omega) | omega) _
              have hres : Hid (nearV y z = -(Q + 1)) := by unfold Hid nearV; rw [if_pos (hs1.out.1 (by omega)), hup.out]
              go_upto_region 17 with (fail)
              refine wp_name (fun w7 => Below w.heap.size w w7 ∧ Hid (Wd w7 A9 n9 c9 (Q + 1)) ∧ Box2 w7 (X3 + 1 + 1) (.int .i64 (sgn (Q + 1))) (.slice A9 n9 c9) ∧ Box2 w7 w.heap.size (.int .i64 s1) (.slice A n c) ∧ Box2 w7 (w.heap.size + 1 + 1) (.int .i64 0) (.slice none 0 0)) ⟨hb7, hW9, hBo7, hBa7, hBr7⟩ ?_
              clear hb7 hW9 hBo7 hBa7 hBr7 o0 o1 o2 o3 lto
              rintro w7 ⟨hb7, hW9, hBo7, hBa7, hBr7⟩
              obtain ⟨a0, a1, _, _⟩ := id hBa7
              obtain ⟨r0, r1, r2, r3⟩ := id hBr7
              obtain ⟨o0, o1, o2, o3⟩ := id hBo7
              have lta := hBa7.lt
              have ltr := hBr7.lt
              have lto := hBo7.lt
              go_wp2_with fail
              refine (minus_any (Q + 1) A9 n9 c9 _).mono ?_
              rintro e8 w8 ⟨rfl, hb8⟩
              have hBr8 := hBr7.grow hb8
              have hW8 := hW9.out.grow hb8
              have hb9 := hb7.trans (hb8.mono (by have := hb7.size; omega))
              replace r0 := hBr8.1
              replace r1 := hBr8.2.1
              replace r2 := hBr8.2.2.1
              replace r3 := hBr8.2.2.2
              replace ltr := hBr8.lt
              go_wp2_with fail
              refine bodyPost_ret (v := .agg #[.int .i64 (sgn (-(Q + 1))), .slice A9 n9 c9]) (by simp only [results, Tryd.results45]; go_simp) rfl ⟨A9, n9, c9, by rw [hres.out], ?_, ?_⟩
              · rw [hres.out]; exact (hW8.neg.set ha9 (by first | (simp; done) | (simp; omega) | omega) _).set ha9 (by first | (simp; done) | (simp; omega) | omega) _
              · exact (hb9.setCell (by first | (simp; done) | (simp; omega) | omega) _).setCell (by first | (simp; done) | (simp; omega) | omega) _
          · cases up
            · replace hup : Hid (rnd (y.natAbs : Int) z = Q) := by unfold Hid; rw [hup.out]; rfl
              have hBo7 : Box2 ((w5.setCell ⟨X3 + 1 + 1, 0, none⟩ (.int .i64 (sgn Q))).setCell ⟨X3 + 1 + 1, 1, none⟩ (.slice (some ⟨X3 + 1, 0, none⟩) n7 n)) (X3 + 1 + 1) (.int .i64 (sgn Q)) (.slice (some ⟨X3 + 1, 0, none⟩) n7 n) := hBo5.set2
              have hBr7 : Box2 ((w5.setCell ⟨X3 + 1 + 1, 0, none⟩ (.int .i64 (sgn Q))).setCell ⟨X3 + 1 + 1, 1, none⟩ (.slice (some ⟨X3 + 1, 0, none⟩) n7 n)) (w.heap.size + 1 + 1) (.int .i64 0) (.slice none 0 0) := ((hBr5.other (by first | (simp; done) | (simp; omega) | omega)).other (by first | (simp; done) | (simp; omega) | omega))
              have hb7 : Below w.heap.size w ((w5.setCell ⟨X3 + 1 + 1, 0, none⟩ (.int .i64 (sgn Q))).setCell ⟨X3 + 1 + 1, 1, none⟩ (.slice (some ⟨X3 + 1, 0, none⟩) n7 n)) := (hb5.setCell (by first | (simp; done) | (simp; omega) | omega) _).setCell (by first | (simp; done) | (simp; omega) | omega) _
              have hW9 : Wd ((w5.setCell ⟨X3 + 1 + 1, 0, none⟩ (.int .i64 (sgn Q))).setCell ⟨X3 + 1 + 1, 1, none⟩ (.slice (some ⟨X3 + 1, 0, none⟩) n7 n)) (some ⟨X3 + 1, 0, none⟩) n7 n Q := hW7.out
              have ha9 : Abv (w.heap.size + 1 + 1 + 1) (some ⟨X3 + 1, 0, none⟩) := Abv.some_ (by first | (simp; done) | (simp; omega) | omega)
              have hres : Hid (nearV y z = Q) := by unfold Hid nearV; rw [if_neg (fun h => by have := hs1.out.2 h; omega), hup.out]
              have hBa7 : Box2 ((w5.setCell ⟨X3 + 1 + 1, 0, none⟩ (.int .i64 (sgn Q))).setCell ⟨X3 + 1 + 1, 1, none⟩ (.slice (some ⟨X3 + 1, 0, none⟩) n7 n)) w.heap.size (.int .i64 s1) (.slice A n c) := ((hBa5.other (by first | (simp; done) | (simp; omega) | omega)).other (by first | (simp; done) | (simp; omega) | omega))
              go_upto_region 17 with (fail)
              refine wp_name (fun w7 => Below w.heap.size w w7 ∧ Hid (Wd w7 (some ⟨X3 + 1, 0, none⟩) n7 n Q) ∧ Box2 w7 (X3 + 1 + 1) (.int .i64 (sgn Q)) (.slice (some ⟨X3 + 1, 0, none⟩) n7 n) ∧ Box2 w7 w.heap.size (.int .i64 s1) (.slice A n c) ∧ Box2 w7 (w.heap.size + 1 + 1) (.int .i64 0) (.slice none 0 0)) ⟨hb7, hW9, hBo7, hBa7, hBr7⟩ ?_
              clear hb7 hW9 hBo7 hBa7 hBr7 o0 o1 o2 o3 lto
              clear a0 a1 r0 r1 r2 r3 lta ltr
              rintro w7 ⟨hb7, hW9, hBo7, hBa7, hBr7⟩
              obtain ⟨a0, a1, _, _⟩ := id hBa7
              obtain ⟨r0, r1, r2, r3⟩ := id hBr7
              obtain ⟨o0, o1, o2, o3⟩ := id hBo7
              have lta := hBa7.lt
              have ltr := hBr7.lt
              have lto := hBo7.lt
              go_wp2_with fail
              refine bodyPost_ret (v := .agg #[.int .i64 (sgn Q), .slice (some ⟨X3 + 1, 0, none⟩) n7 n]) (by simp only [results, Tryd.results45]; go_simp) rfl ⟨some ⟨X3 + 1, 0, none⟩, n7, n, by rw [hres.out], ?_, ?_⟩
              · rw [hres.out]; exact (hW9.out.set ha9 (by first | (simp; done) | (simp; omega) | omega) _).set ha9 (by first | (simp; done) | (simp; omega) | omega) _
              · exact (hb7.setCell (by first | (simp; done) | (simp; omega) | omega) _).setCell (by first | (simp; done) | (simp; omega) | omega) _
            · replace hup : Hid (rnd (y.natAbs : Int) z = Q + 1) := by unfold Hid; rw [hup.out]; rfl
              go_wp2_with fail
              refine wp_name (fun w4 => Below w.heap.size w w4 ∧ w1.heap.size ≤ w4.heap.size ∧ Hid (Wd w4 (some ⟨X3 + 1, 0, none⟩) n7 n Q) ∧ Box2 w4 (X3 + 1 + 1) (.int .i64 (sgn Q)) (.slice (some ⟨X3 + 1, 0, none⟩) n7 n) ∧ Box2 w4 w.heap.size (.int .i64 s1) (.slice A n c) ∧ Box2 w4 (w.heap.size + 1 + 1) (.int .i64 0) (.slice none 0 0)) ⟨(hb5.setCell (by first | (simp; done) | (simp; omega) | omega) _).setCell (by first | (simp; done) | (simp; omega) | omega) _, by simp; omega, hW7.out, hBo5.set2, ((hBa5.other (by first | (simp; done) | (simp; omega) | omega)).other (by first | (simp; done) | (simp; omega) | omega)), ((hBr5.other (by first | (simp; done) | (simp; omega) | omega)).other (by first | (simp; done) | (simp; omega) | omega))⟩ ?_
              clear hb5 hW7 hBo5 hBa5 hBr5 o0 o1 o2 o3 a0 a1 r0 r1 r2 r3 lto lta ltr hsz5
              rintro w4 ⟨hb4, hsz4, hW7, hBo4, hBa4, hBr4⟩
              obtain ⟨o0, o1, o2, o3⟩ := id hBo4
              have lto := hBo4.lt
              refine wp_region_ord [(0, 1), (1, 2), (2, 2), (3, 3)] [3] 5 (by kernel_rfl) (by decide +kernel) ?_
              simp only [pickO, List.getElem?_cons_succ, List.getElem?_cons_zero]
              intro w0 hG
              (repeat ((first | (with_reducible refine ord_q1 ?_) | (with_reducible refine ord_q0 ?_)); intro K hK; first | (refine Or.inr ⟨?_, ?_⟩; (focus (go_simp; first | done | (simp [undef]; done))); go_simp; (with_reducible refine hK _ ?_); clear hK K) | (refine Or.inl ⟨?_, ?_⟩; (focus (go_simp; done)); apply Exists.intro; refine And.intro ?_ ?_; (focus (first | (intro wq hq; obtain ⟨hcq, hfq⟩ := G.old hq; go_simp; (first | done | exact rfl); done) | (intro wq; go_simp; (first | done | exact rfl); done))); go_simp; (with_reducible refine hK _ ?_); clear hK K) | fail))
              have hG0 := hG
              have hszg := hG0.b.size
              (with_reducible refine ord_run ?_ hG)
              intro K hK
              go_simp
              go_at_call 23; (with_reducible refine (ONE.out _).mono ?_); rintro e5 w5 ⟨A8, n8, c8, rfl, hw8, ha8, hb5⟩; have hsz5 := hb5.size; have hl8 : n8 ≤ 1 := (by have := hw8.len; rw [len_one] at this; omega)
              replace hG := Grew.trans hG hb5
              (try dsimp only)
              (with_reducible refine hK _ _ hG ?_)
              clear hK K
              (repeat ((first | (with_reducible refine ord_q1 ?_) | (with_reducible refine ord_q0 ?_)); intro K hK; first | (refine Or.inr ⟨?_, ?_⟩; (focus (go_simp; first | done | (simp [undef]; done))); go_simp; (with_reducible refine hK _ ?_); clear hK K) | (refine Or.inl ⟨?_, ?_⟩; (focus (go_simp; done)); apply Exists.intro; refine And.intro ?_ ?_; (focus (first | (intro wq hq; obtain ⟨hcq, hfq⟩ := G.old hq; go_simp; (first | done | exact rfl); done) | (intro wq; go_simp; (first | done | exact rfl); done))); go_simp; (with_reducible refine hK _ ?_); clear hK K) | fail))
              (with_reducible refine ord_run ?_ hG)
              intro K hK
              go_simp
              go_at_call 19; (with_reducible refine (plus1_any Q _ _ _ _ _ _ w0.heap.size _ hQ0.out ((hW7.out.grow hG0.b).grow hb5) hw8 (by omega) (by omega) ha8 hsz5).mono ?_); rintro e6 w6 ⟨A9, n9, c9, rfl, hw9, ha9, hb6⟩
              replace hG := Grew.trans hG hb6
              (try dsimp only)
              (with_reducible refine hK _ _ hG ?_)
              clear hK K
              (repeat ((first | (with_reducible refine ord_q1 ?_) | (with_reducible refine ord_q0 ?_)); intro K hK; first | (refine Or.inr ⟨?_, ?_⟩; (focus (go_simp; first | done | (simp [undef]; done))); go_simp; (with_reducible refine hK _ ?_); clear hK K) | (refine Or.inl ⟨?_, ?_⟩; (focus (go_simp; done)); apply Exists.intro; refine And.intro ?_ ?_; (focus (first | (intro wq hq; obtain ⟨hcq, hfq⟩ := G.old hq; go_simp; (first | done | exact rfl); done) | (intro wq; go_simp; (first | done | exact rfl); done))); go_simp; (with_reducible refine hK _ ?_); clear hK K) | fail))
              have hbB := hG.b
              have hszB := hbB.size
              have hBo6 := hBo4.grow hbB
              have hBa6 := hBa4.grow hbB
              have hBr6 := hBr4.grow hbB
              replace ha9 : Abv w1.heap.size A9 := ha9.mono (by omega)
              replace hb4 := hb4.trans (hbB.mono (by have := hb4.size; omega))
              replace o0 := hBo6.1
              replace o1 := hBo6.2.1
              replace o2 := hBo6.2.2.1
              replace o3 := hBo6.2.2.2
              replace lto := hBo6.lt
              ((with_reducible refine ord_tail ?_); intro K hK; go_simp; (with_reducible refine hK _ _ ?_); clear hK K)
              (repeat ((first | (with_reducible refine ord_q1 ?_) | (with_reducible refine ord_q0 ?_)); intro K hK; first | (refine Or.inr ⟨?_, ?_⟩; (focus (go_simp; first | done | (simp [undef]; done))); go_simp; (with_reducible refine hK _ ?_); clear hK K) | (refine Or.inl ⟨?_, ?_⟩; (focus (go_simp; done)); apply Exists.intro; refine And.intro ?_ ?_; (focus (first | (intro wq hq; obtain ⟨hcq, hfq⟩ := G.old hq; go_simp; (first | done | exact rfl); done) | (intro wq; go_simp; (first | done | exact rfl); done))); go_simp; (with_reducible refine hK _ ?_); clear hK K) | fail))
              (with_reducible refine ord_nil ?_)
              have hBo7 : Box2 ((w6.setCell ⟨X3 + 1 + 1, 0, none⟩ (.int .i64 (sgn (Q + 1)))).setCell ⟨X3 + 1 + 1, 1, none⟩ (.slice A9 n9 c9)) (X3 + 1 + 1) (.int .i64 (sgn (Q + 1))) (.slice A9 n9 c9) := hBo6.set2
              have hBa7 : Box2 ((w6.setCell ⟨X3 + 1 + 1, 0, none⟩ (.int .i64 (sgn (Q + 1)))).setCell ⟨X3 + 1 + 1, 1, none⟩ (.slice A9 n9 c9)) w.heap.size (.int .i64 s1) (.slice A n c) := ((hBa6.other (by first | (simp; done) | (simp; omega) | omega)).other (by first | (simp; done) | (simp; omega) | omega))
              have hBr7 : Box2 ((w6.setCell ⟨X3 + 1 + 1, 0, none⟩ (.int .i64 (sgn (Q + 1)))).setCell ⟨X3 + 1 + 1, 1, none⟩ (.slice A9 n9 c9)) (w.heap.size + 1 + 1) (.int .i64 0) (.slice none 0 0) := ((hBr6.other (by first | (simp; done) | (simp; omega) | omega)).other (by first | (simp; done) | (simp; omega) | omega))
              have hb7 : Below w.heap.size w ((w6.setCell ⟨X3 + 1 + 1, 0, none⟩ (.int .i64 (sgn (Q + 1)))).setCell ⟨X3 + 1 + 1, 1, none⟩ (.slice A9 n9 c9)) := (hb4.setCell (by first | (simp; done) | (simp; omega) | omega) _).setCell (by first | (simp; done) | (simp; omega) | omega) _
              have hW9 : Wd ((w6.setCell ⟨X3 + 1 + 1, 0, none⟩ (.int .i64 (sgn (Q + 1)))).setCell ⟨X3 + 1 + 1, 1, none⟩ (.slice A9 n9 c9)) A9 n9 c9 (Q + 1) := (hw9.set ha9 (by first | (simp; done) | (simp; omega) | omega) _).set ha9 (by first | (simp; done) | (simp; omega) | omega) _
              have hres : Hid (nearV y z = (Q + 1)) := by unfold Hid nearV; rw [if_neg (fun h => by have := hs1.out.2 h; omega), hup.out]
              go_upto_region 17 with (fail)
              refine wp_name (fun w7 => Below w.heap.size w w7 ∧ Hid (Wd w7 A9 n9 c9 (Q + 1)) ∧ Box2 w7 (X3 + 1 + 1) (.int .i64 (sgn (Q + 1))) (.slice A9 n9 c9) ∧ Box2 w7 w.heap.size (.int .i64 s1) (.slice A n c) ∧ Box2 w7 (w.heap.size + 1 + 1) (.int .i64 0) (.slice none 0 0)) ⟨hb7, hW9, hBo7, hBa7, hBr7⟩ ?_
              clear hb7 hW9 hBo7 hBa7 hBr7 o0 o1 o2 o3 lto
              rintro w7 ⟨hb7, hW9, hBo7, hBa7, hBr7⟩
              obtain ⟨a0, a1, _, _⟩ := id hBa7
              obtain ⟨r0, r1, r2, r3⟩ := id hBr7
              obtain ⟨o0, o1, o2, o3⟩ := id hBo7
              have lta := hBa7.lt
              have ltr := hBr7.lt
              have lto := hBo7.lt
              go_wp2_with fail
              refine bodyPost_ret (v := .agg #[.int .i64 (sgn (Q + 1)), .slice A9 n9 c9]) (by simp only [results, Tryd.results45]; go_simp) rfl ⟨A9, n9, c9, by rw [hres.out], ?_, ?_⟩
              · rw [hres.out]; exact (hW9.out.set ha9 (by first | (simp; done) | (simp; omega) | omega) _).set ha9 (by first | (simp; done) | (simp; omega) | omega) _
              · exact (hb7.setCell (by first | (simp; done) | (simp; omega) | omega) _).setCell (by first | (simp; done) | (simp; omega) | omega) _
end Go.Proofs.YtoipapcbngknfaaDoor
