/- Streams of tokens: what their methods do. -/
import Derived.Test.YtmchiibbodllaaaGreatDoorTk
import Derived.Test.YtmchiibbodllaaaGreatDoorOrd
import Derived.Test.YtmchiibbodllaaaGreatDoorOrdD
import Derived.Test.YtmchiibbodllaaaGreatDoorLKnown
import Derived.Test.YtmchiibbodllaaaGreatDoorMm1
import Derived.Test.YtmchiibbodllaaaGreatDoorMm3
import Derived.Test.YtmchiibbodllaaaGreatDoorTw
namespace Go.Proofs.YtmchiibbodllaaaGreatDoor
set_option linter.unusedVariables false
set_option linter.unnecessarySimpa false
set_option linter.unusedSimpArgs false
open Go.RowKit

/-- A stream: where it stands, the place of the first error, the error. -/
structure St where
  i : Nat
  ln : Int
  cl : Int
  e : Int
section
variable (us : List Tn)
def St.pk (s : St) : Tn := if s.e = 0 then (us[s.i]?).getD zTk else zTk
def St.nx (s : St) : St := if s.e = 0 ∧ s.i + 1 < us.length then ⟨s.i + 1, s.ln, s.cl, s.e⟩ else s
def St.isB (s : St) (t : List UInt8) : Bool := decide (s.e = 0 ∧ ((s.pk us).k = 1 ∨ (s.pk us).k = 5) ∧ (s.pk us).tx = t)
def St.fl (s : St) (x : Int) : St := if s.e = 0 ∧ x ≠ 0 then ⟨s.i, (s.pk us).ln, (s.pk us).cl, x⟩ else s
def St.acc (s : St) (t : List UInt8) : St := if s.isB us t = true then s.nx us else s
def St.xpt (s : St) (t : List UInt8) : St := if s.isB us t = true then s.nx us else s.fl us 13
def St.tkT (s : St) (k : Int) : Tn := if s.e = 0 ∧ (s.pk us).k = k then s.pk us else zTk
def St.tk (s : St) (k : Int) : St := if s.e = 0 ∧ (s.pk us).k = k then s.nx us else s.fl us 13
/-- A stream that has no error stands at a token. -/
def St.Ok (s : St) : Prop := s.e = 0 → s.i < us.length
def Kinds : Prop := ∀ i t, us[i]? = some t → (t.k = 0 ↔ i + 1 = us.length)
end
section
variable {us : List Tn}
theorem St.pk_ok {s : St} (h : s.Ok us) (he : s.e = 0) : us[s.i]? = some (s.pk us) := by
  unfold St.pk
  rw [if_pos he, List.getElem?_eq_getElem (h he)]
  rfl
theorem St.pk_bad {s : St} (he : s.e ≠ 0) : s.pk us = zTk := by unfold St.pk; rw [if_neg he]
theorem St.Ok.nx {s : St} (h : s.Ok us) : (s.nx us).Ok us := by
  unfold St.nx
  split
  · rename_i hc
    exact fun _ => hc.2
  · exact h
theorem St.Ok.fl {s : St} (h : s.Ok us) (x : Int) : (s.fl us x).Ok us := by
  unfold St.fl
  split
  · rename_i hc
    exact fun e => absurd e hc.2
  · exact h
theorem St.Ok.acc {s : St} (h : s.Ok us) (t : List UInt8) : (s.acc us t).Ok us := by unfold St.acc; split <;> first | exact h.nx | exact h
theorem St.Ok.xpt {s : St} (h : s.Ok us) (t : List UInt8) : (s.xpt us t).Ok us := by unfold St.xpt; split <;> first | exact h.nx | exact h.fl _
theorem St.Ok.tk {s : St} (h : s.Ok us) (k : Int) : (s.tk us k).Ok us := by unfold St.tk; split <;> first | exact h.nx | exact h.fl _
theorem St.nx_bad {s : St} (he : s.e ≠ 0) : s.nx us = s := by unfold St.nx; rw [if_neg (fun h => he h.1)]
theorem St.nx_last {s : St} (hk : ¬ s.i + 1 < us.length) : s.nx us = s := by unfold St.nx; rw [if_neg (fun h => hk h.2)]
theorem St.nx_go {s : St} (he : s.e = 0) (hk : s.i + 1 < us.length) : s.nx us = ⟨s.i + 1, s.ln, s.cl, s.e⟩ := by unfold St.nx; rw [if_pos ⟨he, hk⟩]
theorem St.fl_bad {s : St} (he : s.e ≠ 0) (x : Int) : s.fl us x = s := by unfold St.fl; rw [if_neg (fun h => he h.1)]
theorem St.fl_zero {s : St} : s.fl us 0 = s := by unfold St.fl; rw [if_neg (fun h => h.2 rfl)]
theorem St.fl_go {s : St} (he : s.e = 0) {x : Int} (hx : x ≠ 0) : s.fl us x = ⟨s.i, (s.pk us).ln, (s.pk us).cl, x⟩ := by unfold St.fl; rw [if_pos ⟨he, hx⟩]
theorem St.isB_bad {s : St} (he : s.e ≠ 0) (t : List UInt8) : s.isB us t = false := by unfold St.isB; exact decide_eq_false (fun h => he h.1)
end
theorem kinds_toks {l : List UInt8} {ts : List Pl} (h : scanL l = .ok ts) : Kinds (toks l ts) := by
  obtain ⟨ps, hr, rfl, hc⟩ := scanL_ok h
  have hk := plc_k (l := l) ps _ 0 true hr
  intro i t ht
  rw [toks_len]
  unfold toks at ht
  by_cases hi : i < ((plc 0 true ps).map (tnOf l)).length
  · rw [List.getElem?_append_left hi] at ht
    have := hk t (List.mem_of_getElem? ht)
    rw [List.length_map] at hi
    omega
  · rw [List.getElem?_append_right (by omega)] at ht
    have h2 := (List.getElem?_eq_some_iff.1 ht).1
    simp only [List.length_map, List.length_cons, List.length_nil] at h2 hi ht
    have h3 : i = (plc 0 true ps).length := by omega
    subst h3
    simp at ht
    subst ht
    exact ⟨fun _ => rfl, fun _ => rfl⟩

/-- A call of a stream. -/
structure Ac where
  c : Int
  k : Int
  lo : Int
  hi : Int
  tx : List UInt8
def acC (a : Ac) : List Value := [.int .i64 a.c, .int .i64 a.k, .int .i64 a.lo, .int .i64 a.hi, .string (B a.tx)]
def rwA (l : List Ac) : List Value := l.flatMap acC
theorem rwA_len : ∀ l : List Ac, (rwA l).length = l.length * 5
  | [] => rfl
  | t :: ts => by
    have := rwA_len ts
    unfold rwA at this ⊢
    rw [List.flatMap_cons, List.length_append, this, List.length_cons]
    show 5 + _ = _
    omega
theorem rwA_get : ∀ (ts : List Ac) (j k : Nat) (t : Ac), ts[j]? = some t → k < 5 → (rwA ts)[j * 5 + k]? = (acC t)[k]?
  | [], j, k, t, h, hk => by simp at h
  | x :: ts, 0, k, t, h, hk => by
    simp at h
    subst h
    unfold rwA
    rw [List.flatMap_cons, Nat.zero_mul, Nat.zero_add, List.getElem?_append_left (by show k < 5; exact hk)]
  | x :: ts, j + 1, k, t, h, hk => by
    have ih := rwA_get ts j k t (by simpa using h) hk
    unfold rwA at ih ⊢
    rw [List.flatMap_cons, List.getElem?_append_right (by show 5 ≤ _; omega), show (acC x).length = 5 from rfl, show (j + 1) * 5 + k - 5 = j * 5 + k by omega]
    exact ih
/-- A slice of calls. -/
def ActsW (w : World) (A : Option Addr) (n c : Nat) (l : List Ac) : Prop := l.length = n ∧ n ≤ c ∧ c ≤ maxLen ∧ Sl w A (n * 5) (rwA l)
theorem ActsW.grow {w w' : World} {A : Option Addr} {n c : Nat} {l : List Ac} (h : ActsW w A n c l) (hb : Below w.heap.size w w') : ActsW w' A n c l := ⟨h.1, h.2.1, h.2.2.1, h.2.2.2.grow hb⟩
theorem ActsW.at_ {w : World} {A : Option Addr} {n c : Nat} {ts : List Ac} (h : ActsW w A n c ts) {j : Nat} {t : Ac} (ht : ts[j]? = some t) : ∃ g off, A = some ⟨g, off, none⟩ ∧ g < w.heap.size ∧
    w.cell? ⟨g, off + j * 5, none⟩ = some (.int .i64 t.c) ∧ w.cell? ⟨g, off + j * 5 + 1, none⟩ = some (.int .i64 t.k) ∧ w.cell? ⟨g, off + j * 5 + 2, none⟩ = some (.int .i64 t.lo) ∧ w.cell? ⟨g, off + j * 5 + 3, none⟩ = some (.int .i64 t.hi) ∧
    w.cell? ⟨g, off + j * 5 + 4, none⟩ = some (.string (B t.tx)) := by
  obtain ⟨h1, h2, h3, h4⟩ := h
  have hj : j < n := by rw [← h1]; exact (List.getElem?_eq_some_iff.1 ht).1
  obtain ⟨g, off, e, hg, hc⟩ := h4.2 (by omega)
  have key : ∀ k u, k < 5 → (acC t)[k]? = some u → w.cell? ⟨g, off + j * 5 + k, none⟩ = some u := by
    intro k u hk hu
    rw [Nat.add_assoc]
    exact hc _ _ (by rw [rwA_get ts j k t ht hk]; exact hu)
  exact ⟨g, off, e, hg, key 0 _ (by decide) rfl, key 1 _ (by decide) rfl, key 2 _ (by decide) rfl, key 3 _ (by decide) rfl, key 4 _ (by decide) rfl⟩

/-! ### Streams in memory -/
/-- A slice's cells lie elsewhere: below N, neither in p nor in q. -/
def Apart (N p q : Nat) (A : Option Addr) : Prop := ∀ ad, A = some ad → ad.block < N ∧ ad.block ≠ p ∧ ad.block ≠ q
/-- The program's stream in block p (the other one: q; all that they reach lies below N). -/
def StW (w : World) (N p q : Nat) (us : List Tn) (s : St) : Prop :=
  (N ≤ w.heap.size ∧ p < N ∧ q < N ∧ p ≠ q) ∧ ∃ A c, Bx w p [.slice A (us.length - s.i) c, .int .i64 s.ln, .int .i64 s.cl, .int .i64 s.e] ∧ Apart N p q A ∧ TksW w A (us.length - s.i) c (us.drop s.i) ∧ s.Ok us
/-- The definition's stream in block q. -/
def MsW (w : World) (N p q : Nat) (us : List Tn) (s : St) : Prop :=
  (N ≤ w.heap.size ∧ p < N ∧ q < N ∧ p ≠ q) ∧ ∃ A c, Bx w q [.slice A us.length c, .int .i64 s.i, .int .i64 s.ln, .int .i64 s.cl, .int .i64 s.e] ∧ Apart N p q A ∧ TksW w A us.length c us ∧ s.Ok us
theorem TksW.keep {ok : Nat → Prop} {w w' : World} {A : Option Addr} {n c : Nat} {ts : List Tn} (h : TksW w A n c ts) (ho : OkA ok A) (hk : Keeps ok w w') : TksW w' A n c ts := ⟨h.1, h.2.1, h.2.2.1, h.2.2.2.keep ho hk⟩
theorem Chg.setNew {b r B : Nat} {a w : World} (h : Chg b r a w) (hB : a.heap.size ≤ B) (o : Nat) (v : Value) : Chg b r a (w.setCell ⟨B, o, none⟩ v) :=
  h.under (Nat.le_refl _) h.size ((Below.refl _ _).setCell (p := ⟨B, o, none⟩) hB v)
theorem Chg.setsNew {b r B : Nat} {a w : World} (h : Chg b r a w) (hB : a.heap.size ≤ B) (vs : List Value) (o : Nat) : Chg b r a (w.setCells B o vs) :=
  h.under (Nat.le_refl _) h.size (Below.setCellsT hB vs o w (Below.refl _ _))
section
variable {w w' : World} {N p q : Nat} {us : List Tn} {s : St}
theorem StW.lt (h : StW w N p q us s) : p < w.heap.size := Nat.lt_of_lt_of_le h.1.2.1 h.1.1
theorem MsW.lt (h : MsW w N p q us s) : q < w.heap.size := Nat.lt_of_lt_of_le h.1.2.2.1 h.1.1
/-- What changed neither p nor anything below N but q. -/
theorem StW.keep (h : StW w N p q us s) (hk : Keeps (fun x => x < N ∧ x ≠ q) w w') : StW w' N p q us s := by
  obtain ⟨⟨a1, a2, a3, a4⟩, A, c, h1, h2, h3, h4⟩ := h
  exact ⟨⟨Nat.le_trans a1 hk.1, a2, a3, a4⟩, A, c, h1.keep hk ⟨a2, a4⟩, h2, h3.keep (fun ad e => ⟨(h2 ad e).1, (h2 ad e).2.2⟩) hk, h4⟩
theorem MsW.keep (h : MsW w N p q us s) (hk : Keeps (fun x => x < N ∧ x ≠ p) w w') : MsW w' N p q us s := by
  obtain ⟨⟨a1, a2, a3, a4⟩, A, c, h1, h2, h3, h4⟩ := h
  exact ⟨⟨Nat.le_trans a1 hk.1, a2, a3, a4⟩, A, c, h1.keep hk ⟨a3, fun e => a4 e.symm⟩, h2, h3.keep (fun ad e => ⟨(h2 ad e).1, (h2 ad e).2.1⟩) hk, h4⟩
theorem StW.grow (h : StW w N p q us s) (hb : Below w.heap.size w w') : StW w' N p q us s := h.keep (Keeps.of_below hb)
theorem MsW.grow (h : MsW w N p q us s) (hb : Below w.heap.size w w') : MsW w' N p q us s := h.keep (Keeps.of_below hb)
theorem StW.chg (h : StW w N p q us s) (hb : Chg q q w w') : StW w' N p q us s := h.keep (hb.2.mono fun x hx => ⟨hx.2, hx.2⟩)
theorem MsW.chg (h : MsW w N p q us s) (hb : Chg p p w w') : MsW w' N p q us s := h.keep (hb.2.mono fun x hx => ⟨hx.2, hx.2⟩)
theorem keeps_sets {r : Nat} {M : Nat → Prop} (hM : ∀ x, M x → x ≠ r) (vs : List Value) : ∀ (o : Nat) (a w : World), Keeps M a w → Keeps M a (w.setCells r o vs) := by
  induction vs with
  | nil => exact fun _ _ _ h => h
  | cons v vs ih => exact fun o a w h => ih (o + 1) a _ (h.setCell (p := ⟨r, o, none⟩) (fun k => hM _ k rfl) v)
theorem StW.fill (h : StW w N p q us s) {r : Nat} (hr : N ≤ r) (vs : List Value) (o : Nat) : StW (w.setCells r o vs) N p q us s :=
  h.keep (keeps_sets (fun x hx => by omega) vs o w w (Keeps.refl _ _))
theorem MsW.fill (h : MsW w N p q us s) {r : Nat} (hr : N ≤ r) (vs : List Value) (o : Nat) : MsW (w.setCells r o vs) N p q us s :=
  h.keep (keeps_sets (fun x hx => by omega) vs o w w (Keeps.refl _ _))
theorem StW.ok (h : StW w N p q us s) : s.Ok us := by
  obtain ⟨_, A, c, h1, h2, h4, h5⟩ := h
  exact h5
theorem MsW.ok (h : MsW w N p q us s) : s.Ok us := by
  obtain ⟨_, A, c, h1, h2, h4, h5⟩ := h
  exact h5
end
end Go.Proofs.YtmchiibbodllaaaGreatDoor

namespace Go.Proofs.YtmchiibbodllaaaGreatDoor
set_option linter.unusedVariables false
set_option linter.unnecessarySimpa false
set_option linter.unusedSimpArgs false
open Go.RowKit

def tnV (t : Tn) : Value := tnL t.k t.ln t.cl t.tx t.v t.n t.s t.j
def zV : Value := .agg #[.int .i64 0, .int .i64 0, .int .i64 0, .string ⟨#[]⟩, .string ⟨#[]⟩, .int .i64 0, .int .i64 0, .bool false]
theorem tnV_z : tnV zTk = zV := rfl
theorem ptrNe (p : Nat) (w : World) : (binOp .neq 35 (.pointer (some ⟨p, 0, none⟩)) (.pointer none)).run Tryz.prog w = .ok (.bool true) w := by kernel_rfl
theorem ptrEq (p : Nat) (w : World) : (binOp .eql 35 (.pointer (some ⟨p, 0, none⟩)) (.pointer none)).run Tryz.prog w = .ok (.bool false) w := by kernel_rfl
section
variable {w w' : World} {N p q : Nat} {us : List Tn} {s s' : St}
/-- A stream at a token: its cells. -/
theorem StW.cut (h : StW w N p q us s) (he : s.e = 0) : ∃ t m c g off, s.pk us = t ∧ us.length - s.i = m + 1 ∧ m ≤ c ∧ c + 1 ≤ maxLen ∧ p < w.heap.size ∧ g < w.heap.size ∧ g ≠ p ∧ us[s.i]? = some t ∧
    Bx w p [.slice (some ⟨g, off, none⟩) (m + 1) (c + 1), .int .i64 s.ln, .int .i64 s.cl, .int .i64 0] ∧
    w.cell? ⟨g, off, none⟩ = some (.int .i64 t.k) ∧ w.cell? ⟨g, off + 1, none⟩ = some (.int .i64 t.ln) ∧ w.cell? ⟨g, off + 2, none⟩ = some (.int .i64 t.cl) ∧ w.cell? ⟨g, off + 3, none⟩ = some (.string (B t.tx)) ∧
    w.cell? ⟨g, off + 4, none⟩ = some (.string (B t.v)) ∧ w.cell? ⟨g, off + 5, none⟩ = some (.int .i64 t.n) ∧ w.cell? ⟨g, off + 6, none⟩ = some (.int .i64 t.s) ∧ w.cell? ⟨g, off + 7, none⟩ = some (.bool t.j) := by
  have h0 := St.pk_ok h.ok he
  have lt := h.lt
  obtain ⟨a0, A, c, h1, h2, h4, h5⟩ := h
  have hi := h5 he
  obtain ⟨m, hm⟩ : ∃ m, us.length - s.i = m + 1 := ⟨us.length - s.i - 1, by omega⟩
  rw [hm] at h1 h4
  have hc := h4.2.1
  have hcm := h4.2.2.1
  obtain ⟨c, rfl⟩ : ∃ c', c = c' + 1 := ⟨c - 1, by omega⟩
  obtain ⟨t, ht⟩ : ∃ t, s.pk us = t := ⟨_, rfl⟩
  rw [ht] at h0
  obtain ⟨g, off, rfl, hg, p0, p1, p2, p3, p4, p5, p6, p7⟩ := h4.at_ (j := 0) (t := t) (by rw [List.getElem?_drop]; simpa using h0)
  simp only [Nat.zero_mul, Nat.add_zero] at p0 p1 p2 p3 p4 p5 p6 p7
  rw [he] at h1
  exact ⟨t, m, c, g, off, ht, hm, by omega, hcm, lt, hg, (h2 _ rfl).2.1, h0, h1, p0, p1, p2, p3, p4, p5, p6, p7⟩
theorem StW.bad (h : StW w N p q us s) (he : s.e ≠ 0) : ∃ A c n, n ≤ c ∧ c ≤ maxLen ∧ p < w.heap.size ∧ Bx w p [.slice A n c, .int .i64 s.ln, .int .i64 s.cl, .int .i64 s.e] := by
  obtain ⟨a0, A, c, h1, h2, h4, h5⟩ := h
  exact ⟨A, c, _, h4.2.1, h4.2.2.1, h1.lt, h1⟩
set_option maxRecDepth 20000 in set_option maxHeartbeats 400000 in
theorem sp_ok (h : StW w N p q us s) : Calls Tryz.prog 57 #[.pointer (some ⟨p, 0, none⟩)] w fun e w' => e = .returned (.bool (decide (s.e = 0))) ∧ w' = w := by
  have q := ptrNe p
  by_cases he : s.e = 0
  · obtain ⟨t, m, c, g, off, ht, hm, hc, hcm, lt, hg, hne, h0, hB, -⟩ := h.cut he
    obtain ⟨k0, k1, k2, k3⟩ := hB.c4
    rw [decide_eq_true he]
    clear hB h h0
    go_enter Tryz.func57, Tryz.ntmps57
    go_wp2_with fail
    go_ret
    exact ⟨rfl, rfl⟩
  · obtain ⟨A, c, n, hc, hcm, lt, hB⟩ := h.bad he
    obtain ⟨k0, k1, k2, k3⟩ := hB.c4
    rw [decide_eq_false he]
    clear hB h
    go_enter Tryz.func57, Tryz.ntmps57
    go_wp2_with fail
    go_ret
    exact ⟨rfl, rfl⟩
set_option maxRecDepth 20000 in set_option maxHeartbeats 400000 in
theorem sp_peek (h : StW w N p q us s) : Calls Tryz.prog 20 #[.pointer (some ⟨p, 0, none⟩)] w fun e w' => e = .returned (tnV (s.pk us)) ∧ Below w.heap.size w w' := by
  by_cases he : s.e = 0
  · have OK := Lib.hid (fun (wx : World) (h : StW wx N p q us s) => decide_eq_true he ▸ sp_ok h)
    have H := Lib.hid h
    obtain ⟨t, m, c, g, off, ht, hm, hc, hcm, lt, hg, hne, h0, hB, p0, p1, p2, p3, p4, p5, p6, p7⟩ := h.cut he
    obtain ⟨k0, k1, k2, k3⟩ := hB.c4
    rw [ht]
    unfold tnV
    clear hB h h0 he ht
    go_enter Tryz.func20, Tryz.ntmps20
    go_wp2_with fail
    go_at_call 57
    (with_reducible refine (OK.out _ (H.out.grow (G.alloc (G.refl w) _))).mono ?_)
    rintro e1 w1 ⟨rfl, rfl⟩
    go_wp2_with fail
    exact bodyPost_ret (v := tnL t.k t.ln t.cl t.tx t.v t.n t.s t.j) (by simp only [results, Tryz.results20]; go_simp) rfl ⟨rfl, by repeat (first | with_reducible assumption | with_reducible exact G.refl _ | with_reducible refine G.drew ?_ | with_reducible refine G.drewN ?_ _ | with_reducible refine G.alloc ?_ _ | with_reducible refine Below.setCell ?_ (by first | (simp; done) | (simp; omega)) _ | with_reducible refine G.trans ?_ hb12 | with_reducible refine G.trans ?_ hb11 | with_reducible refine G.trans ?_ hb10 | with_reducible refine G.trans ?_ hb9 | with_reducible refine G.trans ?_ hb8 | with_reducible refine G.trans ?_ hb7 | with_reducible refine G.trans ?_ hb6 | with_reducible refine G.trans ?_ hb5 | with_reducible refine G.trans ?_ hb4 | with_reducible refine G.trans ?_ hb3 | with_reducible refine G.trans ?_ hb2 | with_reducible refine G.trans ?_ hb1 | with_reducible refine G.trans ?_ hb | assumption)⟩
  · have OK := Lib.hid (fun (wx : World) (h : StW wx N p q us s) => decide_eq_false he ▸ sp_ok h)
    have H := Lib.hid h
    rw [St.pk_bad he, tnV_z]
    unfold zV
    clear h he
    go_enter Tryz.func20, Tryz.ntmps20
    go_wp2_with fail
    go_at_call 57
    (with_reducible refine (OK.out _ (H.out.grow (G.alloc (G.refl w) _))).mono ?_)
    rintro e1 w1 ⟨rfl, rfl⟩
    go_wp2_with fail
    exact bodyPost_ret (v := .agg #[.int .i64 0, .int .i64 0, .int .i64 0, .string ⟨#[]⟩, .string ⟨#[]⟩, .int .i64 0, .int .i64 0, .bool false]) (by simp only [results, Tryz.results20]; go_simp) rfl ⟨rfl, by repeat (first | with_reducible assumption | with_reducible exact G.refl _ | with_reducible refine G.drew ?_ | with_reducible refine G.drewN ?_ _ | with_reducible refine G.alloc ?_ _ | with_reducible refine Below.setCell ?_ (by first | (simp; done) | (simp; omega)) _ | with_reducible refine G.trans ?_ hb12 | with_reducible refine G.trans ?_ hb11 | with_reducible refine G.trans ?_ hb10 | with_reducible refine G.trans ?_ hb9 | with_reducible refine G.trans ?_ hb8 | with_reducible refine G.trans ?_ hb7 | with_reducible refine G.trans ?_ hb6 | with_reducible refine G.trans ?_ hb5 | with_reducible refine G.trans ?_ hb4 | with_reducible refine G.trans ?_ hb3 | with_reducible refine G.trans ?_ hb2 | with_reducible refine G.trans ?_ hb1 | with_reducible refine G.trans ?_ hb | assumption)⟩
set_option maxRecDepth 20000 in set_option maxHeartbeats 400000 in
theorem sp_error (h : StW w N p q us s) : Calls Tryz.prog 19 #[.pointer (some ⟨p, 0, none⟩)] w fun e w' => e = .returned (.tuple #[.int .i64 s.ln, .int .i64 s.cl, .int .i64 s.e]) ∧ Below w.heap.size w w' := by
  obtain ⟨a0, A, c, hB, h2, h4, h5⟩ := h
  obtain ⟨k0, k1, k2, k3⟩ := hB.c4
  have lt := hB.lt
  have q := ptrEq p
  clear hB h2 h4 h5 a0
  go_enter Tryz.func19, Tryz.ntmps19
  go_upto_region 3 with fail
  refine wp_region_ord [(0, 1), (1, 1), (2, 1), (3, 1), (4, 1), (5, 1), (6, 1), (7, 1), (8, 1), (9, 1), (10, 1), (11, 1), (12, 1), (13, 1), (14, 1)] [] 5 (by kernel_rfl) (by decide +kernel) ?_
  simp only [pickO, List.append_eq, List.cons_append, List.nil_append, List.getElem?_cons_succ, List.getElem?_cons_zero]
  intro w0 hG
  (repeat ((first | (with_reducible refine ord_q1 ?_) | (with_reducible refine ord_q0 ?_)); intro K hK; first | (refine Or.inr ⟨?_, ?_⟩; (focus (go_simp; first | done | (simp [undef]; done))); go_simp; (with_reducible refine hK _ ?_); clear hK K) | (refine Or.inl ⟨?_, ?_⟩; (focus (go_simp; done)); apply Exists.intro; refine And.intro ?_ ?_; (focus (first | (intro wq hq; obtain ⟨hcq, hfq⟩ := G.old hq; go_simp; (first | done | exact rfl); done) | (intro wq; go_simp; (first | done | exact rfl); done))); go_simp; (with_reducible refine hK _ ?_); clear hK K) | fail))
  (with_reducible refine ord_nil ?_)
  go_wp2_with fail
  exact bodyPost_ret (v := .tuple #[.int .i64 s.ln, .int .i64 s.cl, .int .i64 s.e]) (by simp only [results, Tryz.results19]; go_simp) rfl ⟨rfl, hG.b⟩
/-- What a step to the next token leaves. -/
theorem StW.nxt (h : StW w N p q us s) (he : s.e = 0) (hl : s.i + 1 < us.length) (hc : Chg p p w w') {g off m c : Nat} (hB0 : Bx w p [.slice (some ⟨g, off, none⟩) (m + 1) (c + 1), .int .i64 s.ln, .int .i64 s.cl, .int .i64 0])
    (hB : Bx w' p [.slice (some ⟨g, off + 8, none⟩) m c, .int .i64 s.ln, .int .i64 s.cl, .int .i64 0]) : StW w' N p q us (s.nx us) := by
  obtain ⟨⟨x1, x2, x3, x4⟩, A, c2, h1, h2, h4, h5⟩ := h
  have e0 := (h1.2 0 _ rfl).1
  rw [(hB0.2 0 _ rfl).1] at e0
  simp only [Option.some.injEq, Value.slice.injEq] at e0
  obtain ⟨rfl, hm, rfl⟩ := e0
  rw [St.nx_go he hl]
  refine ⟨⟨Nat.le_trans x1 hc.size, x2, x3, x4⟩, some ⟨g, off + 8, none⟩, c, ?_, fun ad e => ?_, ?_, fun _ => hl⟩
  · have : us.length - (s.i + 1) = m := by omega
    show Bx w' p [.slice _ (us.length - (s.i + 1)) c, .int .i64 s.ln, .int .i64 s.cl, .int .i64 s.e]
    rw [this, he]
    exact hB
  · cases e
    exact h2 ⟨g, off, none⟩ rfl
  · obtain ⟨a1, a2, a3, a4⟩ := TksW.keep (ok := fun x => x ≠ p ∧ x ≠ p) h4 (fun ad e => ⟨(h2 ad e).2.1, (h2 ad e).2.1⟩) hc.2
    have hi : us.length - (s.i + 1) = m := by omega
    show TksW w' _ (us.length - (s.i + 1)) c (us.drop (s.i + 1))
    rw [hi]
    refine ⟨by rw [List.length_drop]; omega, by omega, by omega, ?_⟩
    have hlen : (us.drop s.i).length = m + 1 := by rw [List.length_drop]; omega
    obtain ⟨x, r, hx⟩ : ∃ x r, us.drop s.i = x :: r := by
      rcases hh : us.drop s.i with _ | ⟨x, r⟩
      · rw [hh] at hlen; cases hlen
      · exact ⟨x, r, rfl⟩
    have hr : us.drop (s.i + 1) = r := by
      have := congrArg (List.drop 1) hx
      rw [List.drop_drop] at this
      simpa [Nat.add_comm] using this
    rw [hr]
    rw [hx] at a4 hlen
    obtain ⟨b1, b2⟩ := a4
    simp only [List.length_cons] at hlen
    refine ⟨by rw [rwT_len]; omega, fun hm0 => ?_⟩
    obtain ⟨g', off', e', hg', hcell⟩ := b2 (by omega)
    cases e'
    refine ⟨g, off + 8, rfl, hg', fun i u hu => ?_⟩
    have := hcell (8 + i) u (by
      unfold rwT at hu ⊢
      rw [List.flatMap_cons, List.getElem?_append_right (by rw [tnC_len]; omega), tnC_len]
      simpa using hu)
    rw [show off + 8 + i = off + (8 + i) by omega]
    exact this
/-- From w to w' only the stream changed, and it is s' now. -/
def NxP (N p q : Nat) (us : List Tn) (s' : St) (w w' : World) : Prop := Chg p p w w' ∧ StW w' N p q us s'
theorem NxP.st (h : NxP N p q us s w w') : StW w' N p q us s := h.2
theorem NxP.ch (h : NxP N p q us s w w') : Chg p p w w' := h.1
theorem NxP.stay (h : StW w N p q us s) (hb : Below w.heap.size w w') : NxP N p q us s w w' := ⟨Chg.of_below hb, h.grow hb⟩
theorem NxP.fill {r : Nat} (h : NxP N p q us s w w') (hr : w.heap.size ≤ r) (hN : N ≤ w.heap.size) (vs : List Value) (o : Nat) : NxP N p q us s w (w'.setCells r o vs) :=
  ⟨h.1.setsNew hr vs o, h.2.fill (Nat.le_trans hN hr) vs o⟩
theorem NxP.grow {w2 : World} (h : NxP N p q us s w w') (hb : Below w'.heap.size w' w2) : NxP N p q us s w w2 := ⟨h.1.grow hb, h.2.grow hb⟩
theorem NxP.pre {w0 : World} (h : NxP N p q us s w w') (hb : Below w0.heap.size w0 w) : NxP N p q us s w0 w' := ⟨(Chg.of_below hb).trans h.1, h.2⟩
theorem NxP.trans {w2 : World} (h : NxP N p q us s w w') (k : NxP N p q us s' w' w2) : NxP N p q us s' w w2 := ⟨h.1.trans k.1, k.2⟩
set_option maxRecDepth 20000 in set_option maxHeartbeats 1000000 in
theorem sp_next (h : StW w N p q us s) : Calls Tryz.prog 21 #[.pointer (some ⟨p, 0, none⟩)] w fun e w' => e = .returned (tnV (s.pk us)) ∧ NxP N p q us (s.nx us) w w' := by
  have H := Lib.hid h
  have PK := Lib.hid (fun (wx : World) (h : StW wx N p q us s) => sp_peek h)
  have hN := h.1.1
  obtain ⟨r, hr⟩ : ∃ r, w.heap.size = r := ⟨_, rfl⟩
  have HR := Lib.hid hr
  by_cases he : s.e = 0
  · have OK := Lib.hid (fun (wx : World) (h : StW wx N p q us s) => decide_eq_true he ▸ sp_ok h)
    obtain ⟨t, m, c, g, off, ht, hm, hc, hcm, lt, hg, hne, h0, hB, -⟩ := h.cut he
    have HB := Lib.hid hB
    rw [ht] at PK ⊢
    unfold tnV at PK ⊢
    clear hB h h0
    by_cases hl : s.i + 1 < us.length
    · have hm0 : 0 < m := by omega
      have hc0 : ¬ c = 0 := by omega
      have hm1 : (1 : Int) < ((m + 1 : Nat) : Int) := by omega
      have NX := Lib.hid (fun (wx : World) (hc : Chg p p w wx) (hB : Bx wx p [.slice (some ⟨g, off + 8, none⟩) m c, .int .i64 s.ln, .int .i64 s.cl, .int .i64 0]) => H.out.nxt he hl hc HB.out hB)
      clear he hl hm ht
      go_enter Tryz.func21, Tryz.ntmps21
      go_wp2_with fail
      go_at_call 20
      refine calls_name (fun wx => Hid (Bx wx r [.int .i64 0, .int .i64 0, .int .i64 0, .string ⟨#[]⟩, .string ⟨#[]⟩, .int .i64 0, .int .i64 0, .bool false]) ∧ Hid (Below r w wx)) ⟨Bx.new hr.symm rfl, by rw [← hr]; exact G.alloc (G.refl w) _⟩ ?_
      rintro w0 ⟨hx0, hb0⟩
      have hb0' : Hid (Below w.heap.size w w0) := by rw [hr]; exact hb0
      (with_reducible refine (PK.out _ (H.out.grow hb0'.out)).mono ?_)
      rintro e1 w1 ⟨rfl, hb1⟩
      have hx1 := Lib.hid (hx0.out.grow hb1)
      replace hb1 := Lib.hid (G.trans hb0'.out hb1)
      have HS1 := Lib.hid (H.out.grow hb1.out)
      have hB1 := HB.out.grow hb1.out
      obtain ⟨k0, k1, k2, k3⟩ := hB1.c4
      obtain ⟨z0, z1, z2, z3⟩ := hB1.f4
      have lt1 := hB1.lt
      clear hx0 hb0 hb0' PK hB1
      go_wp2_with fail
      go_at_call 57
      (with_reducible refine (OK.out _ (HS1.out.grow (G.alloc (G.refl w1) _))).mono ?_)
      rintro e1 w2 ⟨rfl, rfl⟩
      go_upto_region 4 with fail
      obtain ⟨r3, hr3⟩ : ∃ r3, w1.heap.size = r3 := ⟨_, rfl⟩
      rw [hr3]
      have hrp : ¬ r = p := by omega
      have hr3p : ¬ r3 = p := by omega
      have hr3r : ¬ r = r3 := by have := hx1.out.lt; omega
      refine wp_name (fun wx => Hid (Bx wx r [.int .i64 0, .int .i64 0, .int .i64 0, .string ⟨#[]⟩, .string ⟨#[]⟩, .int .i64 0, .int .i64 0, .bool false]) ∧ Hid (Bx wx r3 (tnC t)) ∧ Hid (Bx wx p [.slice (some ⟨g, off + 8, none⟩) m c, .int .i64 s.ln, .int .i64 s.cl, .int .i64 0]) ∧ Hid (Chg p p w wx)) ⟨Lib.hid (Bx.alloc (hx1.out.other hrp _) _), Lib.hid (Bx.new (by simp [hr3]) rfl), Lib.hid (Bx.alloc (Bx.put (HB.out.grow hb1.out) rfl) _), Lib.hid (((Chg.of_below hb1.out).set1 _ _).alloc _)⟩ ?_
      rintro w3 ⟨hx3, hy3, hp3, hc3⟩
      clear hx1 hb1 HS1 k0 k1 k2 k3 z0 z1 z2 z3
      obtain ⟨l0, l1, l2, l3, l4, l5, l6, l7⟩ := hy3.out.c8
      obtain ⟨k0, k1, k2, k3, k4, k5, k6, k7⟩ := hx3.out.c8
      obtain ⟨z0, z1, z2, z3, z4, z5, z6, z7⟩ := hx3.out.f8
      have ltr := hx3.out.lt
      have ltr3 := hy3.out.lt
      clear hx3 hy3
      go_wp2_with fail
      have hcF := hc3.out.setsNew (Nat.le_of_eq HR.out) (tnC t) 0
      have hBF := Bx.othersT (fun e => hrp e.symm) (tnC t) 0 _ hp3.out
      exact bodyPost_ret (v := tnL t.k t.ln t.cl t.tx t.v t.n t.s t.j) (by simp only [results, Tryz.results21]; go_simp) rfl ⟨rfl, hcF, NX.out _ hcF hBF⟩
    · have hm0 : m = 0 := by omega
      subst hm0
      rw [St.nx_last hl]
      clear he hl hm ht
      go_enter Tryz.func21, Tryz.ntmps21
      go_wp2_with fail
      go_at_call 20
      refine calls_name (fun wx => Hid (Bx wx r [.int .i64 0, .int .i64 0, .int .i64 0, .string ⟨#[]⟩, .string ⟨#[]⟩, .int .i64 0, .int .i64 0, .bool false]) ∧ Hid (Below r w wx)) ⟨Bx.new hr.symm rfl, by rw [← hr]; exact G.alloc (G.refl w) _⟩ ?_
      rintro w0 ⟨hx0, hb0⟩
      have hb0' : Hid (Below w.heap.size w w0) := by rw [hr]; exact hb0
      (with_reducible refine (PK.out _ (H.out.grow hb0'.out)).mono ?_)
      rintro e1 w1 ⟨rfl, hb1⟩
      have hx1 := Lib.hid (hx0.out.grow hb1)
      replace hb1 := Lib.hid (G.trans hb0'.out hb1)
      have HS1 := Lib.hid (H.out.grow hb1.out)
      clear hx0 hb0 hb0' PK
      have hB1 := HB.out.grow hb1.out
      obtain ⟨k0, k1, k2, k3⟩ := hB1.c4
      have lt1 := hB1.lt
      clear hB1
      go_wp2_with fail
      go_at_call 57
      (with_reducible refine (OK.out _ (HS1.out.grow (G.alloc (G.refl w1) _))).mono ?_)
      rintro e1 w2 ⟨rfl, rfl⟩
      go_upto_region 4 with fail
      obtain ⟨r3, hr3⟩ : ∃ r3, w1.heap.size = r3 := ⟨_, rfl⟩
      rw [hr3]
      have hr3r : ¬ r = r3 := by have := hx1.out.lt; omega
      refine wp_name (fun wx => Hid (Bx wx r [.int .i64 0, .int .i64 0, .int .i64 0, .string ⟨#[]⟩, .string ⟨#[]⟩, .int .i64 0, .int .i64 0, .bool false]) ∧ Hid (Bx wx r3 (tnC t)) ∧ Hid (Below w.heap.size w wx)) ⟨hx1.out.alloc _, Bx.new hr3.symm rfl, hb1.out.alloc hb1.out.size _⟩ ?_
      rintro w3 ⟨hx3, hy3, hb3⟩
      clear hx1 hb1 HS1
      obtain ⟨l0, l1, l2, l3, l4, l5, l6, l7⟩ := hy3.out.c8
      obtain ⟨k0, k1, k2, k3, k4, k5, k6, k7⟩ := hx3.out.c8
      obtain ⟨z0, z1, z2, z3, z4, z5, z6, z7⟩ := hx3.out.f8
      have ltr := hx3.out.lt
      have ltr3 := hy3.out.lt
      clear hx3 hy3
      go_wp2_with fail
      exact bodyPost_ret (v := tnL t.k t.ln t.cl t.tx t.v t.n t.s t.j) (by simp only [results, Tryz.results21]; go_simp) rfl ⟨rfl, NxP.stay H.out (Below.setCellsT (Nat.le_of_eq HR.out) (tnC t) 0 _ hb3.out)⟩
  · have OK := Lib.hid (fun (wx : World) (h : StW wx N p q us s) => decide_eq_false he ▸ sp_ok h)
    rw [St.pk_bad he] at PK ⊢
    rw [St.nx_bad he]
    obtain ⟨t, ht⟩ : ∃ t, t = zTk := ⟨_, rfl⟩
    rw [← ht] at PK ⊢
    unfold tnV at PK ⊢
    clear he h ht
    go_enter Tryz.func21, Tryz.ntmps21
    go_wp2_with fail
    go_at_call 20
    refine calls_name (fun wx => Hid (Bx wx r [.int .i64 0, .int .i64 0, .int .i64 0, .string ⟨#[]⟩, .string ⟨#[]⟩, .int .i64 0, .int .i64 0, .bool false]) ∧ Hid (Below r w wx)) ⟨Bx.new hr.symm rfl, by rw [← hr]; exact G.alloc (G.refl w) _⟩ ?_
    rintro w0 ⟨hx0, hb0⟩
    have hb0' : Hid (Below w.heap.size w w0) := by rw [hr]; exact hb0
    (with_reducible refine (PK.out _ (H.out.grow hb0'.out)).mono ?_)
    rintro e1 w1 ⟨rfl, hb1⟩
    have hx1 := Lib.hid (hx0.out.grow hb1)
    replace hb1 := Lib.hid (G.trans hb0'.out hb1)
    have HS1 := Lib.hid (H.out.grow hb1.out)
    clear hx0 hb0 hb0' PK
    go_wp2_with fail
    go_at_call 57
    (with_reducible refine (OK.out _ (HS1.out.grow (G.alloc (G.refl w1) _))).mono ?_)
    rintro e1 w2 ⟨rfl, rfl⟩
    go_upto_region 4 with fail
    obtain ⟨r3, hr3⟩ : ∃ r3, w1.heap.size = r3 := ⟨_, rfl⟩
    rw [hr3]
    have hr3r : ¬ r = r3 := by have := hx1.out.lt; omega
    refine wp_name (fun wx => Hid (Bx wx r [.int .i64 0, .int .i64 0, .int .i64 0, .string ⟨#[]⟩, .string ⟨#[]⟩, .int .i64 0, .int .i64 0, .bool false]) ∧ Hid (Bx wx r3 (tnC t)) ∧ Hid (Below w.heap.size w wx)) ⟨hx1.out.alloc _, Bx.new hr3.symm rfl, hb1.out.alloc hb1.out.size _⟩ ?_
    rintro w3 ⟨hx3, hy3, hb3⟩
    clear hx1 hb1 HS1
    obtain ⟨l0, l1, l2, l3, l4, l5, l6, l7⟩ := hy3.out.c8
    obtain ⟨k0, k1, k2, k3, k4, k5, k6, k7⟩ := hx3.out.c8
    obtain ⟨z0, z1, z2, z3, z4, z5, z6, z7⟩ := hx3.out.f8
    have ltr := hx3.out.lt
    have ltr3 := hy3.out.lt
    clear hx3 hy3
    go_wp2_with fail
    exact bodyPost_ret (v := tnL t.k t.ln t.cl t.tx t.v t.n t.s t.j) (by simp only [results, Tryz.results21]; go_simp) rfl ⟨rfl, NxP.stay H.out (Below.setCellsT (Nat.le_of_eq HR.out) (tnC t) 0 _ hb3.out)⟩
end
end Go.Proofs.YtmchiibbodllaaaGreatDoor

namespace Go.Proofs.YtmchiibbodllaaaGreatDoor
set_option linter.unusedVariables false
set_option linter.unnecessarySimpa false
set_option linter.unusedSimpArgs false
open Go.RowKit

section
variable {w w' : World} {N p q : Nat} {us : List Tn} {s s' : St}
set_option maxRecDepth 20000 in set_option maxHeartbeats 1000000 in
theorem sp_is (h : StW w N p q us s) (x : List UInt8) : Calls Tryz.prog 22 #[.pointer (some ⟨p, 0, none⟩), .string (B x)] w fun e w' => e = .returned (.bool (s.isB us x)) ∧ Below w.heap.size w w' := by
  have H := Lib.hid h
  have PK := Lib.hid (sp_peek h)
  by_cases he : s.e = 0
  · have OK := Lib.hid (fun (wx : World) (h : StW wx N p q us s) => decide_eq_true he ▸ sp_ok h)
    obtain ⟨t, ht⟩ : ∃ t, s.pk us = t := ⟨_, rfl⟩
    have hv : s.isB us x = decide ((t.k = 1 ∨ t.k = 5) ∧ t.tx = x) := by unfold St.isB; rw [ht]; simp [he]
    rw [hv]
    rw [ht] at PK
    unfold tnV at PK
    have kE := B_eq t.tx x
    obtain ⟨v, hv2⟩ : ∃ v, decide (t.tx = x) = v := ⟨_, rfl⟩
    rw [hv2] at kE
    clear hv h
    by_cases h1 : t.k = 1
    · rw [show decide ((t.k = 1 ∨ t.k = 5) ∧ t.tx = x) = v by rw [← hv2]; simp [h1]]
      clear he ht hv2
      go_enter Tryz.func22, Tryz.ntmps22
      go_wp2_with fail
      go_at_call 20
      (with_reducible refine PK.out.mono ?_)
      rintro e1 w1 ⟨rfl, hb1⟩
      go_wp2_with fail
      go_at_call 57
      (with_reducible refine (OK.out _ ((H.out.grow hb1).grow (G.alloc (G.refl w1) _))).mono ?_)
      rintro e1 w2 ⟨rfl, rfl⟩
      go_wp2_with fail
      go_ret
      exact ⟨rfl, by repeat (first | with_reducible assumption | with_reducible exact G.refl _ | with_reducible refine G.drew ?_ | with_reducible refine G.drewN ?_ _ | with_reducible refine G.alloc ?_ _ | with_reducible refine Below.setCell ?_ (by first | (simp; done) | (simp; omega)) _ | with_reducible refine G.trans ?_ hb12 | with_reducible refine G.trans ?_ hb11 | with_reducible refine G.trans ?_ hb10 | with_reducible refine G.trans ?_ hb9 | with_reducible refine G.trans ?_ hb8 | with_reducible refine G.trans ?_ hb7 | with_reducible refine G.trans ?_ hb6 | with_reducible refine G.trans ?_ hb5 | with_reducible refine G.trans ?_ hb4 | with_reducible refine G.trans ?_ hb3 | with_reducible refine G.trans ?_ hb2 | with_reducible refine G.trans ?_ hb1 | with_reducible refine G.trans ?_ hb | assumption)⟩
    · by_cases h5 : t.k = 5
      · rw [show decide ((t.k = 1 ∨ t.k = 5) ∧ t.tx = x) = v by rw [← hv2]; simp [h5]]
        clear he ht hv2
        go_enter Tryz.func22, Tryz.ntmps22
        go_wp2_with fail
        go_at_call 20
        (with_reducible refine PK.out.mono ?_)
        rintro e1 w1 ⟨rfl, hb1⟩
        go_wp2_with fail
        go_at_call 57
        (with_reducible refine (OK.out _ ((H.out.grow hb1).grow (G.alloc (G.refl w1) _))).mono ?_)
        rintro e1 w2 ⟨rfl, rfl⟩
        go_wp2_with fail
        go_ret
        exact ⟨rfl, by repeat (first | with_reducible assumption | with_reducible exact G.refl _ | with_reducible refine G.drew ?_ | with_reducible refine G.drewN ?_ _ | with_reducible refine G.alloc ?_ _ | with_reducible refine Below.setCell ?_ (by first | (simp; done) | (simp; omega)) _ | with_reducible refine G.trans ?_ hb12 | with_reducible refine G.trans ?_ hb11 | with_reducible refine G.trans ?_ hb10 | with_reducible refine G.trans ?_ hb9 | with_reducible refine G.trans ?_ hb8 | with_reducible refine G.trans ?_ hb7 | with_reducible refine G.trans ?_ hb6 | with_reducible refine G.trans ?_ hb5 | with_reducible refine G.trans ?_ hb4 | with_reducible refine G.trans ?_ hb3 | with_reducible refine G.trans ?_ hb2 | with_reducible refine G.trans ?_ hb1 | with_reducible refine G.trans ?_ hb | assumption)⟩
      · rw [show decide ((t.k = 1 ∨ t.k = 5) ∧ t.tx = x) = false by simp [h1, h5]]
        clear he ht hv2
        go_enter Tryz.func22, Tryz.ntmps22
        go_wp2_with fail
        go_at_call 20
        (with_reducible refine PK.out.mono ?_)
        rintro e1 w1 ⟨rfl, hb1⟩
        go_wp2_with fail
        go_at_call 57
        (with_reducible refine (OK.out _ ((H.out.grow hb1).grow (G.alloc (G.refl w1) _))).mono ?_)
        rintro e1 w2 ⟨rfl, rfl⟩
        go_wp2_with fail
        go_ret
        exact ⟨rfl, by repeat (first | with_reducible assumption | with_reducible exact G.refl _ | with_reducible refine G.drew ?_ | with_reducible refine G.drewN ?_ _ | with_reducible refine G.alloc ?_ _ | with_reducible refine Below.setCell ?_ (by first | (simp; done) | (simp; omega)) _ | with_reducible refine G.trans ?_ hb12 | with_reducible refine G.trans ?_ hb11 | with_reducible refine G.trans ?_ hb10 | with_reducible refine G.trans ?_ hb9 | with_reducible refine G.trans ?_ hb8 | with_reducible refine G.trans ?_ hb7 | with_reducible refine G.trans ?_ hb6 | with_reducible refine G.trans ?_ hb5 | with_reducible refine G.trans ?_ hb4 | with_reducible refine G.trans ?_ hb3 | with_reducible refine G.trans ?_ hb2 | with_reducible refine G.trans ?_ hb1 | with_reducible refine G.trans ?_ hb | assumption)⟩
  · have OK := Lib.hid (fun (wx : World) (h : StW wx N p q us s) => decide_eq_false he ▸ sp_ok h)
    rw [St.isB_bad he]
    obtain ⟨t, ht⟩ : ∃ t, s.pk us = t := ⟨_, rfl⟩
    rw [ht] at PK
    unfold tnV at PK
    clear he h ht
    go_enter Tryz.func22, Tryz.ntmps22
    go_wp2_with fail
    go_at_call 20
    (with_reducible refine PK.out.mono ?_)
    rintro e1 w1 ⟨rfl, hb1⟩
    go_wp2_with fail
    go_at_call 57
    (with_reducible refine (OK.out _ ((H.out.grow hb1).grow (G.alloc (G.refl w1) _))).mono ?_)
    rintro e1 w2 ⟨rfl, rfl⟩
    go_wp2_with fail
    go_ret
    exact ⟨rfl, by repeat (first | with_reducible assumption | with_reducible exact G.refl _ | with_reducible refine G.drew ?_ | with_reducible refine G.drewN ?_ _ | with_reducible refine G.alloc ?_ _ | with_reducible refine Below.setCell ?_ (by first | (simp; done) | (simp; omega)) _ | with_reducible refine G.trans ?_ hb12 | with_reducible refine G.trans ?_ hb11 | with_reducible refine G.trans ?_ hb10 | with_reducible refine G.trans ?_ hb9 | with_reducible refine G.trans ?_ hb8 | with_reducible refine G.trans ?_ hb7 | with_reducible refine G.trans ?_ hb6 | with_reducible refine G.trans ?_ hb5 | with_reducible refine G.trans ?_ hb4 | with_reducible refine G.trans ?_ hb3 | with_reducible refine G.trans ?_ hb2 | with_reducible refine G.trans ?_ hb1 | with_reducible refine G.trans ?_ hb | assumption)⟩
set_option maxRecDepth 20000 in set_option maxHeartbeats 400000 in
theorem sp_accept (h : StW w N p q us s) (x : List UInt8) : Calls Tryz.prog 23 #[.pointer (some ⟨p, 0, none⟩), .string (B x)] w fun e w' => e = .returned (.bool (s.isB us x)) ∧ NxP N p q us (s.acc us x) w w' := by
  have H := Lib.hid h
  have IS := Lib.hid (sp_is h x)
  by_cases hv : s.isB us x = true
  · have e1 : s.acc us x = s.nx us := by unfold St.acc; rw [if_pos hv]
    rw [e1, hv]
    rw [hv] at IS
    clear h e1 hv
    go_enter Tryz.func23, Tryz.ntmps23
    go_wp2_with fail
    go_at_call 22
    (with_reducible refine IS.out.mono ?_)
    rintro e1 w1 ⟨rfl, hb1⟩
    go_wp2_with fail
    go_at_call 21
    (with_reducible refine (sp_next (H.out.grow hb1)).mono ?_)
    unfold tnV
    rintro e1 w2 ⟨rfl, hx⟩
    go_wp2_with fail
    go_ret
    exact ⟨rfl, hx.pre hb1⟩
  · have hv' : s.isB us x = false := by simpa using hv
    have e1 : s.acc us x = s := by unfold St.acc; rw [if_neg hv]
    rw [e1, hv']
    rw [hv'] at IS
    clear h e1 hv hv'
    go_enter Tryz.func23, Tryz.ntmps23
    go_wp2_with fail
    go_at_call 22
    (with_reducible refine IS.out.mono ?_)
    rintro e1 w1 ⟨rfl, hb1⟩
    go_wp2_with fail
    go_ret
    exact ⟨rfl, NxP.stay H.out hb1⟩
/-- A block with a token's cells. -/
structure HasT (r : Nat) (t : Tn) (w : World) : Prop where
  a : Bx w r (tnC t)
theorem HasT.set {r p : Nat} {t : Tn} {w : World} (h : HasT r t w) (hn : ¬ r = p) (o : Nat) (v : Value) : HasT r t (w.setCell ⟨p, o, none⟩ v) := ⟨h.a.other hn v⟩
/-- What an error leaves. -/
theorem StW.err (h : StW w N p q us s) (he : s.e = 0) {x : Int} (hx : x ≠ 0) (hc : Chg p p w w') {t : Tn} (ht : s.pk us = t) {A1 : Option Addr} {n1 c1 : Nat} (hB0 : Bx w p [.slice A1 n1 c1, .int .i64 s.ln, .int .i64 s.cl, .int .i64 0])
    (hB : Bx w' p [.slice A1 n1 c1, .int .i64 t.ln, .int .i64 t.cl, .int .i64 x]) : StW w' N p q us (s.fl us x) := by
  obtain ⟨⟨x1, x2, x3, x4⟩, A, c2, h1, h2, h4, h5⟩ := h
  have e0 := (h1.2 0 _ rfl).1
  rw [(hB0.2 0 _ rfl).1] at e0
  simp only [Option.some.injEq, Value.slice.injEq] at e0
  obtain ⟨rfl, rfl, rfl⟩ := e0
  rw [St.fl_go he hx, ht]
  exact ⟨⟨Nat.le_trans x1 hc.size, x2, x3, x4⟩, A1, c1, hB, h2, TksW.keep (ok := fun x => x ≠ p ∧ x ≠ p) h4 (fun ad e => ⟨(h2 ad e).2.1, (h2 ad e).2.1⟩) hc.2, fun e => absurd e hx⟩
set_option maxRecDepth 20000 in set_option maxHeartbeats 1000000 in
theorem sp_fail (h : StW w N p q us s) (x : Int) : Calls Tryz.prog 18 #[.pointer (some ⟨p, 0, none⟩), .int .i64 x] w fun e w' => e = .returned (.tuple #[]) ∧ NxP N p q us (s.fl us x) w w' := by
  have H := Lib.hid h
  by_cases he : s.e = 0
  · have OK := Lib.hid (decide_eq_true he ▸ sp_ok h)
    by_cases hx : x = 0
    · subst hx
      rw [St.fl_zero]
      clear h he
      go_enter Tryz.func18, Tryz.ntmps18
      go_wp2_with fail
      go_at_call 57
      (with_reducible refine OK.out.mono ?_)
      rintro e1 w1 ⟨rfl, rfl⟩
      go_wp2_with fail
      go_end0
      exact ⟨rfl, NxP.stay H.out (G.refl _)⟩
    · have PK := Lib.hid (sp_peek h)
      obtain ⟨t, m, c, g, off, ht, hm, hc, hcm, lt, hg, hne, h0, hB, -⟩ := h.cut he
      have HB := Lib.hid hB
      have ER := Lib.hid (fun (wx : World) (hc : Chg p p w wx) (hB : Bx wx p [.slice (some ⟨g, off, none⟩) (m + 1) (c + 1), .int .i64 t.ln, .int .i64 t.cl, .int .i64 x]) => H.out.err he hx hc ht HB.out hB)
      rw [ht] at PK
      unfold tnV at PK
      clear h he hB h0 ht
      go_enter Tryz.func18, Tryz.ntmps18
      go_wp2_with fail
      go_at_call 57
      (with_reducible refine OK.out.mono ?_)
      rintro e1 w1 ⟨rfl, hw⟩
      obtain rfl := hw.symm
      go_wp2_with fail
      go_at_call 20
      (with_reducible refine PK.out.mono ?_)
      rintro e1 w1 ⟨rfl, hb1⟩
      have hB1 := Lib.hid (HB.out.grow hb1)
      go_upto_region 2 with fail
      obtain ⟨r3, hr3⟩ : ∃ r3, w1.heap.size = r3 := ⟨_, rfl⟩
      rw [hr3]
      have hpr : ¬ p = r3 := by have := hB1.out.lt; omega
      have hrp : ¬ r3 = p := fun e => hpr e.symm
      refine wp_name (fun wx => Hid (Bx wx r3 (tnC t)) ∧ Hid (Bx wx p [.slice (some ⟨g, off, none⟩) (m + 1) (c + 1), .int .i64 s.ln, .int .i64 s.cl, .int .i64 0]) ∧ Hid (Chg p p w wx)) ⟨Bx.new hr3.symm rfl, hB1.out.alloc _, (Chg.of_below hb1).alloc _⟩ ?_
      rintro w3 ⟨hy3, hp3, hc3⟩
      clear hB1 hb1
      obtain ⟨l0, l1, l2, l3, l4, l5, l6, l7⟩ := hy3.out.c8
      obtain ⟨k0, k1, k2, k3⟩ := hp3.out.c4
      have ltp := hp3.out.lt
      have ltr := hy3.out.lt
      refine wp_region_ordD [(0, 1), (1, 0), (2, 0), (3, 1), (4, 1), (5, 0), (6, 0), (7, 0), (8, 1), (9, 1), (10, 3), (11, 0), (12, 0), (13, 3), (14, 0), (15, 0), (16, 3)] [10, 13, 16] 5 (HasT r3 t) (by kernel_rfl) (by decide +kernel) ?_
      simp only [pickO, List.append_eq, List.cons_append, List.nil_append, List.getElem?_cons_succ, List.getElem?_cons_zero]
      intro w0 hG
      have hD := (⟨hy3.out.grow hG.b⟩ : HasT r3 t w0)
      refine ⟨hD, ?_⟩
      (repeat ((first | (with_reducible refine ord_q1D ?_) | (with_reducible refine ord_q0D ?_)); intro K hK; first | (refine Or.inr ⟨?_, ?_⟩; (focus (go_simp; first | done | (simp [undef]; done))); go_simp; (with_reducible refine hK _ ?_); clear hK K) | (refine Or.inl ⟨?_, ?_⟩; (focus (go_simp; done)); apply Exists.intro; refine And.intro ?_ ?_; (focus (first | (intro wq hq; have hcf := G.old hq; obtain ⟨hcq, hfq⟩ := hcf; go_simp; (first | done | exact rfl); done) | (intro wq hq; (have cq := (hq.a.2 2 _ rfl).1; have ltq := hq.a.1); go_simp; (first | done | exact rfl); done))); go_simp; (with_reducible refine hK _ ?_); clear hK K) | fail))
      have HP := Lib.hid (hp3.out.grow hG.b)
      have HC := Lib.hid (hc3.out.grow hG.b)
      obtain ⟨x0, x1, x2, x3⟩ := HP.out.c4
      obtain ⟨z0, z1, z2, z3⟩ := HP.out.f4
      have ltp2 := HP.out.lt
      (with_reducible refine ord_tailD hD ?_)
      intro K hK
      go_simp
      replace hD := hD.set hrp 1 (.int .i64 t.ln)
      (with_reducible refine hK _ _ hD ?_)
      clear hK K
      (repeat ((first | (with_reducible refine ord_q1D ?_) | (with_reducible refine ord_q0D ?_)); intro K hK; first | (refine Or.inr ⟨?_, ?_⟩; (focus (go_simp; first | done | (simp [undef]; done))); go_simp; (with_reducible refine hK _ ?_); clear hK K) | (refine Or.inl ⟨?_, ?_⟩; (focus (go_simp; done)); apply Exists.intro; refine And.intro ?_ ?_; (focus (first | (intro wq hq; have hcf := G.old hq; obtain ⟨hcq, hfq⟩ := hcf; go_simp; (first | done | exact rfl); done) | (intro wq hq; (have cq := (hq.a.2 2 _ rfl).1; have ltq := hq.a.1); go_simp; (first | done | exact rfl); done))); go_simp; (with_reducible refine hK _ ?_); clear hK K) | fail))
      (with_reducible refine ord_tailD hD ?_)
      intro K hK
      go_simp
      replace hD := hD.set hrp 2 (.int .i64 t.cl)
      (with_reducible refine hK _ _ hD ?_)
      clear hK K
      (repeat ((first | (with_reducible refine ord_q1D ?_) | (with_reducible refine ord_q0D ?_)); intro K hK; first | (refine Or.inr ⟨?_, ?_⟩; (focus (go_simp; first | done | (simp [undef]; done))); go_simp; (with_reducible refine hK _ ?_); clear hK K) | (refine Or.inl ⟨?_, ?_⟩; (focus (go_simp; done)); apply Exists.intro; refine And.intro ?_ ?_; (focus (first | (intro wq hq; have hcf := G.old hq; obtain ⟨hcq, hfq⟩ := hcf; go_simp; (first | done | exact rfl); done) | (intro wq hq; (have cq := (hq.a.2 2 _ rfl).1; have ltq := hq.a.1); go_simp; (first | done | exact rfl); done))); go_simp; (with_reducible refine hK _ ?_); clear hK K) | fail))
      (with_reducible refine ord_tailD hD ?_)
      intro K hK
      go_simp
      replace hD := hD.set hrp 3 (.int .i64 x)
      (with_reducible refine hK _ _ hD ?_)
      clear hK K
      (repeat ((first | (with_reducible refine ord_q1D ?_) | (with_reducible refine ord_q0D ?_)); intro K hK; first | (refine Or.inr ⟨?_, ?_⟩; (focus (go_simp; first | done | (simp [undef]; done))); go_simp; (with_reducible refine hK _ ?_); clear hK K) | (refine Or.inl ⟨?_, ?_⟩; (focus (go_simp; done)); apply Exists.intro; refine And.intro ?_ ?_; (focus (first | (intro wq hq; have hcf := G.old hq; obtain ⟨hcq, hfq⟩ := hcf; go_simp; (first | done | exact rfl); done) | (intro wq hq; (have cq := (hq.a.2 2 _ rfl).1; have ltq := hq.a.1); go_simp; (first | done | exact rfl); done))); go_simp; (with_reducible refine hK _ ?_); clear hK K) | fail))
      (with_reducible refine ord_nilD ?_)
      have hBF : Bx (((w0.setCell ⟨p, 1, none⟩ (.int .i64 t.ln)).setCell ⟨p, 2, none⟩ (.int .i64 t.cl)).setCell ⟨p, 3, none⟩ (.int .i64 x)) p [.slice (some ⟨g, off, none⟩) (m + 1) (c + 1), .int .i64 t.ln, .int .i64 t.cl, .int .i64 x] := Bx.put (Bx.put (Bx.put HP.out rfl) rfl) rfl
      have hCF := ((HC.out.set1 1 (.int .i64 t.ln)).set1 2 (.int .i64 t.cl)).set1 3 (.int .i64 x)
      go_wp2_with fail
      go_end0
      exact ⟨rfl, hCF, ER.out _ hCF hBF⟩
  · have OK := Lib.hid (decide_eq_false he ▸ sp_ok h)
    rw [St.fl_bad he]
    clear h he
    go_enter Tryz.func18, Tryz.ntmps18
    go_wp2_with fail
    go_at_call 57
    (with_reducible refine OK.out.mono ?_)
    rintro e1 w1 ⟨rfl, rfl⟩
    go_wp2_with fail
    go_end0
    exact ⟨rfl, NxP.stay H.out (G.refl _)⟩
set_option maxRecDepth 20000 in set_option maxHeartbeats 400000 in
theorem sp_expect (h : StW w N p q us s) (x : List UInt8) : Calls Tryz.prog 17 #[.pointer (some ⟨p, 0, none⟩), .string (B x)] w fun e w' => e = .returned (.tuple #[]) ∧ NxP N p q us (s.xpt us x) w w' := by
  have AC := Lib.hid (sp_accept h x)
  by_cases hv : s.isB us x = true
  · have e1 : s.xpt us x = s.nx us := by unfold St.xpt; rw [if_pos hv]
    have e2 : s.acc us x = s.nx us := by unfold St.acc; rw [if_pos hv]
    rw [e1]
    rw [hv, e2] at AC
    clear h e1 hv
    go_enter Tryz.func17, Tryz.ntmps17
    go_wp2_with fail
    go_at_call 23
    (with_reducible refine AC.out.mono ?_)
    rintro e1 w1 ⟨rfl, hx⟩
    go_wp2_with fail
    go_end0
    exact ⟨rfl, hx⟩
  · have hv' : s.isB us x = false := by simpa using hv
    have e1 : s.xpt us x = s.fl us 13 := by unfold St.xpt; rw [if_neg hv]
    have e2 : s.acc us x = s := by unfold St.acc; rw [if_neg hv]
    rw [e1]
    rw [hv', e2] at AC
    clear h e1 hv hv'
    go_enter Tryz.func17, Tryz.ntmps17
    go_wp2_with fail
    go_at_call 23
    (with_reducible refine AC.out.mono ?_)
    rintro e1 w1 ⟨rfl, hx⟩
    go_wp2_with fail
    go_at_call 18
    (with_reducible refine (sp_fail hx.st 13).mono ?_)
    rintro e1 w2 ⟨rfl, hy⟩
    go_wp2_with fail
    go_end0
    exact ⟨rfl, hx.trans hy⟩
set_option maxRecDepth 20000 in set_option maxHeartbeats 1000000 in
theorem sp_take (h : StW w N p q us s) (k : Int) : Calls Tryz.prog 24 #[.pointer (some ⟨p, 0, none⟩), .int .i64 k] w fun e w' => e = .returned (tnV (s.tkT us k)) ∧ NxP N p q us (s.tk us k) w w' := by
  have H := Lib.hid h
  have hN := h.1.1
  have PK := Lib.hid (fun (wx : World) (h : StW wx N p q us s) => sp_peek h)
  have NX := Lib.hid (fun (wx : World) (h : StW wx N p q us s) => sp_next h)
  have FL := Lib.hid (fun (wx : World) (h : StW wx N p q us s) => sp_fail h 13)
  obtain ⟨r, hr⟩ : ∃ r, w.heap.size = r := ⟨_, rfl⟩
  have HR := Lib.hid hr
  have hb0 : Below w.heap.size w (w.alloc (.cells #[.int .i64 0, .int .i64 0, .int .i64 0, .string ⟨#[]⟩, .string ⟨#[]⟩, .int .i64 0, .int .i64 0, .bool false] 33)) := G.alloc (G.refl w) _
  by_cases he : s.e = 0
  · have OK := Lib.hid (fun (wx : World) (h : StW wx N p q us s) => decide_eq_true he ▸ sp_ok h)
    obtain ⟨t, ht⟩ : ∃ t, s.pk us = t := ⟨_, rfl⟩
    by_cases hk : t.k = k
    · have e1 : s.tkT us k = t := by unfold St.tkT; rw [ht, if_pos ⟨he, hk⟩]
      have e2 : s.tk us k = s.nx us := by unfold St.tk; rw [ht, if_pos ⟨he, hk⟩]
      rw [e1, e2]
      rw [ht] at PK NX
      unfold tnV at PK NX ⊢
      clear h he ht e1 e2
      subst hk
      go_enter Tryz.func24, Tryz.ntmps24
      go_wp2_with fail
      go_at_call 57
      refine calls_name (fun wx => Hid (Bx wx r [.int .i64 0, .int .i64 0, .int .i64 0, .string ⟨#[]⟩, .string ⟨#[]⟩, .int .i64 0, .int .i64 0, .bool false]) ∧ Hid (Below w.heap.size w wx)) ⟨Bx.new hr.symm rfl, hb0⟩ ?_
      rintro w0 ⟨hx0, hb1⟩
      clear hb0
      have HS0 := Lib.hid (H.out.grow hb1.out)
      (with_reducible refine (OK.out _ HS0.out).mono ?_)
      rintro e1 w0' ⟨rfl, rfl⟩
      go_wp2_with fail
      go_at_call 20
      (with_reducible refine (PK.out _ HS0.out).mono ?_)
      rintro e1 w1 ⟨rfl, hb2⟩
      replace HS0 := Lib.hid (HS0.out.grow hb2)
      replace hx0 := Lib.hid (hx0.out.grow hb2)
      replace hb1 := Lib.hid (G.trans hb1.out hb2)
      clear hb2
      go_wp2_with fail
      refine id (?_ : (_ : Act → World → Prop) (Act.put _ _ (Value.int .i64 t.k)) w1)
      go_wp2_with fail
      go_at_call 21
      (with_reducible refine (NX.out _ HS0.out).mono ?_)
      rintro e1 w2 ⟨rfl, hx⟩
      have hxr := Lib.hid (hx0.out.chg hx.1 (by have := H.out.lt; omega) (by have := H.out.lt; omega))
      replace hx := Lib.hid (hx.pre hb1.out)
      obtain ⟨k0, k1, k2, k3, k4, k5, k6, k7⟩ := hxr.out.c8
      obtain ⟨z0, z1, z2, z3, z4, z5, z6, z7⟩ := hxr.out.f8
      have ltr := hxr.out.lt
      clear hx0 hb1 HS0 hxr
      go_wp2_with fail
      exact bodyPost_ret (v := tnL t.k t.ln t.cl t.tx t.v t.n t.s t.j) (by simp only [results, Tryz.results24]; go_simp) rfl ⟨rfl, hx.out.fill (Nat.le_of_eq HR.out) hN (tnC t) 0⟩
    · have e1 : s.tkT us k = zTk := by unfold St.tkT; rw [ht, if_neg (fun x => hk x.2)]
      have e2 : s.tk us k = s.fl us 13 := by unfold St.tk; rw [ht, if_neg (fun x => hk x.2)]
      rw [e1, e2, tnV_z]
      rw [ht] at PK
      unfold tnV at PK
      unfold zV
      clear h he ht e1 e2
      go_enter Tryz.func24, Tryz.ntmps24
      go_wp2_with fail
      go_at_call 57
      refine calls_name (fun wx => Hid (Bx wx r [.int .i64 0, .int .i64 0, .int .i64 0, .string ⟨#[]⟩, .string ⟨#[]⟩, .int .i64 0, .int .i64 0, .bool false]) ∧ Hid (Below w.heap.size w wx)) ⟨Bx.new hr.symm rfl, hb0⟩ ?_
      rintro w0 ⟨hx0, hb1⟩
      clear hb0
      have HS0 := Lib.hid (H.out.grow hb1.out)
      (with_reducible refine (OK.out _ HS0.out).mono ?_)
      rintro e1 w0' ⟨rfl, rfl⟩
      go_wp2_with fail
      go_at_call 20
      (with_reducible refine (PK.out _ HS0.out).mono ?_)
      rintro e1 w1 ⟨rfl, hb2⟩
      replace HS0 := Lib.hid (HS0.out.grow hb2)
      replace hx0 := Lib.hid (hx0.out.grow hb2)
      replace hb1 := Lib.hid (G.trans hb1.out hb2)
      clear hb2
      go_wp2_with fail
      refine id (?_ : (_ : Act → World → Prop) (Act.put _ _ (Value.int .i64 t.k)) w1)
      go_wp2_with fail
      go_at_call 18
      (with_reducible refine (FL.out _ HS0.out).mono ?_)
      rintro e1 w2 ⟨rfl, hx⟩
      have hxr := Lib.hid (hx0.out.chg hx.1 (by have := H.out.lt; omega) (by have := H.out.lt; omega))
      replace hx := Lib.hid (hx.pre hb1.out)
      obtain ⟨k0, k1, k2, k3, k4, k5, k6, k7⟩ := hxr.out.c8
      obtain ⟨z0, z1, z2, z3, z4, z5, z6, z7⟩ := hxr.out.f8
      have ltr := hxr.out.lt
      clear hx0 hb1 HS0 hxr
      go_wp2_with fail
      exact bodyPost_ret (v := .agg #[.int .i64 0, .int .i64 0, .int .i64 0, .string ⟨#[]⟩, .string ⟨#[]⟩, .int .i64 0, .int .i64 0, .bool false]) (by simp only [results, Tryz.results24]; go_simp) rfl ⟨rfl, hx.out.fill (Nat.le_of_eq HR.out) hN [.int .i64 0, .int .i64 0, .int .i64 0, .string ⟨#[]⟩, .string ⟨#[]⟩, .int .i64 0, .int .i64 0, .bool false] 0⟩
  · have OK := Lib.hid (fun (wx : World) (h : StW wx N p q us s) => decide_eq_false he ▸ sp_ok h)
    have e1 : s.tkT us k = zTk := by unfold St.tkT; rw [if_neg (fun x => he x.1)]
    have e2 : s.tk us k = s.fl us 13 := by unfold St.tk; rw [if_neg (fun x => he x.1)]
    rw [e1, e2, tnV_z]
    unfold zV
    clear h he e1 e2
    go_enter Tryz.func24, Tryz.ntmps24
    go_wp2_with fail
    go_at_call 57
    refine calls_name (fun wx => Hid (Bx wx r [.int .i64 0, .int .i64 0, .int .i64 0, .string ⟨#[]⟩, .string ⟨#[]⟩, .int .i64 0, .int .i64 0, .bool false]) ∧ Hid (Below w.heap.size w wx)) ⟨Bx.new hr.symm rfl, hb0⟩ ?_
    rintro w0 ⟨hx0, hb1⟩
    clear hb0
    have HS0 := Lib.hid (H.out.grow hb1.out)
    (with_reducible refine (OK.out _ HS0.out).mono ?_)
    rintro e1 w0' ⟨rfl, rfl⟩
    go_wp2_with fail
    go_at_call 18
    (with_reducible refine (FL.out _ HS0.out).mono ?_)
    rintro e1 w2 ⟨rfl, hx⟩
    have hxr := Lib.hid (hx0.out.chg hx.1 (by have := H.out.lt; omega) (by have := H.out.lt; omega))
    replace hx := Lib.hid (hx.pre hb1.out)
    obtain ⟨k0, k1, k2, k3, k4, k5, k6, k7⟩ := hxr.out.c8
    obtain ⟨z0, z1, z2, z3, z4, z5, z6, z7⟩ := hxr.out.f8
    have ltr := hxr.out.lt
    clear hx0 hb1 HS0 hxr
    go_wp2_with fail
    exact bodyPost_ret (v := .agg #[.int .i64 0, .int .i64 0, .int .i64 0, .string ⟨#[]⟩, .string ⟨#[]⟩, .int .i64 0, .int .i64 0, .bool false]) (by simp only [results, Tryz.results24]; go_simp) rfl ⟨rfl, hx.out.fill (Nat.le_of_eq HR.out) hN [.int .i64 0, .int .i64 0, .int .i64 0, .string ⟨#[]⟩, .string ⟨#[]⟩, .int .i64 0, .int .i64 0, .bool false] 0⟩
end
end Go.Proofs.YtmchiibbodllaaaGreatDoor

namespace Go.Proofs.YtmchiibbodllaaaGreatDoor
set_option linter.unusedVariables false
set_option linter.unnecessarySimpa false
set_option linter.unusedSimpArgs false
open Go.RowKit

section
variable (us : List Tn)
def St.hd (s : St) (lo : Int) : St := if lo < 0 then s.acc us [45] else s
def St.ng (s : St) (lo : Int) : Bool := decide (lo < 0) && s.isB us [45]
def nuN (g : Bool) (n : Int) : Int := if g = true then IntKind.i64.wrap (-n) else n
def St.num (s : St) (g : Bool) (lo hi : Int) : Int × St :=
  if s.e ≠ 0 ∨ (s.pk us).k ≠ 2 then (0, s.fl us 13) else if (s.pk us).s ≠ 0 ∨ nuN g (s.pk us).n < lo ∨ hi < nuN g (s.pk us).n then (0, s.fl us 2) else (nuN g (s.pk us).n, s.nx us)
end
section
variable {us : List Tn}
theorem St.num_syn {s : St} {g : Bool} {lo hi : Int} (h : s.e ≠ 0 ∨ (s.pk us).k ≠ 2) : s.num us g lo hi = (0, s.fl us 13) := by unfold St.num; rw [if_pos h]
theorem St.num_rng {s : St} {g : Bool} {lo hi : Int} (h : s.e = 0) (hk : (s.pk us).k = 2) (h2 : (s.pk us).s ≠ 0 ∨ nuN g (s.pk us).n < lo ∨ hi < nuN g (s.pk us).n) : s.num us g lo hi = (0, s.fl us 2) := by
  unfold St.num
  rw [if_neg (by rintro (h3 | h3) <;> first | exact h3 h | exact h3 hk), if_pos h2]
theorem St.num_ok {s : St} {g : Bool} {lo hi : Int} (h : s.e = 0) (hk : (s.pk us).k = 2) (h2 : (s.pk us).s = 0) (h3 : lo ≤ nuN g (s.pk us).n) (h4 : nuN g (s.pk us).n ≤ hi) : s.num us g lo hi = (nuN g (s.pk us).n, s.nx us) := by
  unfold St.num
  rw [if_neg (by rintro (h3 | h3) <;> first | exact h3 h | exact h3 hk), if_neg (by omega)]
theorem St.Ok.hd {s : St} (h : s.Ok us) (lo : Int) : (s.hd us lo).Ok us := by unfold St.hd; split <;> first | exact h.acc _ | exact h
theorem St.Ok.num {s : St} (h : s.Ok us) (g : Bool) (lo hi : Int) : (s.num us g lo hi).2.Ok us := by
  unfold St.num
  split
  · exact h.fl _
  · split
    · exact h.fl _
    · exact h.nx
end
section
variable {w w' : World} {N p q : Nat} {us : List Tn} {s s' : St}
set_option maxRecDepth 20000 in set_option maxHeartbeats 4000000 in
theorem sp_int (h : StW w N p q us s) (lo hi : Int) : Calls Tryz.prog 25 #[.pointer (some ⟨p, 0, none⟩), .int .i64 lo, .int .i64 hi] w fun e w' => e = .returned (.int .i64 ((s.hd us lo).num us (s.ng us lo) lo hi).1) ∧ NxP N p q us ((s.hd us lo).num us (s.ng us lo) lo hi).2 w w' := by
  have OKK := Lib.hid (fun (wx : World) (s : St) (h : StW wx N p q us s) => sp_ok h)
  have PK := Lib.hid (fun (wx : World) (s : St) (h : StW wx N p q us s) => sp_peek h)
  have FL := Lib.hid (fun (wx : World) (s : St) (x : Int) (h : StW wx N p q us s) => sp_fail h x)
  have NX := Lib.hid (fun (wx : World) (s : St) (h : StW wx N p q us s) => sp_next h)
  by_cases hlo : lo < 0
  · have AC := Lib.hid (sp_accept h [45])
    rw [show B [45] = (⟨#[45]⟩ : ByteArray) from rfl] at AC
    have e1 : s.hd us lo = s.acc us [45] := by unfold St.hd; rw [if_pos hlo]
    rw [e1]
    by_cases hb : s.isB us [45] = true
    · have e2 : s.ng us lo = true := by unfold St.ng; rw [hb]; simp [hlo]
      rw [e2]
      rw [hb] at AC
      obtain ⟨s1, hs1⟩ : ∃ s1, s.acc us [45] = s1 := ⟨_, rfl⟩
      rw [hs1] at AC ⊢
      clear e1 e2 hb hs1 h
      by_cases he : s1.e = 0
      · have OK := Lib.hid (fun (wx : World) (h : StW wx N p q us s1) => decide_eq_true he ▸ OKK.out wx s1 h)
        clear OKK
        obtain ⟨t, ht⟩ : ∃ t, s1.pk us = t := ⟨_, rfl⟩
        obtain ⟨n, hn⟩ : ∃ n, nuN true t.n = n := ⟨_, rfl⟩
        have hw : IntKind.i64.wrap (-t.n) = n := hn
        by_cases hk : t.k = 2
        · by_cases hs : t.s = 0
          · by_cases h1 : n < lo
            · rw [St.num_rng he (by rw [ht]; exact hk) (by rw [ht, hn]; omega)]
              clear he hn
              go_enter Tryz.func25, Tryz.ntmps25
              go_wp2_with fail
              go_at_call 23
              (with_reducible refine AC.out.mono ?_)
              rintro e1 w1 ⟨rfl, hx⟩
              have X1 := Lib.hid hx
              clear hx AC
              go_wp2_with fail
              go_at_call 20
              (with_reducible refine (PK.out _ _ X1.out.st).mono ?_)
              rw [ht]
              unfold tnV
              rintro e1 w2 ⟨rfl, hb2⟩
              replace X1 := Lib.hid (X1.out.grow hb2)
              clear hb2 PK
              go_wp2_with fail
              go_at_call 57
              (with_reducible refine (OK.out _ (X1.out.st.grow (G.alloc (G.refl _) _))).mono ?_)
              rintro e1 w3 ⟨rfl, rfl⟩
              go_wp2_with fail
              go_at_call 18
              (with_reducible refine (FL.out _ _ 2 (X1.out.st.grow (G.alloc (G.refl _) _))).mono ?_)
              rintro e1 w4 ⟨rfl, hx⟩
              go_wp2_with fail
              go_ret
              exact ⟨rfl, X1.out.trans (hx.pre (G.alloc (G.refl _) _))⟩
            · by_cases h2 : hi < n
              · rw [St.num_rng he (by rw [ht]; exact hk) (by rw [ht, hn]; omega)]
                clear he hn
                go_enter Tryz.func25, Tryz.ntmps25
                go_wp2_with fail
                go_at_call 23
                (with_reducible refine AC.out.mono ?_)
                rintro e1 w1 ⟨rfl, hx⟩
                have X1 := Lib.hid hx
                clear hx AC
                go_wp2_with fail
                go_at_call 20
                (with_reducible refine (PK.out _ _ X1.out.st).mono ?_)
                rw [ht]
                unfold tnV
                rintro e1 w2 ⟨rfl, hb2⟩
                replace X1 := Lib.hid (X1.out.grow hb2)
                clear hb2 PK
                go_wp2_with fail
                go_at_call 57
                (with_reducible refine (OK.out _ (X1.out.st.grow (G.alloc (G.refl _) _))).mono ?_)
                rintro e1 w3 ⟨rfl, rfl⟩
                go_wp2_with fail
                go_at_call 18
                (with_reducible refine (FL.out _ _ 2 (X1.out.st.grow (G.alloc (G.refl _) _))).mono ?_)
                rintro e1 w4 ⟨rfl, hx⟩
                go_wp2_with fail
                go_ret
                exact ⟨rfl, X1.out.trans (hx.pre (G.alloc (G.refl _) _))⟩
              · rw [St.num_ok he (by rw [ht]; exact hk) (by rw [ht]; exact hs) (by rw [ht, hn]; omega) (by rw [ht, hn]; omega), ht, hn]
                clear he hn
                go_enter Tryz.func25, Tryz.ntmps25
                go_wp2_with fail
                go_at_call 23
                (with_reducible refine AC.out.mono ?_)
                rintro e1 w1 ⟨rfl, hx⟩
                have X1 := Lib.hid hx
                clear hx AC
                go_wp2_with fail
                go_at_call 20
                (with_reducible refine (PK.out _ _ X1.out.st).mono ?_)
                rw [ht]
                unfold tnV
                rintro e1 w2 ⟨rfl, hb2⟩
                replace X1 := Lib.hid (X1.out.grow hb2)
                clear hb2 PK
                go_wp2_with fail
                go_at_call 57
                (with_reducible refine (OK.out _ (X1.out.st.grow (G.alloc (G.refl _) _))).mono ?_)
                rintro e1 w3 ⟨rfl, rfl⟩
                go_wp2_with fail
                go_at_call 21
                (with_reducible refine (NX.out _ _ (X1.out.st.grow (G.alloc (G.refl _) _))).mono ?_)
                unfold tnV
                rintro e1 w4 ⟨rfl, hx⟩
                go_wp2_with fail
                go_ret
                exact ⟨rfl, X1.out.trans (hx.pre (G.alloc (G.refl _) _))⟩
          · rw [St.num_rng he (by rw [ht]; exact hk) (by rw [ht]; exact .inl hs)]
            clear he hn
            go_enter Tryz.func25, Tryz.ntmps25
            go_wp2_with fail
            go_at_call 23
            (with_reducible refine AC.out.mono ?_)
            rintro e1 w1 ⟨rfl, hx⟩
            have X1 := Lib.hid hx
            clear hx AC
            go_wp2_with fail
            go_at_call 20
            (with_reducible refine (PK.out _ _ X1.out.st).mono ?_)
            rw [ht]
            unfold tnV
            rintro e1 w2 ⟨rfl, hb2⟩
            replace X1 := Lib.hid (X1.out.grow hb2)
            clear hb2 PK
            go_wp2_with fail
            go_at_call 57
            (with_reducible refine (OK.out _ (X1.out.st.grow (G.alloc (G.refl _) _))).mono ?_)
            rintro e1 w3 ⟨rfl, rfl⟩
            go_wp2_with fail
            go_at_call 18
            (with_reducible refine (FL.out _ _ 2 (X1.out.st.grow (G.alloc (G.refl _) _))).mono ?_)
            rintro e1 w4 ⟨rfl, hx⟩
            go_wp2_with fail
            go_ret
            exact ⟨rfl, X1.out.trans (hx.pre (G.alloc (G.refl _) _))⟩
        · rw [St.num_syn (.inr (by rw [ht]; exact hk))]
          clear he hn
          go_enter Tryz.func25, Tryz.ntmps25
          go_wp2_with fail
          go_at_call 23
          (with_reducible refine AC.out.mono ?_)
          rintro e1 w1 ⟨rfl, hx⟩
          have X1 := Lib.hid hx
          clear hx AC
          go_wp2_with fail
          go_at_call 20
          (with_reducible refine (PK.out _ _ X1.out.st).mono ?_)
          rw [ht]
          unfold tnV
          rintro e1 w2 ⟨rfl, hb2⟩
          replace X1 := Lib.hid (X1.out.grow hb2)
          clear hb2 PK
          go_wp2_with fail
          go_at_call 57
          (with_reducible refine (OK.out _ (X1.out.st.grow (G.alloc (G.refl _) _))).mono ?_)
          rintro e1 w3 ⟨rfl, rfl⟩
          go_wp2_with fail
          go_at_call 18
          (with_reducible refine (FL.out _ _ 13 (X1.out.st.grow (G.alloc (G.refl _) _))).mono ?_)
          rintro e1 w4 ⟨rfl, hx⟩
          go_wp2_with fail
          go_ret
          exact ⟨rfl, X1.out.trans (hx.pre (G.alloc (G.refl _) _))⟩
      · have OK := Lib.hid (fun (wx : World) (h : StW wx N p q us s1) => decide_eq_false he ▸ OKK.out wx s1 h)
        obtain ⟨t, ht⟩ : ∃ t, s1.pk us = t := ⟨_, rfl⟩
        rw [St.num_syn (.inl he)]
        clear OKK he
        go_enter Tryz.func25, Tryz.ntmps25
        go_wp2_with fail
        go_at_call 23
        (with_reducible refine AC.out.mono ?_)
        rintro e1 w1 ⟨rfl, hx⟩
        have X1 := Lib.hid hx
        clear hx AC
        go_wp2_with fail
        go_at_call 20
        (with_reducible refine (PK.out _ _ X1.out.st).mono ?_)
        rw [ht]
        unfold tnV
        rintro e1 w2 ⟨rfl, hb2⟩
        replace X1 := Lib.hid (X1.out.grow hb2)
        clear hb2 PK
        go_wp2_with fail
        go_at_call 57
        (with_reducible refine (OK.out _ (X1.out.st.grow (G.alloc (G.refl _) _))).mono ?_)
        rintro e1 w3 ⟨rfl, rfl⟩
        go_wp2_with fail
        go_at_call 18
        (with_reducible refine (FL.out _ _ 13 (X1.out.st.grow (G.alloc (G.refl _) _))).mono ?_)
        rintro e1 w4 ⟨rfl, hx⟩
        go_wp2_with fail
        go_ret
        exact ⟨rfl, X1.out.trans (hx.pre (G.alloc (G.refl _) _))⟩
    · have hb' : s.isB us [45] = false := by simpa using hb
      have e2 : s.ng us lo = false := by unfold St.ng; rw [hb']; simp
      rw [e2]
      rw [hb'] at AC
      obtain ⟨s1, hs1⟩ : ∃ s1, s.acc us [45] = s1 := ⟨_, rfl⟩
      rw [hs1] at AC ⊢
      clear e1 e2 hb hb' hs1 h
      by_cases he : s1.e = 0
      · have OK := Lib.hid (fun (wx : World) (h : StW wx N p q us s1) => decide_eq_true he ▸ OKK.out wx s1 h)
        clear OKK
        obtain ⟨t, ht⟩ : ∃ t, s1.pk us = t := ⟨_, rfl⟩
        obtain ⟨n, hn⟩ : ∃ n, nuN false t.n = n := ⟨_, rfl⟩
        have hw : t.n = n := hn
        by_cases hk : t.k = 2
        · by_cases hs : t.s = 0
          · by_cases h1 : n < lo
            · rw [St.num_rng he (by rw [ht]; exact hk) (by rw [ht, hn]; omega)]
              clear he hn
              go_enter Tryz.func25, Tryz.ntmps25
              go_wp2_with fail
              go_at_call 23
              (with_reducible refine AC.out.mono ?_)
              rintro e1 w1 ⟨rfl, hx⟩
              have X1 := Lib.hid hx
              clear hx AC
              go_wp2_with fail
              go_at_call 20
              (with_reducible refine (PK.out _ _ X1.out.st).mono ?_)
              rw [ht]
              unfold tnV
              rintro e1 w2 ⟨rfl, hb2⟩
              replace X1 := Lib.hid (X1.out.grow hb2)
              clear hb2 PK
              go_wp2_with fail
              go_at_call 57
              (with_reducible refine (OK.out _ (X1.out.st.grow (G.alloc (G.refl _) _))).mono ?_)
              rintro e1 w3 ⟨rfl, rfl⟩
              go_wp2_with fail
              go_at_call 18
              (with_reducible refine (FL.out _ _ 2 (X1.out.st.grow (G.alloc (G.refl _) _))).mono ?_)
              rintro e1 w4 ⟨rfl, hx⟩
              go_wp2_with fail
              go_ret
              exact ⟨rfl, X1.out.trans (hx.pre (G.alloc (G.refl _) _))⟩
            · by_cases h2 : hi < n
              · rw [St.num_rng he (by rw [ht]; exact hk) (by rw [ht, hn]; omega)]
                clear he hn
                go_enter Tryz.func25, Tryz.ntmps25
                go_wp2_with fail
                go_at_call 23
                (with_reducible refine AC.out.mono ?_)
                rintro e1 w1 ⟨rfl, hx⟩
                have X1 := Lib.hid hx
                clear hx AC
                go_wp2_with fail
                go_at_call 20
                (with_reducible refine (PK.out _ _ X1.out.st).mono ?_)
                rw [ht]
                unfold tnV
                rintro e1 w2 ⟨rfl, hb2⟩
                replace X1 := Lib.hid (X1.out.grow hb2)
                clear hb2 PK
                go_wp2_with fail
                go_at_call 57
                (with_reducible refine (OK.out _ (X1.out.st.grow (G.alloc (G.refl _) _))).mono ?_)
                rintro e1 w3 ⟨rfl, rfl⟩
                go_wp2_with fail
                go_at_call 18
                (with_reducible refine (FL.out _ _ 2 (X1.out.st.grow (G.alloc (G.refl _) _))).mono ?_)
                rintro e1 w4 ⟨rfl, hx⟩
                go_wp2_with fail
                go_ret
                exact ⟨rfl, X1.out.trans (hx.pre (G.alloc (G.refl _) _))⟩
              · rw [St.num_ok he (by rw [ht]; exact hk) (by rw [ht]; exact hs) (by rw [ht, hn]; omega) (by rw [ht, hn]; omega), ht, hn]
                clear he hn
                go_enter Tryz.func25, Tryz.ntmps25
                go_wp2_with fail
                go_at_call 23
                (with_reducible refine AC.out.mono ?_)
                rintro e1 w1 ⟨rfl, hx⟩
                have X1 := Lib.hid hx
                clear hx AC
                go_wp2_with fail
                go_at_call 20
                (with_reducible refine (PK.out _ _ X1.out.st).mono ?_)
                rw [ht]
                unfold tnV
                rintro e1 w2 ⟨rfl, hb2⟩
                replace X1 := Lib.hid (X1.out.grow hb2)
                clear hb2 PK
                go_wp2_with fail
                go_at_call 57
                (with_reducible refine (OK.out _ (X1.out.st.grow (G.alloc (G.refl _) _))).mono ?_)
                rintro e1 w3 ⟨rfl, rfl⟩
                go_wp2_with fail
                go_at_call 21
                (with_reducible refine (NX.out _ _ (X1.out.st.grow (G.alloc (G.refl _) _))).mono ?_)
                unfold tnV
                rintro e1 w4 ⟨rfl, hx⟩
                go_wp2_with fail
                go_ret
                exact ⟨rfl, X1.out.trans (hx.pre (G.alloc (G.refl _) _))⟩
          · rw [St.num_rng he (by rw [ht]; exact hk) (by rw [ht]; exact .inl hs)]
            clear he hn
            go_enter Tryz.func25, Tryz.ntmps25
            go_wp2_with fail
            go_at_call 23
            (with_reducible refine AC.out.mono ?_)
            rintro e1 w1 ⟨rfl, hx⟩
            have X1 := Lib.hid hx
            clear hx AC
            go_wp2_with fail
            go_at_call 20
            (with_reducible refine (PK.out _ _ X1.out.st).mono ?_)
            rw [ht]
            unfold tnV
            rintro e1 w2 ⟨rfl, hb2⟩
            replace X1 := Lib.hid (X1.out.grow hb2)
            clear hb2 PK
            go_wp2_with fail
            go_at_call 57
            (with_reducible refine (OK.out _ (X1.out.st.grow (G.alloc (G.refl _) _))).mono ?_)
            rintro e1 w3 ⟨rfl, rfl⟩
            go_wp2_with fail
            go_at_call 18
            (with_reducible refine (FL.out _ _ 2 (X1.out.st.grow (G.alloc (G.refl _) _))).mono ?_)
            rintro e1 w4 ⟨rfl, hx⟩
            go_wp2_with fail
            go_ret
            exact ⟨rfl, X1.out.trans (hx.pre (G.alloc (G.refl _) _))⟩
        · rw [St.num_syn (.inr (by rw [ht]; exact hk))]
          clear he hn
          go_enter Tryz.func25, Tryz.ntmps25
          go_wp2_with fail
          go_at_call 23
          (with_reducible refine AC.out.mono ?_)
          rintro e1 w1 ⟨rfl, hx⟩
          have X1 := Lib.hid hx
          clear hx AC
          go_wp2_with fail
          go_at_call 20
          (with_reducible refine (PK.out _ _ X1.out.st).mono ?_)
          rw [ht]
          unfold tnV
          rintro e1 w2 ⟨rfl, hb2⟩
          replace X1 := Lib.hid (X1.out.grow hb2)
          clear hb2 PK
          go_wp2_with fail
          go_at_call 57
          (with_reducible refine (OK.out _ (X1.out.st.grow (G.alloc (G.refl _) _))).mono ?_)
          rintro e1 w3 ⟨rfl, rfl⟩
          go_wp2_with fail
          go_at_call 18
          (with_reducible refine (FL.out _ _ 13 (X1.out.st.grow (G.alloc (G.refl _) _))).mono ?_)
          rintro e1 w4 ⟨rfl, hx⟩
          go_wp2_with fail
          go_ret
          exact ⟨rfl, X1.out.trans (hx.pre (G.alloc (G.refl _) _))⟩
      · have OK := Lib.hid (fun (wx : World) (h : StW wx N p q us s1) => decide_eq_false he ▸ OKK.out wx s1 h)
        obtain ⟨t, ht⟩ : ∃ t, s1.pk us = t := ⟨_, rfl⟩
        rw [St.num_syn (.inl he)]
        clear OKK he
        go_enter Tryz.func25, Tryz.ntmps25
        go_wp2_with fail
        go_at_call 23
        (with_reducible refine AC.out.mono ?_)
        rintro e1 w1 ⟨rfl, hx⟩
        have X1 := Lib.hid hx
        clear hx AC
        go_wp2_with fail
        go_at_call 20
        (with_reducible refine (PK.out _ _ X1.out.st).mono ?_)
        rw [ht]
        unfold tnV
        rintro e1 w2 ⟨rfl, hb2⟩
        replace X1 := Lib.hid (X1.out.grow hb2)
        clear hb2 PK
        go_wp2_with fail
        go_at_call 57
        (with_reducible refine (OK.out _ (X1.out.st.grow (G.alloc (G.refl _) _))).mono ?_)
        rintro e1 w3 ⟨rfl, rfl⟩
        go_wp2_with fail
        go_at_call 18
        (with_reducible refine (FL.out _ _ 13 (X1.out.st.grow (G.alloc (G.refl _) _))).mono ?_)
        rintro e1 w4 ⟨rfl, hx⟩
        go_wp2_with fail
        go_ret
        exact ⟨rfl, X1.out.trans (hx.pre (G.alloc (G.refl _) _))⟩
  · have e1 : s.hd us lo = s := by unfold St.hd; rw [if_neg hlo]
    have e2 : s.ng us lo = false := by unfold St.ng; simp [hlo]
    rw [e1, e2]
    have X1 := Lib.hid (NxP.stay h (G.refl _))
    obtain ⟨s1, hs1⟩ : ∃ s1, s = s1 := ⟨_, rfl⟩
    rw [hs1] at X1 ⊢
    clear e1 e2 h hs1
    by_cases he : s1.e = 0
    · have OK := Lib.hid (fun (wx : World) (h : StW wx N p q us s1) => decide_eq_true he ▸ OKK.out wx s1 h)
      clear OKK
      obtain ⟨t, ht⟩ : ∃ t, s1.pk us = t := ⟨_, rfl⟩
      obtain ⟨n, hn⟩ : ∃ n, nuN false t.n = n := ⟨_, rfl⟩
      have hw : t.n = n := hn
      by_cases hk : t.k = 2
      · by_cases hs : t.s = 0
        · by_cases h1 : n < lo
          · rw [St.num_rng he (by rw [ht]; exact hk) (by rw [ht, hn]; omega)]
            clear he hn
            go_enter Tryz.func25, Tryz.ntmps25
            go_wp2_with fail
            go_at_call 20
            (with_reducible refine (PK.out _ _ X1.out.st).mono ?_)
            rw [ht]
            unfold tnV
            rintro e1 w2 ⟨rfl, hb2⟩
            replace X1 := Lib.hid (X1.out.grow hb2)
            clear hb2 PK
            go_wp2_with fail
            go_at_call 57
            (with_reducible refine (OK.out _ (X1.out.st.grow (G.alloc (G.refl _) _))).mono ?_)
            rintro e1 w3 ⟨rfl, rfl⟩
            go_wp2_with fail
            go_at_call 18
            (with_reducible refine (FL.out _ _ 2 (X1.out.st.grow (G.alloc (G.refl _) _))).mono ?_)
            rintro e1 w4 ⟨rfl, hx⟩
            go_wp2_with fail
            go_ret
            exact ⟨rfl, X1.out.trans (hx.pre (G.alloc (G.refl _) _))⟩
          · by_cases h2 : hi < n
            · rw [St.num_rng he (by rw [ht]; exact hk) (by rw [ht, hn]; omega)]
              clear he hn
              go_enter Tryz.func25, Tryz.ntmps25
              go_wp2_with fail
              go_at_call 20
              (with_reducible refine (PK.out _ _ X1.out.st).mono ?_)
              rw [ht]
              unfold tnV
              rintro e1 w2 ⟨rfl, hb2⟩
              replace X1 := Lib.hid (X1.out.grow hb2)
              clear hb2 PK
              go_wp2_with fail
              go_at_call 57
              (with_reducible refine (OK.out _ (X1.out.st.grow (G.alloc (G.refl _) _))).mono ?_)
              rintro e1 w3 ⟨rfl, rfl⟩
              go_wp2_with fail
              go_at_call 18
              (with_reducible refine (FL.out _ _ 2 (X1.out.st.grow (G.alloc (G.refl _) _))).mono ?_)
              rintro e1 w4 ⟨rfl, hx⟩
              go_wp2_with fail
              go_ret
              exact ⟨rfl, X1.out.trans (hx.pre (G.alloc (G.refl _) _))⟩
            · rw [St.num_ok he (by rw [ht]; exact hk) (by rw [ht]; exact hs) (by rw [ht, hn]; omega) (by rw [ht, hn]; omega), ht, hn]
              clear he hn
              go_enter Tryz.func25, Tryz.ntmps25
              go_wp2_with fail
              go_at_call 20
              (with_reducible refine (PK.out _ _ X1.out.st).mono ?_)
              rw [ht]
              unfold tnV
              rintro e1 w2 ⟨rfl, hb2⟩
              replace X1 := Lib.hid (X1.out.grow hb2)
              clear hb2 PK
              go_wp2_with fail
              go_at_call 57
              (with_reducible refine (OK.out _ (X1.out.st.grow (G.alloc (G.refl _) _))).mono ?_)
              rintro e1 w3 ⟨rfl, rfl⟩
              go_wp2_with fail
              go_at_call 21
              (with_reducible refine (NX.out _ _ (X1.out.st.grow (G.alloc (G.refl _) _))).mono ?_)
              unfold tnV
              rintro e1 w4 ⟨rfl, hx⟩
              go_wp2_with fail
              go_ret
              exact ⟨rfl, X1.out.trans (hx.pre (G.alloc (G.refl _) _))⟩
        · rw [St.num_rng he (by rw [ht]; exact hk) (by rw [ht]; exact .inl hs)]
          clear he hn
          go_enter Tryz.func25, Tryz.ntmps25
          go_wp2_with fail
          go_at_call 20
          (with_reducible refine (PK.out _ _ X1.out.st).mono ?_)
          rw [ht]
          unfold tnV
          rintro e1 w2 ⟨rfl, hb2⟩
          replace X1 := Lib.hid (X1.out.grow hb2)
          clear hb2 PK
          go_wp2_with fail
          go_at_call 57
          (with_reducible refine (OK.out _ (X1.out.st.grow (G.alloc (G.refl _) _))).mono ?_)
          rintro e1 w3 ⟨rfl, rfl⟩
          go_wp2_with fail
          go_at_call 18
          (with_reducible refine (FL.out _ _ 2 (X1.out.st.grow (G.alloc (G.refl _) _))).mono ?_)
          rintro e1 w4 ⟨rfl, hx⟩
          go_wp2_with fail
          go_ret
          exact ⟨rfl, X1.out.trans (hx.pre (G.alloc (G.refl _) _))⟩
      · rw [St.num_syn (.inr (by rw [ht]; exact hk))]
        clear he hn
        go_enter Tryz.func25, Tryz.ntmps25
        go_wp2_with fail
        go_at_call 20
        (with_reducible refine (PK.out _ _ X1.out.st).mono ?_)
        rw [ht]
        unfold tnV
        rintro e1 w2 ⟨rfl, hb2⟩
        replace X1 := Lib.hid (X1.out.grow hb2)
        clear hb2 PK
        go_wp2_with fail
        go_at_call 57
        (with_reducible refine (OK.out _ (X1.out.st.grow (G.alloc (G.refl _) _))).mono ?_)
        rintro e1 w3 ⟨rfl, rfl⟩
        go_wp2_with fail
        go_at_call 18
        (with_reducible refine (FL.out _ _ 13 (X1.out.st.grow (G.alloc (G.refl _) _))).mono ?_)
        rintro e1 w4 ⟨rfl, hx⟩
        go_wp2_with fail
        go_ret
        exact ⟨rfl, X1.out.trans (hx.pre (G.alloc (G.refl _) _))⟩
    · have OK := Lib.hid (fun (wx : World) (h : StW wx N p q us s1) => decide_eq_false he ▸ OKK.out wx s1 h)
      obtain ⟨t, ht⟩ : ∃ t, s1.pk us = t := ⟨_, rfl⟩
      rw [St.num_syn (.inl he)]
      clear OKK he
      go_enter Tryz.func25, Tryz.ntmps25
      go_wp2_with fail
      go_at_call 20
      (with_reducible refine (PK.out _ _ X1.out.st).mono ?_)
      rw [ht]
      unfold tnV
      rintro e1 w2 ⟨rfl, hb2⟩
      replace X1 := Lib.hid (X1.out.grow hb2)
      clear hb2 PK
      go_wp2_with fail
      go_at_call 57
      (with_reducible refine (OK.out _ (X1.out.st.grow (G.alloc (G.refl _) _))).mono ?_)
      rintro e1 w3 ⟨rfl, rfl⟩
      go_wp2_with fail
      go_at_call 18
      (with_reducible refine (FL.out _ _ 13 (X1.out.st.grow (G.alloc (G.refl _) _))).mono ?_)
      rintro e1 w4 ⟨rfl, hx⟩
      go_wp2_with fail
      go_ret
      exact ⟨rfl, X1.out.trans (hx.pre (G.alloc (G.refl _) _))⟩
end
end Go.Proofs.YtmchiibbodllaaaGreatDoor

namespace Go.Proofs.YtmchiibbodllaaaGreatDoor
set_option linter.unusedVariables false
set_option linter.unnecessarySimpa false
set_option linter.unusedSimpArgs false
open Go.RowKit

section
variable {w w' : World} {N p q : Nat} {us : List Tn} {s s' : St}
theorem MsW.cut (h : MsW w N p q us s) (he : s.e = 0) : ∃ t i n c g off, s.pk us = t ∧ s.i = i ∧ us.length = n ∧ i < n ∧ n ≤ c ∧ c ≤ maxLen ∧ q < w.heap.size ∧ g < w.heap.size ∧ g ≠ q ∧ us[i]? = some t ∧
    Bx w q [.slice (some ⟨g, off, none⟩) n c, .int .i64 (i : Int), .int .i64 s.ln, .int .i64 s.cl, .int .i64 0] ∧
    w.cell? ⟨g, off + i * 8, none⟩ = some (.int .i64 t.k) ∧ w.cell? ⟨g, off + i * 8 + 1, none⟩ = some (.int .i64 t.ln) ∧ w.cell? ⟨g, off + i * 8 + 2, none⟩ = some (.int .i64 t.cl) ∧ w.cell? ⟨g, off + i * 8 + 3, none⟩ = some (.string (B t.tx)) ∧
    w.cell? ⟨g, off + i * 8 + 4, none⟩ = some (.string (B t.v)) ∧ w.cell? ⟨g, off + i * 8 + 5, none⟩ = some (.int .i64 t.n) ∧ w.cell? ⟨g, off + i * 8 + 6, none⟩ = some (.int .i64 t.s) ∧ w.cell? ⟨g, off + i * 8 + 7, none⟩ = some (.bool t.j) := by
  have h0 := St.pk_ok h.ok he
  have lt := h.lt
  obtain ⟨a0, A, c, h1, h2, h4, h5⟩ := h
  have hi := h5 he
  obtain ⟨t, ht⟩ : ∃ t, s.pk us = t := ⟨_, rfl⟩
  rw [ht] at h0
  obtain ⟨g, off, rfl, hg, ps⟩ := h4.at_ h0
  rw [he] at h1
  exact ⟨t, _, _, c, g, off, ht, rfl, rfl, hi, h4.2.1, h4.2.2.1, lt, hg, (h2 _ rfl).2.2, h0, h1, ps⟩
theorem MsW.bad (h : MsW w N p q us s) : ∃ A n c, n ≤ c ∧ c ≤ maxLen ∧ q < w.heap.size ∧ Bx w q [.slice A n c, .int .i64 (s.i : Int), .int .i64 s.ln, .int .i64 s.cl, .int .i64 s.e] := by
  have lt := h.lt
  obtain ⟨a0, A, c, h1, h2, h4, h5⟩ := h
  exact ⟨A, _, c, h4.2.1, h4.2.2.1, lt, h1⟩
/-- From w to w' only the definition's stream changed, and it is s' now. -/
def NxM (N p q : Nat) (us : List Tn) (s' : St) (w w' : World) : Prop := Chg q q w w' ∧ MsW w' N p q us s'
theorem NxM.st (h : NxM N p q us s w w') : MsW w' N p q us s := h.2
theorem NxM.ch (h : NxM N p q us s w w') : Chg q q w w' := h.1
theorem NxM.stay (h : MsW w N p q us s) (hb : Below w.heap.size w w') : NxM N p q us s w w' := ⟨Chg.of_below hb, h.grow hb⟩
theorem NxM.fill {r : Nat} (h : NxM N p q us s w w') (hr : w.heap.size ≤ r) (hN : N ≤ w.heap.size) (vs : List Value) (o : Nat) : NxM N p q us s w (w'.setCells r o vs) :=
  ⟨h.1.setsNew hr vs o, h.2.fill (Nat.le_trans hN hr) vs o⟩
theorem NxM.grow {w2 : World} (h : NxM N p q us s w w') (hb : Below w'.heap.size w' w2) : NxM N p q us s w w2 := ⟨h.1.grow hb, h.2.grow hb⟩
theorem NxM.pre {w0 : World} (h : NxM N p q us s w w') (hb : Below w0.heap.size w0 w) : NxM N p q us s w0 w' := ⟨(Chg.of_below hb).trans h.1, h.2⟩
theorem NxM.trans {w2 : World} (h : NxM N p q us s w w') (k : NxM N p q us s' w' w2) : NxM N p q us s' w w2 := ⟨h.1.trans k.1, k.2⟩
set_option maxRecDepth 20000 in set_option maxHeartbeats 1000000 in
theorem mp_peek (h : MsW w N p q us s) : Calls Tryz.prog 27 #[.pointer (some ⟨q, 0, none⟩)] w fun e w' => e = .returned (tnV (s.pk us)) ∧ Below w.heap.size w w' := by
  by_cases he : s.e = 0
  · obtain ⟨t, i, n, c, g, off, ht, hi, hn, hin, hc, hcm, lt, hg, hne, h0, hB, p0, p1, p2, p3, p4, p5, p6, p7⟩ := h.cut he
    obtain ⟨k0, k1, k2, k3, k4⟩ := hB.c5
    rw [ht]
    unfold tnV
    clear h h0 he ht hi hn
    go_enter Tryz.func27, Tryz.ntmps27
    go_upto_region 3 with fail
    obtain ⟨r, hr⟩ : ∃ r, w.heap.size = r := ⟨_, rfl⟩
    have HR := Lib.hid hr
    rw [hr]
    have hrq : ¬ r = q := by omega
    have hrg : ¬ r = g := by omega
    refine wp_name (fun wx => Hid (Bx wx r [.int .i64 0, .int .i64 0, .int .i64 0, .string ⟨#[]⟩, .string ⟨#[]⟩, .int .i64 0, .int .i64 0, .bool false]) ∧ Hid (Below w.heap.size w wx)) ⟨Lib.hid (Bx.new hr.symm rfl), Lib.hid (G.alloc (G.refl w) _)⟩ ?_
    rintro w1 ⟨hx, hb⟩
    have HB := Lib.hid (hB.grow hb.out)
    replace p0 := G.cell p0 hb.out
    replace p1 := G.cell p1 hb.out
    replace p2 := G.cell p2 hb.out
    replace p3 := G.cell p3 hb.out
    replace p4 := G.cell p4 hb.out
    replace p5 := G.cell p5 hb.out
    replace p6 := G.cell p6 hb.out
    replace p7 := G.cell p7 hb.out
    replace hg := Nat.lt_of_lt_of_le hg hb.out.size
    clear k0 k1 k2 k3 k4 hB lt hr
    obtain ⟨k0, k1, k2, k3, k4⟩ := HB.out.c5
    have lt := HB.out.lt
    refine wp_region_ord [(0, 1), (1, 1), (2, 1), (3, 1), (4, 1), (5, 1), (6, 1), (7, 1), (8, 1), (9, 1), (10, 3)] [10] 5 (by kernel_rfl) (by decide +kernel) ?_
    simp only [pickO, List.append_eq, List.cons_append, List.nil_append, List.getElem?_cons_succ, List.getElem?_cons_zero]
    intro w0 hG
    (repeat ((first | (with_reducible refine ord_q1 ?_) | (with_reducible refine ord_q0 ?_)); intro K hK; first | (refine Or.inr ⟨?_, ?_⟩; (focus (go_simp; first | done | (simp [undef]; done))); go_simp; (with_reducible refine hK _ ?_); clear hK K) | (refine Or.inl ⟨?_, ?_⟩; (focus (go_simp; done)); apply Exists.intro; refine And.intro ?_ ?_; (focus (first | (intro wq hq; obtain ⟨hcq, hfq⟩ := G.old hq; go_simp; (first | done | exact rfl); done) | (intro wq; go_simp; (first | done | exact rfl); done))); go_simp; (with_reducible refine hK _ ?_); clear hK K) | fail))
    have HX := Lib.hid (hx.out.grow hG.b)
    obtain ⟨z0, z1, z2, z3, z4, z5, z6, z7⟩ := HX.out.f8
    obtain ⟨y0, y1, y2, y3, y4, y5, y6, y7⟩ := HX.out.c8
    have ltr := HX.out.lt
    ((with_reducible refine ord_tail ?_); intro K hK; go_simp; (with_reducible refine hK _ _ ?_); clear hK K)
    (repeat ((first | (with_reducible refine ord_q1 ?_) | (with_reducible refine ord_q0 ?_)); intro K hK; first | (refine Or.inr ⟨?_, ?_⟩; (focus (go_simp; first | done | (simp [undef]; done))); go_simp; (with_reducible refine hK _ ?_); clear hK K) | (refine Or.inl ⟨?_, ?_⟩; (focus (go_simp; done)); apply Exists.intro; refine And.intro ?_ ?_; (focus (first | (intro wq hq; obtain ⟨hcq, hfq⟩ := G.old hq; go_simp; (first | done | exact rfl); done) | (intro wq; go_simp; (first | done | exact rfl); done))); go_simp; (with_reducible refine hK _ ?_); clear hK K) | fail))
    (with_reducible refine ord_nil ?_)
    refine name_k (fun wx => Hid (Bx wx r (tnC t)) ∧ Hid (Below w.heap.size w wx)) ⟨Lib.hid (Bx.fillT HX.out t rfl), Lib.hid (Below.setCellsT (Nat.le_of_eq HR.out) (tnC t) 0 _ (G.trans hb.out hG.b))⟩ ?_
    rintro w2 ⟨HX2, hb2⟩
    clear y0 y1 y2 y3 y4 y5 y6 y7 z0 z1 z2 z3 z4 z5 z6 z7 k0 k1 k2 k3 k4 HX hx hb hG p0 p1 p2 p3 p4 p5 p6 p7
    obtain ⟨y0, y1, y2, y3, y4, y5, y6, y7⟩ := HX2.out.c8
    have ltr2 := HX2.out.lt
    go_wp2_with fail
    exact bodyPost_ret (v := tnL t.k t.ln t.cl t.tx t.v t.n t.s t.j) (by simp only [results, Tryz.results27]; go_simp) rfl ⟨rfl, hb2.out⟩
  · obtain ⟨A, n, c, hc, hcm, lt, hB⟩ := h.bad
    obtain ⟨k0, k1, k2, k3, k4⟩ := hB.c5
    rw [St.pk_bad he, tnV_z]
    unfold zV
    clear hB h
    go_enter Tryz.func27, Tryz.ntmps27
    go_wp2_with fail
    exact bodyPost_ret (v := .agg #[.int .i64 0, .int .i64 0, .int .i64 0, .string ⟨#[]⟩, .string ⟨#[]⟩, .int .i64 0, .int .i64 0, .bool false]) (by simp only [results, Tryz.results27]; go_simp) rfl ⟨rfl, by repeat (first | with_reducible assumption | with_reducible exact G.refl _ | with_reducible refine G.drew ?_ | with_reducible refine G.drewN ?_ _ | with_reducible refine G.alloc ?_ _ | with_reducible refine Below.setCell ?_ (by first | (simp; done) | (simp; omega)) _ | with_reducible refine G.trans ?_ hb12 | with_reducible refine G.trans ?_ hb11 | with_reducible refine G.trans ?_ hb10 | with_reducible refine G.trans ?_ hb9 | with_reducible refine G.trans ?_ hb8 | with_reducible refine G.trans ?_ hb7 | with_reducible refine G.trans ?_ hb6 | with_reducible refine G.trans ?_ hb5 | with_reducible refine G.trans ?_ hb4 | with_reducible refine G.trans ?_ hb3 | with_reducible refine G.trans ?_ hb2 | with_reducible refine G.trans ?_ hb1 | with_reducible refine G.trans ?_ hb | assumption)⟩
/-- What a step of the definition's stream leaves. -/
theorem MsW.nxt (h : MsW w N p q us s) (he : s.e = 0) (hl : s.i + 1 < us.length) (hc : Chg q q w w') {A1 : Option Addr} {n1 c1 : Nat} {v : Value} (hB0 : Bx w q [.slice A1 n1 c1, v, .int .i64 s.ln, .int .i64 s.cl, .int .i64 0])
    (hB : Bx w' q [.slice A1 n1 c1, .int .i64 ((s.i + 1 : Nat) : Int), .int .i64 s.ln, .int .i64 s.cl, .int .i64 0]) : MsW w' N p q us (s.nx us) := by
  obtain ⟨⟨x1, x2, x3, x4⟩, A, c2, h1, h2, h4, h5⟩ := h
  have e0 := (h1.2 0 _ rfl).1
  rw [(hB0.2 0 _ rfl).1] at e0
  simp only [Option.some.injEq, Value.slice.injEq] at e0
  obtain ⟨rfl, rfl, rfl⟩ := e0
  rw [St.nx_go he hl]
  refine ⟨⟨Nat.le_trans x1 hc.size, x2, x3, x4⟩, A1, c1, ?_, h2, TksW.keep (ok := fun x => x ≠ q ∧ x ≠ q) h4 (fun ad e => ⟨(h2 ad e).2.2, (h2 ad e).2.2⟩) hc.2, fun _ => hl⟩
  show Bx w' q [.slice A1 us.length c1, .int .i64 ((s.i + 1 : Nat) : Int), .int .i64 s.ln, .int .i64 s.cl, .int .i64 s.e]
  rw [he]
  exact hB
theorem MsW.err (h : MsW w N p q us s) (he : s.e = 0) {x : Int} (hx : x ≠ 0) (hc : Chg q q w w') {t : Tn} (ht : s.pk us = t) {A1 : Option Addr} {n1 c1 : Nat} {v : Value} (hB0 : Bx w q [.slice A1 n1 c1, v, .int .i64 s.ln, .int .i64 s.cl, .int .i64 0])
    (hB : Bx w' q [.slice A1 n1 c1, v, .int .i64 t.ln, .int .i64 t.cl, .int .i64 x]) : MsW w' N p q us (s.fl us x) := by
  obtain ⟨⟨x1, x2, x3, x4⟩, A, c2, h1, h2, h4, h5⟩ := h
  have e0 := (h1.2 0 _ rfl).1
  rw [(hB0.2 0 _ rfl).1] at e0
  simp only [Option.some.injEq, Value.slice.injEq] at e0
  obtain ⟨rfl, rfl, rfl⟩ := e0
  have e1 := (h1.2 1 _ rfl).1
  rw [(hB0.2 1 _ rfl).1] at e1
  simp only [Option.some.injEq] at e1
  subst e1
  rw [St.fl_go he hx, ht]
  exact ⟨⟨Nat.le_trans x1 hc.size, x2, x3, x4⟩, A1, c1, hB, h2, TksW.keep (ok := fun x => x ≠ q ∧ x ≠ q) h4 (fun ad e => ⟨(h2 ad e).2.2, (h2 ad e).2.2⟩) hc.2, fun e => absurd e hx⟩
set_option maxRecDepth 20000 in set_option maxHeartbeats 1000000 in
theorem mp_next (hK : Kinds us) (h : MsW w N p q us s) : Calls Tryz.prog 28 #[.pointer (some ⟨q, 0, none⟩)] w fun e w' => e = .returned (tnV (s.pk us)) ∧ NxM N p q us (s.nx us) w w' := by
  have H := Lib.hid h
  have PK := Lib.hid (fun (wx : World) (h : MsW wx N p q us s) => mp_peek h)
  have hN := h.1.1
  obtain ⟨r, hr⟩ : ∃ r, w.heap.size = r := ⟨_, rfl⟩
  have HR := Lib.hid hr
  by_cases he : s.e = 0
  · obtain ⟨t, i, n, c, g, off, ht, hi, hn, hin, hc, hcm, lt, hg, hne, h0, hB, -⟩ := h.cut he
    have HB := Lib.hid hB
    have hkt := hK i t h0
    rw [ht] at PK ⊢
    unfold tnV at PK ⊢
    clear hB h h0 hK
    by_cases hl : i + 1 < n
    · have hk0 : ¬ t.k = 0 := by omega
      have hwi : IntKind.i64.wrap ((i : Int) + 1) = ((i + 1 : Nat) : Int) := by rw [IntWalk.i64_in _ (by unfold maxLen at hcm; omega)]; omega
      have NX := Lib.hid (fun (wx : World) (hc : Chg q q w wx) (hB : Bx wx q [.slice (some ⟨g, off, none⟩) n c, .int .i64 ((i + 1 : Nat) : Int), .int .i64 s.ln, .int .i64 s.cl, .int .i64 0]) => H.out.nxt he (by omega) hc HB.out (by rw [hi]; exact hB))
      clear he ht hi hn hkt
      go_enter Tryz.func28, Tryz.ntmps28
      go_wp2_with fail
      go_at_call 27
      refine calls_name (fun wx => Hid (Bx wx r [.int .i64 0, .int .i64 0, .int .i64 0, .string ⟨#[]⟩, .string ⟨#[]⟩, .int .i64 0, .int .i64 0, .bool false]) ∧ Hid (Below r w wx)) ⟨Bx.new hr.symm rfl, by rw [← hr]; exact G.alloc (G.refl w) _⟩ ?_
      rintro w0 ⟨hx0, hb0⟩
      have hb0' : Hid (Below w.heap.size w w0) := by rw [hr]; exact hb0
      (with_reducible refine (PK.out _ (H.out.grow hb0'.out)).mono ?_)
      rintro e1 w1 ⟨rfl, hb1⟩
      have hx1 := Lib.hid (hx0.out.grow hb1)
      replace hb1 := Lib.hid (G.trans hb0'.out hb1)
      have HS1 := Lib.hid (H.out.grow hb1.out)
      clear hx0 hb0 hb0' PK
      have hB1 := HB.out.grow hb1.out
      obtain ⟨k0, k1, k2, k3, k4⟩ := hB1.c5
      obtain ⟨z0, z1, z2, z3, z4⟩ := hB1.f5
      have lt1 := hB1.lt
      clear hB1
      go_upto_region 4 with fail
      obtain ⟨r3, hr3⟩ : ∃ r3, w1.heap.size = r3 := ⟨_, rfl⟩
      rw [hr3]
      have hrq : ¬ r = q := by omega
      have hr3q : ¬ r3 = q := by omega
      have hr3r : ¬ r = r3 := by have := hx1.out.lt; omega
      refine wp_name (fun wx => Hid (Bx wx r [.int .i64 0, .int .i64 0, .int .i64 0, .string ⟨#[]⟩, .string ⟨#[]⟩, .int .i64 0, .int .i64 0, .bool false]) ∧ Hid (Bx wx r3 (tnC t)) ∧ Hid (Bx wx q [.slice (some ⟨g, off, none⟩) n c, .int .i64 ((i + 1 : Nat) : Int), .int .i64 s.ln, .int .i64 s.cl, .int .i64 0]) ∧ Hid (Chg q q w wx)) ⟨Lib.hid (Bx.alloc (hx1.out.other hrq _) _), Lib.hid (Bx.new (by simp [hr3]) rfl), Lib.hid (Bx.alloc (Bx.put (HB.out.grow hb1.out) rfl) _), Lib.hid (((Chg.of_below hb1.out).set1 _ _).alloc _)⟩ ?_
      rintro w3 ⟨hx3, hy3, hp3, hc3⟩
      clear hx1 hb1 HS1 k0 k1 k2 k3 k4 z0 z1 z2 z3 z4
      obtain ⟨l0, l1, l2, l3, l4, l5, l6, l7⟩ := hy3.out.c8
      obtain ⟨k0, k1, k2, k3, k4, k5, k6, k7⟩ := hx3.out.c8
      obtain ⟨z0, z1, z2, z3, z4, z5, z6, z7⟩ := hx3.out.f8
      have ltr := hx3.out.lt
      have ltr3 := hy3.out.lt
      clear hx3 hy3
      go_wp2_with fail
      have hcF := hc3.out.setsNew (Nat.le_of_eq HR.out) (tnC t) 0
      have hBF := Bx.othersT (fun e => hrq e.symm) (tnC t) 0 _ hp3.out
      exact bodyPost_ret (v := tnL t.k t.ln t.cl t.tx t.v t.n t.s t.j) (by simp only [results, Tryz.results28]; go_simp) rfl ⟨rfl, hcF, NX.out _ hcF hBF⟩
    · have hk0 : t.k = 0 := by omega
      rw [St.nx_last (by omega)]
      clear he hl hi hn ht hkt
      go_enter Tryz.func28, Tryz.ntmps28
      go_wp2_with fail
      go_at_call 27
      refine calls_name (fun wx => Hid (Bx wx r [.int .i64 0, .int .i64 0, .int .i64 0, .string ⟨#[]⟩, .string ⟨#[]⟩, .int .i64 0, .int .i64 0, .bool false]) ∧ Hid (Below r w wx)) ⟨Bx.new hr.symm rfl, by rw [← hr]; exact G.alloc (G.refl w) _⟩ ?_
      rintro w0 ⟨hx0, hb0⟩
      have hb0' : Hid (Below w.heap.size w w0) := by rw [hr]; exact hb0
      (with_reducible refine (PK.out _ (H.out.grow hb0'.out)).mono ?_)
      rintro e1 w1 ⟨rfl, hb1⟩
      have hx1 := Lib.hid (hx0.out.grow hb1)
      replace hb1 := Lib.hid (G.trans hb0'.out hb1)
      have HS1 := Lib.hid (H.out.grow hb1.out)
      clear hx0 hb0 hb0' PK
      have hB1 := HB.out.grow hb1.out
      obtain ⟨k0, k1, k2, k3, k4⟩ := hB1.c5
      have lt1 := hB1.lt
      clear hB1
      go_upto_region 4 with fail
      obtain ⟨r3, hr3⟩ : ∃ r3, w1.heap.size = r3 := ⟨_, rfl⟩
      rw [hr3]
      have hr3r : ¬ r = r3 := by have := hx1.out.lt; omega
      refine wp_name (fun wx => Hid (Bx wx r [.int .i64 0, .int .i64 0, .int .i64 0, .string ⟨#[]⟩, .string ⟨#[]⟩, .int .i64 0, .int .i64 0, .bool false]) ∧ Hid (Bx wx r3 (tnC t)) ∧ Hid (Below w.heap.size w wx)) ⟨hx1.out.alloc _, Bx.new hr3.symm (by simp [tnC, tkC, hk0]), hb1.out.alloc hb1.out.size _⟩ ?_
      rintro w3 ⟨hx3, hy3, hb3⟩
      clear hk0 hx1 hb1 HS1 k0 k1 k2 k3 k4
      obtain ⟨l0, l1, l2, l3, l4, l5, l6, l7⟩ := hy3.out.c8
      obtain ⟨k0, k1, k2, k3, k4, k5, k6, k7⟩ := hx3.out.c8
      obtain ⟨z0, z1, z2, z3, z4, z5, z6, z7⟩ := hx3.out.f8
      have ltr := hx3.out.lt
      have ltr3 := hy3.out.lt
      clear hx3 hy3
      go_wp2_with fail
      exact bodyPost_ret (v := tnL t.k t.ln t.cl t.tx t.v t.n t.s t.j) (by simp only [results, Tryz.results28]; go_simp) rfl ⟨rfl, NxM.stay H.out (Below.setCellsT (Nat.le_of_eq HR.out) (tnC t) 0 _ hb3.out)⟩
  · obtain ⟨A, n, c, hc, hcm, lt, hB⟩ := h.bad
    have HB := Lib.hid hB
    rw [St.pk_bad he] at PK ⊢
    rw [St.nx_bad he]
    obtain ⟨t, ht⟩ : ∃ t, t = zTk := ⟨_, rfl⟩
    rw [← ht] at PK ⊢
    unfold tnV at PK ⊢
    clear h ht hB
    go_enter Tryz.func28, Tryz.ntmps28
    go_wp2_with fail
    go_at_call 27
    refine calls_name (fun wx => Hid (Bx wx r [.int .i64 0, .int .i64 0, .int .i64 0, .string ⟨#[]⟩, .string ⟨#[]⟩, .int .i64 0, .int .i64 0, .bool false]) ∧ Hid (Below r w wx)) ⟨Bx.new hr.symm rfl, by rw [← hr]; exact G.alloc (G.refl w) _⟩ ?_
    rintro w0 ⟨hx0, hb0⟩
    have hb0' : Hid (Below w.heap.size w w0) := by rw [hr]; exact hb0
    (with_reducible refine (PK.out _ (H.out.grow hb0'.out)).mono ?_)
    rintro e1 w1 ⟨rfl, hb1⟩
    have hx1 := Lib.hid (hx0.out.grow hb1)
    replace hb1 := Lib.hid (G.trans hb0'.out hb1)
    have HS1 := Lib.hid (H.out.grow hb1.out)
    clear hx0 hb0 hb0' PK
    have hB1 := HB.out.grow hb1.out
    obtain ⟨k0, k1, k2, k3, k4⟩ := hB1.c5
    have lt1 := hB1.lt
    clear hB1
    go_upto_region 4 with fail
    obtain ⟨r3, hr3⟩ : ∃ r3, w1.heap.size = r3 := ⟨_, rfl⟩
    rw [hr3]
    have hr3r : ¬ r = r3 := by have := hx1.out.lt; omega
    refine wp_name (fun wx => Hid (Bx wx r [.int .i64 0, .int .i64 0, .int .i64 0, .string ⟨#[]⟩, .string ⟨#[]⟩, .int .i64 0, .int .i64 0, .bool false]) ∧ Hid (Bx wx r3 (tnC t)) ∧ Hid (Below w.heap.size w wx)) ⟨hx1.out.alloc _, Bx.new hr3.symm rfl, hb1.out.alloc hb1.out.size _⟩ ?_
    rintro w3 ⟨hx3, hy3, hb3⟩
    clear hx1 hb1 HS1 k0 k1 k2 k3 k4
    obtain ⟨l0, l1, l2, l3, l4, l5, l6, l7⟩ := hy3.out.c8
    obtain ⟨k0, k1, k2, k3, k4, k5, k6, k7⟩ := hx3.out.c8
    obtain ⟨z0, z1, z2, z3, z4, z5, z6, z7⟩ := hx3.out.f8
    have ltr := hx3.out.lt
    have ltr3 := hy3.out.lt
    clear hx3 hy3
    go_wp2_with fail
    exact bodyPost_ret (v := tnL t.k t.ln t.cl t.tx t.v t.n t.s t.j) (by simp only [results, Tryz.results28]; go_simp) rfl ⟨rfl, NxM.stay H.out (Below.setCellsT (Nat.le_of_eq HR.out) (tnC t) 0 _ hb3.out)⟩
end
end Go.Proofs.YtmchiibbodllaaaGreatDoor

namespace Go.Proofs.YtmchiibbodllaaaGreatDoor
set_option linter.unusedVariables false
set_option linter.unnecessarySimpa false
set_option linter.unusedSimpArgs false
open Go.RowKit

section
variable {w w' : World} {N p q : Nat} {us : List Tn} {s s' : St}
set_option maxRecDepth 20000 in set_option maxHeartbeats 1000000 in
theorem mp_is (h : MsW w N p q us s) (x : List UInt8) : Calls Tryz.prog 29 #[.pointer (some ⟨q, 0, none⟩), .string (B x)] w fun e w' => e = .returned (.bool (s.isB us x)) ∧ Below w.heap.size w w' := by
  have H := Lib.hid h
  have PK := Lib.hid (mp_peek h)
  obtain ⟨A, n, c, hc, hcm, lt, hB⟩ := h.bad
  by_cases he : s.e = 0
  · rw [he] at hB
    have HB := Lib.hid hB
    obtain ⟨t, ht⟩ : ∃ t, s.pk us = t := ⟨_, rfl⟩
    have hv : s.isB us x = decide ((t.k = 1 ∨ t.k = 5) ∧ t.tx = x) := by unfold St.isB; rw [ht]; simp [he]
    rw [hv]
    rw [ht] at PK
    unfold tnV at PK
    have kE := B_eq t.tx x
    obtain ⟨v, hv2⟩ : ∃ v, decide (t.tx = x) = v := ⟨_, rfl⟩
    rw [hv2] at kE
    clear hv h hB
    by_cases h1 : t.k = 1
    · rw [show decide ((t.k = 1 ∨ t.k = 5) ∧ t.tx = x) = v by rw [← hv2]; simp [h1]]
      clear he ht hv2
      go_enter Tryz.func29, Tryz.ntmps29
      go_wp2_with fail
      go_at_call 27
      (with_reducible refine PK.out.mono ?_)
      rintro e1 w1 ⟨rfl, hb1⟩
      have hB1 := HB.out.grow hb1
      obtain ⟨k0, k1, k2, k3, k4⟩ := hB1.c5
      have lt1 := hB1.lt
      clear hB1
      go_wp2_with fail
      go_ret
      exact ⟨rfl, by repeat (first | with_reducible assumption | with_reducible exact G.refl _ | with_reducible refine G.drew ?_ | with_reducible refine G.drewN ?_ _ | with_reducible refine G.alloc ?_ _ | with_reducible refine Below.setCell ?_ (by first | (simp; done) | (simp; omega)) _ | with_reducible refine G.trans ?_ hb12 | with_reducible refine G.trans ?_ hb11 | with_reducible refine G.trans ?_ hb10 | with_reducible refine G.trans ?_ hb9 | with_reducible refine G.trans ?_ hb8 | with_reducible refine G.trans ?_ hb7 | with_reducible refine G.trans ?_ hb6 | with_reducible refine G.trans ?_ hb5 | with_reducible refine G.trans ?_ hb4 | with_reducible refine G.trans ?_ hb3 | with_reducible refine G.trans ?_ hb2 | with_reducible refine G.trans ?_ hb1 | with_reducible refine G.trans ?_ hb | assumption)⟩
    · by_cases h5 : t.k = 5
      · rw [show decide ((t.k = 1 ∨ t.k = 5) ∧ t.tx = x) = v by rw [← hv2]; simp [h5]]
        clear he ht hv2
        go_enter Tryz.func29, Tryz.ntmps29
        go_wp2_with fail
        go_at_call 27
        (with_reducible refine PK.out.mono ?_)
        rintro e1 w1 ⟨rfl, hb1⟩
        have hB1 := HB.out.grow hb1
        obtain ⟨k0, k1, k2, k3, k4⟩ := hB1.c5
        have lt1 := hB1.lt
        clear hB1
        go_wp2_with fail
        go_ret
        exact ⟨rfl, by repeat (first | with_reducible assumption | with_reducible exact G.refl _ | with_reducible refine G.drew ?_ | with_reducible refine G.drewN ?_ _ | with_reducible refine G.alloc ?_ _ | with_reducible refine Below.setCell ?_ (by first | (simp; done) | (simp; omega)) _ | with_reducible refine G.trans ?_ hb12 | with_reducible refine G.trans ?_ hb11 | with_reducible refine G.trans ?_ hb10 | with_reducible refine G.trans ?_ hb9 | with_reducible refine G.trans ?_ hb8 | with_reducible refine G.trans ?_ hb7 | with_reducible refine G.trans ?_ hb6 | with_reducible refine G.trans ?_ hb5 | with_reducible refine G.trans ?_ hb4 | with_reducible refine G.trans ?_ hb3 | with_reducible refine G.trans ?_ hb2 | with_reducible refine G.trans ?_ hb1 | with_reducible refine G.trans ?_ hb | assumption)⟩
      · rw [show decide ((t.k = 1 ∨ t.k = 5) ∧ t.tx = x) = false by simp [h1, h5]]
        clear he ht hv2
        go_enter Tryz.func29, Tryz.ntmps29
        go_wp2_with fail
        go_at_call 27
        (with_reducible refine PK.out.mono ?_)
        rintro e1 w1 ⟨rfl, hb1⟩
        have hB1 := HB.out.grow hb1
        obtain ⟨k0, k1, k2, k3, k4⟩ := hB1.c5
        have lt1 := hB1.lt
        clear hB1
        go_wp2_with fail
        go_ret
        exact ⟨rfl, by repeat (first | with_reducible assumption | with_reducible exact G.refl _ | with_reducible refine G.drew ?_ | with_reducible refine G.drewN ?_ _ | with_reducible refine G.alloc ?_ _ | with_reducible refine Below.setCell ?_ (by first | (simp; done) | (simp; omega)) _ | with_reducible refine G.trans ?_ hb12 | with_reducible refine G.trans ?_ hb11 | with_reducible refine G.trans ?_ hb10 | with_reducible refine G.trans ?_ hb9 | with_reducible refine G.trans ?_ hb8 | with_reducible refine G.trans ?_ hb7 | with_reducible refine G.trans ?_ hb6 | with_reducible refine G.trans ?_ hb5 | with_reducible refine G.trans ?_ hb4 | with_reducible refine G.trans ?_ hb3 | with_reducible refine G.trans ?_ hb2 | with_reducible refine G.trans ?_ hb1 | with_reducible refine G.trans ?_ hb | assumption)⟩
  · have HB := Lib.hid hB
    rw [St.isB_bad he]
    obtain ⟨t, ht⟩ : ∃ t, s.pk us = t := ⟨_, rfl⟩
    rw [ht] at PK
    unfold tnV at PK
    clear h ht hB
    go_enter Tryz.func29, Tryz.ntmps29
    go_wp2_with fail
    go_at_call 27
    (with_reducible refine PK.out.mono ?_)
    rintro e1 w1 ⟨rfl, hb1⟩
    have hB1 := HB.out.grow hb1
    obtain ⟨k0, k1, k2, k3, k4⟩ := hB1.c5
    have lt1 := hB1.lt
    clear hB1
    go_wp2_with fail
    go_ret
    exact ⟨rfl, by repeat (first | with_reducible assumption | with_reducible exact G.refl _ | with_reducible refine G.drew ?_ | with_reducible refine G.drewN ?_ _ | with_reducible refine G.alloc ?_ _ | with_reducible refine Below.setCell ?_ (by first | (simp; done) | (simp; omega)) _ | with_reducible refine G.trans ?_ hb12 | with_reducible refine G.trans ?_ hb11 | with_reducible refine G.trans ?_ hb10 | with_reducible refine G.trans ?_ hb9 | with_reducible refine G.trans ?_ hb8 | with_reducible refine G.trans ?_ hb7 | with_reducible refine G.trans ?_ hb6 | with_reducible refine G.trans ?_ hb5 | with_reducible refine G.trans ?_ hb4 | with_reducible refine G.trans ?_ hb3 | with_reducible refine G.trans ?_ hb2 | with_reducible refine G.trans ?_ hb1 | with_reducible refine G.trans ?_ hb | assumption)⟩
set_option maxRecDepth 20000 in set_option maxHeartbeats 1000000 in
theorem mp_fail (h : MsW w N p q us s) (x : Int) (hx : x ≠ 0) : Calls Tryz.prog 30 #[.pointer (some ⟨q, 0, none⟩), .int .i64 x] w fun e w' => e = .returned (.tuple #[]) ∧ NxM N p q us (s.fl us x) w w' := by
  have H := Lib.hid h
  by_cases he : s.e = 0
  · have PK := Lib.hid (mp_peek h)
    obtain ⟨t, i, n, c, g, off, ht, hi, hn, hin, hc, hcm, lt, hg, hne, h0, hB, -⟩ := h.cut he
    have HB := Lib.hid hB
    have ER := Lib.hid (fun (wx : World) (hc : Chg q q w wx) (hB : Bx wx q [.slice (some ⟨g, off, none⟩) n c, .int .i64 (i : Int), .int .i64 t.ln, .int .i64 t.cl, .int .i64 x]) => H.out.err he hx hc ht HB.out hB)
    rw [ht] at PK
    unfold tnV at PK
    obtain ⟨k0, k1, k2, k3, k4⟩ := hB.c5
    clear h he hB h0 ht hi hn
    go_enter Tryz.func30, Tryz.ntmps30
    go_wp2_with fail
    go_at_call 27
    (with_reducible refine PK.out.mono ?_)
    rintro e1 w1 ⟨rfl, hb1⟩
    have hB1 := Lib.hid (HB.out.grow hb1)
    clear k0 k1 k2 k3 k4
    go_upto_region 2 with fail
    obtain ⟨r3, hr3⟩ : ∃ r3, w1.heap.size = r3 := ⟨_, rfl⟩
    rw [hr3]
    have hqr : ¬ q = r3 := by have := hB1.out.lt; omega
    have hrq : ¬ r3 = q := fun e => hqr e.symm
    refine wp_name (fun wx => Hid (Bx wx r3 (tnC t)) ∧ Hid (Bx wx q [.slice (some ⟨g, off, none⟩) n c, .int .i64 (i : Int), .int .i64 s.ln, .int .i64 s.cl, .int .i64 0]) ∧ Hid (Chg q q w wx)) ⟨Bx.new hr3.symm rfl, hB1.out.alloc _, (Chg.of_below hb1).alloc _⟩ ?_
    rintro w3 ⟨hy3, hp3, hc3⟩
    clear hB1 hb1
    obtain ⟨l0, l1, l2, l3, l4, l5, l6, l7⟩ := hy3.out.c8
    obtain ⟨k0, k1, k2, k3, k4⟩ := hp3.out.c5
    have ltp := hp3.out.lt
    have ltr := hy3.out.lt
    refine wp_region_ordD [(0, 1), (1, 0), (2, 0), (3, 1), (4, 0), (5, 0), (6, 0), (7, 0), (8, 1), (9, 1), (10, 3), (11, 0), (12, 0), (13, 3), (14, 0), (15, 0), (16, 3)] [10, 13, 16] 5 (HasT r3 t) (by kernel_rfl) (by decide +kernel) ?_
    simp only [pickO, List.append_eq, List.cons_append, List.nil_append, List.getElem?_cons_succ, List.getElem?_cons_zero]
    intro w0 hG
    have hD := (⟨hy3.out.grow hG.b⟩ : HasT r3 t w0)
    refine ⟨hD, ?_⟩
    (repeat ((first | (with_reducible refine ord_q1D ?_) | (with_reducible refine ord_q0D ?_)); intro K hK; first | (refine Or.inr ⟨?_, ?_⟩; (focus (go_simp; first | done | (simp [undef]; done))); go_simp; (with_reducible refine hK _ ?_); clear hK K) | (refine Or.inl ⟨?_, ?_⟩; (focus (go_simp; done)); apply Exists.intro; refine And.intro ?_ ?_; (focus (first | (intro wq hq; have hcf := G.old hq; obtain ⟨hcq, hfq⟩ := hcf; go_simp; (first | done | exact rfl); done) | (intro wq hq; (have cq := (hq.a.2 2 _ rfl).1; have cq1 := (hq.a.2 1 _ rfl).1; have ltq := hq.a.1); go_simp; (first | done | exact rfl); done))); go_simp; (with_reducible refine hK _ ?_); clear hK K) | fail))
    have HP := Lib.hid (hp3.out.grow hG.b)
    have HC := Lib.hid (hc3.out.grow hG.b)
    obtain ⟨x0, x1, x2, x3, x4⟩ := HP.out.c5
    obtain ⟨z0, z1, z2, z3, z4⟩ := HP.out.f5
    have ltp2 := HP.out.lt
    (with_reducible refine ord_tailD hD ?_)
    intro K hK
    go_simp
    replace hD := hD.set hrq 4 (.int .i64 x)
    (with_reducible refine hK _ _ hD ?_)
    clear hK K
    (repeat ((first | (with_reducible refine ord_q1D ?_) | (with_reducible refine ord_q0D ?_)); intro K hK; first | (refine Or.inr ⟨?_, ?_⟩; (focus (go_simp; first | done | (simp [undef]; done))); go_simp; (with_reducible refine hK _ ?_); clear hK K) | (refine Or.inl ⟨?_, ?_⟩; (focus (go_simp; done)); apply Exists.intro; refine And.intro ?_ ?_; (focus (first | (intro wq hq; have hcf := G.old hq; obtain ⟨hcq, hfq⟩ := hcf; go_simp; (first | done | exact rfl); done) | (intro wq hq; (have cq := (hq.a.2 2 _ rfl).1; have cq1 := (hq.a.2 1 _ rfl).1; have ltq := hq.a.1); go_simp; (first | done | exact rfl); done))); go_simp; (with_reducible refine hK _ ?_); clear hK K) | fail))
    (with_reducible refine ord_tailD hD ?_)
    intro K hK
    go_simp
    replace hD := hD.set hrq 2 (.int .i64 t.ln)
    (with_reducible refine hK _ _ hD ?_)
    clear hK K
    (repeat ((first | (with_reducible refine ord_q1D ?_) | (with_reducible refine ord_q0D ?_)); intro K hK; first | (refine Or.inr ⟨?_, ?_⟩; (focus (go_simp; first | done | (simp [undef]; done))); go_simp; (with_reducible refine hK _ ?_); clear hK K) | (refine Or.inl ⟨?_, ?_⟩; (focus (go_simp; done)); apply Exists.intro; refine And.intro ?_ ?_; (focus (first | (intro wq hq; have hcf := G.old hq; obtain ⟨hcq, hfq⟩ := hcf; go_simp; (first | done | exact rfl); done) | (intro wq hq; (have cq := (hq.a.2 2 _ rfl).1; have cq1 := (hq.a.2 1 _ rfl).1; have ltq := hq.a.1); go_simp; (first | done | exact rfl); done))); go_simp; (with_reducible refine hK _ ?_); clear hK K) | fail))
    (with_reducible refine ord_tailD hD ?_)
    intro K hK
    go_simp
    replace hD := hD.set hrq 3 (.int .i64 t.cl)
    (with_reducible refine hK _ _ hD ?_)
    clear hK K
    (repeat ((first | (with_reducible refine ord_q1D ?_) | (with_reducible refine ord_q0D ?_)); intro K hK; first | (refine Or.inr ⟨?_, ?_⟩; (focus (go_simp; first | done | (simp [undef]; done))); go_simp; (with_reducible refine hK _ ?_); clear hK K) | (refine Or.inl ⟨?_, ?_⟩; (focus (go_simp; done)); apply Exists.intro; refine And.intro ?_ ?_; (focus (first | (intro wq hq; have hcf := G.old hq; obtain ⟨hcq, hfq⟩ := hcf; go_simp; (first | done | exact rfl); done) | (intro wq hq; (have cq := (hq.a.2 2 _ rfl).1; have cq1 := (hq.a.2 1 _ rfl).1; have ltq := hq.a.1); go_simp; (first | done | exact rfl); done))); go_simp; (with_reducible refine hK _ ?_); clear hK K) | fail))
    (with_reducible refine ord_nilD ?_)
    have hBF : Bx (((w0.setCell ⟨q, 4, none⟩ (.int .i64 x)).setCell ⟨q, 2, none⟩ (.int .i64 t.ln)).setCell ⟨q, 3, none⟩ (.int .i64 t.cl)) q [.slice (some ⟨g, off, none⟩) n c, .int .i64 (i : Int), .int .i64 t.ln, .int .i64 t.cl, .int .i64 x] := Bx.put (Bx.put (Bx.put HP.out rfl) rfl) rfl
    have hCF := ((HC.out.set1 4 (.int .i64 x)).set1 2 (.int .i64 t.ln)).set1 3 (.int .i64 t.cl)
    go_wp2_with fail
    go_end0
    exact ⟨rfl, hCF, ER.out _ hCF hBF⟩
  · obtain ⟨A, n, c, hc, hcm, lt, hB⟩ := h.bad
    rw [St.fl_bad he]
    obtain ⟨k0, k1, k2, k3, k4⟩ := hB.c5
    clear h hB
    go_enter Tryz.func30, Tryz.ntmps30
    go_wp2_with fail
    go_end0
    exact ⟨rfl, NxM.stay H.out (G.refl _)⟩
set_option maxRecDepth 20000 in set_option maxHeartbeats 1000000 in
theorem mp_take (hK : Kinds us) (h : MsW w N p q us s) (k : Int) : Calls Tryz.prog 31 #[.pointer (some ⟨q, 0, none⟩), .int .i64 k] w fun e w' => e = .returned (tnV (s.tkT us k)) ∧ NxM N p q us (s.tk us k) w w' := by
  have H := Lib.hid h
  have hN := h.1.1
  have PK := Lib.hid (fun (wx : World) (h : MsW wx N p q us s) => mp_peek h)
  have NX := Lib.hid (fun (wx : World) (h : MsW wx N p q us s) => mp_next hK h)
  have FL := Lib.hid (fun (wx : World) (h : MsW wx N p q us s) => mp_fail h 13 (by decide))
  obtain ⟨r, hr⟩ : ∃ r, w.heap.size = r := ⟨_, rfl⟩
  have HR := Lib.hid hr
  have hb0 : Below w.heap.size w (w.alloc (.cells #[.int .i64 0, .int .i64 0, .int .i64 0, .string ⟨#[]⟩, .string ⟨#[]⟩, .int .i64 0, .int .i64 0, .bool false] 33)) := G.alloc (G.refl w) _
  obtain ⟨A, n, c, hc, hcm, lt, hB⟩ := h.bad
  obtain ⟨t, ht⟩ : ∃ t, s.pk us = t := ⟨_, rfl⟩
  rw [ht] at PK NX
  by_cases hk : t.k = k
  · by_cases he : s.e = 0
    · have e1 : s.tkT us k = t := by unfold St.tkT; rw [ht, if_pos ⟨he, hk⟩]
      have e2 : s.tk us k = s.nx us := by unfold St.tk; rw [ht, if_pos ⟨he, hk⟩]
      rw [e1, e2]
      rw [he] at hB
      have HB := Lib.hid hB
      unfold tnV at PK NX ⊢
      clear h he ht e1 e2 hB hK
      subst hk
      go_enter Tryz.func31, Tryz.ntmps31
      go_wp2_with fail
      go_at_call 27
      refine calls_name (fun wx => Hid (Bx wx r [.int .i64 0, .int .i64 0, .int .i64 0, .string ⟨#[]⟩, .string ⟨#[]⟩, .int .i64 0, .int .i64 0, .bool false]) ∧ Hid (Below w.heap.size w wx)) ⟨Bx.new hr.symm rfl, hb0⟩ ?_
      rintro w0 ⟨hx0, hb1⟩
      clear hb0
      have HS0 := Lib.hid (H.out.grow hb1.out)
      (with_reducible refine (PK.out _ HS0.out).mono ?_)
      rintro e1 w1 ⟨rfl, hb2⟩
      replace HS0 := Lib.hid (HS0.out.grow hb2)
      replace hx0 := Lib.hid (hx0.out.grow hb2)
      replace hb1 := Lib.hid (G.trans hb1.out hb2)
      have hB1 := HB.out.grow hb1.out
      obtain ⟨k0, k1, k2, k3, k4⟩ := hB1.c5
      have lt1 := hB1.lt
      clear hb2 hB1
      go_wp2_with fail
      refine id (?_ : (_ : Act → World → Prop) (Act.put _ _ (Value.int .i64 t.k)) w1)
      go_wp2_with fail
      go_at_call 28
      (with_reducible refine (NX.out _ HS0.out).mono ?_)
      rintro e1 w2 ⟨rfl, hx⟩
      have hxr := Lib.hid (hx0.out.chg hx.1 (by have := H.out.lt; omega) (by have := H.out.lt; omega))
      replace hx := Lib.hid (hx.pre hb1.out)
      clear k0 k1 k2 k3 k4
      obtain ⟨k0, k1, k2, k3, k4, k5, k6, k7⟩ := hxr.out.c8
      obtain ⟨z0, z1, z2, z3, z4, z5, z6, z7⟩ := hxr.out.f8
      have ltr := hxr.out.lt
      clear hx0 hb1 HS0 hxr
      go_wp2_with fail
      exact bodyPost_ret (v := tnL t.k t.ln t.cl t.tx t.v t.n t.s t.j) (by simp only [results, Tryz.results31]; go_simp) rfl ⟨rfl, hx.out.fill (Nat.le_of_eq HR.out) hN (tnC t) 0⟩
    · have e1 : s.tkT us k = zTk := by unfold St.tkT; rw [if_neg (fun x => he x.1)]
      have e2 : s.tk us k = s.fl us 13 := by unfold St.tk; rw [if_neg (fun x => he x.1)]
      rw [e1, e2, tnV_z]
      have HB := Lib.hid hB
      unfold tnV at PK
      unfold zV
      clear h ht e1 e2 hB hK
      subst hk
      go_enter Tryz.func31, Tryz.ntmps31
      go_wp2_with fail
      go_at_call 27
      refine calls_name (fun wx => Hid (Bx wx r [.int .i64 0, .int .i64 0, .int .i64 0, .string ⟨#[]⟩, .string ⟨#[]⟩, .int .i64 0, .int .i64 0, .bool false]) ∧ Hid (Below w.heap.size w wx)) ⟨Bx.new hr.symm rfl, hb0⟩ ?_
      rintro w0 ⟨hx0, hb1⟩
      clear hb0
      have HS0 := Lib.hid (H.out.grow hb1.out)
      (with_reducible refine (PK.out _ HS0.out).mono ?_)
      rintro e1 w1 ⟨rfl, hb2⟩
      replace HS0 := Lib.hid (HS0.out.grow hb2)
      replace hx0 := Lib.hid (hx0.out.grow hb2)
      replace hb1 := Lib.hid (G.trans hb1.out hb2)
      have hB1 := HB.out.grow hb1.out
      obtain ⟨k0, k1, k2, k3, k4⟩ := hB1.c5
      have lt1 := hB1.lt
      clear hb2 hB1
      go_wp2_with fail
      refine id (?_ : (_ : Act → World → Prop) (Act.put _ _ (Value.int .i64 t.k)) w1)
      go_wp2_with fail
      go_at_call 30
      (with_reducible refine (FL.out _ HS0.out).mono ?_)
      rintro e1 w2 ⟨rfl, hx⟩
      have hxr := Lib.hid (hx0.out.chg hx.1 (by have := H.out.lt; omega) (by have := H.out.lt; omega))
      replace hx := Lib.hid (hx.pre hb1.out)
      clear k0 k1 k2 k3 k4
      obtain ⟨k0, k1, k2, k3, k4, k5, k6, k7⟩ := hxr.out.c8
      obtain ⟨z0, z1, z2, z3, z4, z5, z6, z7⟩ := hxr.out.f8
      have ltr := hxr.out.lt
      clear hx0 hb1 HS0 hxr
      go_wp2_with fail
      exact bodyPost_ret (v := .agg #[.int .i64 0, .int .i64 0, .int .i64 0, .string ⟨#[]⟩, .string ⟨#[]⟩, .int .i64 0, .int .i64 0, .bool false]) (by simp only [results, Tryz.results31]; go_simp) rfl ⟨rfl, hx.out.fill (Nat.le_of_eq HR.out) hN [.int .i64 0, .int .i64 0, .int .i64 0, .string ⟨#[]⟩, .string ⟨#[]⟩, .int .i64 0, .int .i64 0, .bool false] 0⟩
  · have e1 : s.tkT us k = zTk := by unfold St.tkT; rw [ht, if_neg (fun x => hk x.2)]
    have e2 : s.tk us k = s.fl us 13 := by unfold St.tk; rw [ht, if_neg (fun x => hk x.2)]
    rw [e1, e2, tnV_z]
    have HB := Lib.hid hB
    unfold tnV at PK
    unfold zV
    clear h ht e1 e2 hB hK
    go_enter Tryz.func31, Tryz.ntmps31
    go_wp2_with fail
    go_at_call 27
    refine calls_name (fun wx => Hid (Bx wx r [.int .i64 0, .int .i64 0, .int .i64 0, .string ⟨#[]⟩, .string ⟨#[]⟩, .int .i64 0, .int .i64 0, .bool false]) ∧ Hid (Below w.heap.size w wx)) ⟨Bx.new hr.symm rfl, hb0⟩ ?_
    rintro w0 ⟨hx0, hb1⟩
    clear hb0
    have HS0 := Lib.hid (H.out.grow hb1.out)
    (with_reducible refine (PK.out _ HS0.out).mono ?_)
    rintro e1 w1 ⟨rfl, hb2⟩
    replace HS0 := Lib.hid (HS0.out.grow hb2)
    replace hx0 := Lib.hid (hx0.out.grow hb2)
    replace hb1 := Lib.hid (G.trans hb1.out hb2)
    have hB1 := HB.out.grow hb1.out
    obtain ⟨k0, k1, k2, k3, k4⟩ := hB1.c5
    have lt1 := hB1.lt
    clear hb2 hB1
    go_wp2_with fail
    refine id (?_ : (_ : Act → World → Prop) (Act.put _ _ (Value.int .i64 t.k)) w1)
    go_wp2_with fail
    go_at_call 30
    (with_reducible refine (FL.out _ HS0.out).mono ?_)
    rintro e1 w2 ⟨rfl, hx⟩
    have hxr := Lib.hid (hx0.out.chg hx.1 (by have := H.out.lt; omega) (by have := H.out.lt; omega))
    replace hx := Lib.hid (hx.pre hb1.out)
    clear k0 k1 k2 k3 k4
    obtain ⟨k0, k1, k2, k3, k4, k5, k6, k7⟩ := hxr.out.c8
    obtain ⟨z0, z1, z2, z3, z4, z5, z6, z7⟩ := hxr.out.f8
    have ltr := hxr.out.lt
    clear hx0 hb1 HS0 hxr
    go_wp2_with fail
    exact bodyPost_ret (v := .agg #[.int .i64 0, .int .i64 0, .int .i64 0, .string ⟨#[]⟩, .string ⟨#[]⟩, .int .i64 0, .int .i64 0, .bool false]) (by simp only [results, Tryz.results31]; go_simp) rfl ⟨rfl, hx.out.fill (Nat.le_of_eq HR.out) hN [.int .i64 0, .int .i64 0, .int .i64 0, .string ⟨#[]⟩, .string ⟨#[]⟩, .int .i64 0, .int .i64 0, .bool false] 0⟩
set_option maxRecDepth 20000 in set_option maxHeartbeats 4000000 in
theorem mp_number (hK : Kinds us) (h : MsW w N p q us s) (lo hi : Int) : Calls Tryz.prog 32 #[.pointer (some ⟨q, 0, none⟩), .int .i64 lo, .int .i64 hi] w fun e w' => e = .returned (.int .i64 ((s.hd us lo).num us (s.ng us lo) lo hi).1) ∧ NxM N p q us ((s.hd us lo).num us (s.ng us lo) lo hi).2 w w' := by
  have PK := Lib.hid (fun (wx : World) (s : St) (h : MsW wx N p q us s) => mp_peek h)
  have FL := Lib.hid (fun (wx : World) (s : St) (x : Int) (hx : x ≠ 0) (h : MsW wx N p q us s) => mp_fail h x hx)
  have NX := Lib.hid (fun (wx : World) (s : St) (h : MsW wx N p q us s) => mp_next hK h)
  by_cases hlo : lo < 0
  · have IS := Lib.hid (mp_is h [45])
    rw [show B [45] = (⟨#[45]⟩ : ByteArray) from rfl] at IS
    have H := Lib.hid h
    have e1 : s.hd us lo = s.acc us [45] := by unfold St.hd; rw [if_pos hlo]
    rw [e1]
    by_cases hb : s.isB us [45] = true
    · have e2 : s.ng us lo = true := by unfold St.ng; rw [hb]; simp [hlo]
      rw [e2]
      rw [hb] at IS
      obtain ⟨s1, hs1⟩ : ∃ s1, s.nx us = s1 := ⟨_, rfl⟩
      have e3 : s.acc us [45] = s1 := by unfold St.acc; rw [if_pos hb, hs1]
      have N1 := Lib.hid (fun (wx : World) (h : MsW wx N p q us s) => hs1 ▸ mp_next hK h)
      rw [e3]
      clear e1 e2 e3 hb hs1 h hK
      obtain ⟨t, ht⟩ : ∃ t, s1.pk us = t := ⟨_, rfl⟩
      obtain ⟨n, hn⟩ : ∃ n, nuN true t.n = n := ⟨_, rfl⟩
      have hw : IntKind.i64.wrap (-t.n) = n := hn
      by_cases hk : t.k = 2
      · have he : s1.e = 0 := by
          rcases Decidable.em (s1.e = 0) with h | h
          · exact h
          · rw [St.pk_bad h] at ht; subst ht; cases hk
        by_cases hs : t.s = 0
        · by_cases h1 : n < lo
          · rw [St.num_rng he (by rw [ht]; exact hk) (by rw [ht, hn]; omega)]
            clear he hn
            go_enter Tryz.func32, Tryz.ntmps32
            go_wp2_with fail
            go_at_call 29
            (with_reducible refine IS.out.mono ?_)
            rintro e1 w0 ⟨rfl, hb0⟩
            go_wp2_with fail
            go_at_call 28
            (with_reducible refine (N1.out _ (H.out.grow hb0)).mono ?_)
            unfold tnV
            rintro e1 w1 ⟨rfl, hx⟩
            have X1 := Lib.hid (hx.pre hb0)
            clear hx IS hb0 N1
            go_wp2_with fail
            go_at_call 27
            (with_reducible refine (PK.out _ _ X1.out.st).mono ?_)
            rw [ht]
            unfold tnV
            rintro e1 w2 ⟨rfl, hb2⟩
            replace X1 := Lib.hid (X1.out.grow hb2)
            clear hb2 PK
            go_wp2_with fail
            go_at_call 30
            (with_reducible refine (FL.out _ _ 2 (by decide) (X1.out.st.grow (G.alloc (G.refl _) _))).mono ?_)
            rintro e1 w4 ⟨rfl, hx⟩
            go_wp2_with fail
            go_ret
            exact ⟨rfl, X1.out.trans (hx.pre (G.alloc (G.refl _) _))⟩
          · by_cases h2 : hi < n
            · rw [St.num_rng he (by rw [ht]; exact hk) (by rw [ht, hn]; omega)]
              clear he hn
              go_enter Tryz.func32, Tryz.ntmps32
              go_wp2_with fail
              go_at_call 29
              (with_reducible refine IS.out.mono ?_)
              rintro e1 w0 ⟨rfl, hb0⟩
              go_wp2_with fail
              go_at_call 28
              (with_reducible refine (N1.out _ (H.out.grow hb0)).mono ?_)
              unfold tnV
              rintro e1 w1 ⟨rfl, hx⟩
              have X1 := Lib.hid (hx.pre hb0)
              clear hx IS hb0 N1
              go_wp2_with fail
              go_at_call 27
              (with_reducible refine (PK.out _ _ X1.out.st).mono ?_)
              rw [ht]
              unfold tnV
              rintro e1 w2 ⟨rfl, hb2⟩
              replace X1 := Lib.hid (X1.out.grow hb2)
              clear hb2 PK
              go_wp2_with fail
              go_at_call 30
              (with_reducible refine (FL.out _ _ 2 (by decide) (X1.out.st.grow (G.alloc (G.refl _) _))).mono ?_)
              rintro e1 w4 ⟨rfl, hx⟩
              go_wp2_with fail
              go_ret
              exact ⟨rfl, X1.out.trans (hx.pre (G.alloc (G.refl _) _))⟩
            · rw [St.num_ok he (by rw [ht]; exact hk) (by rw [ht]; exact hs) (by rw [ht, hn]; omega) (by rw [ht, hn]; omega), ht, hn]
              clear he hn
              go_enter Tryz.func32, Tryz.ntmps32
              go_wp2_with fail
              go_at_call 29
              (with_reducible refine IS.out.mono ?_)
              rintro e1 w0 ⟨rfl, hb0⟩
              go_wp2_with fail
              go_at_call 28
              (with_reducible refine (N1.out _ (H.out.grow hb0)).mono ?_)
              unfold tnV
              rintro e1 w1 ⟨rfl, hx⟩
              have X1 := Lib.hid (hx.pre hb0)
              clear hx IS hb0 N1
              go_wp2_with fail
              go_at_call 27
              (with_reducible refine (PK.out _ _ X1.out.st).mono ?_)
              rw [ht]
              unfold tnV
              rintro e1 w2 ⟨rfl, hb2⟩
              replace X1 := Lib.hid (X1.out.grow hb2)
              clear hb2 PK
              go_wp2_with fail
              go_at_call 28
              (with_reducible refine (NX.out _ _ (X1.out.st.grow (G.alloc (G.refl _) _))).mono ?_)
              unfold tnV
              rintro e1 w4 ⟨rfl, hx⟩
              go_wp2_with fail
              go_ret
              exact ⟨rfl, X1.out.trans (hx.pre (G.alloc (G.refl _) _))⟩
        · rw [St.num_rng he (by rw [ht]; exact hk) (by rw [ht]; exact .inl hs)]
          clear he hn
          go_enter Tryz.func32, Tryz.ntmps32
          go_wp2_with fail
          go_at_call 29
          (with_reducible refine IS.out.mono ?_)
          rintro e1 w0 ⟨rfl, hb0⟩
          go_wp2_with fail
          go_at_call 28
          (with_reducible refine (N1.out _ (H.out.grow hb0)).mono ?_)
          unfold tnV
          rintro e1 w1 ⟨rfl, hx⟩
          have X1 := Lib.hid (hx.pre hb0)
          clear hx IS hb0 N1
          go_wp2_with fail
          go_at_call 27
          (with_reducible refine (PK.out _ _ X1.out.st).mono ?_)
          rw [ht]
          unfold tnV
          rintro e1 w2 ⟨rfl, hb2⟩
          replace X1 := Lib.hid (X1.out.grow hb2)
          clear hb2 PK
          go_wp2_with fail
          go_at_call 30
          (with_reducible refine (FL.out _ _ 2 (by decide) (X1.out.st.grow (G.alloc (G.refl _) _))).mono ?_)
          rintro e1 w4 ⟨rfl, hx⟩
          go_wp2_with fail
          go_ret
          exact ⟨rfl, X1.out.trans (hx.pre (G.alloc (G.refl _) _))⟩
      · rw [St.num_syn (.inr (by rw [ht]; exact hk))]
        clear hn
        go_enter Tryz.func32, Tryz.ntmps32
        go_wp2_with fail
        go_at_call 29
        (with_reducible refine IS.out.mono ?_)
        rintro e1 w0 ⟨rfl, hb0⟩
        go_wp2_with fail
        go_at_call 28
        (with_reducible refine (N1.out _ (H.out.grow hb0)).mono ?_)
        unfold tnV
        rintro e1 w1 ⟨rfl, hx⟩
        have X1 := Lib.hid (hx.pre hb0)
        clear hx IS hb0 N1
        go_wp2_with fail
        go_at_call 27
        (with_reducible refine (PK.out _ _ X1.out.st).mono ?_)
        rw [ht]
        unfold tnV
        rintro e1 w2 ⟨rfl, hb2⟩
        replace X1 := Lib.hid (X1.out.grow hb2)
        clear hb2 PK
        go_wp2_with fail
        go_at_call 30
        (with_reducible refine (FL.out _ _ 13 (by decide) (X1.out.st.grow (G.alloc (G.refl _) _))).mono ?_)
        rintro e1 w4 ⟨rfl, hx⟩
        go_wp2_with fail
        go_ret
        exact ⟨rfl, X1.out.trans (hx.pre (G.alloc (G.refl _) _))⟩
    · have hb' : s.isB us [45] = false := by simpa using hb
      have e2 : s.ng us lo = false := by unfold St.ng; rw [hb']; simp
      have e3 : s.acc us [45] = s := by unfold St.acc; rw [if_neg hb]
      rw [e2, e3]
      rw [hb'] at IS
      obtain ⟨s1, hs1⟩ : ∃ s1, s = s1 := ⟨_, rfl⟩
      rw [hs1] at H ⊢
      clear e1 e2 e3 hb hb' hs1 h hK
      obtain ⟨t, ht⟩ : ∃ t, s1.pk us = t := ⟨_, rfl⟩
      obtain ⟨n, hn⟩ : ∃ n, nuN false t.n = n := ⟨_, rfl⟩
      have hw : t.n = n := hn
      by_cases hk : t.k = 2
      · have he : s1.e = 0 := by
          rcases Decidable.em (s1.e = 0) with h | h
          · exact h
          · rw [St.pk_bad h] at ht; subst ht; cases hk
        by_cases hs : t.s = 0
        · by_cases h1 : n < lo
          · rw [St.num_rng he (by rw [ht]; exact hk) (by rw [ht, hn]; omega)]
            clear he hn
            go_enter Tryz.func32, Tryz.ntmps32
            go_wp2_with fail
            go_at_call 29
            (with_reducible refine IS.out.mono ?_)
            rintro e1 w1 ⟨rfl, hx⟩
            have X1 := Lib.hid (NxM.stay H.out hx)
            clear hx IS H
            go_wp2_with fail
            go_at_call 27
            (with_reducible refine (PK.out _ _ X1.out.st).mono ?_)
            rw [ht]
            unfold tnV
            rintro e1 w2 ⟨rfl, hb2⟩
            replace X1 := Lib.hid (X1.out.grow hb2)
            clear hb2 PK
            go_wp2_with fail
            go_at_call 30
            (with_reducible refine (FL.out _ _ 2 (by decide) (X1.out.st.grow (G.alloc (G.refl _) _))).mono ?_)
            rintro e1 w4 ⟨rfl, hx⟩
            go_wp2_with fail
            go_ret
            exact ⟨rfl, X1.out.trans (hx.pre (G.alloc (G.refl _) _))⟩
          · by_cases h2 : hi < n
            · rw [St.num_rng he (by rw [ht]; exact hk) (by rw [ht, hn]; omega)]
              clear he hn
              go_enter Tryz.func32, Tryz.ntmps32
              go_wp2_with fail
              go_at_call 29
              (with_reducible refine IS.out.mono ?_)
              rintro e1 w1 ⟨rfl, hx⟩
              have X1 := Lib.hid (NxM.stay H.out hx)
              clear hx IS H
              go_wp2_with fail
              go_at_call 27
              (with_reducible refine (PK.out _ _ X1.out.st).mono ?_)
              rw [ht]
              unfold tnV
              rintro e1 w2 ⟨rfl, hb2⟩
              replace X1 := Lib.hid (X1.out.grow hb2)
              clear hb2 PK
              go_wp2_with fail
              go_at_call 30
              (with_reducible refine (FL.out _ _ 2 (by decide) (X1.out.st.grow (G.alloc (G.refl _) _))).mono ?_)
              rintro e1 w4 ⟨rfl, hx⟩
              go_wp2_with fail
              go_ret
              exact ⟨rfl, X1.out.trans (hx.pre (G.alloc (G.refl _) _))⟩
            · rw [St.num_ok he (by rw [ht]; exact hk) (by rw [ht]; exact hs) (by rw [ht, hn]; omega) (by rw [ht, hn]; omega), ht, hn]
              clear he hn
              go_enter Tryz.func32, Tryz.ntmps32
              go_wp2_with fail
              go_at_call 29
              (with_reducible refine IS.out.mono ?_)
              rintro e1 w1 ⟨rfl, hx⟩
              have X1 := Lib.hid (NxM.stay H.out hx)
              clear hx IS H
              go_wp2_with fail
              go_at_call 27
              (with_reducible refine (PK.out _ _ X1.out.st).mono ?_)
              rw [ht]
              unfold tnV
              rintro e1 w2 ⟨rfl, hb2⟩
              replace X1 := Lib.hid (X1.out.grow hb2)
              clear hb2 PK
              go_wp2_with fail
              go_at_call 28
              (with_reducible refine (NX.out _ _ (X1.out.st.grow (G.alloc (G.refl _) _))).mono ?_)
              unfold tnV
              rintro e1 w4 ⟨rfl, hx⟩
              go_wp2_with fail
              go_ret
              exact ⟨rfl, X1.out.trans (hx.pre (G.alloc (G.refl _) _))⟩
        · rw [St.num_rng he (by rw [ht]; exact hk) (by rw [ht]; exact .inl hs)]
          clear he hn
          go_enter Tryz.func32, Tryz.ntmps32
          go_wp2_with fail
          go_at_call 29
          (with_reducible refine IS.out.mono ?_)
          rintro e1 w1 ⟨rfl, hx⟩
          have X1 := Lib.hid (NxM.stay H.out hx)
          clear hx IS H
          go_wp2_with fail
          go_at_call 27
          (with_reducible refine (PK.out _ _ X1.out.st).mono ?_)
          rw [ht]
          unfold tnV
          rintro e1 w2 ⟨rfl, hb2⟩
          replace X1 := Lib.hid (X1.out.grow hb2)
          clear hb2 PK
          go_wp2_with fail
          go_at_call 30
          (with_reducible refine (FL.out _ _ 2 (by decide) (X1.out.st.grow (G.alloc (G.refl _) _))).mono ?_)
          rintro e1 w4 ⟨rfl, hx⟩
          go_wp2_with fail
          go_ret
          exact ⟨rfl, X1.out.trans (hx.pre (G.alloc (G.refl _) _))⟩
      · rw [St.num_syn (.inr (by rw [ht]; exact hk))]
        clear hn
        go_enter Tryz.func32, Tryz.ntmps32
        go_wp2_with fail
        go_at_call 29
        (with_reducible refine IS.out.mono ?_)
        rintro e1 w1 ⟨rfl, hx⟩
        have X1 := Lib.hid (NxM.stay H.out hx)
        clear hx IS H
        go_wp2_with fail
        go_at_call 27
        (with_reducible refine (PK.out _ _ X1.out.st).mono ?_)
        rw [ht]
        unfold tnV
        rintro e1 w2 ⟨rfl, hb2⟩
        replace X1 := Lib.hid (X1.out.grow hb2)
        clear hb2 PK
        go_wp2_with fail
        go_at_call 30
        (with_reducible refine (FL.out _ _ 13 (by decide) (X1.out.st.grow (G.alloc (G.refl _) _))).mono ?_)
        rintro e1 w4 ⟨rfl, hx⟩
        go_wp2_with fail
        go_ret
        exact ⟨rfl, X1.out.trans (hx.pre (G.alloc (G.refl _) _))⟩
  · have e1 : s.hd us lo = s := by unfold St.hd; rw [if_neg hlo]
    have e2 : s.ng us lo = false := by unfold St.ng; simp [hlo]
    rw [e1, e2]
    have X1 := Lib.hid (NxM.stay h (G.refl _))
    obtain ⟨s1, hs1⟩ : ∃ s1, s = s1 := ⟨_, rfl⟩
    rw [hs1] at X1 ⊢
    clear e1 e2 h hs1 hK
    obtain ⟨t, ht⟩ : ∃ t, s1.pk us = t := ⟨_, rfl⟩
    obtain ⟨n, hn⟩ : ∃ n, nuN false t.n = n := ⟨_, rfl⟩
    have hw : t.n = n := hn
    by_cases hk : t.k = 2
    · have he : s1.e = 0 := by
        rcases Decidable.em (s1.e = 0) with h | h
        · exact h
        · rw [St.pk_bad h] at ht; subst ht; cases hk
      by_cases hs : t.s = 0
      · by_cases h1 : n < lo
        · rw [St.num_rng he (by rw [ht]; exact hk) (by rw [ht, hn]; omega)]
          clear he hn
          go_enter Tryz.func32, Tryz.ntmps32
          go_wp2_with fail
          go_at_call 27
          (with_reducible refine (PK.out _ _ X1.out.st).mono ?_)
          rw [ht]
          unfold tnV
          rintro e1 w2 ⟨rfl, hb2⟩
          replace X1 := Lib.hid (X1.out.grow hb2)
          clear hb2 PK
          go_wp2_with fail
          go_at_call 30
          (with_reducible refine (FL.out _ _ 2 (by decide) (X1.out.st.grow (G.alloc (G.refl _) _))).mono ?_)
          rintro e1 w4 ⟨rfl, hx⟩
          go_wp2_with fail
          go_ret
          exact ⟨rfl, X1.out.trans (hx.pre (G.alloc (G.refl _) _))⟩
        · by_cases h2 : hi < n
          · rw [St.num_rng he (by rw [ht]; exact hk) (by rw [ht, hn]; omega)]
            clear he hn
            go_enter Tryz.func32, Tryz.ntmps32
            go_wp2_with fail
            go_at_call 27
            (with_reducible refine (PK.out _ _ X1.out.st).mono ?_)
            rw [ht]
            unfold tnV
            rintro e1 w2 ⟨rfl, hb2⟩
            replace X1 := Lib.hid (X1.out.grow hb2)
            clear hb2 PK
            go_wp2_with fail
            go_at_call 30
            (with_reducible refine (FL.out _ _ 2 (by decide) (X1.out.st.grow (G.alloc (G.refl _) _))).mono ?_)
            rintro e1 w4 ⟨rfl, hx⟩
            go_wp2_with fail
            go_ret
            exact ⟨rfl, X1.out.trans (hx.pre (G.alloc (G.refl _) _))⟩
          · rw [St.num_ok he (by rw [ht]; exact hk) (by rw [ht]; exact hs) (by rw [ht, hn]; omega) (by rw [ht, hn]; omega), ht, hn]
            clear he hn
            go_enter Tryz.func32, Tryz.ntmps32
            go_wp2_with fail
            go_at_call 27
            (with_reducible refine (PK.out _ _ X1.out.st).mono ?_)
            rw [ht]
            unfold tnV
            rintro e1 w2 ⟨rfl, hb2⟩
            replace X1 := Lib.hid (X1.out.grow hb2)
            clear hb2 PK
            go_wp2_with fail
            go_at_call 28
            (with_reducible refine (NX.out _ _ (X1.out.st.grow (G.alloc (G.refl _) _))).mono ?_)
            unfold tnV
            rintro e1 w4 ⟨rfl, hx⟩
            go_wp2_with fail
            go_ret
            exact ⟨rfl, X1.out.trans (hx.pre (G.alloc (G.refl _) _))⟩
      · rw [St.num_rng he (by rw [ht]; exact hk) (by rw [ht]; exact .inl hs)]
        clear he hn
        go_enter Tryz.func32, Tryz.ntmps32
        go_wp2_with fail
        go_at_call 27
        (with_reducible refine (PK.out _ _ X1.out.st).mono ?_)
        rw [ht]
        unfold tnV
        rintro e1 w2 ⟨rfl, hb2⟩
        replace X1 := Lib.hid (X1.out.grow hb2)
        clear hb2 PK
        go_wp2_with fail
        go_at_call 30
        (with_reducible refine (FL.out _ _ 2 (by decide) (X1.out.st.grow (G.alloc (G.refl _) _))).mono ?_)
        rintro e1 w4 ⟨rfl, hx⟩
        go_wp2_with fail
        go_ret
        exact ⟨rfl, X1.out.trans (hx.pre (G.alloc (G.refl _) _))⟩
    · rw [St.num_syn (.inr (by rw [ht]; exact hk))]
      clear hn
      go_enter Tryz.func32, Tryz.ntmps32
      go_wp2_with fail
      go_at_call 27
      (with_reducible refine (PK.out _ _ X1.out.st).mono ?_)
      rw [ht]
      unfold tnV
      rintro e1 w2 ⟨rfl, hb2⟩
      replace X1 := Lib.hid (X1.out.grow hb2)
      clear hb2 PK
      go_wp2_with fail
      go_at_call 30
      (with_reducible refine (FL.out _ _ 13 (by decide) (X1.out.st.grow (G.alloc (G.refl _) _))).mono ?_)
      rintro e1 w4 ⟨rfl, hx⟩
      go_wp2_with fail
      go_ret
      exact ⟨rfl, X1.out.trans (hx.pre (G.alloc (G.refl _) _))⟩
end
end Go.Proofs.YtmchiibbodllaaaGreatDoor

namespace Go.Proofs.YtmchiibbodllaaaGreatDoor
set_option linter.unusedVariables false
set_option linter.unnecessarySimpa false
set_option linter.unusedSimpArgs false
open Go.RowKit

/-- The tokens of a text, and the stream's state at its head. -/
def usOf (l : List UInt8) : List Tn := match scanA l with
  | .ok ts => toks l ts
  | .bad _ _ => []
def st0 (l : List UInt8) : St := match scanA l with
  | .ok _ => ⟨0, 0, 0, 0⟩
  | .bad o x => ⟨0, (lnc l o).1, (lnc l o).2, x⟩
theorem st0_ok (l : List UInt8) : (st0 l).Ok (usOf l) := by
  unfold st0 usOf
  rcases h : scanA l with ts | ⟨o, x⟩
  · intro _
    show 0 < (toks l ts).length
    rw [toks_len]
    omega
  · exact fun e => absurd e (scanA_bad h)
theorem usOf_kinds (l : List UInt8) : Kinds (usOf l) := by
  unfold usOf
  rcases h : scanA l with ts | ⟨o, x⟩
  · exact kinds_toks (scanA_ok h).1
  · intro i t ht
    simp at ht
theorem st0_i (l : List UInt8) : (st0 l).i = 0 := by
  unfold st0
  rcases scanA l with ts | ⟨o, x⟩ <;> rfl
theorem own_blk2 {w : World} {base : Nat} {e : TypeId} {size n c k : Nat} {ad : Addr} {xs : List Value} (h : w.ownsRow base e size (.slice (some ad) n c) k xs) : base ≤ ad.block ∧ ad.block < w.heap.size := by
  rcases h.2 with ⟨h1, _⟩ | ⟨g, cap, cur, h1, hb, hh, _⟩
  · cases h1
  · cases h1
    exact ⟨hb, (Array.getElem?_eq_some_iff.1 hh).1⟩
/-- What Scan and the definition hand back. -/
theorem scan_two {w w' : World} {l : List UInt8} {e : Ending} (h : RetScan w l (scanA l) e w') : Below w.heap.size w w' ∧ ∃ A c, e = .returned (.tuple #[.slice A (usOf l).length c, .int .i64 (st0 l).ln, .int .i64 (st0 l).cl, .int .i64 (st0 l).e]) ∧
    TksW w' A (usOf l).length c (usOf l) ∧ ∀ ad, A = some ad → w.heap.size ≤ ad.block ∧ ad.block < w'.heap.size := by
  obtain ⟨hb, hm⟩ := h
  refine ⟨hb, ?_⟩
  unfold usOf st0
  rcases hs : scanA l with ts | ⟨o, x⟩
  · rw [hs] at hm
    obtain ⟨A, c, he, hown⟩ := hm
    dsimp only
    rw [toks_len]
    rw [rowC_rwT] at hown
    refine ⟨A, c, he, TksW.of_own hown, fun ad ha => ?_⟩
    subst ha
    exact own_blk2 hown
  · rw [hs] at hm
    exact ⟨none, 0, hm, ⟨rfl, Nat.le_refl _, Nat.zero_le _, Sl.nil _ _⟩, fun ad ha => by cases ha⟩
section
variable {w : World}
set_option maxRecDepth 20000 in set_option maxHeartbeats 1000000 in
theorem new_any (hE : Env w) (l : List UInt8) : Calls Tryz.prog 26 #[.string (B l)] w fun e w' => ∃ r A c, e = .returned (.pointer (some ⟨r, 0, none⟩)) ∧ Below w.heap.size w w' ∧ w.heap.size ≤ r ∧
    Bx w' r [.slice A (usOf l).length c, .int .i64 (st0 l).ln, .int .i64 (st0 l).cl, .int .i64 (st0 l).e] ∧ TksW w' A (usOf l).length c (usOf l) ∧ ∀ ad, A = some ad → w.heap.size ≤ ad.block ∧ ad.block < r := by
  have SC := Lib.hid (scan_any hE (B l))
  rw [B_list] at SC
  clear hE
  go_enter Tryz.func26, Tryz.ntmps26
  go_wp2_with fail
  go_at_call 12
  (with_reducible refine (SC.out.mono fun e w' h => scan_two h).mono ?_)
  rintro e1 w1 ⟨hb, A, c, rfl, hT, hA⟩
  obtain ⟨n, hn⟩ : ∃ n, (usOf l).length = n := ⟨_, rfl⟩
  obtain ⟨s, hs⟩ : ∃ s, st0 l = s := ⟨_, rfl⟩
  rw [hn, hs]
  have HN := Lib.hid hn
  have HS := Lib.hid hs
  have HT := Lib.hid hT
  clear hn hs hT SC
  go_wp2_with fail
  go_ret
  refine ⟨w1.heap.size, A, c, rfl, hb.alloc hb.size _, hb.size, ?_, ?_, hA⟩
  · rw [HN.out, HS.out]
    exact Bx.new rfl rfl
  · exact HT.out.grow (G.alloc (G.refl _) _)
end
end Go.Proofs.YtmchiibbodllaaaGreatDoor
