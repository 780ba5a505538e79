/- Lists of tokens in memory, lexer.Same, the law s same. -/
import Derived.Test.YtmchiibbodllaaaGreatDoorScK
import Derived.Test.YtmchiibbodllaaaGreatDoorPrM
import Derived.Test.YtmchiibbodllaaaGreatDoorTree
namespace Go.Proofs.YtmchiibbodllaaaGreatDoor
set_option linter.unusedVariables false
set_option linter.unnecessarySimpa false
set_option linter.unusedSimpArgs false
open Go.RowKit

theorem B_eq (a b : List UInt8) : ((B a).toList == (B b).toList) = decide (a = b) := by
  rw [ByteArray.toList_eq, ByteArray.toList_eq, B_list, B_list]
  by_cases h : a = b <;> simp [h]
theorem B_eq' (a b : List UInt8) : ((B a).toList = (B b).toList) = (a = b) := by
  rw [ByteArray.toList_eq, ByteArray.toList_eq, B_list, B_list]
def tnC (t : Tn) : List Value := tkC t.k t.ln t.cl (B t.tx) (B t.v) t.n t.s t.j
/-- A token without its place. -/
def Tn.bare (t : Tn) : Tn := ⟨t.k, 0, 0, t.tx, t.v, t.n, t.s, t.j⟩
theorem bare_full (a b : Tn) : a.bare.full = b.bare.full ↔ a.key = b.key := by
  unfold Tn.full Tn.bare Tn.key
  simp
abbrev tnL (k ln cl : Int) (a b : List UInt8) (n s : Int) (j : Bool) : Value := .agg #[.int .i64 k, .int .i64 ln, .int .i64 cl, .string (B a), .string (B b), .int .i64 n, .int .i64 s, .bool j]
set_option maxRecDepth 20000 in
theorem tok_eql (a b : Tn) (w : World) :
    (binOp .eql 33 (tnL a.k a.ln a.cl a.tx a.v a.n a.s a.j) (tnL b.k b.ln b.cl b.tx b.v b.n b.s b.j)).run Tryz.prog w = .ok (.bool (decide (a.full = b.full))) w := by
  obtain ⟨k, ln, cl, tx, v, n, s, j⟩ := a
  obtain ⟨k', ln', cl', tx', v', n', s', j'⟩ := b
  rw [run_eql_struct]
  go_simp
  simp only [B_eq', Tn.full, Tn.key, Prod.mk.injEq]
  repeat' split
  all_goals simp_all
set_option maxRecDepth 20000 in
theorem tok_neq (a b : Tn) (w : World) :
    (binOp .neq 33 (tnL a.k a.ln a.cl a.tx a.v a.n a.s a.j) (tnL b.k b.ln b.cl b.tx b.v b.n b.s b.j)).run Tryz.prog w = .ok (.bool (!decide (a.full = b.full))) w := by
  obtain ⟨k, ln, cl, tx, v, n, s, j⟩ := a
  obtain ⟨k', ln', cl', tx', v', n', s', j'⟩ := b
  rw [run_neq_struct]
  go_simp
  simp only [B_eq', Tn.full, Tn.key, Prod.mk.injEq]
  repeat' split
  all_goals simp_all
def rwT (ts : List Tn) : List Value := ts.flatMap tnC
theorem tnC_len (t : Tn) : (tnC t).length = 8 := rfl
theorem tnC_one (t : Tn) : ∀ u ∈ tnC t, u.oneCell' = true := tkC_one _ _ _ _ _ _ _ _
theorem rwT_len : ∀ ts : List Tn, (rwT ts).length = ts.length * 8
  | [] => rfl
  | t :: ts => by
    have := rwT_len ts
    unfold rwT at this ⊢
    rw [List.flatMap_cons, List.length_append, tnC_len, this, List.length_cons]
    omega
theorem rwT_app (a b : List Tn) : rwT (a ++ b) = rwT a ++ rwT b := by unfold rwT; rw [List.flatMap_append]
theorem rwT_one (ts : List Tn) : ∀ u ∈ rwT ts, u.oneCell' = true := by
  intro u hu
  unfold rwT at hu
  obtain ⟨t, _, ht⟩ := List.mem_flatMap.1 hu
  exact tnC_one t u ht
theorem rwT_get : ∀ (ts : List Tn) (j k : Nat) (t : Tn), ts[j]? = some t → k < 8 → (rwT ts)[j * 8 + k]? = (tnC t)[k]?
  | [], j, k, t, h, hk => by simp at h
  | x :: ts, 0, k, t, h, hk => by
    simp at h
    subst h
    unfold rwT
    rw [List.flatMap_cons, Nat.zero_mul, Nat.zero_add, List.getElem?_append_left (by rw [tnC_len]; exact hk)]
  | x :: ts, j + 1, k, t, h, hk => by
    have ih := rwT_get ts j k t (by simpa using h) hk
    unfold rwT at ih ⊢
    rw [List.flatMap_cons, List.getElem?_append_right (by rw [tnC_len]; omega), tnC_len, show (j + 1) * 8 + k - 8 = j * 8 + k by omega]
    exact ih
theorem rowC_rwT (l : List UInt8) (ts : List Pl) : rowC l ts ++ endC l = rwT (toks l ts) := by
  unfold rwT toks rowC
  rw [List.flatMap_append, List.flatMap_map]
  congr 1
/-- A slice of tokens. -/
def TksW (w : World) (A : Option Addr) (n c : Nat) (ts : List Tn) : Prop := ts.length = n ∧ n ≤ c ∧ c ≤ maxLen ∧ Sl w A (n * 8) (rwT ts)
theorem TksW.grow {w w' : World} {A : Option Addr} {n c : Nat} {ts : List Tn} (h : TksW w A n c ts) (hb : Below w.heap.size w w') : TksW w' A n c ts := ⟨h.1, h.2.1, h.2.2.1, h.2.2.2.grow hb⟩
theorem TksW.of_own {w : World} {base : Nat} {e : TypeId} {A : Option Addr} {n c : Nat} {ts : List Tn} (h : w.ownsRow base e 8 (.slice A n c) n (rwT ts)) : TksW w A n c ts := by
  have h1 := h.1
  rw [rwT_len] at h1
  obtain ⟨h2, h3⟩ := own_cap h
  exact ⟨by omega, h2, h3, Sl.of_own h⟩
theorem TksW.at_ {w : World} {A : Option Addr} {n c : Nat} {ts : List Tn} (h : TksW w A n c ts) {j : Nat} {t : Tn} (ht : ts[j]? = some t) : ∃ g off, A = some ⟨g, off, none⟩ ∧ g < w.heap.size ∧
    w.cell? ⟨g, off + j * 8, none⟩ = some (.int .i64 t.k) ∧ w.cell? ⟨g, off + j * 8 + 1, none⟩ = some (.int .i64 t.ln) ∧ w.cell? ⟨g, off + j * 8 + 2, none⟩ = some (.int .i64 t.cl) ∧ w.cell? ⟨g, off + j * 8 + 3, none⟩ = some (.string (B t.tx)) ∧
    w.cell? ⟨g, off + j * 8 + 4, none⟩ = some (.string (B t.v)) ∧ w.cell? ⟨g, off + j * 8 + 5, none⟩ = some (.int .i64 t.n) ∧ w.cell? ⟨g, off + j * 8 + 6, none⟩ = some (.int .i64 t.s) ∧ w.cell? ⟨g, off + j * 8 + 7, none⟩ = some (.bool t.j) := by
  obtain ⟨h1, h2, h3, h4⟩ := h
  have hj : j < n := by rw [← h1]; exact (List.getElem?_eq_some_iff.1 ht).1
  obtain ⟨g, off, e, hg, hc⟩ := h4.2 (by omega)
  have key : ∀ k u, k < 8 → (tnC t)[k]? = some u → w.cell? ⟨g, off + j * 8 + k, none⟩ = some u := by
    intro k u hk hu
    rw [Nat.add_assoc]
    exact hc _ _ (by rw [rwT_get ts j k t ht hk]; exact hu)
  exact ⟨g, off, e, hg, key 0 _ (by decide) rfl, key 1 _ (by decide) rfl, key 2 _ (by decide) rfl, key 3 _ (by decide) rfl, key 4 _ (by decide) rfl, key 5 _ (by decide) rfl, key 6 _ (by decide) rfl, key 7 _ (by decide) rfl⟩
theorem TksW.len {w : World} {A : Option Addr} {n c : Nat} {ts : List Tn} (h : TksW w A n c ts) : ts.length = n := h.1
/-- Equal, with or without the places. -/
def eqB (p : Bool) (a b : Tn) : Bool := if p = true then decide (a.full = b.full) else decide (a.key = b.key)
def sameB (p : Bool) : List Tn → List Tn → Bool
  | [], [] => true
  | a :: ar, b :: br => eqB p a b && sameB p ar br
  | _, _ => false
theorem sameB_key : ∀ (a b : List Tn), sameB false a b = true ↔ a.map Tn.key = b.map Tn.key
  | [], [] => by simp [sameB]
  | [], _ :: _ => by simp [sameB]
  | _ :: _, [] => by simp [sameB]
  | a :: ar, b :: br => by simp [sameB, eqB, sameB_key ar br]
theorem sameB_full : ∀ (a b : List Tn), sameB true a b = true ↔ a.map Tn.full = b.map Tn.full
  | [], [] => by simp [sameB]
  | [], _ :: _ => by simp [sameB]
  | _ :: _, [] => by simp [sameB]
  | a :: ar, b :: br => by simp [sameB, eqB, sameB_full ar br]
theorem sameB_ne {p : Bool} : ∀ {a b : List Tn}, a.length ≠ b.length → sameB p a b = false
  | [], [], h => absurd rfl h
  | [], _ :: _, _ => rfl
  | _ :: _, [], _ => rfl
  | a :: ar, b :: br, h => by
    have := sameB_ne (p := p) (a := ar) (b := br) (by simpa using h)
    simp [sameB, this]
theorem sameB_step {p : Bool} {a b : List Tn} {i : Nat} {x y : Tn} (hx : a[i]? = some x) (hy : b[i]? = some y) : sameB p (a.drop i) (b.drop i) = (eqB p x y && sameB p (a.drop (i + 1)) (b.drop (i + 1))) := by
  obtain ⟨h1, rfl⟩ := List.getElem?_eq_some_iff.1 hx
  obtain ⟨h2, rfl⟩ := List.getElem?_eq_some_iff.1 hy
  rw [List.drop_eq_getElem_cons h1, List.drop_eq_getElem_cons h2, sameB]
theorem sameB_end {p : Bool} {a b : List Tn} {n : Nat} (ha : a.length = n) (hb : b.length = n) : sameB p (a.drop n) (b.drop n) = true := by
  rw [List.drop_of_length_le (by omega), List.drop_of_length_le (by omega)]
  rfl
theorem sameB_self (p : Bool) : ∀ a : List Tn, sameB p a a = true
  | [] => rfl
  | a :: ar => by
    rw [sameB, sameB_self p ar]
    cases p <;> simp [eqB]
theorem Bx.fills {B : Nat} : ∀ (vs : List Value) (w : World) (pre l : List Value), Bx w B (pre ++ l) → l.length = vs.length → Bx (w.setCells B pre.length vs) B (pre ++ vs)
  | [], w, pre, l, h, e => by
    have : l = [] := List.eq_nil_of_length_eq_zero e
    subst this
    exact h
  | v :: vs, w, pre, [], h, e => by cases e
  | v :: vs, w, pre, x :: l, h, e => by
    have h1 : Bx (w.setCell ⟨B, pre.length, none⟩ v) B ((pre ++ [v]) ++ l) := Bx.put h (by simp [List.set_append])
    have h2 := Bx.fills vs _ (pre ++ [v]) l h1 (by simpa using e)
    simpa [World.setCells] using h2
/-- A store of all the cells of a block. -/
theorem Bx.fillT {B : Nat} {l : List Value} {w : World} (h : Bx w B l) (t : Tn) (e : l.length = 8) : Bx (w.setCells B 0 (tnC t)) B (tnC t) := Bx.fills (tnC t) w [] l h e
theorem Below.setCellsT {L B : Nat} {a : World} (hB : L ≤ B) : ∀ (vs : List Value) (o : Nat) (w : World), Below L a w → Below L a (w.setCells B o vs)
  | [], _, _, h => h
  | v :: vs, o, w, h => Below.setCellsT hB vs (o + 1) _ (h.setCell (p := ⟨B, o, none⟩) hB v)
theorem Bx.othersT {B X : Nat} (hB : X ≠ B) {l : List Value} : ∀ (vs : List Value) (o : Nat) (w : World), Bx w X l → Bx (w.setCells B o vs) X l
  | [], _, _, h => h
  | v :: vs, o, w, h => Bx.othersT hB vs (o + 1) _ (h.other (p := ⟨B, o, none⟩) hB v)
def zTk : Tn := ⟨0, 0, 0, [], [], 0, 0, false⟩
theorem Bx.tok {w : World} {g : Nat} {t : Tn} (h : Bx w g (tnC t)) : (w.cell? ⟨g, 0, none⟩ = some (.int .i64 t.k) ∧ w.cell? ⟨g, 1, none⟩ = some (.int .i64 t.ln) ∧ w.cell? ⟨g, 2, none⟩ = some (.int .i64 t.cl) ∧ w.cell? ⟨g, 3, none⟩ = some (.string (B t.tx)) ∧
    w.cell? ⟨g, 4, none⟩ = some (.string (B t.v)) ∧ w.cell? ⟨g, 5, none⟩ = some (.int .i64 t.n) ∧ w.cell? ⟨g, 6, none⟩ = some (.int .i64 t.s) ∧ w.cell? ⟨g, 7, none⟩ = some (.bool t.j)) ∧
    (w.frozen? ⟨g, 0, none⟩ = false ∧ w.frozen? ⟨g, 1, none⟩ = false ∧ w.frozen? ⟨g, 2, none⟩ = false ∧ w.frozen? ⟨g, 3, none⟩ = false ∧ w.frozen? ⟨g, 4, none⟩ = false ∧ w.frozen? ⟨g, 5, none⟩ = false ∧ w.frozen? ⟨g, 6, none⟩ = false ∧ w.frozen? ⟨g, 7, none⟩ = false) :=
  ⟨⟨(h.2 0 _ rfl).1, (h.2 1 _ rfl).1, (h.2 2 _ rfl).1, (h.2 3 _ rfl).1, (h.2 4 _ rfl).1, (h.2 5 _ rfl).1, (h.2 6 _ rfl).1, (h.2 7 _ rfl).1⟩, (h.2 0 _ rfl).2, (h.2 1 _ rfl).2, (h.2 2 _ rfl).2, (h.2 3 _ rfl).2, (h.2 4 _ rfl).2, (h.2 5 _ rfl).2, (h.2 6 _ rfl).2, (h.2 7 _ rfl).2⟩
section
variable {w : World}
set_option maxRecDepth 20000 in set_option maxHeartbeats 2000000 in
theorem clo_same (a b : Tn) : Calls Tryz.prog 66 #[tnL a.k a.ln a.cl a.tx a.v a.n a.s a.j, tnL b.k b.ln b.cl b.tx b.v b.n b.s b.j] w fun e w' => e = .returned (.bool (decide (a.key = b.key))) ∧ Below w.heap.size w w' := by
  have TE := tok_eql a.bare b.bare
  simp only [bare_full] at TE
  unfold Tn.bare at TE
  obtain ⟨v, hv⟩ : ∃ v, decide (a.key = b.key) = v := ⟨_, rfl⟩
  rw [hv]
  simp only [hv] at TE
  clear hv
  go_enter Tryz.func66, Tryz.ntmps66
  go_wp2_with fail
  go_ret
  exact ⟨rfl, G.alloc (G.alloc (G.refl w) _) _⟩
theorem take_cut (s : ByteArray) (n k : Nat) (hk : k = min s.size n) : s.extract 0 k = B (s.data.toList.take n) := by
  have := ext_take s 0 k
  rw [Nat.zero_add, List.drop_zero] at this
  rw [this, hk]
  congr 1
  rw [show s.size = s.data.toList.length from rfl]
  rcases Nat.le_total s.data.toList.length n with h | h
  · rw [Nat.min_eq_left h, List.take_length, List.take_of_length_le h]
  · rw [Nat.min_eq_right h]
set_option maxRecDepth 20000 in set_option maxHeartbeats 400000 in
theorem cut_any1 (s : ByteArray) : Calls Tryz.prog 11 #[.string s] w fun e w' => e = .returned (.string (B (s.data.toList.take 1500))) ∧ w' = w := by
  obtain ⟨k, hk⟩ : ∃ k, k = min s.size 1500 := ⟨_, rfl⟩
  have hc := take_cut s 1500 k hk
  have hm : min (s.size : Int) 1500 = (k : Int) := by omega
  have h1 : (0 : Int) ≤ (k : Int) := by omega
  have h2 : (k : Int) ≤ (s.size : Int) := by omega
  have hk' : k ≤ s.size := by omega
  clear hk
  go_enter Tryz.func11, Tryz.ntmps11
  go_wp2_with fail
  go_ret
  exact ⟨rfl, rfl⟩
theorem enSame : Enters Tryz.prog 66 := enters_of Tryz.func66 (by kernel_rfl) rfl
end
end Go.Proofs.YtmchiibbodllaaaGreatDoor

namespace Go.Proofs.YtmchiibbodllaaaGreatDoor
set_option linter.unusedVariables false
set_option linter.unnecessarySimpa false
set_option linter.unusedSimpArgs false
open Go.RowKit

theorem name_k {K : Act → World → Prop} {a : Act} {W : World} (D : World → Prop) (h1 : D W) (h2 : ∀ wx, D wx → K a wx) : K a W := h2 W h1
theorem name_tok {K : Act → World → Prop} {a : Act} {W : World} {t : TypeId} (h : ∀ wX, Below W.heap.size W wX → Bx wX W.heap.size (tnC zTk) → W.heap.size + 1 ≤ wX.heap.size → K a wX) :
    K a (W.alloc (.cells #[.int .i64 0, .int .i64 0, .int .i64 0, .string ⟨#[]⟩, .string ⟨#[]⟩, .int .i64 0, .int .i64 0, .bool false] t)) :=
  h _ (G.alloc (G.refl W) _) (Bx.new rfl rfl) (by simp)
section
variable {w : World} {A A' : Option Addr} {n c m d : Nat} {ar br : List Tn}
set_option maxRecDepth 20000 in set_option maxHeartbeats 4000000 in
theorem eqf_any (hA : TksW w A n c ar) (hB : TksW w A' m d br) (hn : n ≤ 100000) (hm : m ≤ 100000) :
    Calls Tryz.prog 65 #[.slice A n c, .slice A' m d, .func (.func 66) #[] #[]] w fun e w' => e = .returned (.bool (sameB false ar br)) ∧ Below w.heap.size w w' := by
  have HA := Lib.hid hA
  have HB := Lib.hid hB
  have lA := hA.len
  have lB := hB.len
  clear hA hB
  have CL := enSame
  unfold Enters at CL
  by_cases hnm : n = m
  · subst hnm
    go_enter Tryz.func65, Tryz.ntmps65
    go_wp2_with fail
    have HG := Lib.hid (G.refl w)
    have HS := Lib.hid (rfl : sameB false ar br = sameB false (ar.drop 0) (br.drop 0))
    go_loopw [17] (fun iv wx => ∃ i : Nat, i ≤ n ∧ iv = .int .i64 (i : Int) ∧ Hid (sameB false ar br = sameB false (ar.drop i) (br.drop i)) ∧ Hid (Below w.heap.size w wx)) (fun iv _ => n - (intOf iv).toNat)
    case atStart => exact ⟨0, Nat.zero_le _, rfl, HS, HG⟩
    case round =>
      clear HG HS
      obtain ⟨i, hi, rfl, HS, HG⟩ := hrel
      by_cases hlt : i < n
      · have hlt' : (i : Int) < (n : Int) := by omega
        have hw2 : IntKind.i64.wrap ((i : Int) + 1) = ((i + 1 : Nat) : Int) := by rw [IntWalk.i64_in _ (by omega)]; omega
        obtain ⟨x, hx⟩ : ∃ x, ar[i]? = some x := ⟨_, List.getElem?_eq_getElem (by omega)⟩
        obtain ⟨y, hy⟩ : ∃ y, br[i]? = some y := ⟨_, List.getElem?_eq_getElem (by omega)⟩
        have hst := sameB_step (p := false) hx hy
        obtain ⟨g, off, rfl, hg, p0, p1, p2, p3, p4, p5, p6, p7⟩ := (HA.out.grow HG.out).at_ hx
        obtain ⟨g', off', rfl, hg', q0, q1, q2, q3, q4, q5, q6, q7⟩ := (HB.out.grow HG.out).at_ hy
        have K0 := Lib.hid (fun w => clo_same (w := w) x y)
        replace hst := Lib.hid hst
        clear hx hy
        go_wp2_with fail
        go_at_fn 66
        (with_reducible refine (K0.out _).mono ?_)
        rintro e1 wn ⟨rfl, hb⟩
        have hbw : Hid (Below w.heap.size w wn) := G.trans (G.alloc (G.alloc HG.out _) _) hb
        clear hb K0
        rcases hv : decide (x.key = y.key) with _ | _
        · have hR : Hid (sameB false ar br = false) := by
            unfold Hid
            rw [HS.out, hst.out]
            unfold eqB
            rw [if_neg (by simp), hv]
            rfl
          clear hv
          go_wp2_with fail
          go_ret
          rw [hR.out]
          exact ⟨rfl, hbw⟩
        · have hR : Hid (sameB false ar br = sameB false (ar.drop (i + 1)) (br.drop (i + 1))) := by
            unfold Hid
            rw [HS.out, hst.out]
            unfold eqB
            rw [if_neg (by simp), hv]
            rfl
          clear hv
          go_wp2_with fail
          go_roundw
          case rel => exact ⟨i + 1, by omega, by go_num, hR, hbw⟩
          case measure => simp [intOf]; omega
      · obtain rfl : i = n := by omega
        have hR : Hid (sameB false ar br = true) := by
          unfold Hid
          rw [HS.out, sameB_end lA lB]
        go_wp2_with fail
        go_ret
        rw [hR.out]
        exact ⟨rfl, HG.out⟩
  · have hR : Hid (sameB false ar br = false) := sameB_ne (by omega)
    have k1 : ((n : Int) != (m : Int)) = true := by simp; omega
    have k2 : ¬ (n : Int) = (m : Int) := by omega
    go_enter Tryz.func65, Tryz.ntmps65
    go_wp2_with fail
    go_ret
    rw [hR.out]
    exact ⟨rfl, G.refl w⟩
set_option maxRecDepth 20000 in set_option maxHeartbeats 400000 in
theorem same_prog (hA : TksW w A n c ar) (hB : TksW w A' m d br) (hn : n ≤ 100000) (hm : m ≤ 100000) :
    Calls Tryz.prog 39 #[.slice A n c, .slice A' m d] w fun e w' => e = .returned (.bool (sameB false ar br)) ∧ Below w.heap.size w w' := by
  have K0 := Lib.hid (eqf_any hA hB hn hm)
  clear hA hB
  go_enter Tryz.func39, Tryz.ntmps39
  go_wp2_with fail
  go_at_call 65
  (with_reducible refine K0.out.mono ?_)
  rintro e1 wn ⟨rfl, hb⟩
  go_wp2_with fail
  go_ret
  exact ⟨rfl, hb⟩
end
end Go.Proofs.YtmchiibbodllaaaGreatDoor

namespace Go.Proofs.YtmchiibbodllaaaGreatDoor
set_option linter.unusedVariables false
set_option linter.unnecessarySimpa false
set_option linter.unusedSimpArgs false
open Go.RowKit

theorem below_grew {w w' : World} (h : Below w.heap.size w w') : Grew w w' := h
theorem grew_k {K : Act → World → Prop} {a : Act} {w W : World} (h : Grew w W) (k : Grew w W → K a W) : K a W := k h
section
variable {w : World} {A A' : Option Addr} {n c m d : Nat} {ar br : List Tn}
set_option maxRecDepth 20000 in set_option maxHeartbeats 4000000 in
theorem same_true (hA : TksW w A n c ar) (hB : TksW w A' m d br) (hn : n ≤ 100000) (hm : m ≤ 100000) :
    Calls Tryz.prog 15 #[.slice A n c, .slice A' m d, .bool true] w fun e w' => e = .returned (.bool (sameB true ar br)) ∧ Below w.heap.size w w' := by
  have HA := Lib.hid hA
  have HB := Lib.hid hB
  have lA := hA.len
  have lB := hB.len
  clear hA hB
  by_cases hnm : n = m
  · subst hnm
    go_enter Tryz.func15, Tryz.ntmps15
    go_wp2_with fail
    have HG := Lib.hid (G.refl w)
    have HS := Lib.hid (rfl : sameB true ar br = sameB true (ar.drop 0) (br.drop 0))
    go_loopw [7] (fun iv wx => ∃ i : Nat, i ≤ n ∧ iv = .int .i64 (i : Int) ∧ Hid (sameB true ar br = sameB true (ar.drop i) (br.drop i)) ∧ Hid (Below w.heap.size w wx)) (fun iv _ => n - (intOf iv).toNat)
    case atStart => exact ⟨0, Nat.zero_le _, rfl, HS, HG⟩
    case round =>
      clear HG HS
      obtain ⟨i, hi, rfl, HS, HG⟩ := hrel
      by_cases hlt : i < n
      · have hlt' : (i : Int) < (n : Int) := by omega
        have hw2 : IntKind.i64.wrap ((i : Int) + 1) = ((i + 1 : Nat) : Int) := by rw [IntWalk.i64_in _ (by omega)]; omega
        obtain ⟨x, hx⟩ : ∃ x, ar[i]? = some x := ⟨_, List.getElem?_eq_getElem (by omega)⟩
        obtain ⟨y, hy⟩ : ∃ y, br[i]? = some y := ⟨_, List.getElem?_eq_getElem (by omega)⟩
        have hst := sameB_step (p := true) hx hy
        obtain ⟨g, off, rfl, hg, p0, p1, p2, p3, p4, p5, p6, p7⟩ := (HA.out.grow HG.out).at_ hx
        obtain ⟨g', off', rfl, hg', q0, q1, q2, q3, q4, q5, q6, q7⟩ := (HB.out.grow HG.out).at_ hy
        replace hst := Lib.hid hst
        clear hx hy
        have TN := tok_neq x y
        obtain ⟨v, hv⟩ : ∃ v, decide (x.full = y.full) = v := ⟨_, rfl⟩
        simp only [hv] at TN
        rcases v with _ | _
        · have hR : Hid (sameB true ar br = false) := by
            unfold Hid
            rw [HS.out, hst.out]
            unfold eqB
            rw [if_pos rfl, hv]
            rfl
          clear hv
          rw [Bool.not_false] at TN
          go_wp2_with fail
          refine wp_region_tree (.quiet 0 1 (.quiet 1 1 (.quiet 2 1 (.quiet 3 1 (.quiet 4 1 (.quiet 5 1 (.quiet 6 1 (.quiet 7 1 (.run 8 2 (.run 9 2 (.run 10 2 (.run 11 2 .nil .stop) .stop) .stop) (.run 9 2 (.run 8 2 (.run 10 2 (.run 11 2 .nil .stop) .stop) .stop) .stop)))))))))) [] 5 (by kernel_rfl) (by decide +kernel) ?_
          simp only [pickT, List.getElem?_cons_succ, List.getElem?_cons_zero]
          intro w0 hG
          have hG0 := hG.b
          have szG := hG0.size
          (try simp at szG)
          (repeat ((first | (with_reducible refine tree_q1 ?_) | (with_reducible refine tree_q0 ?_)); intro K hK; first | (refine Or.inr ⟨?_, ?_⟩; (focus (go_simp; first | done | (simp [undef]; done))); go_simp; (with_reducible refine hK _ ?_); clear hK K) | (refine Or.inl ⟨?_, ?_⟩; (focus (go_simp; done)); apply Exists.intro; refine And.intro ?_ ?_; (focus (first | (intro wq hq; obtain ⟨hcq, hfq⟩ := G.old hq; go_simp; (first | done | exact rfl); done) | (intro wq; go_simp; (first | done | exact rfl); done))); go_simp; (with_reducible refine hK _ ?_); clear hK K) | fail))
          (with_reducible refine tree_run hG ?_ ?_)
          · intro K hK
            go_simp
            replace hG := Grew.alloc hG (.cells #[.int .i64 0, .int .i64 0, .int .i64 0, .string ⟨#[]⟩, .string ⟨#[]⟩, .int .i64 0, .int .i64 0, .bool false] 33)
            (with_reducible refine hK _ _ hG ?_)
            clear hK K
            (with_reducible refine tree_run hG ?_ ?_)
            · intro K hK
              go_simp
              replace hG := Grew.alloc hG (.cells #[.int .i64 0, .int .i64 0, .int .i64 0, .string ⟨#[]⟩, .string ⟨#[]⟩, .int .i64 0, .int .i64 0, .bool false] 33)
              (with_reducible refine hK _ _ hG ?_)
              clear hK K
              (with_reducible refine tree_run hG ?_ ?_)
              · intro K hK
                go_simp
                clear hG
                (with_reducible refine grew_k (w := wr) (Grew.alloc (Grew.alloc (below_grew hG0) _) _) ?_)
                intro hG
                (with_reducible refine hK _ _ hG ?_)
                clear hK K
                (with_reducible refine tree_run hG ?_ ?_)
                · intro K hK
                  go_simp
                  clear hG
                  (with_reducible refine grew_k (w := wr) (Grew.alloc (Grew.alloc (below_grew hG0) _) _) ?_)
                  intro hG
                  (with_reducible refine hK _ _ hG ?_)
                  clear hK K
                  (with_reducible refine tree_nil ?_)
                  go_wp2_with fail
                  go_ret
                  rw [hR.out]
                  exact ⟨rfl, G.trans HG.out (G.alloc (G.alloc (show Below wr.heap.size wr w0 from hG0) _) _)⟩
                exact tree_stop
              exact tree_stop
            exact tree_stop
          (with_reducible refine tree_run hG ?_ ?_)
          · intro K hK
            go_simp
            replace hG := Grew.alloc hG (.cells #[.int .i64 0, .int .i64 0, .int .i64 0, .string ⟨#[]⟩, .string ⟨#[]⟩, .int .i64 0, .int .i64 0, .bool false] 33)
            (with_reducible refine hK _ _ hG ?_)
            clear hK K
            (with_reducible refine tree_run hG ?_ ?_)
            · intro K hK
              go_simp
              replace hG := Grew.alloc hG (.cells #[.int .i64 0, .int .i64 0, .int .i64 0, .string ⟨#[]⟩, .string ⟨#[]⟩, .int .i64 0, .int .i64 0, .bool false] 33)
              (with_reducible refine hK _ _ hG ?_)
              clear hK K
              (with_reducible refine tree_run hG ?_ ?_)
              · intro K hK
                go_simp
                clear hG
                (with_reducible refine grew_k (w := wr) (Grew.alloc (Grew.alloc (below_grew hG0) _) _) ?_)
                intro hG
                (with_reducible refine hK _ _ hG ?_)
                clear hK K
                (with_reducible refine tree_run hG ?_ ?_)
                · intro K hK
                  go_simp
                  clear hG
                  (with_reducible refine grew_k (w := wr) (Grew.alloc (Grew.alloc (below_grew hG0) _) _) ?_)
                  intro hG
                  (with_reducible refine hK _ _ hG ?_)
                  clear hK K
                  (with_reducible refine tree_nil ?_)
                  go_wp2_with fail
                  go_ret
                  rw [hR.out]
                  exact ⟨rfl, G.trans HG.out (G.alloc (G.alloc (show Below wr.heap.size wr w0 from hG0) _) _)⟩
                exact tree_stop
              exact tree_stop
            exact tree_stop
          exact tree_stop
        · have hR : Hid (sameB true ar br = sameB true (ar.drop (i + 1)) (br.drop (i + 1))) := by
            unfold Hid
            rw [HS.out, hst.out]
            unfold eqB
            rw [if_pos rfl, hv]
            rfl
          clear hv
          rw [Bool.not_true] at TN
          go_wp2_with fail
          refine wp_region_tree (.quiet 0 1 (.quiet 1 1 (.quiet 2 1 (.quiet 3 1 (.quiet 4 1 (.quiet 5 1 (.quiet 6 1 (.quiet 7 1 (.run 8 2 (.run 9 2 (.run 10 2 (.run 11 2 .nil .stop) .stop) .stop) (.run 9 2 (.run 8 2 (.run 10 2 (.run 11 2 .nil .stop) .stop) .stop) .stop)))))))))) [] 5 (by kernel_rfl) (by decide +kernel) ?_
          simp only [pickT, List.getElem?_cons_succ, List.getElem?_cons_zero]
          intro w0 hG
          have hG0 := hG.b
          have szG := hG0.size
          (try simp at szG)
          (repeat ((first | (with_reducible refine tree_q1 ?_) | (with_reducible refine tree_q0 ?_)); intro K hK; first | (refine Or.inr ⟨?_, ?_⟩; (focus (go_simp; first | done | (simp [undef]; done))); go_simp; (with_reducible refine hK _ ?_); clear hK K) | (refine Or.inl ⟨?_, ?_⟩; (focus (go_simp; done)); apply Exists.intro; refine And.intro ?_ ?_; (focus (first | (intro wq hq; obtain ⟨hcq, hfq⟩ := G.old hq; go_simp; (first | done | exact rfl); done) | (intro wq; go_simp; (first | done | exact rfl); done))); go_simp; (with_reducible refine hK _ ?_); clear hK K) | fail))
          (with_reducible refine tree_run hG ?_ ?_)
          · intro K hK
            go_simp
            replace hG := Grew.alloc hG (.cells #[.int .i64 0, .int .i64 0, .int .i64 0, .string ⟨#[]⟩, .string ⟨#[]⟩, .int .i64 0, .int .i64 0, .bool false] 33)
            (with_reducible refine hK _ _ hG ?_)
            clear hK K
            (with_reducible refine tree_run hG ?_ ?_)
            · intro K hK
              go_simp
              replace hG := Grew.alloc hG (.cells #[.int .i64 0, .int .i64 0, .int .i64 0, .string ⟨#[]⟩, .string ⟨#[]⟩, .int .i64 0, .int .i64 0, .bool false] 33)
              (with_reducible refine hK _ _ hG ?_)
              clear hK K
              (with_reducible refine tree_run hG ?_ ?_)
              · intro K hK
                go_simp
                clear hG
                (with_reducible refine grew_k (w := wr) (Grew.alloc (Grew.alloc (below_grew hG0) _) _) ?_)
                intro hG
                (with_reducible refine hK _ _ hG ?_)
                clear hK K
                (with_reducible refine tree_run hG ?_ ?_)
                · intro K hK
                  go_simp
                  clear hG
                  (with_reducible refine grew_k (w := wr) (Grew.alloc (Grew.alloc (below_grew hG0) _) _) ?_)
                  intro hG
                  (with_reducible refine hK _ _ hG ?_)
                  clear hK K
                  (with_reducible refine tree_nil ?_)
                  go_wp2_with fail
                  go_roundw
                  case rel => exact ⟨i + 1, by omega, by go_num, hR, G.trans HG.out (G.alloc (G.alloc (show Below wr.heap.size wr w0 from hG0) _) _)⟩
                  case measure => simp [intOf]; omega
                exact tree_stop
              exact tree_stop
            exact tree_stop
          (with_reducible refine tree_run hG ?_ ?_)
          · intro K hK
            go_simp
            replace hG := Grew.alloc hG (.cells #[.int .i64 0, .int .i64 0, .int .i64 0, .string ⟨#[]⟩, .string ⟨#[]⟩, .int .i64 0, .int .i64 0, .bool false] 33)
            (with_reducible refine hK _ _ hG ?_)
            clear hK K
            (with_reducible refine tree_run hG ?_ ?_)
            · intro K hK
              go_simp
              replace hG := Grew.alloc hG (.cells #[.int .i64 0, .int .i64 0, .int .i64 0, .string ⟨#[]⟩, .string ⟨#[]⟩, .int .i64 0, .int .i64 0, .bool false] 33)
              (with_reducible refine hK _ _ hG ?_)
              clear hK K
              (with_reducible refine tree_run hG ?_ ?_)
              · intro K hK
                go_simp
                clear hG
                (with_reducible refine grew_k (w := wr) (Grew.alloc (Grew.alloc (below_grew hG0) _) _) ?_)
                intro hG
                (with_reducible refine hK _ _ hG ?_)
                clear hK K
                (with_reducible refine tree_run hG ?_ ?_)
                · intro K hK
                  go_simp
                  clear hG
                  (with_reducible refine grew_k (w := wr) (Grew.alloc (Grew.alloc (below_grew hG0) _) _) ?_)
                  intro hG
                  (with_reducible refine hK _ _ hG ?_)
                  clear hK K
                  (with_reducible refine tree_nil ?_)
                  go_wp2_with fail
                  go_roundw
                  case rel => exact ⟨i + 1, by omega, by go_num, hR, G.trans HG.out (G.alloc (G.alloc (show Below wr.heap.size wr w0 from hG0) _) _)⟩
                  case measure => simp [intOf]; omega
                exact tree_stop
              exact tree_stop
            exact tree_stop
          exact tree_stop
      · obtain rfl : i = n := by omega
        have hR : Hid (sameB true ar br = true) := by
          unfold Hid
          rw [HS.out, sameB_end lA lB]
        go_wp2_with fail
        go_ret
        rw [hR.out]
        exact ⟨rfl, HG.out⟩
  · have hR : Hid (sameB true ar br = false) := sameB_ne (by omega)
    have k1 : ((n : Int) != (m : Int)) = true := by simp; omega
    have k2 : ¬ (n : Int) = (m : Int) := by omega
    go_enter Tryz.func15, Tryz.ntmps15
    go_wp2_with fail
    go_ret
    rw [hR.out]
    exact ⟨rfl, G.refl w⟩
set_option maxRecDepth 20000 in set_option maxHeartbeats 4000000 in
theorem same_false (hA : TksW w A n c ar) (hB : TksW w A' m d br) (hn : n ≤ 100000) (hm : m ≤ 100000) :
    Calls Tryz.prog 15 #[.slice A n c, .slice A' m d, .bool false] w fun e w' => e = .returned (.bool (sameB false ar br)) ∧ Below w.heap.size w w' := by
  have HA := Lib.hid hA
  have HB := Lib.hid hB
  have lA := hA.len
  have lB := hB.len
  clear hA hB
  by_cases hnm : n = m
  · subst hnm
    go_enter Tryz.func15, Tryz.ntmps15
    go_wp2_with fail
    have HG := Lib.hid (G.refl w)
    have HS := Lib.hid (rfl : sameB false ar br = sameB false (ar.drop 0) (br.drop 0))
    go_loopw [7] (fun iv wx => ∃ i : Nat, i ≤ n ∧ iv = .int .i64 (i : Int) ∧ Hid (sameB false ar br = sameB false (ar.drop i) (br.drop i)) ∧ Hid (Below w.heap.size w wx)) (fun iv _ => n - (intOf iv).toNat)
    case atStart => exact ⟨0, Nat.zero_le _, rfl, HS, HG⟩
    case round =>
      clear HG HS
      obtain ⟨i, hi, rfl, HS, HG⟩ := hrel
      by_cases hlt : i < n
      · have hlt' : (i : Int) < (n : Int) := by omega
        have hw2 : IntKind.i64.wrap ((i : Int) + 1) = ((i + 1 : Nat) : Int) := by rw [IntWalk.i64_in _ (by omega)]; omega
        obtain ⟨x, hx⟩ : ∃ x, ar[i]? = some x := ⟨_, List.getElem?_eq_getElem (by omega)⟩
        obtain ⟨y, hy⟩ : ∃ y, br[i]? = some y := ⟨_, List.getElem?_eq_getElem (by omega)⟩
        have hst := sameB_step (p := false) hx hy
        obtain ⟨g, off, rfl, hg, p0, p1, p2, p3, p4, p5, p6, p7⟩ := (HA.out.grow HG.out).at_ hx
        obtain ⟨g', off', rfl, hg', q0, q1, q2, q3, q4, q5, q6, q7⟩ := (HB.out.grow HG.out).at_ hy
        replace hst := Lib.hid hst
        clear hx hy
        have TN := tok_neq x.bare y.bare
        simp only [bare_full] at TN
        unfold Tn.bare at TN
        obtain ⟨v, hv⟩ : ∃ v, decide (x.key = y.key) = v := ⟨_, rfl⟩
        simp only [hv] at TN
        rcases v with _ | _
        · have hR : Hid (sameB false ar br = false) := by
            unfold Hid
            rw [HS.out, hst.out]
            unfold eqB
            rw [if_neg (by simp), hv]
            rfl
          clear hv
          rw [Bool.not_false] at TN
          go_wp2_with fail
          refine wp_region_tree (.quiet 0 1 (.quiet 1 1 (.quiet 2 1 (.quiet 3 1 (.quiet 4 1 (.quiet 5 1 (.quiet 6 1 (.quiet 7 1 (.run 8 2 (.run 9 2 (.run 10 2 (.run 11 2 .nil .stop) .stop) .stop) (.run 9 2 (.run 8 2 (.run 10 2 (.run 11 2 .nil .stop) .stop) .stop) .stop)))))))))) [] 5 (by kernel_rfl) (by decide +kernel) ?_
          simp only [pickT, List.getElem?_cons_succ, List.getElem?_cons_zero]
          intro w0 hG
          have hG0 := hG.b
          have szG := hG0.size
          (try simp at szG)
          (repeat ((first | (with_reducible refine tree_q1 ?_) | (with_reducible refine tree_q0 ?_)); intro K hK; first | (refine Or.inr ⟨?_, ?_⟩; (focus (go_simp; first | done | (simp [undef]; done))); go_simp; (with_reducible refine hK _ ?_); clear hK K) | (refine Or.inl ⟨?_, ?_⟩; (focus (go_simp; done)); apply Exists.intro; refine And.intro ?_ ?_; (focus (first | (intro wq hq; obtain ⟨hcq, hfq⟩ := G.old hq; go_simp; (first | done | exact rfl); done) | (intro wq; go_simp; (first | done | exact rfl); done))); go_simp; (with_reducible refine hK _ ?_); clear hK K) | fail))
          (with_reducible refine tree_run hG ?_ ?_)
          · intro K hK
            go_simp
            replace hG := Grew.alloc hG (.cells #[.int .i64 0, .int .i64 0, .int .i64 0, .string ⟨#[]⟩, .string ⟨#[]⟩, .int .i64 0, .int .i64 0, .bool false] 33)
            (with_reducible refine hK _ _ hG ?_)
            clear hK K
            (with_reducible refine tree_run hG ?_ ?_)
            · intro K hK
              go_simp
              replace hG := Grew.alloc hG (.cells #[.int .i64 0, .int .i64 0, .int .i64 0, .string ⟨#[]⟩, .string ⟨#[]⟩, .int .i64 0, .int .i64 0, .bool false] 33)
              (with_reducible refine hK _ _ hG ?_)
              clear hK K
              (with_reducible refine tree_run hG ?_ ?_)
              · intro K hK
                go_simp
                clear hG
                (with_reducible refine grew_k (w := wr) (Grew.alloc (Grew.alloc (below_grew hG0) _) _) ?_)
                intro hG
                (with_reducible refine hK _ _ hG ?_)
                clear hK K
                (with_reducible refine tree_run hG ?_ ?_)
                · intro K hK
                  go_simp
                  clear hG
                  (with_reducible refine grew_k (w := wr) (Grew.alloc (Grew.alloc (below_grew hG0) _) _) ?_)
                  intro hG
                  (with_reducible refine hK _ _ hG ?_)
                  clear hK K
                  (with_reducible refine tree_nil ?_)
                  go_wp2_with fail
                  go_ret
                  rw [hR.out]
                  exact ⟨rfl, G.trans HG.out (G.alloc (G.alloc (show Below wr.heap.size wr w0 from hG0) _) _)⟩
                exact tree_stop
              exact tree_stop
            exact tree_stop
          (with_reducible refine tree_run hG ?_ ?_)
          · intro K hK
            go_simp
            replace hG := Grew.alloc hG (.cells #[.int .i64 0, .int .i64 0, .int .i64 0, .string ⟨#[]⟩, .string ⟨#[]⟩, .int .i64 0, .int .i64 0, .bool false] 33)
            (with_reducible refine hK _ _ hG ?_)
            clear hK K
            (with_reducible refine tree_run hG ?_ ?_)
            · intro K hK
              go_simp
              replace hG := Grew.alloc hG (.cells #[.int .i64 0, .int .i64 0, .int .i64 0, .string ⟨#[]⟩, .string ⟨#[]⟩, .int .i64 0, .int .i64 0, .bool false] 33)
              (with_reducible refine hK _ _ hG ?_)
              clear hK K
              (with_reducible refine tree_run hG ?_ ?_)
              · intro K hK
                go_simp
                clear hG
                (with_reducible refine grew_k (w := wr) (Grew.alloc (Grew.alloc (below_grew hG0) _) _) ?_)
                intro hG
                (with_reducible refine hK _ _ hG ?_)
                clear hK K
                (with_reducible refine tree_run hG ?_ ?_)
                · intro K hK
                  go_simp
                  clear hG
                  (with_reducible refine grew_k (w := wr) (Grew.alloc (Grew.alloc (below_grew hG0) _) _) ?_)
                  intro hG
                  (with_reducible refine hK _ _ hG ?_)
                  clear hK K
                  (with_reducible refine tree_nil ?_)
                  go_wp2_with fail
                  go_ret
                  rw [hR.out]
                  exact ⟨rfl, G.trans HG.out (G.alloc (G.alloc (show Below wr.heap.size wr w0 from hG0) _) _)⟩
                exact tree_stop
              exact tree_stop
            exact tree_stop
          exact tree_stop
        · have hR : Hid (sameB false ar br = sameB false (ar.drop (i + 1)) (br.drop (i + 1))) := by
            unfold Hid
            rw [HS.out, hst.out]
            unfold eqB
            rw [if_neg (by simp), hv]
            rfl
          clear hv
          rw [Bool.not_true] at TN
          go_wp2_with fail
          refine wp_region_tree (.quiet 0 1 (.quiet 1 1 (.quiet 2 1 (.quiet 3 1 (.quiet 4 1 (.quiet 5 1 (.quiet 6 1 (.quiet 7 1 (.run 8 2 (.run 9 2 (.run 10 2 (.run 11 2 .nil .stop) .stop) .stop) (.run 9 2 (.run 8 2 (.run 10 2 (.run 11 2 .nil .stop) .stop) .stop) .stop)))))))))) [] 5 (by kernel_rfl) (by decide +kernel) ?_
          simp only [pickT, List.getElem?_cons_succ, List.getElem?_cons_zero]
          intro w0 hG
          have hG0 := hG.b
          have szG := hG0.size
          (try simp at szG)
          (repeat ((first | (with_reducible refine tree_q1 ?_) | (with_reducible refine tree_q0 ?_)); intro K hK; first | (refine Or.inr ⟨?_, ?_⟩; (focus (go_simp; first | done | (simp [undef]; done))); go_simp; (with_reducible refine hK _ ?_); clear hK K) | (refine Or.inl ⟨?_, ?_⟩; (focus (go_simp; done)); apply Exists.intro; refine And.intro ?_ ?_; (focus (first | (intro wq hq; obtain ⟨hcq, hfq⟩ := G.old hq; go_simp; (first | done | exact rfl); done) | (intro wq; go_simp; (first | done | exact rfl); done))); go_simp; (with_reducible refine hK _ ?_); clear hK K) | fail))
          (with_reducible refine tree_run hG ?_ ?_)
          · intro K hK
            go_simp
            replace hG := Grew.alloc hG (.cells #[.int .i64 0, .int .i64 0, .int .i64 0, .string ⟨#[]⟩, .string ⟨#[]⟩, .int .i64 0, .int .i64 0, .bool false] 33)
            (with_reducible refine hK _ _ hG ?_)
            clear hK K
            (with_reducible refine tree_run hG ?_ ?_)
            · intro K hK
              go_simp
              replace hG := Grew.alloc hG (.cells #[.int .i64 0, .int .i64 0, .int .i64 0, .string ⟨#[]⟩, .string ⟨#[]⟩, .int .i64 0, .int .i64 0, .bool false] 33)
              (with_reducible refine hK _ _ hG ?_)
              clear hK K
              (with_reducible refine tree_run hG ?_ ?_)
              · intro K hK
                go_simp
                clear hG
                (with_reducible refine grew_k (w := wr) (Grew.alloc (Grew.alloc (below_grew hG0) _) _) ?_)
                intro hG
                (with_reducible refine hK _ _ hG ?_)
                clear hK K
                (with_reducible refine tree_run hG ?_ ?_)
                · intro K hK
                  go_simp
                  clear hG
                  (with_reducible refine grew_k (w := wr) (Grew.alloc (Grew.alloc (below_grew hG0) _) _) ?_)
                  intro hG
                  (with_reducible refine hK _ _ hG ?_)
                  clear hK K
                  (with_reducible refine tree_nil ?_)
                  go_wp2_with fail
                  go_roundw
                  case rel => exact ⟨i + 1, by omega, by go_num, hR, G.trans HG.out (G.alloc (G.alloc (show Below wr.heap.size wr w0 from hG0) _) _)⟩
                  case measure => simp [intOf]; omega
                exact tree_stop
              exact tree_stop
            exact tree_stop
          (with_reducible refine tree_run hG ?_ ?_)
          · intro K hK
            go_simp
            replace hG := Grew.alloc hG (.cells #[.int .i64 0, .int .i64 0, .int .i64 0, .string ⟨#[]⟩, .string ⟨#[]⟩, .int .i64 0, .int .i64 0, .bool false] 33)
            (with_reducible refine hK _ _ hG ?_)
            clear hK K
            (with_reducible refine tree_run hG ?_ ?_)
            · intro K hK
              go_simp
              replace hG := Grew.alloc hG (.cells #[.int .i64 0, .int .i64 0, .int .i64 0, .string ⟨#[]⟩, .string ⟨#[]⟩, .int .i64 0, .int .i64 0, .bool false] 33)
              (with_reducible refine hK _ _ hG ?_)
              clear hK K
              (with_reducible refine tree_run hG ?_ ?_)
              · intro K hK
                go_simp
                clear hG
                (with_reducible refine grew_k (w := wr) (Grew.alloc (Grew.alloc (below_grew hG0) _) _) ?_)
                intro hG
                (with_reducible refine hK _ _ hG ?_)
                clear hK K
                (with_reducible refine tree_run hG ?_ ?_)
                · intro K hK
                  go_simp
                  clear hG
                  (with_reducible refine grew_k (w := wr) (Grew.alloc (Grew.alloc (below_grew hG0) _) _) ?_)
                  intro hG
                  (with_reducible refine hK _ _ hG ?_)
                  clear hK K
                  (with_reducible refine tree_nil ?_)
                  go_wp2_with fail
                  go_roundw
                  case rel => exact ⟨i + 1, by omega, by go_num, hR, G.trans HG.out (G.alloc (G.alloc (show Below wr.heap.size wr w0 from hG0) _) _)⟩
                  case measure => simp [intOf]; omega
                exact tree_stop
              exact tree_stop
            exact tree_stop
          exact tree_stop
      · obtain rfl : i = n := by omega
        have hR : Hid (sameB false ar br = true) := by
          unfold Hid
          rw [HS.out, sameB_end lA lB]
        go_wp2_with fail
        go_ret
        rw [hR.out]
        exact ⟨rfl, HG.out⟩
  · have hR : Hid (sameB false ar br = false) := sameB_ne (by omega)
    have k1 : ((n : Int) != (m : Int)) = true := by simp; omega
    have k2 : ¬ (n : Int) = (m : Int) := by omega
    go_enter Tryz.func15, Tryz.ntmps15
    go_wp2_with fail
    go_ret
    rw [hR.out]
    exact ⟨rfl, G.refl w⟩
end
end Go.Proofs.YtmchiibbodllaaaGreatDoor
