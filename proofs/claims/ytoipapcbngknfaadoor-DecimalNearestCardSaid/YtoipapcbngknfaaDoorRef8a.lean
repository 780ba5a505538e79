/- Plain facts for the reference's Times: a row of digits that is written in place. -/
import Derived.Test.YtoipapcbngknfaaDoorRef6
namespace Go.Proofs.YtoipapcbngknfaaDoor
set_option linter.unusedVariables false
set_option linter.unnecessarySimpa false
set_option linter.unusedSimpArgs false
open Go.RowKit

theorem made_row (N : Nat) : madeCells (Value.int .i64 0).cells N = (i64s (List.replicate N 0)).toArray := by
  have : (Value.int .i64 0).cells = #[.int .i64 0] := rfl
  rw [this]
  unfold madeCells
  apply Array.ext
  · simp
  · intro j h1 h2
    simp [Nat.mod_one]
theorem valD_set : ∀ {L : List Int} {j : Nat} {x : Int} (y : Int), L[j]? = some x → valD (L.set j y) = valD L + p10 j * (y - x)
  | [], j, x, y, h => by simp at h
  | a :: L, 0, x, y, h => by
    simp only [List.getElem?_cons_zero, Option.some.injEq] at h
    subst h
    simp only [List.set_cons_zero, valD, p10_zero, Int.one_mul]
    omega
  | a :: L, j + 1, x, y, h => by
    simp only [List.getElem?_cons_succ] at h
    have ih := valD_set y h
    simp only [List.set_cons_succ, valD, ih, p10_succ, Int.mul_add, Int.mul_assoc]
    omega
theorem times_step {L xs ys : List Int} {i k : Nat} {x : Int} (h : valD L = valD (xs.take i) * valD ys + p10 i * (dg xs i * valD (ys.take k))) (hx : L[i + k]? = some x) :
    valD (L.set (i + k) (x + dg xs i * dg ys k)) = valD (xs.take i) * valD ys + p10 i * (dg xs i * valD (ys.take (k + 1))) := by
  rw [valD_set _ hx, h, valD_take ys k, p10_add, show x + dg xs i * dg ys k - x = dg xs i * dg ys k by omega]
  rw [Int.mul_add (dg xs i), Int.mul_add (p10 i)]
  have : p10 i * p10 k * (dg xs i * dg ys k) = p10 i * (dg xs i * (p10 k * dg ys k)) := by
    rw [Int.mul_assoc, ← Int.mul_assoc (p10 k), Int.mul_comm (p10 k) (dg xs i), Int.mul_assoc (dg xs i)]
  omega
theorem times_next {L xs ys : List Int} {i m : Nat} (hm : ys.length ≤ m) (h : valD L = valD (xs.take i) * valD ys + p10 i * (dg xs i * valD (ys.take m))) : valD L = valD (xs.take (i + 1)) * valD ys := by
  rw [h, List.take_of_length_le hm, valD_take, Int.add_mul, Int.mul_assoc]
theorem carry_step {L : List Int} {i : Nat} {a b : Int} (ha : L[i]? = some a) (hb : L[i + 1]? = some b) (h0 : 0 ≤ a) :
    valD ((L.set (i + 1) (b + a.tdiv 10)).set i (a.tmod 10)) = valD L := by
  have h1 : (L.set (i + 1) (b + a.tdiv 10))[i]? = some a := by rw [List.getElem?_set_ne (by omega)]; exact ha
  rw [valD_set _ h1, valD_set _ hb, p10_succ]
  have e := tparts a 10
  have : b + a.tdiv 10 - b = a.tdiv 10 := by omega
  rw [this]
  have e2 : a.tmod 10 - a = -(10 * a.tdiv 10) := by omega
  rw [e2, Int.mul_neg, ← Int.mul_assoc, Int.mul_comm (p10 i) 10]
  omega
theorem carry_end {L : List Int} {N : Nat} {x : Int} (hL : L.length = N + 1) (hd : Dig (L.take N)) (hx : L[N]? = some x) (h0 : 0 ≤ x) (hv : valD L < p10 N) : Dig L := by
  have hs := valD_split L N
  have hdr : L.drop N = [x] := by
    rw [drop_at hx, List.drop_of_length_le (by omega)]
  rw [hdr] at hs
  have h1 := valD_nonneg hd
  have h2 := p10_pos N
  have hx0 : x = 0 := by
    by_cases hx1 : 1 ≤ x
    · have h3 : p10 N * 1 ≤ p10 N * valD [x] := Int.mul_le_mul_of_nonneg_left (by simp only [valD]; omega) (by omega)
      omega
    · omega
  have hsp : L = L.take N ++ [x] := by rw [← hdr, List.take_append_drop]
  rw [hsp]
  exact hd.app (Dig.mk (by omega) (by omega) Dig.nil)
theorem carry_dig {L : List Int} {e : Nat} {y md : Int} (h : Dig (L.take e)) (h0 : 0 ≤ md ∧ md ≤ 9) : Dig (((L.set (e + 1) y).set e md).take (e + 1)) := by
  intro x hx
  obtain ⟨j, hj⟩ := List.mem_iff_getElem?.1 hx
  rw [List.getElem?_take] at hj
  split at hj
  · rename_i hlt
    by_cases hje : j = e
    · subst hje
      rw [List.getElem?_set, if_pos rfl] at hj
      split at hj
      · injection hj with hj
        omega
      · cases hj
    · rw [List.getElem?_set_ne (by omega), List.getElem?_set_ne (by omega)] at hj
      exact h x (List.mem_of_getElem? (i := j) (by rw [List.getElem?_take, if_pos (by omega)]; exact hj))
  · cases hj
theorem prod_lt {xs ys : List Int} {n m : Nat} (hx : Dig xs) (hy : Dig ys) (hn : xs.length = n) (hm : ys.length = m) : valD xs * valD ys < p10 (n + m) := by
  subst hn hm
  rw [p10_add]
  have h1 : valD xs * valD ys ≤ valD xs * p10 ys.length := Int.mul_le_mul_of_nonneg_left (Int.le_of_lt (valD_lt hy)) (valD_nonneg hx)
  have h2 : valD xs * p10 ys.length < p10 xs.length * p10 ys.length := Int.mul_lt_mul_of_pos_right (valD_lt hx) (p10_pos _)
  omega
/-- All numbers of a row lie between 0 and a bound. -/
def Bd (M : Int) (L : List Int) : Prop := ∀ x ∈ L, 0 ≤ x ∧ x ≤ M
theorem Bd.set {M M' : Int} {L : List Int} (h : Bd M L) (hM : M ≤ M') {y : Int} (h0 : 0 ≤ y) (h1 : y ≤ M') (j : Nat) : Bd M' (L.set j y) := by
  intro x hx
  rcases List.mem_or_eq_of_mem_set hx with h' | rfl
  · have := h x h'; omega
  · exact ⟨h0, h1⟩
theorem Bd.get {M : Int} {L : List Int} (h : Bd M L) {j : Nat} {x : Int} (hx : L[j]? = some x) : 0 ≤ x ∧ x ≤ M := h x (List.mem_of_getElem? hx)
theorem Bd.rep (N : Nat) : Bd 0 (List.replicate N 0) := by
  intro x hx
  rw [List.mem_replicate] at hx
  omega
theorem dig_mul {a b : Int} (ha : 0 ≤ a ∧ a ≤ 9) (hb : 0 ≤ b ∧ b ≤ 9) : 0 ≤ a * b ∧ a * b ≤ 81 := by
  refine ⟨Int.mul_nonneg ha.1 hb.1, ?_⟩
  have h1 : a * b ≤ 9 * b := Int.mul_le_mul_of_nonneg_right ha.2 hb.1
  omega
theorem sgn_prod (y z : Int) : (if (y.natAbs : Int) * (z.natAbs : Int) = 0 then 0 else sgn y * sgn z) = sgn (y * z) ∧ ((y.natAbs : Int) * (z.natAbs : Int)).toNat = (y * z).natAbs := by
  have hn : ((y.natAbs : Int) * (z.natAbs : Int)).toNat = (y * z).natAbs := by
    rw [Int.natAbs_mul]
    have : ((y.natAbs : Int) * (z.natAbs : Int)) = ((y.natAbs * z.natAbs : Nat) : Int) := by simp
    rw [this, Int.toNat_natCast]
  refine ⟨?_, hn⟩
  by_cases h0 : y * z = 0
  · have hh : (y.natAbs : Int) * (z.natAbs : Int) = 0 := by
      have : (y * z).natAbs = 0 := by rw [h0]; rfl
      rw [Int.natAbs_mul] at this
      rw [← Int.natCast_mul, this]; rfl
    rw [if_pos hh, h0]; rfl
  · have hh : ¬ (y.natAbs : Int) * (z.natAbs : Int) = 0 := by
      intro h
      apply h0
      rw [← Int.natCast_mul, ← Int.natAbs_mul] at h
      omega
    rw [if_neg hh]
    have hy : y ≠ 0 := fun h => h0 (by rw [h, Int.zero_mul])
    have hz : z ≠ 0 := fun h => h0 (by rw [h, Int.mul_zero])
    rcases sgn_cases y with ⟨e1, h1⟩ | ⟨e1, h1⟩ | ⟨e1, h1⟩ <;> rcases sgn_cases z with ⟨e2, h2⟩ | ⟨e2, h2⟩ | ⟨e2, h2⟩ <;> rw [e1, e2] <;> first | (exfalso; omega) | skip
    all_goals unfold sgn
    all_goals first
      | (have : 0 < y * z := (by have := Int.mul_pos (show 0 < -y by omega) (show 0 < -z by omega); rwa [Int.neg_mul_neg] at this); rw [if_neg (by omega), if_neg (by omega)]; rfl)
      | (have : y * z < 0 := (by have := Int.mul_pos (show 0 < -y by omega) (show 0 < z by omega); rw [Int.neg_mul] at this; omega); rw [if_pos (by omega)]; rfl)
      | (have : y * z < 0 := (by have := Int.mul_pos (show 0 < y by omega) (show 0 < -z by omega); rw [Int.mul_neg] at this; omega); rw [if_pos (by omega)]; rfl)
      | (have : 0 < y * z := Int.mul_pos (by omega) (by omega); rw [if_neg (by omega), if_neg (by omega)]; rfl)
      | fail
/-- A row of one block, that may be written. -/
def Row (w : World) (G N : Nat) (L : List Int) : Prop := L.length = N ∧ G < w.heap.size ∧ (∀ j u, L[j]? = some u → w.cell? ⟨G, j, none⟩ = some (.int .i64 u)) ∧ ∀ j, w.frozen? ⟨G, j, none⟩ = false
theorem Row.sl {w : World} {G N : Nat} {L : List Int} (h : Row w G N L) : Sl w (some ⟨G, 0, none⟩) N (i64s L) :=
  ⟨by simpa using h.1, fun _ => ⟨G, 0, rfl, h.2.1, fun j u hu => by
    rw [List.getElem?_map] at hu
    rcases hL : L[j]? with _ | x
    · rw [hL] at hu; cases hu
    · rw [hL] at hu
      injection hu with hu
      subst hu
      rw [Nat.zero_add]
      exact h.2.2.1 j x hL⟩⟩
theorem Row.set {w : World} {G N : Nat} {L : List Int} (h : Row w G N L) {j : Nat} (hj : j < N) (y : Int) : Row (w.setCell ⟨G, j, none⟩ (.int .i64 y)) G N (L.set j y) := by
  obtain ⟨h1, h2, h3, h4⟩ := h
  refine ⟨by simpa using h1, by simpa using h2, fun k u hu => ?_, fun k => by go_simp⟩
  by_cases hk : k = j
  · subst hk
    rw [List.getElem?_set_self (by omega)] at hu
    injection hu with hu
    subst hu
    exact World.cell?_setCell_same _ _ _ (h3 k _ (List.getElem?_eq_getElem (by omega)))
  · rw [List.getElem?_set_ne (fun e => hk e.symm)] at hu
    rw [World.cell?_setCell_other _ _ _ _ (fun e => hk (by injection e with _ e; exact e.symm))]
    exact h3 k u hu
theorem Row.grow {w w' : World} {R N : Nat} {L : List Int} (h : Row w R N L) (hb : Below w.heap.size w w') : Row w' R N L :=
  ⟨h.1, Nat.lt_of_lt_of_le h.2.1 hb.size, fun j u hu => G.cell (h.2.2.1 j u hu) hb, fun j => (hb.frozen (p := ⟨R, j, none⟩) h.2.1).trans (h.2.2.2 j)⟩
theorem Row.new {w : World} {cs : Array Value} {t : TypeId} {G N : Nat} {L : List Int} (hcs : cs = (i64s L).toArray) (hG : G = w.heap.size) (hN : L.length = N) : Row (w.alloc (.cells cs t)) G N L := by
  subst hcs hG
  refine ⟨hN, by simp, fun j u hu => ?_, fun j => by go_simp⟩
  simp only [World.cell?, heap_alloc_new]
  simp [hu]
theorem Row.other {w : World} {R N : Nat} {L : List Int} (h : Row w R N L) {X i : Nat} (hne : X ≠ R) (v : Value) : Row (w.setCell ⟨X, i, none⟩ v) R N L :=
  ⟨h.1, by simpa using h.2.1, fun j u hu => by
    rw [World.cell?_setCell_other _ _ _ _ (fun e => hne (by injection e))]
    exact h.2.2.1 j u hu, fun j => by have := h.2.2.2 j; go_simp⟩
theorem Row.alloc {w : World} {R N : Nat} {L : List Int} (h : Row w R N L) (o : Obj) : Row (w.alloc o) R N L := h.grow (Go.Proofs.YtoipapcbngknfaaDoor.G.alloc (Go.Proofs.YtoipapcbngknfaaDoor.G.refl w) o)
theorem rep_row (N : Nat) : Array.replicate N (Value.int .i64 0) = (i64s (List.replicate N 0)).toArray := by simp
end Go.Proofs.YtoipapcbngknfaaDoor
