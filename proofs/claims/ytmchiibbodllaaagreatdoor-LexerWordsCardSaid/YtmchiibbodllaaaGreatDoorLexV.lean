/- The scanner's values: blocks, frames, builders. -/
import Derived.Test.YtmchiibbodllaaaGreatDoorData
import Derived.Test.YtmchiibbodllaaaGreatDoorLexM2
import Derived.Lib.Builder
import Derived.Lib.LastIndexByte
namespace Go.Proofs.YtmchiibbodllaaaGreatDoor
set_option linter.unusedVariables false
set_option linter.unnecessarySimpa false
set_option linter.unusedSimpArgs false
open Go.RowKit

/-- Only the blocks b and r were changed. -/
def Chg (b r : Nat) (w w' : World) : Prop := Below 0 w w' ∧ Keeps (fun x => x ≠ b ∧ x ≠ r) w w'
section
variable {b r : Nat} {w w' x y z a : World}
theorem Chg.refl (b r : Nat) (w : World) : Chg b r w w := ⟨Below.refl _ _, Keeps.refl _ _⟩
theorem Chg.trans (h : Chg b r x y) (k : Chg b r y z) : Chg b r x z := ⟨h.1.trans k.1, h.2.trans k.2⟩
theorem Chg.of_below (h : Below w.heap.size w w') : Chg b r w w' := ⟨h.mono (Nat.zero_le _), Keeps.of_below h⟩
theorem Chg.set1 (h : Chg b r a w) (o : Nat) (u : Value) : Chg b r a (w.setCell ⟨b, o, none⟩ u) := ⟨h.1.setCell (Nat.zero_le _) _, h.2.setCell (fun k => k.1 rfl) _⟩
theorem Chg.set2 (h : Chg b r a w) (o : Nat) (u : Value) : Chg b r a (w.setCell ⟨r, o, none⟩ u) := ⟨h.1.setCell (Nat.zero_le _) _, h.2.setCell (fun k => k.2 rfl) _⟩
theorem Chg.alloc (h : Chg b r a w) (o : Obj) : Chg b r a (w.alloc o) := h.trans (Chg.of_below (G.alloc (G.refl w) o))
theorem Chg.drewN (h : Chg b r a w) (n : Nat) : Chg b r a (w.drewN n) := h.trans (Chg.of_below (G.drewN (G.refl w) n))
theorem Chg.grow (h : Chg b r a w) (k : Below w.heap.size w w') : Chg b r a w' := h.trans (Chg.of_below k)
/-- What was done above B is beside all that was there. -/
theorem Chg.under {B : Nat} (h : Chg b r a w) (hB : a.heap.size ≤ B) (hw : B ≤ w.heap.size) (k : Below B w w') : Chg b r a w' :=
  ⟨h.1.trans (k.mono (Nat.zero_le _)), Nat.le_trans h.2.1 k.size, fun x hx hl => (k.block x (Nat.lt_of_lt_of_le hl hB)).trans (h.2.2 x hx hl)⟩
theorem Chg.keeps {ok : Nat → Prop} (h : Chg b r w w') (hb : ¬ ok b) (hr : ¬ ok r) : Keeps ok w w' := h.2.mono fun x hx => ⟨fun e => hb (e ▸ hx), fun e => hr (e ▸ hx)⟩
theorem Chg.below {L : Nat} (h : Chg b r w w') (hb : L ≤ b) (hr : L ≤ r) (hL : L ≤ w.heap.size) : Below L w w' :=
  ⟨h.1.os, h.1.tape, h.1.output, h.2.1, fun x hx => h.2.2 x ⟨by omega, by omega⟩ (by omega)⟩
theorem Chg.wider (c : Nat) (h : Chg b b w w') : Chg b c w w' := ⟨h.1, h.2.mono fun x hx => ⟨hx.1, hx.1⟩⟩
theorem Chg.size (h : Chg b r w w') : w.heap.size ≤ w'.heap.size := h.1.size
theorem Bx.chg {c : Nat} {l : List Value} (h : Bx w c l) (k : Chg b r w w') (hb : c ≠ b) (hr : c ≠ r) : Bx w' c l := h.block k.2.1 (k.2.2 c ⟨hb, hr⟩ h.1)
end

/-- A scanner: the text, the place, the place of the first error, the error. -/
def scC (s : ByteArray) (i wr e : Int) : List Value := [.string s, .int .i64 i, .int .i64 wr, .int .i64 e]
theorem Bx.c4 {w : World} {B : Nat} {a b c d : Value} (x : Bx w B [a, b, c, d]) : w.cell? ⟨B, 0, none⟩ = some a ∧ w.cell? ⟨B, 1, none⟩ = some b ∧ w.cell? ⟨B, 2, none⟩ = some c ∧ w.cell? ⟨B, 3, none⟩ = some d :=
  ⟨(x.2 0 _ rfl).1, (x.2 1 _ rfl).1, (x.2 2 _ rfl).1, (x.2 3 _ rfl).1⟩
theorem Bx.f4 {w : World} {B : Nat} {a b c d : Value} (x : Bx w B [a, b, c, d]) : w.frozen? ⟨B, 0, none⟩ = false ∧ w.frozen? ⟨B, 1, none⟩ = false ∧ w.frozen? ⟨B, 2, none⟩ = false ∧ w.frozen? ⟨B, 3, none⟩ = false :=
  ⟨(x.2 0 _ rfl).2, (x.2 1 _ rfl).2, (x.2 2 _ rfl).2, (x.2 3 _ rfl).2⟩
theorem Bx.c8 {w : World} {B : Nat} {a b c d e f g h : Value} (x : Bx w B [a, b, c, d, e, f, g, h]) : w.cell? ⟨B, 0, none⟩ = some a ∧ w.cell? ⟨B, 1, none⟩ = some b ∧ w.cell? ⟨B, 2, none⟩ = some c ∧ w.cell? ⟨B, 3, none⟩ = some d ∧ w.cell? ⟨B, 4, none⟩ = some e ∧ w.cell? ⟨B, 5, none⟩ = some f ∧ w.cell? ⟨B, 6, none⟩ = some g ∧ w.cell? ⟨B, 7, none⟩ = some h :=
  ⟨(x.2 0 _ rfl).1, (x.2 1 _ rfl).1, (x.2 2 _ rfl).1, (x.2 3 _ rfl).1, (x.2 4 _ rfl).1, (x.2 5 _ rfl).1, (x.2 6 _ rfl).1, (x.2 7 _ rfl).1⟩
theorem Bx.f8 {w : World} {B : Nat} {a b c d e f g h : Value} (x : Bx w B [a, b, c, d, e, f, g, h]) : w.frozen? ⟨B, 0, none⟩ = false ∧ w.frozen? ⟨B, 1, none⟩ = false ∧ w.frozen? ⟨B, 2, none⟩ = false ∧ w.frozen? ⟨B, 3, none⟩ = false ∧ w.frozen? ⟨B, 4, none⟩ = false ∧ w.frozen? ⟨B, 5, none⟩ = false ∧ w.frozen? ⟨B, 6, none⟩ = false ∧ w.frozen? ⟨B, 7, none⟩ = false :=
  ⟨(x.2 0 _ rfl).2, (x.2 1 _ rfl).2, (x.2 2 _ rfl).2, (x.2 3 _ rfl).2, (x.2 4 _ rfl).2, (x.2 5 _ rfl).2, (x.2 6 _ rfl).2, (x.2 7 _ rfl).2⟩
/-- A token's cells. -/
def tkC (k : Int) (ln cl : Int) (tx v : ByteArray) (n s : Int) (j : Bool) : List Value := [.int .i64 k, .int .i64 ln, .int .i64 cl, .string tx, .string v, .int .i64 n, .int .i64 s, .bool j]
theorem bytes_app (a b : List UInt8) : Lib.byteCells (a ++ b) = Lib.byteCells a ++ Lib.byteCells b := by unfold Lib.byteCells; rw [List.map_append]

/-! ### Builders -/
theorem isB_keep {T e : TypeId} {B b : Nat} {bs : List Value} {w w' : World} (h : Lib.IsBuilder T e B b bs w) (hk : Keeps (From B) w w') : Lib.IsBuilder T e B b bs w' := by
  have key : ∀ p, Lib.BuilderAt T e B b p bs w → Lib.BuilderAt T e B b p bs w' := fun p h => by
    have hlt := h.lt
    obtain ⟨hB, v, hb, hown, hne⟩ := h
    exact ⟨hB, v, by rw [hk.2 b hB hlt]; exact hb, own_keep hown hk, hne⟩
  exact h.elim (fun x => .inl (key _ x)) (fun x => .inr (key _ x))
theorem isB_set {T e : TypeId} {B b : Nat} {bs : List Value} {w : World} (h : Lib.IsBuilder T e B b bs w) {p : Addr} (hp : p.block < B) (u : Value) : Lib.IsBuilder T e B b bs (w.setCell p u) :=
  isB_keep h ((Keeps.refl _ w).setCell (by unfold From; omega) u)
theorem isB_grow {T e : TypeId} {B b : Nat} {bs : List Value} {w w' : World} (h : Lib.IsBuilder T e B b bs w) (hb : Below w.heap.size w w') : Lib.IsBuilder T e B b bs w' := isB_keep h (Keeps.of_below hb)
theorem isB_lt {T e : TypeId} {B b : Nat} {bs : List Value} {w : World} (h : Lib.IsBuilder T e B b bs w) : b < w.heap.size := h.elim (fun x => x.lt) (fun x => x.lt)

/-! ### Strings -/
theorem ext_eq (s : ByteArray) (i j : Nat) : s.extract i j = B ((s.data.toList.drop i).take (j - i)) := by
  rw [Lib.extract_eq]
  rfl
theorem nth_idx (s : ByteArray) {i : Nat} (h : i < s.size) : nth s.data.toList i = s[i] := by
  have h1 : i < s.data.toList.length := h
  rw [nth_get h1]
  rfl

/-! ### Places -/
theorem lc_fst_from : ∀ (l : List UInt8) (p : Nat × Nat), (l.foldl lcF p).1 = p.1 + l.count 10
  | [], p => rfl
  | c :: l, p => by
    rw [List.foldl_cons, lc_fst_from l, List.count_cons]
    unfold lcF
    by_cases h : c.toNat = 10
    · have hc : c = 10 := UInt8.toNat_inj.1 h
      subst hc
      rw [if_pos h]
      simp
      omega
    · have hc : ¬ c = 10 := fun e => h (by rw [e]; rfl)
      rw [if_neg h]
      simp [hc]
theorem lc_fst (l : List UInt8) : (lc l).1 = 1 + l.count 10 := lc_fst_from l (1, 1)
theorem lc_snd_k (s : ByteArray) : ∀ k : Nat, k ≤ s.size → ((lc (s.data.toList.take k)).2 : Int) = k - Lib.lastIdx s 10 k
  | 0, _ => rfl
  | k + 1, h => by
    have hk : k < s.data.toList.length := h
    have e1 : s.data[k]! = nth s.data.toList k := by
      rw [nth_idx s (by omega)]
      exact getElem!_pos s.data k h
    rw [lc_take hk, Lib.lastIdx, e1]
    have := lc_snd_k s k (by omega)
    unfold lcF
    by_cases h : (nth s.data.toList k).toNat = 10
    · rw [if_pos h, if_pos (by omega)]
      simp only
      omega
    · rw [if_neg h, if_neg (by omega)]
      simp only
      omega
theorem lc_snd (s : ByteArray) : ((lc s.data.toList).2 : Int) = s.size - Lib.lastIndexByte s 10 := by
  have h := lc_snd_k s s.size (Nat.le_refl _)
  have e : s.data.toList.take s.size = s.data.toList := List.take_of_length_le (show s.data.toList.length ≤ s.data.size by simp)
  rw [e] at h
  exact h

/-! ### The end of a line -/
theorem idx_nl : ∀ l : List UInt8, Lib.indexByte l 10 = if spn notNL l < l.length then (spn notNL l : Int) else -1
  | [] => rfl
  | c :: l => by
    have ih := idx_nl l
    unfold Lib.indexByte spn
    rw [List.length_cons]
    by_cases h : c.toNat = 10
    · have hc : c = 10 := UInt8.toNat_inj.1 h
      have h1 : (c == 10) = true := by rw [hc]; rfl
      have h2 : ¬ notNL c = true := by rw [hc]; decide
      rw [if_pos h1, if_neg h2, if_pos (Nat.succ_pos _)]
      rfl
    · have hc : ¬ c = 10 := fun e => h (by rw [e]; rfl)
      have h1 : ¬ (c == 10) = true := by simpa using hc
      have h2 : notNL c = true := by simp [notNL, h]
      rw [if_neg h1, if_pos h2, ih]
      by_cases h3 : spn notNL l < l.length
      · rw [if_pos h3, if_pos (show spn notNL l + 1 < l.length + 1 by omega), if_neg (by simp <;> omega)]
        simp
      · rw [if_neg h3, if_neg (show ¬ spn notNL l + 1 < l.length + 1 by omega)]
        rfl
theorem drop_ext (s : ByteArray) (i : Nat) : (s.extract i s.size).data.toList = s.data.toList.drop i := Lib.extract_to_end s i

/-! ### A place in a block, as a measure -/
def rdI (w : World) (a : Addr) : Int := match w.cell? a with
  | some (.int _ x) => x
  | _ => 0
theorem rdI_of {w : World} {a : Addr} {k : IntKind} {x : Int} (h : w.cell? a = some (.int k x)) : rdI w a = x := by unfold rdI; rw [h]
theorem rdI_at {w : World} {b : Nat} {s : ByteArray} {i wr e : Int} (h : Bx w b (scC s i wr e)) : rdI w ⟨b, 1, none⟩ = i := rdI_of h.c4.2.1
end Go.Proofs.YtmchiibbodllaaaGreatDoor
