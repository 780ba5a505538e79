/- Plain Lean: a scanner on lists of bytes. -/
import Derived.Test.YtmchiibbodllaaaGreatDoorLTx3
namespace Go.Proofs.YtmchiibbodllaaaGreatDoor
set_option linter.unusedVariables false
set_option linter.unnecessarySimpa false
set_option linter.unusedSimpArgs false

/-! ### Bytes -/
def isLet (c : UInt8) : Bool := decide (97 ≤ c.toNat) && decide (c.toNat ≤ 122) || decide (65 ≤ c.toNat) && decide (c.toNat ≤ 90)
def isDig (c : UInt8) : Bool := decide (48 ≤ c.toNat) && decide (c.toNat ≤ 57)
def isPart (c : UInt8) : Bool := isLet c || isDig c || decide (c.toNat = 95)
def hexV (c : UInt8) : Int :=
  if 48 ≤ c.toNat ∧ c.toNat ≤ 57 then c.toNat - 48 else if 97 ≤ c.toNat ∧ c.toNat ≤ 102 then c.toNat - 87 else if 65 ≤ c.toNat ∧ c.toNat ≤ 70 then c.toNat - 55 else -1
def isHex (c : UInt8) : Bool := decide (0 ≤ hexV c)
def isBl (c : UInt8) : Bool := decide (c.toNat = 32) || decide (c.toNat = 9) || decide (c.toNat = 10)
def notNL (c : UInt8) : Bool := !decide (c.toNat = 10)
/-- The byte at a place, or 0 behind the end. -/
def nth (r : List UInt8) (k : Nat) : UInt8 := r.getD k 0
theorem nth_drop (l : List UInt8) (i k : Nat) : nth (l.drop i) k = nth l (i + k) := by
  unfold nth
  rw [List.getD_eq_getElem?_getD, List.getD_eq_getElem?_getD, List.getElem?_drop]
theorem nth_end {l : List UInt8} {k : Nat} (h : l.length ≤ k) : nth l k = 0 := by
  unfold nth
  rw [List.getD_eq_getElem?_getD, List.getElem?_eq_none h]
  rfl
theorem nth_get {l : List UInt8} {k : Nat} (h : k < l.length) : nth l k = l[k] := by
  unfold nth
  rw [List.getD_eq_getElem?_getD, List.getElem?_eq_getElem h]
  rfl
theorem drop_cons {l : List UInt8} {i : Nat} (h : i < l.length) : l.drop i = nth l i :: l.drop (i + 1) := by
  rw [nth_get h]
  exact List.drop_eq_getElem_cons h
theorem hex_bd (c : UInt8) : -1 ≤ hexV c ∧ hexV c ≤ 15 := by
  unfold hexV
  split
  · omega
  · split
    · omega
    · split <;> omega

/-! ### Runs -/
def spn (p : UInt8 → Bool) : List UInt8 → Nat
  | [] => 0
  | c :: r => if p c = true then spn p r + 1 else 0
theorem spn_le (p : UInt8 → Bool) : ∀ r : List UInt8, spn p r ≤ r.length
  | [] => Nat.le_refl _
  | c :: r => by
    unfold spn
    split
    · have := spn_le p r; simp; omega
    · omega
theorem spn_end (p : UInt8 → Bool) {l : List UInt8} {i : Nat} (h : l.length ≤ i) : spn p (l.drop i) = 0 := by rw [List.drop_eq_nil_of_le h]; rfl
theorem spn_yes {p : UInt8 → Bool} {l : List UInt8} {i : Nat} (h : i < l.length) (hp : p (nth l i) = true) : spn p (l.drop i) = spn p (l.drop (i + 1)) + 1 := by
  rw [drop_cons h, spn, if_pos hp]
theorem spn_no {p : UInt8 → Bool} {l : List UInt8} {i : Nat} (h : p (nth l i) = false) : spn p (l.drop i) = 0 := by
  rcases Nat.lt_or_ge i l.length with h' | h'
  · rw [drop_cons h', spn, if_neg (by rw [h]; decide)]
  · exact spn_end p h'
theorem spn_bd (p : UInt8 → Bool) (l : List UInt8) {i : Nat} (h : i ≤ l.length) : i + spn p (l.drop i) ≤ l.length := by
  have := spn_le p (l.drop i)
  rw [List.length_drop] at this
  omega
theorem spn_pos {p : UInt8 → Bool} {l : List UInt8} {i : Nat} (h : i < l.length) (hp : p (nth l i) = true) : 1 ≤ spn p (l.drop i) := by rw [spn_yes h hp]; omega

/-! ### Blanks -/
/-- The bytes of the blanks and comments at the front; m: a comment is being read. -/
def blk : Bool → List UInt8 → Nat
  | _, [] => 0
  | true, c :: r => if c.toNat = 10 then 1 + blk false r else 1 + blk true r
  | false, c :: r => if isBl c = true then 1 + blk false r else if c.toNat = 47 ∧ (nth r 0).toNat = 47 then 1 + blk true r else 0
theorem blk_le : ∀ (m : Bool) (r : List UInt8), blk m r ≤ r.length
  | _, [] => by simp [blk]
  | true, c :: r => by
    unfold blk
    have := blk_le false r
    have := blk_le true r
    split <;> simp <;> omega
  | false, c :: r => by
    unfold blk
    have := blk_le false r
    have := blk_le true r
    split
    · simp; omega
    · split <;> simp; omega
theorem blk_end {m : Bool} {l : List UInt8} {i : Nat} (h : l.length ≤ i) : blk m (l.drop i) = 0 := by rw [List.drop_eq_nil_of_le h]; unfold blk; cases m <;> rfl
theorem blk_yes {l : List UInt8} {i : Nat} (h : i < l.length) (hb : isBl (nth l i) = true) : blk false (l.drop i) = 1 + blk false (l.drop (i + 1)) := by
  rw [drop_cons h, blk, if_pos hb]
theorem blk_com : ∀ r : List UInt8, blk true r = spn notNL r + blk false (r.drop (spn notNL r))
  | [] => by simp [blk, spn]
  | c :: r => by
    rw [blk, spn]
    by_cases h : c.toNat = 10
    · rw [if_pos h, if_neg (by simp [notNL, h])]
      simp only [List.drop_zero, Nat.zero_add]
      rw [blk, if_pos (by simp [isBl, h])]
    · rw [if_neg h, if_pos (by simp [notNL, h]), blk_com r, List.drop_succ_cons]
      omega
theorem blk_slash {l : List UInt8} {i : Nat} (h : i < l.length) (h0 : (nth l i).toNat = 47) (h1 : (nth l (i + 1)).toNat = 47) : blk false (l.drop i) = spn notNL (l.drop i) + blk false (l.drop (i + spn notNL (l.drop i))) := by
  have hnb : isBl (nth l i) = false := by unfold isBl; simp [h0]
  have h2 : (nth (l.drop (i + 1)) 0).toNat = 47 := by rw [nth_drop]; exact h1
  have h3 := blk_com (l.drop (i + 1))
  have h4 : spn notNL (l.drop i) = spn notNL (l.drop (i + 1)) + 1 := spn_yes h (by unfold notNL; simp [h0])
  rw [drop_cons h, blk, if_neg (by rw [hnb]; decide), if_pos ⟨h0, h2⟩, h3, ← drop_cons h, h4, List.drop_drop]
  rw [show i + (spn notNL (l.drop (i + 1)) + 1) = i + 1 + spn notNL (l.drop (i + 1)) by omega]
  omega
theorem blk_no {l : List UInt8} {i : Nat} (hb : isBl (nth l i) = false) (h0 : ¬ ((nth l i).toNat = 47 ∧ (nth l (i + 1)).toNat = 47)) : blk false (l.drop i) = 0 := by
  rcases Nat.lt_or_ge i l.length with h | h
  · rw [drop_cons h, blk, if_neg (by rw [hb]; decide), if_neg]
    rw [nth_drop]
    exact h0
  · exact blk_end h
theorem blk_bd (m : Bool) (l : List UInt8) {i : Nat} (h : i ≤ l.length) : i + blk m (l.drop i) ≤ l.length := by
  have := blk_le m (l.drop i)
  rw [List.length_drop] at this
  omega

/-! ### Tokens -/
structure Tk where
  k : Int
  tx : List UInt8
  v : List UInt8
  n : Int
  s : Int
/-- A token and how many bytes it takes, or an error and its place. -/
inductive Lx where
  | ok (n : Nat) (t : Tk)
  | bad (o : Nat) (e : Int)
def lexW (r : List UInt8) : Lx := if 64 < spn isPart r then .bad 0 5 else .ok (spn isPart r) ⟨1, r.take (spn isPart r), [], 0, 0⟩
/-- How many bytes a number takes, and how many of them are parsed. -/
def numN (r : List UInt8) : Nat × Nat :=
  if (nth r (spn isDig r)).toNat = 46 ∧ isDig (nth r (spn isDig r + 1)) = true then
    (spn isDig r + 1 + spn isDig (r.drop (spn isDig r + 1)), spn isDig r + 1 + spn isDig (r.drop (spn isDig r + 1)))
  else if (nth r (spn isDig r)).toNat = 100 ∧ isPart (nth r (spn isDig r + 1)) = false then (spn isDig r + 1, spn isDig r)
  else (spn isDig r, spn isDig r)
def lexN (r : List UInt8) : Lx :=
  if 1 < spn isDig r ∧ (nth r 0).toNat = 48 then .bad 0 3
  else if (parseN (r.take (numN r).2)).2.2 ≠ 0 then .bad 0 (parseN (r.take (numN r).2)).2.2
  else .ok (numN r).1 ⟨2, r.take (numN r).1, [], (parseN (r.take (numN r).2)).1, (parseN (r.take (numN r).2)).2.1⟩
def pairsL : List (List UInt8) := [[45, 62], [33, 61], [60, 61], [62, 61], [46, 46]]
def singlesL : List UInt8 := [40, 41, 123, 125, 91, 93, 60, 62, 61, 58, 59, 44, 46, 63, 43, 45, 42, 38, 64, 124]
def lexY (r : List UInt8) : Lx :=
  if r.take 2 ∈ pairsL then .ok 2 ⟨5, r.take 2, [], 0, 0⟩
  else if nth r 0 ∈ singlesL then .ok 1 ⟨5, r.take 1, [], 0, 0⟩
  else .bad 0 6
/-- What pairs of digits denote. -/
def unhex : List UInt8 → List UInt8
  | a :: b :: r => UInt8.ofNat (16 * hexV a + hexV b).toNat :: unhex r
  | _ => []
/-- Behind x and the quotation mark. -/
def lexX (r : List UInt8) : Lx :=
  if r.length ≤ 2 + spn isHex (r.drop 2) then .bad r.length 29
  else if (nth r (2 + spn isHex (r.drop 2))).toNat ≠ 34 ∨ spn isHex (r.drop 2) % 2 ≠ 0 then .bad (2 + spn isHex (r.drop 2)) 13
  else if 1024 < (unhex ((r.drop 2).take (spn isHex (r.drop 2)))).length then .bad 0 5
  else .ok (2 + spn isHex (r.drop 2) + 1) ⟨4, [], unhex ((r.drop 2).take (spn isHex (r.drop 2))), 0, 0⟩
def hexN (r : List UInt8) : Int := r.foldl (fun a c => 16 * a + hexV c) 0
def isPt (p : Int) : Bool := decide (0 ≤ p) && (decide (p ≤ 1114111) && (decide (p < 55296) || decide (57343 < p)))
def simple (c : UInt8) : Option UInt8 :=
  if c.toNat = 34 then some 34 else if c.toNat = 92 then some 92 else if c.toNat = 110 then some 10 else if c.toNat = 114 then some 13 else if c.toNat = 116 then some 9 else none
inductive Es where
  | ok (n : Nat) (b : List UInt8)
  | bad (e : Int)
/-- An escape, from its backslash on. -/
def esc (q : List UInt8) : Es :=
  match simple (nth q 1) with
  | some b => .ok 2 [b]
  | none =>
    if (nth q 1).toNat = 117 ∧ (nth q 2).toNat = 123 ∧ 1 ≤ spn isHex (q.drop 3) ∧ spn isHex (q.drop 3) ≤ 6 ∧ (nth q (3 + spn isHex (q.drop 3))).toNat = 125 then
      if isPt (hexN ((q.drop 3).take (spn isHex (q.drop 3)))) = true then .ok (3 + spn isHex (q.drop 3) + 1) (Utf8.encode (hexN ((q.drop 3).take (spn isHex (q.drop 3))))).data.toList
      else .bad 16
    else .bad 13
/-- The code point at the front: (65533, 0) or (65533, 1): none. -/
def dec (q : List UInt8) : Nat × Nat := Lib.decodeGo (B q)
def decBad (q : List UInt8) : Prop := (dec q).1 = 65533 ∧ (dec q).2 ≤ 1
instance (q : List UInt8) : Decidable (decBad q) := by unfold decBad; infer_instance
inductive Bd where
  | ok (n : Nat) (b : List UInt8)
  | bad (o : Nat) (e : Int)
/-- The body of a string behind its quotation mark; f: rounds at most, i: the place, acc: what it denotes up to there. -/
def strB : Nat → List UInt8 → Nat → List UInt8 → Bd
  | 0, _, i, _ => .bad i 0
  | f + 1, r, i, acc =>
    if r.length ≤ i then .bad r.length 29
    else if (nth r i).toNat = 34 then .ok (i + 1) acc
    else if (nth r i).toNat = 92 then
      match esc (r.drop i) with
      | .ok n b => strB f r (i + n) (acc ++ b)
      | .bad e => .bad i e
    else if (nth r i).toNat < 32 ∨ (nth r i).toNat = 127 then .bad i 6
    else if decBad (r.drop i) then .bad i 16
    else strB f r (i + (dec (r.drop i)).2) (acc ++ (r.drop i).take (dec (r.drop i)).2)
def lexS (r : List UInt8) : Lx :=
  match strB (r.length + 1) r 1 [] with
  | .ok n b => if 1024 < b.length then .bad 0 5 else .ok n ⟨3, [], b, 0, 0⟩
  | .bad o e => .bad o e
/-- One token. -/
def lex1 (r : List UInt8) : Lx :=
  if (nth r 0).toNat = 120 ∧ (nth r 1).toNat = 34 then lexX r
  else if isLet (nth r 0) = true then lexW r
  else if isDig (nth r 0) = true then lexN r
  else if (nth r 0).toNat = 34 then lexS r
  else lexY r

/-! ### Places -/
def lcF (p : Nat × Nat) (c : UInt8) : Nat × Nat := if c.toNat = 10 then (p.1 + 1, 1) else (p.1, p.2 + 1)
/-- The line and the column behind some bytes. -/
def lc (l : List UInt8) : Nat × Nat := l.foldl lcF (1, 1)
theorem lc_app (a : List UInt8) (c : UInt8) : lc (a ++ [c]) = lcF (lc a) c := by unfold lc; rw [List.foldl_append]; rfl
theorem lc_bd_from : ∀ (a : List UInt8) (p : Nat × Nat), 1 ≤ p.2 → p.1 ≤ (a.foldl lcF p).1 ∧ (a.foldl lcF p).1 ≤ p.1 + a.length ∧ 1 ≤ (a.foldl lcF p).2 ∧ (a.foldl lcF p).2 ≤ p.2 + a.length
  | [], p, h => by simp [h]
  | c :: a, p, h => by
    have hq : 1 ≤ (lcF p c).2 ∧ (lcF p c).2 ≤ p.2 + 1 ∧ p.1 ≤ (lcF p c).1 ∧ (lcF p c).1 ≤ p.1 + 1 := by
      unfold lcF
      split <;> simp <;> omega
    have := lc_bd_from a (lcF p c) hq.1
    simp only [List.foldl_cons, List.length_cons]
    omega
theorem lc_bd (a : List UInt8) : 1 ≤ (lc a).1 ∧ (lc a).1 ≤ a.length + 1 ∧ 1 ≤ (lc a).2 ∧ (lc a).2 ≤ a.length + 1 := by
  have := lc_bd_from a (1, 1) (Nat.le_refl _)
  unfold lc
  simp only at this ⊢
  omega

/-! ### Texts -/
structure Pl where
  i : Nat
  j : Bool
  t : Tk
inductive Sc where
  | ok (ts : List Pl)
  | bad (o : Nat) (e : Int)
/-- The tokens from a place on; last: the place behind the last token, if there is one. -/
def scanF (l : List UInt8) : Nat → Nat → Option Nat → List Pl → Sc
  | 0, i, _, _ => .bad i 0
  | f + 1, i, last, acc =>
    if l.length ≤ i + blk false (l.drop i) then .ok acc
    else if acc.length = 16384 then .bad (i + blk false (l.drop i)) 9
    else match lex1 (l.drop (i + blk false (l.drop i))) with
      | .ok n t => scanF l f (i + blk false (l.drop i) + n) (some (i + blk false (l.drop i) + n)) (acc ++ [⟨i + blk false (l.drop i), decide (last = some (i + blk false (l.drop i))), t⟩])
      | .bad o e => .bad (i + blk false (l.drop i) + o) e
def scanL (l : List UInt8) : Sc := scanF l (l.length + 1) 0 none []

/-! ### Bounds -/
def Lx.In (r : List UInt8) : Lx → Prop
  | .ok n t => 1 ≤ n ∧ n ≤ r.length
  | .bad o e => o ≤ r.length ∧ e ≠ 0
theorem dec_bd {q : List UInt8} (h : q ≠ []) : 1 ≤ (dec q).2 ∧ (dec q).2 ≤ q.length := by
  have hs : (B q).size ≠ 0 := by rw [B_size]; exact fun e => h (List.eq_nil_of_length_eq_zero e)
  unfold dec Lib.decodeGo
  rw [if_neg hs]
  have hq : q.length = (B q).size := (B_size q).symm
  rw [hq]
  unfold Utf8.decode
  simp only [Nat.zero_add]
  split
  · simp; omega
  · split
    · rename_i h1
      simp only [Bool.and_eq_true, decide_eq_true_eq] at h1
      split <;> simp <;> omega
    · split
      · rename_i h1
        simp only [Bool.and_eq_true, decide_eq_true_eq] at h1
        split <;> simp <;> omega
      · split
        · rename_i h1
          simp only [Bool.and_eq_true, decide_eq_true_eq] at h1
          split <;> simp <;> omega
        · simp; omega
theorem simple_nz {c : UInt8} {b : UInt8} (h : simple c = some b) : c.toNat ≠ 0 := by
  intro h0
  unfold simple at h
  simp [h0] at h
def Es.In (q : List UInt8) : Es → Prop
  | .ok n b => 2 ≤ n ∧ n ≤ q.length
  | .bad e => e ≠ 0
def Bd.In (r : List UInt8) : Bd → Prop
  | .ok n b => 1 ≤ n ∧ n ≤ r.length
  | .bad o e => o ≤ r.length ∧ e ≠ 0
theorem esc_bd {q : List UInt8} (h1 : 1 ≤ q.length) : (esc q).In q := by
  unfold esc
  have hz : ∀ k, (nth q k).toNat ≠ 0 → k < q.length := fun k h => by
    rcases Nat.lt_or_ge k q.length with h' | h'
    · exact h'
    · exact absurd (by rw [nth_end h']; rfl) h
  rcases h : simple (nth q 1) with _ | b
  · simp only
    split
    · rename_i h2
      have := hz _ (show (nth q (3 + spn isHex (q.drop 3))).toNat ≠ 0 by rw [h2.2.2.2.2]; decide)
      split
      · exact ⟨by omega, by omega⟩
      · exact (by decide : (16 : Int) ≠ 0)
    · exact (by decide : (13 : Int) ≠ 0)
  · simp only
    have := hz 1 (simple_nz h)
    exact ⟨by omega, by omega⟩
theorem strB_bd : ∀ (f : Nat) (r : List UInt8) (i : Nat) (acc : List UInt8), 1 ≤ i → i ≤ r.length → r.length < i + f → (strB f r i acc).In r
  | 0, r, i, acc, h0, h1, h2 => by omega
  | f + 1, r, i, acc, h0, h1, h2 => by
    unfold strB
    by_cases hi : r.length ≤ i
    · rw [if_pos hi]; exact ⟨Nat.le_refl _, by decide⟩
    · rw [if_neg hi]
      have hne : r.drop i ≠ [] := fun e => by have := congrArg List.length e; simp at this; omega
      have hl : (r.drop i).length = r.length - i := List.length_drop
      by_cases hq : (nth r i).toNat = 34
      · rw [if_pos hq]; exact ⟨by omega, by omega⟩
      · rw [if_neg hq]
        by_cases hb : (nth r i).toNat = 92
        · rw [if_pos hb]
          have he := esc_bd (q := r.drop i) (by omega)
          rcases hes : esc (r.drop i) with ⟨n, b⟩ | ⟨e⟩ <;> rw [hes] at he
          · have he' : 2 ≤ n ∧ n ≤ (r.drop i).length := he
            exact strB_bd f r _ _ (by omega) (by omega) (by omega)
          · exact ⟨h1, he⟩
        · rw [if_neg hb]
          split
          · exact ⟨h1, by decide⟩
          · split
            · exact ⟨h1, by decide⟩
            · have hd := dec_bd hne
              exact strB_bd f r _ _ (by omega) (by omega) (by omega)
theorem lexS_in {r : List UInt8} (h : 1 ≤ r.length) : (lexS r).In r := by
  unfold lexS
  have := strB_bd (r.length + 1) r 1 [] (by omega) (by omega) (by omega)
  rcases hsb : strB (r.length + 1) r 1 [] with ⟨n, b⟩ | ⟨o, e⟩ <;> rw [hsb] at this
  · simp only
    split
    · exact ⟨by omega, by decide⟩
    · exact this
  · exact this
theorem lexX_in {r : List UInt8} (h : 1 ≤ r.length) : (lexX r).In r := by
  unfold lexX
  split
  · exact ⟨Nat.le_refl _, by decide⟩
  · split
    · exact ⟨by omega, by decide⟩
    · split
      · exact ⟨by omega, by decide⟩
      · exact ⟨by omega, by omega⟩
theorem lexW_in {r : List UInt8} (h : 1 ≤ r.length) (hp : isLet (nth r 0) = true) : (lexW r).In r := by
  have h1 := spn_le isPart r
  have h2 : 1 ≤ spn isPart r := spn_pos (l := r) (i := 0) (by omega) (by unfold isPart; rw [hp]; rfl)
  unfold lexW
  split
  · exact ⟨by omega, by decide⟩
  · exact ⟨h2, h1⟩
theorem numN_bd {r : List UInt8} (h : 1 ≤ r.length) (hp : isDig (nth r 0) = true) : 1 ≤ (numN r).2 ∧ (numN r).2 ≤ (numN r).1 ∧ (numN r).1 ≤ r.length := by
  have h1 := spn_le isDig r
  have h2 : 1 ≤ spn isDig r := spn_pos (l := r) (i := 0) (by omega) hp
  have hz : ∀ k, (nth r k).toNat ≠ 0 → k < r.length := fun k h => by
    rcases Nat.lt_or_ge k r.length with h' | h'
    · exact h'
    · exact absurd (by rw [nth_end h']; rfl) h
  unfold numN
  split
  · rename_i h3
    have := spn_bd isDig r (i := spn isDig r + 1) (by have := hz _ (show (nth r (spn isDig r)).toNat ≠ 0 by rw [h3.1]; decide); omega)
    simp only
    omega
  · split
    · rename_i h3
      have := hz _ (show (nth r (spn isDig r)).toNat ≠ 0 by rw [h3.1]; decide)
      simp only
      omega
    · simp only
      omega
theorem lexN_in {r : List UInt8} (h : 1 ≤ r.length) (hp : isDig (nth r 0) = true) : (lexN r).In r := by
  have := numN_bd h hp
  unfold lexN
  split
  · exact ⟨by omega, by decide⟩
  · split
    · rename_i h2
      exact ⟨by omega, h2⟩
    · exact ⟨by omega, by omega⟩
theorem pair_len {r : List UInt8} (h : r.take 2 ∈ pairsL) : 2 ≤ r.length := by
  have : (r.take 2).length = 2 := by
    unfold pairsL at h
    simp only [List.mem_cons, List.not_mem_nil, or_false] at h
    rcases h with h | h | h | h | h <;> rw [h] <;> rfl
  rw [List.length_take] at this
  omega
theorem lexY_in {r : List UInt8} (h : 1 ≤ r.length) : (lexY r).In r := by
  unfold lexY
  split
  · rename_i h2
    have := pair_len h2
    exact ⟨by omega, by omega⟩
  · split
    · exact ⟨by omega, by omega⟩
    · exact ⟨by omega, by decide⟩
theorem lex1_in {r : List UInt8} (h : 1 ≤ r.length) : (lex1 r).In r := by
  unfold lex1
  split
  · exact lexX_in h
  · split
    · rename_i h2; exact lexW_in h h2
    · split
      · rename_i h2; exact lexN_in h h2
      · split
        · exact lexS_in h
        · exact lexY_in h
end Go.Proofs.YtmchiibbodllaaaGreatDoor
