/- Plain facts: how the text of a stamp is read. Nothing here walks a program. -/
import Derived.Test.YtjldpodehffbnaaDoorText
import Derived.Test.YtjldpodehffbnaaDoorTextM2
namespace Go.Proofs.YtjldpodehffbnaaDoor
set_option linter.unusedVariables false
set_option linter.unnecessarySimpa false
set_option linter.unusedSimpArgs false

/-- The number that a text of up to seven digits is the text of. -/
def num (s : List UInt8) : Option Int := match Lib.atoiAll s with
  | .ok v => if s.length ≤ 7 ∧ Lib.itoa v = s then some v else none
  | _ => none
theorem num_some {s : List UInt8} {v : Int} (h : num s = some v) : Lib.itoa v = s := by
  unfold num at h
  split at h
  · split at h
    · rename_i h1; cases h; exact h1.2
    · cases h
  · cases h
theorem itoa_asc {n : Int} (h : 0 ≤ n) : ∃ L, Dig L ∧ L ≠ [] ∧ valD L = (n.natAbs : Int) ∧ Lib.itoa n = ascL L := by
  refine ⟨lowL (digs n.natAbs) (max (digs n.natAbs).length 1), lowL_dig (dig_digs _) _, ?_, ?_, ?_⟩
  · intro h0
    have := congrArg List.length h0
    rw [lowL_len, List.length_nil] at this
    omega
  · rw [lowL_val, List.take_of_length_le (by omega)]
    exact valD_digs _
  · rw [itoa_low h, lowN_map]; rfl
theorem num_itoa {n : Int} (h0 : 0 ≤ n) (h1 : n ≤ 9999999) : num (Lib.itoa n) = some n := by
  obtain ⟨L, hd, hne, hv, he⟩ := itoa_asc h0
  have ha := atoi_num hd hne hv (by omega)
  rw [if_neg (by omega), List.nil_append] at ha
  unfold num
  have hl := itoa_len h0 h1
  rw [← he] at ha
  rw [ha]
  simp only
  simp [hl]
theorem itoa_no {n : Int} (h0 : 0 ≤ n) (c : UInt8) (hc : c.toNat < 48) : ∀ b ∈ Lib.itoa n, c ≠ b := by
  obtain ⟨L, hd, _, _, he⟩ := itoa_asc h0
  rw [he]
  intro b hb h
  unfold ascL at hb
  rw [List.mem_reverse] at hb
  obtain ⟨d, hm, rfl⟩ := List.mem_map.1 hb
  have := asc_toNat (hd d hm).1 (hd d hm).2
  rw [← h] at this
  omega
theorem num_nil : num [] = none := by unfold num; simp [Lib.atoiAll]

/-- What lies between the points of a text. -/
def pieces : List UInt8 → List (List UInt8)
  | [] => [[]]
  | c :: r => if c = 46 then [] :: pieces r else match pieces r with
    | [] => [[c]]
    | p :: ps => (c :: p) :: ps
theorem pieces_ne : ∀ (t : List UInt8), pieces t ≠ []
  | [] => by simp [pieces]
  | c :: r => by
    unfold pieces
    split
    · simp
    · split <;> simp
theorem pieces_no : ∀ {l : List UInt8}, (∀ b ∈ l, (46 : UInt8) ≠ b) → pieces l = [l]
  | [], _ => rfl
  | c :: r, h => by
    unfold pieces
    rw [if_neg (fun e => h c (by simp) e.symm), pieces_no fun b hb => h b (by simp [hb])]
theorem pieces_app : ∀ {l r : List UInt8}, (∀ b ∈ l, (46 : UInt8) ≠ b) → pieces (l ++ 46 :: r) = l :: pieces r
  | [], r, _ => by simp [pieces]
  | c :: l, r, h => by
    have ih := pieces_app (l := l) (r := r) fun b hb => h b (by simp [hb])
    rw [List.cons_append]
    conv => lhs; unfold pieces
    rw [if_neg (fun e => h c (by simp) e.symm), ih]
theorem join_pieces : ∀ (t : List UInt8), Lib.join (pieces t) [46] = t
  | [] => by simp [pieces, Lib.join_cons, Lib.joinTail]
  | c :: r => by
    have ih := join_pieces r
    have hn := pieces_ne r
    unfold pieces
    split
    · rename_i h
      subst h
      cases hp : pieces r with
      | nil => exact absurd hp hn
      | cons p ps =>
        rw [hp, Lib.join_cons] at ih
        rw [Lib.join_cons]
        simp only [Lib.joinTail, List.map_cons, List.flatten_cons, List.nil_append, List.cons_append, List.append_assoc] at ih ⊢
        rw [← ih]
    · cases hp : pieces r with
      | nil => exact absurd hp hn
      | cons p ps =>
        rw [hp, Lib.join_cons] at ih
        simp only
        rw [Lib.join_cons, ← ih]
        simp
theorem pieces_join : ∀ {ls : List (List UInt8)}, ls ≠ [] → (∀ l ∈ ls, ∀ b ∈ l, (46 : UInt8) ≠ b) → pieces (Lib.join ls [46]) = ls
  | [], h, _ => absurd rfl h
  | [l], _, h => by
    rw [Lib.join_cons]
    simp only [Lib.joinTail, List.map_nil, List.flatten_nil, List.append_nil]
    exact pieces_no (h l (by simp))
  | l :: k :: ls, _, h => by
    have ih := pieces_join (ls := k :: ls) (by simp) (fun x hx => h x (by simp [hx]))
    rw [Lib.join_cons] at ih ⊢
    simp only [Lib.joinTail, List.map_cons, List.flatten_cons, List.cons_append, List.nil_append] at ih ⊢
    rw [pieces_app (h l (by simp)), ih]
/-- A text has a byte, or has it not. -/
theorem cut_or (c : UInt8) : ∀ (t : List UInt8), (∀ b ∈ t, c ≠ b) ∨ ∃ l r, t = l ++ c :: r ∧ ∀ b ∈ l, c ≠ b
  | [] => .inl (by simp)
  | a :: t => by
    by_cases h : c = a
    · subst h; exact .inr ⟨[], t, rfl, by simp⟩
    · rcases cut_or c t with h1 | ⟨l, r, rfl, h1⟩
      · exact .inl fun b hb => by
          rcases List.mem_cons.1 hb with rfl | hb
          · exact h
          · exact h1 b hb
      · exact .inr ⟨a :: l, r, rfl, fun b hb => by
          rcases List.mem_cons.1 hb with rfl | hb
          · exact h
          · exact h1 b hb⟩

def nums : List (List UInt8) → Option (List Int)
  | [] => some []
  | s :: r => match num s with
    | none => none
    | some v => match nums r with
      | none => none
      | some vs => some (v :: vs)
theorem nums_some : ∀ {l : List (List UInt8)} {xs : List Int}, nums l = some xs → xs.map Lib.itoa = l
  | [], xs, h => by cases h; rfl
  | s :: r, xs, h => by
    unfold nums at h
    split at h
    · cases h
    · rename_i v hv
      split at h
      · cases h
      · rename_i vs hvs
        cases h
        rw [List.map_cons, num_some hv, nums_some hvs]
theorem nums_itoa : ∀ {xs : List Int}, (∀ x ∈ xs, 0 ≤ x ∧ x ≤ 9999999) → nums (xs.map Lib.itoa) = some xs
  | [], _ => rfl
  | x :: xs, h => by
    rw [List.map_cons]
    unfold nums
    rw [num_itoa (h x (by simp)).1 (h x (by simp)).2]
    simp only
    rw [nums_itoa fun y hy => h y (by simp [hy])]
theorem nums_app_none {l : List (List UInt8)} {s : List UInt8} {r : List (List UInt8)} (h : num s = none) : nums (l ++ s :: r) = none := by
  induction l with
  | nil => simp [nums, h]
  | cons a l ih =>
    rw [List.cons_append]
    unfold nums
    split
    · rfl
    · rw [ih]
theorem nums_snoc {l : List (List UInt8)} {xs : List Int} {s : List UInt8} {v : Int} (hl : nums l = some xs) (h : num s = some v) : nums (l ++ [s]) = some (xs ++ [v]) := by
  induction l generalizing xs with
  | nil => cases hl; simp [nums, h]
  | cons a l ih =>
    rw [List.cons_append]
    unfold nums at hl ⊢
    split at hl
    · cases hl
    · split at hl
      · cases hl
      · rename_i vs hvs
        cases hl
        rw [ih hvs]
        rfl
theorem nums_len {l : List (List UInt8)} {xs : List Int} (h : nums l = some xs) : xs.length = l.length := by
  have := congrArg List.length (nums_some h)
  simpa using this

/-- The stamp that a text is the text of. -/
def parseS (t : List UInt8) : Option (Int × List Int) :=
  match num (Lib.cut t [47]).1 with
  | none => none
  | some e => match nums (pieces (Lib.cut t [47]).2.1) with
    | none => none
    | some xs => if checkS e xs = 0 then some (e, xs) else none
theorem cutS_app {l r : List UInt8} (h : ∀ b ∈ l, (47 : UInt8) ≠ b) : Lib.cut (l ++ 47 :: r) [47] = (l, r, true) := by
  unfold Lib.cut
  rw [index_app h, if_pos (by omega)]
  simp
theorem cutS_no {l : List UInt8} (h : ∀ b ∈ l, (47 : UInt8) ≠ b) : Lib.cut l [47] = (l, [], false) := by
  unfold Lib.cut
  rw [index_no h, if_neg (by omega)]
theorem parseS_some {t : List UInt8} {e : Int} {xs : List Int} (h : parseS t = some (e, xs)) : checkS e xs = 0 ∧ textL e xs = t := by
  unfold parseS at h
  split at h
  · cases h
  rename_i v hv
  split at h
  · cases h
  rename_i ys hys
  split at h
  · rename_i hc
    cases h
    refine ⟨hc, ?_⟩
    unfold textL
    rw [num_some hv, nums_some hys, join_pieces]
    rcases cut_or 47 t with h1 | ⟨l, r, rfl, h1⟩
    · rw [cutS_no h1] at hys
      exfalso
      simp [pieces, nums, num_nil] at hys
    · rw [cutS_app h1]
  · cases h
theorem parseS_text {e : Int} {xs : List Int} (h : checkS e xs = 0) (he : 0 ≤ e ∧ e ≤ 9999999) (hx : ∀ x ∈ xs, 0 ≤ x ∧ x ≤ 9999999) (hn : xs ≠ []) : parseS (textL e xs) = some (e, xs) := by
  have hp : pieces (Lib.join (xs.map Lib.itoa) [46]) = xs.map Lib.itoa := pieces_join (by simpa using hn) (fun l hl => by
    obtain ⟨x, hm, rfl⟩ := List.mem_map.1 hl
    exact itoa_no (hx x hm).1 46 (by decide))
  unfold parseS textL
  rw [cutS_app (itoa_no he.1 47 (by decide)), num_itoa he.1 he.2]
  simp only
  rw [hp, nums_itoa hx]
  simp only
  rw [if_pos h]
end Go.Proofs.YtjldpodehffbnaaDoor
