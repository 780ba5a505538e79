/- Plain Lean: lists of tokens, what is printed of them, and that it is read again. -/
import Derived.Test.YtmchiibbodllaaaGreatDoorRel4
import Derived.Test.YtmchiibbodllaaaGreatDoorLexM2
namespace Go.Proofs.YtmchiibbodllaaaGreatDoor
set_option linter.unusedVariables false
set_option linter.unnecessarySimpa false
set_option linter.unusedSimpArgs false

/-- A token as the program has it. -/
structure Tn where
  k : Int
  ln : Int
  cl : Int
  tx : List UInt8
  v : List UInt8
  n : Int
  s : Int
  j : Bool
def Tn.key (t : Tn) : Int × List UInt8 × List UInt8 × Int × Int × Bool := (t.k, t.tx, t.v, t.n, t.s, t.j)
def Tn.full (t : Tn) : (Int × Int) × (Int × List UInt8 × List UInt8 × Int × Int × Bool) := ((t.ln, t.cl), t.key)
theorem Tn.ext' {a b : Tn} (h : a.full = b.full) : a = b := by
  cases a; cases b
  simp only [Tn.full, Tn.key, Prod.mk.injEq] at h
  obtain ⟨⟨h1, h2⟩, h3, h4, h5, h6, h7, h8⟩ := h
  subst h1 h2 h3 h4 h5 h6 h7 h8
  rfl
def lnI (l : List UInt8) (i : Nat) : Int × Int := (((lc (l.take i)).1 : Int), ((lc (l.take i)).2 : Int))
def tnOf (l : List UInt8) (p : Pl) : Tn := ⟨p.t.k, (lnI l p.i).1, (lnI l p.i).2, p.t.tx, p.t.v, p.t.n, p.t.s, p.j⟩
def tnEnd (l : List UInt8) : Tn := ⟨0, (lnI l l.length).1, (lnI l l.length).2, [], [], 0, 0, false⟩
def toks (l : List UInt8) (ts : List Pl) : List Tn := ts.map (tnOf l) ++ [tnEnd l]
theorem toks_len (l : List UInt8) (ts : List Pl) : (toks l ts).length = ts.length + 1 := by unfold toks; simp
def qtL (v : List UInt8) : List UInt8 := if Lib.validD v = true then quoteL v else []
def body (t : Tn) : List UInt8 := if t.k = 3 then qtL t.v else if t.k = 4 then quoteB t.v else t.tx
/-- What written writes: fst is false behind the first token of the list. -/
def wrL : Bool → List Tn → List UInt8
  | _, [] => []
  | fst, t :: r => if t.k = 0 then wrL false r else (if fst = true ∨ t.j = true then [] else [32]) ++ (body t ++ wrL false r)
/-- What Print writes: fst is false behind the first token that is not End. -/
def prL : Bool → List Tn → List UInt8
  | _, [] => []
  | fst, t :: r => if t.k = 0 then prL fst r else (if fst = true ∨ t.j = true then [] else [32]) ++ (body t ++ prL false r)
theorem pr_wr {e : Tn} (he : e.k = 0) : ∀ (r : List Tn) (fst : Bool), (∀ t ∈ r, t.k ≠ 0) → prL fst (r ++ [e]) = wrL fst (r ++ [e])
  | [], fst, _ => by simp [prL, wrL, he]
  | t :: r, fst, h => by
    have ht := h t (List.mem_cons_self)
    rw [List.cons_append, prL, wrL, if_neg ht, if_neg ht, pr_wr he r false (fun x hx => h x (List.mem_cons_of_mem _ hx))]
theorem lex1_k {q : List UInt8} {n : Nat} {t : Tk} (h : lex1 q = .ok n t) : 1 ≤ t.k := by
  unfold lex1 at h
  split at h
  · unfold lexX at h
    repeat' split at h
    all_goals first | (injection h with _ h2; rw [← h2]; dsimp only; omega) | cases h
  · split at h
    · unfold lexW at h
      split at h
      · cases h
      · injection h with _ h2; rw [← h2]; dsimp only; omega
    · split at h
      · unfold lexN at h
        repeat' split at h
        all_goals first | (injection h with _ h2; rw [← h2]; dsimp only; omega) | cases h
      · split at h
        · have := (lexS_valid h).2.2.1
          omega
        · unfold lexY at h
          repeat' split at h
          all_goals first | (injection h with _ h2; rw [← h2]; dsimp only; omega) | cases h
theorem escLen {q : List UInt8} {n : Nat} {l : List UInt8} (h : esc q = .ok n l) : l.length ≤ n := by
  unfold esc at h
  rcases hs : simple (nth q 1) with _ | b <;> rw [hs] at h
  · simp only at h
    split at h
    · rename_i h2
      split at h
      · injection h with h3 h4
        subst h3 h4
        have : (Utf8.encode (hexN ((q.drop 3).take (spn isHex (q.drop 3))))).data.toList.length ≤ 4 := by
          unfold Utf8.encode
          simp only
          repeat' split
          all_goals exact Nat.le_of_ble_eq_true rfl
        omega
      · cases h
    · cases h
  · simp only at h
    injection h with h3 h4
    subst h3 h4
    simp
theorem strB_len : ∀ (f : Nat) (r : List UInt8) (i : Nat) (acc : List UInt8) {n : Nat} {b : List UInt8}, strB f r i acc = .ok n b → b.length + i + 1 ≤ acc.length + n
  | 0, r, i, acc, n, b, h => by simp [strB] at h
  | f + 1, r, i, acc, n, b, h => by
    unfold strB at h
    split at h
    · cases h
    · split at h
      · injection h with h1 h2
        subst h1 h2
        omega
      · split at h
        · rcases he : esc (r.drop i) with ⟨m, c⟩ | ⟨e⟩ <;> rw [he] at h
          · have := strB_len f r _ _ h
            have := escLen he
            rw [List.length_append] at *
            omega
          · cases h
        · split at h
          · cases h
          · split at h
            · cases h
            · have := strB_len f r _ _ h
              rw [List.length_append, List.length_take] at *
              omega
theorem qcLen (c : UInt8) : (qc c).length ≤ 6 := by
  have := hexs_len c
  unfold qc
  repeat' split
  all_goals (simp only [List.length_cons, List.length_append, List.length_nil]; omega)
theorem qsLen : ∀ v : List UInt8, (qs v).length ≤ 6 * v.length
  | [] => by simp [qs]
  | c :: r => by
    have h1 := qcLen c
    have h2 := qsLen r
    simp only [qs, List.length_append, List.length_cons]
    omega
theorem quoteL_len (v : List UInt8) : (quoteL v).length ≤ 6 * v.length + 2 := by
  have := qsLen v
  unfold quoteL
  simp only [List.length_cons, List.length_append, List.length_nil]
  omega
theorem quoteB_len (v : List UInt8) : (quoteB v).length = 2 * v.length + 3 := by
  have := qb_len v
  unfold quoteB
  simp only [List.length_cons, List.length_append, List.length_nil]
  omega
theorem qtL_len (v : List UInt8) : (qtL v).length ≤ 6 * v.length + 2 := by
  unfold qtL
  split
  · exact quoteL_len v
  · simp
theorem body_len (t : Tn) : (body t).length ≤ 6 * (t.tx.length + t.v.length) + 3 := by
  have := qtL_len t.v
  have := quoteB_len t.v
  unfold body
  repeat' split
  all_goals omega
theorem wrL_len (m : Nat) : ∀ (l : List Tn) (fst : Bool), (∀ t ∈ l, t.tx.length + t.v.length ≤ m) → (wrL fst l).length ≤ l.length * (6 * m + 4)
  | [], _, _ => by simp [wrL]
  | t :: r, fst, h => by
    have h1 := body_len t
    have h2 := wrL_len m r false (fun x hx => h x (List.mem_cons_of_mem _ hx))
    have h3 := h t (List.mem_cons_self)
    rw [wrL, List.length_cons, Nat.succ_mul]
    split
    · omega
    · split
      all_goals (simp only [List.length_cons, List.length_append, List.length_nil]; omega)
theorem prL_len (m : Nat) : ∀ (l : List Tn) (fst : Bool), (∀ t ∈ l, t.tx.length + t.v.length ≤ m) → (prL fst l).length ≤ l.length * (6 * m + 4)
  | [], _, _ => by simp [prL]
  | t :: r, fst, h => by
    have h1 := body_len t
    have h2 := prL_len m r false (fun x hx => h x (List.mem_cons_of_mem _ hx))
    have h4 := prL_len m r fst (fun x hx => h x (List.mem_cons_of_mem _ hx))
    have h3 := h t (List.mem_cons_self)
    rw [prL, List.length_cons, Nat.succ_mul]
    split
    · omega
    · split
      all_goals (simp only [List.length_cons, List.length_append, List.length_nil]; omega)
theorem prn_len {q : List UInt8} {n : Nat} {t : Tk} (hq : 1 ≤ q.length) (h : lex1 q = .ok n t) : (prn t).length ≤ 6 * n ∧ 1 ≤ n ∧ t.tx.length ≤ n ∧ t.v.length ≤ n := by
  have hn : 1 ≤ n := by have := lex1_in hq; rw [h] at this; exact this.1
  rcases lex1_tok hq h with ⟨h1, h2, h3⟩ | ⟨h1, h2, h3⟩ | ⟨h1, h2, h3⟩
  · have hl : t.tx.length ≤ n := by rw [h1, List.length_take]; omega
    refine ⟨by unfold prn; rw [if_neg h2.1, if_neg h2.2]; omega, hn, hl, ?_⟩
    unfold lex1 at h
    split at h
    · unfold lexX at h
      repeat' split at h
      all_goals first | (exfalso; injection h with _ h5; exact h2.2 (by rw [← h5])) | cases h
    · split at h
      · unfold lexW at h
        split at h
        · cases h
        · injection h with _ h5; rw [← h5]; simp
      · split at h
        · unfold lexN at h
          repeat' split at h
          all_goals first | (injection h with _ h5; rw [← h5]; simp) | cases h
        · split at h
          · exact absurd (lexS_valid h).2.2.1 h2.1
          · unfold lexY at h
            repeat' split at h
            all_goals first | (injection h with _ h5; rw [← h5]; simp) | cases h
  · have hk : t.k = 3 := by rw [h1]
    have htx : t.tx = [] := by rw [h1]
    have hs : lexS q = .ok n t := by
      obtain ⟨a', ha⟩ := h3
      have h0 : nth q 0 = 34 := by
        have := congrArg (fun l => nth l 0) ha
        simp only [nth_take (show 0 < n by omega)] at this
        simpa [nth] using this
      unfold lex1 at h
      rw [if_neg (by rw [h0]; intro e; exact absurd e.1 (by decide)), if_neg (by rw [h0]; decide), if_neg (by rw [h0]; decide), if_pos (by rw [h0]; rfl)] at h
      exact h
    unfold lexS at hs
    rcases hb : strB (q.length + 1) q 1 [] with ⟨m, b⟩ | ⟨o, e⟩ <;> rw [hb] at hs
    · simp only at hs
      split at hs
      · cases hs
      · injection hs with h5 h6
        subst h5 h6
        have := strB_len _ _ _ _ hb
        have h7 := quoteL_len b
        simp only [List.length_nil] at this
        refine ⟨?_, hn, by simp, by simp only; omega⟩
        unfold prn
        rw [if_pos rfl]
        simp only
        omega
    · cases hs
  · have hk : t.k = 4 := by rw [h1]
    have htx : t.tx = [] := by rw [h1]
    have hs : lexX q = .ok n t := by
      unfold lex1 at h
      split at h
      · exact h
      · exfalso
        split at h
        · unfold lexW at h
          split at h
          · cases h
          · injection h with _ h5; rw [← h5] at hk; (dsimp only at hk; omega)
        · split at h
          · unfold lexN at h
            repeat' split at h
            all_goals first | (injection h with _ h5; rw [← h5] at hk; (dsimp only at hk; omega)) | cases h
          · split at h
            · have := (lexS_valid h).2.2.1
              omega
            · unfold lexY at h
              repeat' split at h
              all_goals first | (injection h with _ h5; rw [← h5] at hk; (dsimp only at hk; omega)) | cases h
    unfold lexX at hs
    split at hs
    · cases hs
    · split at hs
      · cases hs
      · split at hs
        · cases hs
        · rename_i hx1 hx2 hx3
          injection hs with h5 h6
          subst h5 h6
          have hu := unhex_len ((q.drop 2).take (spn isHex (q.drop 2))).length _ (Nat.le_refl _)
          rw [List.length_take] at hu
          have h7 := quoteB_len (unhex ((q.drop 2).take (spn isHex (q.drop 2))))
          refine ⟨?_, hn, by simp, by simp only; omega⟩
          unfold prn
          rw [if_neg (by dsimp only; omega), if_pos rfl]
          simp only
          omega
theorem body_prn {a : List UInt8} {l : List UInt8} {p : Pl} (h : Tok a p.t) : body (tnOf l p) = prn p.t := by
  show (if p.t.k = 3 then qtL p.t.v else if p.t.k = 4 then quoteB p.t.v else p.t.tx) = prn p.t
  unfold prn
  rcases h with ⟨h1, h2, h3⟩ | ⟨h1, h2, h3⟩ | ⟨h1, h2, h3⟩
  · simp only [if_neg h2.1, if_neg h2.2]
  · have hk : p.t.k = 3 := by rw [h1]
    simp only [if_pos hk]
    unfold qtL
    rw [if_pos h2.1]
  · have hk : p.t.k = 4 := by rw [h1]
    simp only [hk, if_neg (show ¬ (4 : Int) = 3 by decide), if_true]
/-- What is written of the tokens of a text. -/
theorem wr_plc (l : List UInt8) : ∀ (ps : List Pc) (r : List UInt8) (i : Nat), Run r ps → wrL false ((plc i false ps).map (tnOf l) ++ [tnEnd l]) = bld [32] [] ps
  | [], r, i, h => by simp [plc, wrL, bld, tnEnd]
  | p :: ps, r, i, h => by
    obtain ⟨h1, h2, h3, h4⟩ := h
    have hk := lex1_k h3
    have hq : 1 ≤ (r.drop p.g).length := by rw [List.length_drop]; omega
    have htok := lex1_tok hq h3
    rw [plc, List.map_cons, List.cons_append, wrL, if_neg (by show p.t.k ≠ 0; omega), wr_plc l ps _ _ h4, bld]
    congr 1
    · show (if false = true ∨ (!false && decide (p.g = 0)) = true then [] else [32]) = _
      by_cases hg : p.g = 0 <;> simp [hg]
    · congr 1
      exact body_prn (p := ⟨i + p.g, !false && decide (p.g = 0), p.t⟩) htok
theorem wr_plc0 (l : List UInt8) {ps : List Pc} {r : List UInt8} (h : Run r ps) : wrL true ((plc 0 true ps).map (tnOf l) ++ [tnEnd l]) = bld0 [] [32] [] ps := by
  cases ps with
  | nil => simp [plc, wrL, bld0, tnEnd]
  | cons p ps =>
    obtain ⟨h1, h2, h3, h4⟩ := h
    have hk := lex1_k h3
    have hq : 1 ≤ (r.drop p.g).length := by rw [List.length_drop]; omega
    have htok := lex1_tok hq h3
    rw [plc, List.map_cons, List.cons_append, wrL, if_neg (by show p.t.k ≠ 0; omega), wr_plc l ps _ _ h4, bld0, if_pos (.inl rfl), List.nil_append, List.nil_append]
    congr 1
    exact body_prn (p := ⟨0 + p.g, !true && decide (p.g = 0), p.t⟩) htok
theorem plc_k {l : List UInt8} : ∀ (ps : List Pc) (r : List UInt8) (i : Nat) (fst : Bool), Run r ps → ∀ t ∈ (plc i fst ps).map (tnOf l), t.k ≠ 0
  | [], r, i, fst, h, t, ht => by simp [plc] at ht
  | p :: ps, r, i, fst, h, t, ht => by
    obtain ⟨h1, h2, h3, h4⟩ := h
    rw [plc, List.map_cons, List.mem_cons] at ht
    rcases ht with rfl | ht
    · have := lex1_k h3
      show p.t.k ≠ 0
      omega
    · exact plc_k ps _ _ _ h4 t ht
theorem bld_len (mid tail : List UInt8) : ∀ (ps : List Pc) (r : List UInt8), Run r ps → (bld mid tail ps).length ≤ (mid.length + 6) * r.length + tail.length
  | [], r, h => by rw [bld]; exact Nat.le_add_left _ _
  | p :: ps, r, h => by
    obtain ⟨h1, h2, h3, h4⟩ := h
    have hq : 1 ≤ (r.drop p.g).length := by rw [List.length_drop]; omega
    obtain ⟨hp, hn, -, -⟩ := prn_len hq h3
    have ih := bld_len mid tail ps _ h4
    have hnl : p.n ≤ (r.drop p.g).length := by have := lex1_in hq; rw [h3] at this; exact this.2
    rw [List.length_drop] at ih hnl
    have e : r.length = (r.length - (p.g + p.n)) + (p.g + p.n) := by omega
    generalize hR : r.length - (p.g + p.n) = R at *
    rw [bld, e, Nat.mul_add]
    have h5 : (mid.length + 6) * 1 ≤ (mid.length + 6) * p.n := Nat.mul_le_mul_left _ hn
    have h6 : (mid.length + 6) * (p.g + p.n) = (mid.length + 6) * p.g + mid.length * p.n + 6 * p.n := by rw [Nat.mul_add, Nat.add_mul _ _ p.n]; omega
    have h7 : mid.length * 1 ≤ mid.length * p.n := Nat.mul_le_mul_left _ hn
    have h8 : (if p.g = 0 then [] else mid).length ≤ mid.length := by split <;> simp
    rw [List.length_append, List.length_append, h6]
    omega
theorem bld0_len (head mid tail : List UInt8) {ps : List Pc} {r : List UInt8} (h : Run r ps) : (bld0 head mid tail ps).length ≤ head.length + (mid.length + 6) * r.length + tail.length := by
  cases ps with
  | nil => rw [bld0, List.length_append]; omega
  | cons p ps =>
    have := bld_len [] [] (p :: ps) r h
    obtain ⟨h1, h2, h3, h4⟩ := h
    have hq : 1 ≤ (r.drop p.g).length := by rw [List.length_drop]; omega
    obtain ⟨hp, hn, -, -⟩ := prn_len hq h3
    have ih := bld_len mid tail ps _ h4
    have hnl : p.n ≤ (r.drop p.g).length := by have := lex1_in hq; rw [h3] at this; exact this.2
    rw [List.length_drop] at ih hnl
    have e : r.length = (r.length - (p.g + p.n)) + (p.g + p.n) := by omega
    generalize hR : r.length - (p.g + p.n) = R at *
    rw [bld0, e, Nat.mul_add]
    have h6 : (mid.length + 6) * (p.g + p.n) = (mid.length + 6) * p.g + mid.length * p.n + 6 * p.n := by rw [Nat.mul_add, Nat.add_mul _ _ p.n]; omega
    rw [List.length_append, List.length_append, h6]
    omega
theorem key_of {l l' : List UInt8} {ts ts' : List Pl} (h : ts.map Pl.key = ts'.map Pl.key) : (toks l ts).map Tn.key = (toks l' ts').map Tn.key := by
  have e : ∀ (m : List UInt8) (us : List Pl), (us.map (tnOf m)).map Tn.key = (us.map Pl.key).map (fun x => (x.2.k, x.2.tx, x.2.v, x.2.n, x.2.s, x.1)) := by
    intro m us
    rw [List.map_map, List.map_map]
    rfl
  unfold toks
  rw [List.map_append, List.map_append, e, e, h]
  rfl
/-- The tokens of a text, printed, are read again. -/
theorem print_again {l : List UInt8} {ts : List Pl} (h : scanL l = .ok ts) :
    prL true (toks l ts) = wrL true (toks l ts) ∧ (wrL true (toks l ts)).length ≤ 7 * l.length ∧ ∃ ts', scanL (wrL true (toks l ts)) = .ok ts' ∧ ∀ l' l'', (toks l' ts).map Tn.key = (toks l'' ts').map Tn.key := by
  obtain ⟨ps, hr, rfl, hc⟩ := scanL_ok h
  have hw := wr_plc0 l hr
  refine ⟨pr_wr rfl _ _ (plc_k ps _ _ _ hr), ?_, ?_⟩
  · unfold toks
    rw [hw]
    have := bld0_len [] [32] [] hr
    simp only [List.length_nil, List.length_cons] at this
    omega
  · obtain ⟨ts', h1, h2⟩ := relex (head := []) (mid := [32]) (tail := []) Blank.nil (fun z => by show blk false (32 :: z) = _; rw [blk]; rfl) (by decide) (by decide) hr hc
    unfold toks
    rw [hw]
    exact ⟨ts', h1, fun l' l'' => key_of h2.symm⟩

/-! ### Behind one more token -/
theorem wrL_snoc (x : Tn) : ∀ (a : List Tn) (fst : Bool), wrL fst (a ++ [x]) = wrL fst a ++ (if x.k = 0 then [] else (if (fst = true ∧ a = []) ∨ x.j = true then [] else [32]) ++ body x)
  | [], fst => by
    simp only [List.nil_append, wrL, List.append_nil, and_true]
  | t :: a, fst => by
    rw [List.cons_append, wrL, wrL, wrL_snoc x a false]
    split
    · simp
    · simp [List.append_assoc]
def allE (a : List Tn) : Bool := a.all (fun t => decide (t.k = 0))
theorem prL_snoc (x : Tn) : ∀ (a : List Tn) (fst : Bool), prL fst (a ++ [x]) = prL fst a ++ (if x.k = 0 then [] else (if (fst = true ∧ allE a = true) ∨ x.j = true then [] else [32]) ++ body x)
  | [], fst => by
    simp only [List.nil_append, prL, List.append_nil, allE, List.all_nil, and_true]
  | t :: a, fst => by
    rw [List.cons_append, prL, prL]
    by_cases h : t.k = 0
    · rw [if_pos h, if_pos h, prL_snoc x a fst]
      simp [allE, h]
    · rw [if_neg h, if_neg h, prL_snoc x a false]
      simp [allE, h, List.append_assoc]
theorem allE_snoc (x : Tn) (a : List Tn) : allE (a ++ [x]) = (allE a && decide (x.k = 0)) := by
  unfold allE
  rw [List.all_append]
  simp
/-- The text of LexerBlanks. -/
def brL (mid : List UInt8) : Bool → List Tn → List UInt8
  | _, [] => []
  | fst, t :: r => (if fst = true ∨ t.j = true then [] else mid) ++ (wrL true [t] ++ brL mid false r)
theorem brL_snoc (mid : List UInt8) (x : Tn) : ∀ (a : List Tn) (fst : Bool), brL mid fst (a ++ [x]) = brL mid fst a ++ ((if (fst = true ∧ a = []) ∨ x.j = true then [] else mid) ++ wrL true [x])
  | [], fst => by
    simp only [List.nil_append, brL, List.append_nil, and_true]
  | t :: a, fst => by
    rw [List.cons_append, brL, brL, brL_snoc mid x a false]
    simp [List.append_assoc]
theorem wr_one {x : Tn} (h : x.k ≠ 0) : wrL true [x] = body x := by
  rw [wrL, if_neg h, if_pos (.inl rfl), wrL]
  simp
theorem brL_len (mid : List UInt8) (m : Nat) : ∀ (l : List Tn) (fst : Bool), (∀ t ∈ l, t.tx.length + t.v.length ≤ m) → (brL mid fst l).length ≤ l.length * (6 * m + 4 + mid.length)
  | [], _, _ => by simp [brL]
  | t :: r, fst, h => by
    have h2 := brL_len mid m r false (fun x hx => h x (List.mem_cons_of_mem _ hx))
    have h3 := wrL_len m [t] true (fun x hx => by rw [List.mem_singleton] at hx; subst hx; exact h x (List.mem_cons_self))
    rw [brL, List.length_cons, Nat.succ_mul]
    simp only [List.length_cons, List.length_nil] at h3
    split
    all_goals (simp only [List.length_append, List.length_nil]; omega)
theorem br_plc (mid tail l : List UInt8) : ∀ (ps : List Pc) (r : List UInt8) (i : Nat), Run r ps → brL mid false ((plc i false ps).map (tnOf l)) ++ tail = bld mid tail ps
  | [], r, i, h => by simp [plc, brL, bld]
  | p :: ps, r, i, h => by
    obtain ⟨h1, h2, h3, h4⟩ := h
    have hk := lex1_k h3
    have hq : 1 ≤ (r.drop p.g).length := by rw [List.length_drop]; omega
    have htok := lex1_tok hq h3
    have ih := br_plc mid tail l ps _ (i + p.g + p.n) h4
    rw [plc, List.map_cons, brL, bld, wr_one (by show p.t.k ≠ 0; omega), List.append_assoc, List.append_assoc, ih]
    congr 1
    · show (if false = true ∨ (!false && decide (p.g = 0)) = true then [] else mid) = _
      by_cases hg : p.g = 0 <;> simp [hg]
    · congr 1
      exact body_prn (p := ⟨i + p.g, !false && decide (p.g = 0), p.t⟩) htok
theorem br_plc0 (head mid tail l : List UInt8) {ps : List Pc} {r : List UInt8} (h : Run r ps) : head ++ brL mid true ((plc 0 true ps).map (tnOf l)) ++ tail = bld0 head mid tail ps := by
  cases ps with
  | nil => simp [plc, brL, bld0]
  | cons p ps =>
    obtain ⟨h1, h2, h3, h4⟩ := h
    have hk := lex1_k h3
    have hq : 1 ≤ (r.drop p.g).length := by rw [List.length_drop]; omega
    have htok := lex1_tok hq h3
    have ih := br_plc mid tail l ps _ (0 + p.g + p.n) h4
    rw [plc, List.map_cons, brL, bld0, wr_one (by show p.t.k ≠ 0; omega), if_pos (.inl rfl), List.nil_append, List.append_assoc, List.append_assoc, ih]
    congr 2
    exact body_prn (p := ⟨0 + p.g, !true && decide (p.g = 0), p.t⟩) htok
def bHead : List UInt8 := [47, 47, 32, 98, 101, 103, 105, 110, 10]
def bMid : List UInt8 := [32, 47, 47, 32, 98, 101, 116, 119, 101, 101, 110, 10, 9]
def bTail : List UInt8 := [47, 47, 32, 101, 110, 100]
theorem blanks_again {l : List UInt8} {ts : List Pl} (h : scanL l = .ok ts) :
    (bHead ++ brL bMid true (ts.map (tnOf l)) ++ bTail).length ≤ 19 * l.length + 15 ∧ ∃ ts', scanL (bHead ++ brL bMid true (ts.map (tnOf l)) ++ bTail) = .ok ts' ∧ ∀ l' l'', (toks l' ts).map Tn.key = (toks l'' ts').map Tn.key := by
  obtain ⟨ps, hr, rfl, hc⟩ := scanL_ok h
  rw [br_plc0 bHead bMid bTail l hr]
  refine ⟨?_, ?_⟩
  · have := bld0_len bHead bMid bTail hr
    have e1 : bHead.length = 9 := rfl
    have e2 : bMid.length = 13 := rfl
    have e3 : bTail.length = 6 := rfl
    rw [e1, e2, e3] at this
    omega
  · obtain ⟨ts', h1, h2⟩ := relex (head := bHead) (mid := bMid) (tail := bTail) (fun z => by simp [bHead, blk, isBl, nth]; omega) (fun z => by simp [bMid, blk, isBl, nth]; omega) (by decide) (by decide) hr hc
    exact ⟨ts', h1, fun l' l'' => key_of h2.symm⟩
/-- A list that Scan gives for some text is printed as it is written. -/
theorem shape_again {l : List UInt8} {ts : List Pl} {all : List Tn} (h : scanL l = .ok ts) (hk : (toks l ts).map Tn.key = all.map Tn.key) : prL true all = wrL true all := by
  obtain ⟨ps, hr, rfl, hc⟩ := scanL_ok h
  unfold toks at hk
  rw [List.map_append] at hk
  obtain ⟨a, b, rfl, ha, hb⟩ := List.map_eq_append_iff.1 hk.symm
  have hb1 : b.length = 1 := by have := congrArg List.length hb; simpa using this
  obtain ⟨e, rfl⟩ := List.length_eq_one_iff.1 hb1
  have he : e.k = 0 := by
    have : e.key = (tnEnd l).key := by simpa using hb
    exact congrArg (·.1) this
  refine pr_wr he a true fun t ht => ?_
  have h1 : t.key ∈ ((plc 0 true ps).map (tnOf l)).map Tn.key := by rw [← ha]; exact List.mem_map_of_mem ht
  obtain ⟨u, hu, hue⟩ := List.mem_map.1 h1
  have h2 := plc_k ps _ _ _ hr u hu
  rw [show t.k = u.k from congrArg (·.1) hue.symm]
  exact h2
/-! ### Quoted values -/
theorem scan_ok1 {q : List UInt8} {t : Tk} (hq : 1 ≤ q.length) (hb : blk false q = 0) (h : lex1 q = .ok q.length t) : scanL q = .ok [⟨0, false, t⟩] := by
  have hr : Run q [⟨0, q.length, t⟩] := ⟨hb.symm, hq, by rw [List.drop_zero]; exact h, by rw [Nat.zero_add, List.drop_length]; exact Nat.le_refl 0⟩
  have := scanL_run hr (by simp)
  rw [this]
  rfl
theorem scan_bad1 {q : List UInt8} {o : Nat} {e : Int} (hq : 1 ≤ q.length) (hb : blk false q = 0) (h : lex1 q = .bad o e) : scanL q = .bad o e := by
  unfold scanL
  rw [scanF, List.drop_zero, hb, if_neg (by omega), if_neg (by simp)]
  simp only [Nat.zero_add, List.drop_zero, h]
theorem scan_quoteB (v : List UInt8) : scanL (quoteB v) = if 1024 < v.length then .bad 0 5 else .ok [⟨0, false, ⟨4, [], v, 0, 0⟩⟩] := by
  have h1 : lex1 (quoteB v) = lexX (quoteB v ++ []) := by
    rw [List.append_nil]
    have h0 : nth (quoteB v) 0 = 120 := rfl
    have h0' : nth (quoteB v) 1 = 34 := rfl
    unfold lex1
    rw [if_pos (by rw [h0, h0']; constructor <;> rfl)]
  rw [lexX_quote] at h1
  have hq : 1 ≤ (quoteB v).length := by unfold quoteB; simp
  have hb : blk false (quoteB v) = 0 := blk_hd (c := 120) (hd_nat (by decide)) _
  by_cases h : 1024 < v.length
  · rw [if_pos h] at h1 ⊢
    exact scan_bad1 hq hb h1
  · rw [if_neg h] at h1 ⊢
    exact scan_ok1 hq hb h1
theorem scan_quoteL {v : List UInt8} (hv : Lib.validD v = true) : scanL (quoteL v) = if 1024 < v.length then .bad 0 5 else .ok [⟨0, false, ⟨3, [], v, 0, 0⟩⟩] := by
  have h1 : lex1 (quoteL v) = lexS (quoteL v ++ []) := by
    rw [List.append_nil]
    have h0 : nth (quoteL v) 0 = 34 := rfl
    unfold lex1
    rw [if_neg (by rw [h0]; intro e; exact absurd e.1 (by decide)), if_neg (by rw [h0]; decide), if_neg (by rw [h0]; decide), if_pos (by rw [h0]; rfl)]
  rw [lexS_quote hv] at h1
  have hq : 1 ≤ (quoteL v).length := by unfold quoteL; simp
  have hb : blk false (quoteL v) = 0 := blk_hd (c := 34) (hd_nat (by decide)) _
  by_cases h : 1024 < v.length
  · rw [if_pos h] at h1 ⊢
    exact scan_bad1 hq hb h1
  · rw [if_neg h] at h1 ⊢
    exact scan_ok1 hq hb h1
end Go.Proofs.YtmchiibbodllaaaGreatDoor
