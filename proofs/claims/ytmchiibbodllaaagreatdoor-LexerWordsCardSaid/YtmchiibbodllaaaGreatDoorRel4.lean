/- Plain Lean: a text as its tokens and what lies between them; it is read again with other blanks. -/
import Derived.Test.YtmchiibbodllaaaGreatDoorRel3
namespace Go.Proofs.YtmchiibbodllaaaGreatDoor
set_option linter.unusedVariables false
set_option linter.unnecessarySimpa false
set_option linter.unusedSimpArgs false

/-- A token: the bytes of the blanks ahead of it, its own bytes, what it is. -/
structure Pc where
  g : Nat
  n : Nat
  t : Tk
def Run : List UInt8 → List Pc → Prop
  | r, [] => r.length ≤ blk false r
  | r, p :: ps => p.g = blk false r ∧ p.g < r.length ∧ lex1 (r.drop p.g) = .ok p.n p.t ∧ Run (r.drop (p.g + p.n)) ps
def plc : Nat → Bool → List Pc → List Pl
  | _, _, [] => []
  | i, fst, p :: ps => ⟨i + p.g, !fst && decide (p.g = 0), p.t⟩ :: plc (i + p.g + p.n) false ps
def lastOf (fst : Bool) (i : Nat) : Option Nat := if fst = true then none else some i
theorem last_dec (fst : Bool) (i g : Nat) : decide (lastOf fst i = some (i + g)) = (!fst && decide (g = 0)) := by
  cases fst
  · simp [lastOf]
  · simp [lastOf]
theorem scanF_run (l : List UInt8) : ∀ (ps : List Pc) (f i : Nat) (fst : Bool) (acc : List Pl), Run (l.drop i) ps → acc.length + ps.length ≤ 16384 → l.length < i + f → i ≤ l.length →
    scanF l f i (lastOf fst i) acc = .ok (acc ++ plc i fst ps)
  | [], f, i, fst, acc, hr, hc, hf, hi => by
    obtain ⟨f, rfl⟩ : ∃ g, f = g + 1 := ⟨f - 1, by omega⟩
    unfold Run at hr
    rw [List.length_drop] at hr
    unfold scanF
    rw [if_pos (by omega)]
    simp [plc]
  | p :: ps, f, i, fst, acc, hr, hc, hf, hi => by
    obtain ⟨f, rfl⟩ : ∃ g, f = g + 1 := ⟨f - 1, by omega⟩
    obtain ⟨h1, h2, h3, h4⟩ := hr
    rw [List.length_drop] at h2
    rw [List.drop_drop] at h3 h4
    have hin := lex1_in (r := l.drop (i + p.g)) (by rw [List.length_drop]; omega)
    rw [h3] at hin
    have hin' : 1 ≤ p.n ∧ p.n ≤ (l.drop (i + p.g)).length := hin
    rw [List.length_drop] at hin'
    rw [List.length_cons] at hc
    have ih := scanF_run l ps f (i + p.g + p.n) false (acc ++ [⟨i + p.g, !fst && decide (p.g = 0), p.t⟩]) (by rw [← Nat.add_assoc] at h4; exact h4) (by simp; omega) (by omega) (by omega)
    unfold scanF
    rw [← h1, if_neg (by omega), if_neg (by omega), h3]
    simp only
    rw [last_dec]
    have e : some (i + p.g + p.n) = lastOf false (i + p.g + p.n) := rfl
    rw [e, ih, List.append_assoc]
    rfl
theorem scanF_ok (l : List UInt8) : ∀ (f i : Nat) (fst : Bool) (acc ts : List Pl), acc.length ≤ 16384 → i ≤ l.length → scanF l f i (lastOf fst i) acc = .ok ts →
    ∃ ps, Run (l.drop i) ps ∧ ts = acc ++ plc i fst ps ∧ acc.length + ps.length ≤ 16384
  | 0, i, fst, acc, ts, hc, hi, h => by simp [scanF] at h
  | f + 1, i, fst, acc, ts, hc, hi, h => by
    unfold scanF at h
    split at h
    · rename_i h1
      injection h with h
      exact ⟨[], by unfold Run; rw [List.length_drop]; omega, by simp [plc, h], by simp; omega⟩
    · rename_i h1
      split at h
      · cases h
      · rename_i h2
        rcases hx : lex1 (l.drop (i + blk false (l.drop i))) with ⟨n, t⟩ | ⟨o, e⟩ <;> rw [hx] at h
        · have hin := lex1_in (r := l.drop (i + blk false (l.drop i))) (by rw [List.length_drop]; omega)
          rw [hx] at hin
          have hin' : 1 ≤ n ∧ n ≤ (l.drop (i + blk false (l.drop i))).length := hin
          rw [List.length_drop] at hin'
          simp only at h
          rw [last_dec] at h
          obtain ⟨ps, k1, k2, k3⟩ := scanF_ok l f _ false _ ts (by simp; omega) (by omega) h
          refine ⟨⟨blk false (l.drop i), n, t⟩ :: ps, ⟨rfl, (by show blk false (l.drop i) < (l.drop i).length; rw [List.length_drop]; omega), by rw [List.drop_drop]; exact hx, ?_⟩, ?_, ?_⟩
          · rw [List.drop_drop, ← Nat.add_assoc]
            exact k1
          · rw [k2, List.append_assoc]
            rfl
          · simp at k3 ⊢
            omega
        · cases h
theorem scanL_ok {l : List UInt8} {ts : List Pl} (h : scanL l = .ok ts) : ∃ ps, Run l ps ∧ ts = plc 0 true ps ∧ ps.length ≤ 16384 := by
  obtain ⟨ps, h1, h2, h3⟩ := scanF_ok l (l.length + 1) 0 true [] ts (by simp) (by omega) h
  exact ⟨ps, h1, by simpa using h2, by simpa using h3⟩
theorem scanL_run {l : List UInt8} {ps : List Pc} (h : Run l ps) (hc : ps.length ≤ 16384) : scanL l = .ok (plc 0 true ps) := by
  have := scanF_run l ps (l.length + 1) 0 true [] h (by simpa using hc) (by omega) (by omega)
  rw [List.nil_append] at this
  exact this

/-! ### What a token is printed as -/
def prn (t : Tk) : List UInt8 := if t.k = 3 then quoteL t.v else if t.k = 4 then quoteB t.v else t.tx
/-- The first byte of a token is neither a blank nor a slash. -/
def Hd (c : UInt8) : Prop := isBl c = false ∧ c.toNat ≠ 47
theorem blk_hd {c : UInt8} (h : Hd c) (r : List UInt8) : blk false (c :: r) = 0 := by
  rw [blk, if_neg (by rw [h.1]; decide), if_neg (fun k => h.2 k.1)]
theorem gap_hd {c : UInt8} (h : Hd c) (r : List UInt8) : gap (c :: r) = false := by
  unfold gap
  rw [blk_hd h]
  rfl
theorem hd_part {c : UInt8} (h : isPart c = true) : Hd c := by
  unfold isPart isLet isDig at h
  simp only [Bool.or_eq_true, Bool.and_eq_true, decide_eq_true_eq] at h
  unfold Hd isBl
  simp only [Bool.or_eq_false_iff, decide_eq_false_iff_not]
  omega
theorem hd_nat {c : UInt8} (h : c.toNat ≠ 32 ∧ c.toNat ≠ 9 ∧ c.toNat ≠ 10 ∧ c.toNat ≠ 47) : Hd c := by
  unfold Hd isBl
  simp only [Bool.or_eq_false_iff, decide_eq_false_iff_not]
  omega
/-- What a token's text begins with. -/
inductive Tok (a : List UInt8) (t : Tk) : Prop where
  | copy (h1 : t.tx = a) (h2 : t.k ≠ 3 ∧ t.k ≠ 4) (h3 : ∃ c a', a = c :: a' ∧ Hd c ∧ ((c.toNat = 46 ∨ c.toNat = 100) → ∀ d b, a' = d :: b → Hd d))
  | str (h1 : t = ⟨3, [], t.v, 0, 0⟩) (h2 : Lib.validD t.v = true ∧ t.v.length ≤ 1024) (h3 : ∃ a', a = 34 :: a')
  | byt (h1 : t = ⟨4, [], t.v, 0, 0⟩) (h2 : t.v.length ≤ 1024) (h3 : ∃ a', a = 120 :: a')
theorem take_hd {q : List UInt8} {n : Nat} (hq : 1 ≤ q.length) (hn : 1 ≤ n) : ∃ a', q.take n = nth q 0 :: a' := by
  rcases q with _ | ⟨c, r⟩
  · simp at hq
  · obtain ⟨m, rfl⟩ : ∃ m, n = m + 1 := ⟨n - 1, by omega⟩
    exact ⟨_, rfl⟩
theorem take_snd {q : List UInt8} {n : Nat} {d c : UInt8} {b : List UInt8} (h : q.take n = c :: d :: b) : nth q 1 = d ∧ 2 ≤ n := by
  have h2 : 2 ≤ n := by
    have := congrArg List.length h
    rw [List.length_take] at this
    simp at this
    omega
  refine ⟨?_, h2⟩
  rw [← nth_take (show 1 < n by omega), h]
  rfl
theorem spn_mem {p : UInt8 → Bool} {q : List UInt8} {k : Nat} (h : k < spn p q) : p (nth q k) = true := spn_all h
theorem lex1_tok {q : List UInt8} {n : Nat} {t : Tk} (hq : 1 ≤ q.length) (h : lex1 q = .ok n t) : Tok (q.take n) t := by
  have hin := lex1_in hq
  rw [h] at hin
  have hin' : 1 ≤ n ∧ n ≤ q.length := hin
  obtain ⟨a', ha⟩ := take_hd hq hin'.1
  unfold lex1 at h
  split at h
  · rename_i h0
    unfold lexX at h
    split at h
    · cases h
    · split at h
      · cases h
      · split at h
        · cases h
        · rename_i h3
          injection h with h4 h5
          subst h5
          exact .byt rfl (by simp only at h3 ⊢; omega) ⟨a', by rw [ha, u8_of h0.1 (by decide)]; rfl⟩
  · split at h
    · rename_i h0
      have hp : isPart (nth q 0) = true := by unfold isPart; rw [h0]; rfl
      unfold lexW at h
      split at h
      · cases h
      · injection h with h4 h5
        subst h5
        subst h4
        refine .copy rfl (by constructor <;> (simp only; decide)) ⟨nth q 0, a', ha, hd_part hp, fun _ d b hd => ?_⟩
        rw [hd] at ha
        obtain ⟨e1, e2⟩ := take_snd ha
        rw [← e1]
        exact hd_part (spn_mem (by omega))
    · split at h
      · rename_i h0
        have hp : isPart (nth q 0) = true := by unfold isPart; rw [h0]; simp
        unfold lexN at h
        split at h
        · cases h
        · split at h
          · cases h
          · injection h with h4 h5
            subst h5
            subst h4
            refine .copy rfl (by constructor <;> (simp only; decide)) ⟨nth q 0, a', ha, hd_part hp, fun hc => ?_⟩
            unfold isDig at h0
            simp only [Bool.and_eq_true, decide_eq_true_eq] at h0
            omega
      · split at h
        · rename_i h0
          have := lexS_valid h
          refine .str ?_ ⟨this.1, this.2.1⟩ ⟨a', by rw [ha, u8_of h0 (by decide)]; rfl⟩
          obtain ⟨k, tx, v, n', s⟩ := t
          simp only at this
          obtain ⟨_, _, e1, e2, e3, e4⟩ := this
          subst e1 e2 e3 e4
          rfl
        · have hs : ∀ c : UInt8, c ∈ singlesL → Hd c := by
            intro c hc
            unfold singlesL at hc
            simp only [List.mem_cons, List.not_mem_nil, or_false] at hc
            rcases hc with h | h | h | h | h | h | h | h | h | h | h | h | h | h | h | h | h | h | h | h <;> subst h <;> exact hd_nat (by decide)
          unfold lexY at h
          split at h
          · rename_i h1
            injection h with h4 h5
            subst h5
            subst h4
            refine .copy rfl (by constructor <;> (simp only; decide)) ⟨nth q 0, a', ha, ?_, fun hc d b hd => ?_⟩
            · rw [ha] at h1
              unfold pairsL at h1
              simp only [List.mem_cons, List.not_mem_nil, or_false, List.cons.injEq] at h1
              rcases h1 with h | h | h | h | h <;> rw [h.1] <;> exact hd_nat (by decide)
            · rw [ha, hd] at h1
              unfold pairsL at h1
              simp only [List.mem_cons, List.not_mem_nil, or_false, List.cons.injEq] at h1
              rcases h1 with h | h | h | h | h <;> rw [h.2.1] <;> exact hd_nat (by decide)
          · split at h
            · rename_i h1
              injection h with h4 h5
              subst h5
              subst h4
              refine .copy rfl (by constructor <;> (simp only; decide)) ⟨nth q 0, a', ha, hs _ h1, fun hc d b hd => ?_⟩
              rw [hd] at ha
              have := (take_snd ha).2
              omega
            · cases h
theorem prn_hd {a : List UInt8} {t : Tk} (h : Tok a t) : ∃ c a', prn t = c :: a' ∧ Hd c := by
  rcases h with ⟨h1, h2, c, a', h3, h4, _⟩ | ⟨h1, _, _⟩ | ⟨h1, _, _⟩
  · exact ⟨c, a', by unfold prn; rw [if_neg h2.1, if_neg h2.2, h1, h3], h4⟩
  · exact ⟨34, _, by rw [h1]; rfl, hd_nat (by decide)⟩
  · exact ⟨120, _, by rw [h1]; rfl, hd_nat (by decide)⟩
theorem sig_other {c : UInt8} (h : Hd c) (h2 : ¬ (c.toNat = 46 ∨ c.toNat = 100)) (r : List UInt8) : sig (c :: r) = (c, 0) := by
  unfold sig
  rw [gap_hd h, if_neg (by decide)]
  show (if c.toNat = 46 ∨ c.toNat = 100 then _ else _) = _
  rw [if_neg h2]
  rfl
theorem sig_two {c : UInt8} (h : Hd c) (h2 : c.toNat = 46 ∨ c.toNat = 100) (r : List UInt8) : sig (c :: r) = (c, sig0 r) := by
  unfold sig
  rw [gap_hd h, if_neg (by decide)]
  show (if c.toNat = 46 ∨ c.toNat = 100 then _ else _) = _
  rw [if_pos h2]
  rfl
theorem sig0_hd {d : UInt8} (h : Hd d) (r : List UInt8) : sig0 (d :: r) = d := by
  unfold sig0
  rw [gap_hd h, if_neg (by decide)]
  rfl
theorem tok_sig {a z z' : List UInt8} {t : Tk} (h : Tok a t) (hs : sig z = sig z') : sig (a ++ z) = sig (prn t ++ z') := by
  rcases h with ⟨h1, h2, c, a', rfl, h4, h5⟩ | ⟨h1, _, a', rfl⟩ | ⟨h1, _, a', rfl⟩
  · have hp : prn t = c :: a' := by unfold prn; rw [if_neg h2.1, if_neg h2.2, h1]
    rw [hp, List.cons_append, List.cons_append]
    by_cases hc : c.toNat = 46 ∨ c.toNat = 100
    · rw [sig_two h4 hc, sig_two h4 hc]
      rcases a' with _ | ⟨d, b⟩
      · rw [List.nil_append, List.nil_append, ← sig_fst, ← sig_fst, hs]
      · have hd := h5 hc d b rfl
        rw [List.cons_append, List.cons_append, sig0_hd hd, sig0_hd hd]
    · rw [sig_other h4 hc, sig_other h4 hc]
  · rw [h1]
    rw [List.cons_append, sig_other (hd_nat (by decide)) (by decide)]
    exact (sig_other (c := 34) (hd_nat (by decide)) (by decide) _).symm
  · rw [h1]
    rw [List.cons_append, sig_other (hd_nat (by decide)) (by decide)]
    exact (sig_other (c := 120) (hd_nat (by decide)) (by decide) _).symm
theorem tok_lex {a z z' : List UInt8} {t : Tk} (h : lex1 (a ++ z) = .ok a.length t) (hl : 1 ≤ a.length) (hs : sig z = sig z') : lex1 (prn t ++ z') = .ok (prn t).length t := by
  have ht := lex1_tok (q := a ++ z) (by simp; omega) h
  rw [List.take_left] at ht
  rcases ht with ⟨h1, h2, c, a', rfl, h4, h5⟩ | ⟨h1, h2, a', rfl⟩ | ⟨h1, h2, a', rfl⟩
  · have hp : prn t = c :: a' := by unfold prn; rw [if_neg h2.1, if_neg h2.2, h1]
    rw [hp]
    refine lex1_swap hs hl ⟨fun hw => ?_, fun hw => ?_⟩ h
    · unfold way at hw
      unfold lex1 at h
      split at hw
      · rename_i h0
        rw [if_pos h0] at h
        unfold lexX at h
        repeat' split at h
        all_goals first | cases h | (injection h with _ h; rw [← h] at h2; exact absurd rfl h2.2)
      · repeat' split at hw
        all_goals omega
    · unfold way at hw
      unfold lex1 at h
      split at hw
      · omega
      · rename_i k0
        split at hw
        · omega
        · rename_i k1
          split at hw
          · omega
          · rename_i k2
            split at hw
            · rename_i k3
              rw [if_neg k0, if_neg k1, if_neg k2, if_pos k3] at h
              exact absurd (lexS_valid h).2.2.1 h2.1
            · omega
  · have hq : prn t = quoteL t.v := by rw [h1]; rfl
    have := lexS_quote h2.1 z'
    rw [if_neg (by omega)] at this
    rw [hq]
    have e : quoteL t.v ++ z' = 34 :: (qs t.v ++ 34 :: z') := by simp [quoteL]
    unfold lex1
    rw [if_neg (by rw [e]; rintro ⟨k, _⟩; have k : (34 : UInt8).toNat = 120 := k; exact absurd k (by decide)), if_neg (by rw [e]; exact (by decide : ¬ isLet 34 = true)), if_neg (by rw [e]; exact (by decide : ¬ isDig 34 = true)), if_pos (by rw [e]; rfl), this, ← h1]
  · have hq : prn t = quoteB t.v := by rw [h1]; rfl
    have := lexX_quote t.v z'
    rw [if_neg (by omega)] at this
    rw [hq]
    have e : quoteB t.v ++ z' = 120 :: 34 :: (qb t.v ++ 34 :: z') := by simp [quoteB]
    unfold lex1
    rw [if_pos (by rw [e]; exact ⟨rfl, rfl⟩), this, ← h1]

/-! ### The text with other blanks -/
def Blank (x : List UInt8) : Prop := ∀ z, blk false (x ++ z) = x.length + blk false z
theorem Blank.nil : Blank [] := fun z => by simp
def bld (mid tail : List UInt8) : List Pc → List UInt8
  | [] => tail
  | p :: ps => (if p.g = 0 then [] else mid) ++ (prn p.t ++ bld mid tail ps)
def newP (m : Nat) (p : Pc) : Pc := ⟨if p.g = 0 then 0 else m, (prn p.t).length, p.t⟩
theorem gap_of_end {r : List UInt8} (h : r.length ≤ blk false r) : gap r = true := by
  unfold gap
  rcases r with _ | ⟨c, r⟩
  · rfl
  · simp at h ⊢
    omega
theorem sig_gap {r z : List UInt8} (h : gap r = true) (k : gap z = true) : sig r = sig z := by
  unfold sig
  rw [if_pos h, if_pos k]
theorem run_cut {r : List UInt8} {p : Pc} {ps : List Pc} (h : Run r (p :: ps)) : 1 ≤ p.n ∧ r.drop p.g = (r.drop p.g).take p.n ++ r.drop (p.g + p.n) ∧ ((r.drop p.g).take p.n).length = p.n := by
  obtain ⟨h1, h2, h3, h4⟩ := h
  have hin := lex1_in (r := r.drop p.g) (by rw [List.length_drop]; omega)
  rw [h3] at hin
  have hin' : 1 ≤ p.n ∧ p.n ≤ (r.drop p.g).length := hin
  refine ⟨hin'.1, ?_, by rw [List.length_take]; omega⟩
  rw [← List.drop_drop, List.take_append_drop]
theorem run_new {mid tail : List UInt8} (hm : Blank mid) (hm0 : mid ≠ []) (ht : tail.length ≤ blk false tail) : ∀ (ps : List Pc) (r : List UInt8), Run r ps → sig r = sig (bld mid tail ps) ∧ Run (bld mid tail ps) (ps.map (newP mid.length))
  | [], r, h => ⟨sig_gap (gap_of_end h) (gap_of_end ht), ht⟩
  | p :: ps, r, h => by
    obtain ⟨hn, hcut, hal⟩ := run_cut h
    obtain ⟨h1, h2, h3, h4⟩ := h
    obtain ⟨i1, i2⟩ := run_new hm hm0 ht ps _ h4
    generalize hz : r.drop (p.g + p.n) = z at *
    generalize hz' : bld mid tail ps = z' at *
    obtain ⟨a, ha⟩ : ∃ a, (r.drop p.g).take p.n = a := ⟨_, rfl⟩
    rw [ha] at hcut hal
    rw [hcut, ← hal] at h3
    have hlex := tok_lex h3 (by omega) i1
    have htok := lex1_tok (q := a ++ z) (by simp; omega) h3
    rw [List.take_left] at htok
    have hsig := tok_sig htok i1
    obtain ⟨c, b, hp, hc⟩ := prn_hd htok
    have hb0 : blk false (prn p.t ++ z') = 0 := by rw [hp]; exact blk_hd hc _
    have hpl : 1 ≤ (prn p.t).length := by rw [hp]; simp
    have hml : 1 ≤ mid.length := List.length_pos_iff.2 hm0
    have hbld : bld mid tail (p :: ps) = (if p.g = 0 then [] else mid) ++ (prn p.t ++ z') := by rw [bld, hz']
    rw [hbld, List.map_cons]
    by_cases hg : p.g = 0
    · have hr : r = a ++ z := by rw [← hcut, hg]; rfl
      rw [if_pos hg, List.nil_append]
      refine ⟨by rw [hr]; exact hsig, ?_⟩
      unfold newP
      simp only [hg, if_true]
      refine ⟨hb0.symm, by simp; omega, by simpa using hlex, ?_⟩
      simp only [Nat.zero_add, List.drop_left]
      exact i2
    · rw [if_neg hg]
      have hbm := hm (prn p.t ++ z')
      rw [hb0, Nat.add_zero] at hbm
      refine ⟨sig_gap (by unfold gap; simp; omega) (by unfold gap; rw [hbm]; simp; omega), ?_⟩
      unfold newP
      simp only [hg, if_false]
      refine ⟨hbm.symm, by simp; omega, by rw [List.drop_left]; exact hlex, ?_⟩
      rw [← List.drop_drop, List.drop_left, List.drop_left]
      exact i2
def bld0 (head mid tail : List UInt8) : List Pc → List UInt8
  | [] => head ++ tail
  | p :: ps => head ++ (prn p.t ++ bld mid tail ps)
def newP0 (h m : Nat) : List Pc → List Pc
  | [] => []
  | p :: ps => ⟨h, (prn p.t).length, p.t⟩ :: ps.map (newP m)
theorem run_new0 {head mid tail : List UInt8} (hh : Blank head) (hm : Blank mid) (hm0 : mid ≠ []) (ht : tail.length ≤ blk false tail) {ps : List Pc} {r : List UInt8} (h : Run r ps) : Run (bld0 head mid tail ps) (newP0 head.length mid.length ps) := by
  rcases ps with _ | ⟨p, ps⟩
  · unfold bld0 newP0 Run
    rw [hh tail, List.length_append]
    omega
  · obtain ⟨hn, hcut, hal⟩ := run_cut h
    obtain ⟨h1, h2, h3, h4⟩ := h
    obtain ⟨i1, i2⟩ := run_new hm hm0 ht ps _ h4
    generalize hz : r.drop (p.g + p.n) = z at *
    generalize hz' : bld mid tail ps = z' at *
    obtain ⟨a, ha⟩ : ∃ a, (r.drop p.g).take p.n = a := ⟨_, rfl⟩
    rw [ha] at hcut hal
    rw [hcut, ← hal] at h3
    have hlex := tok_lex h3 (by omega) i1
    have htok := lex1_tok (q := a ++ z) (by simp; omega) h3
    rw [List.take_left] at htok
    obtain ⟨c, b, hp, hc⟩ := prn_hd htok
    have hb0 : blk false (prn p.t ++ z') = 0 := by rw [hp]; exact blk_hd hc _
    have hpl : 1 ≤ (prn p.t).length := by rw [hp]; simp
    unfold bld0 newP0
    simp only
    rw [hz']
    refine ⟨by rw [hh, hb0]; rfl, by simp; omega, by rw [List.drop_left]; exact hlex, ?_⟩
    rw [← List.drop_drop, List.drop_left, List.drop_left]
    exact i2
/-- What is told of a token apart from its place. -/
def Pl.key (p : Pl) : Bool × Tk := (p.j, p.t)
theorem plc_map (m : Nat) (hm : m ≠ 0) : ∀ (ps : List Pc) (i i' : Nat), (plc i' false (ps.map (newP m))).map Pl.key = (plc i false ps).map Pl.key
  | [], _, _ => rfl
  | p :: ps, i, i' => by
    simp only [List.map_cons, plc, plc_map m hm ps (i + p.g + p.n)]
    congr 1
    unfold Pl.key newP
    by_cases h : p.g = 0 <;> simp [h, hm]
theorem plc_map0 (h m : Nat) (hm : m ≠ 0) (ps : List Pc) : (plc 0 true (newP0 h m ps)).map Pl.key = (plc 0 true ps).map Pl.key := by
  rcases ps with _ | ⟨p, ps⟩
  · rfl
  · simp only [newP0, plc, List.map_cons]
    rw [plc_map m hm ps (0 + p.g + p.n)]
    rfl
theorem newP0_len (h m : Nat) (ps : List Pc) : (newP0 h m ps).length = ps.length := by
  rcases ps with _ | ⟨p, ps⟩ <;> simp [newP0]
/-- **Tokens are read again, whatever blanks lie between them.** -/
theorem relex {head mid tail l : List UInt8} (hh : Blank head) (hm : Blank mid) (hm0 : mid ≠ []) (ht : tail.length ≤ blk false tail) {ps : List Pc} (h : Run l ps) (hc : ps.length ≤ 16384) :
    ∃ ts, scanL (bld0 head mid tail ps) = .ok ts ∧ ts.map Pl.key = (plc 0 true ps).map Pl.key := by
  refine ⟨_, scanL_run (run_new0 hh hm hm0 ht h) (by rw [newP0_len]; exact hc), plc_map0 _ _ ?_ _⟩
  have := List.length_pos_iff.2 hm0
  omega
end Go.Proofs.YtmchiibbodllaaaGreatDoor
