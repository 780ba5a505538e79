/- Plain Lean: what is printed of a value is read again. -/
import Derived.Test.YtmchiibbodllaaaGreatDoorRel2
import Derived.Lib.MapLaws
import Derived.Lib.ValidLaws
namespace Go.Proofs.YtmchiibbodllaaaGreatDoor
set_option linter.unusedVariables false
set_option linter.unnecessarySimpa false
set_option linter.unusedSimpArgs false

/-! ### Code points -/
theorem dec_L {q : List UInt8} (h : q ≠ []) : dec q = Lib.decodeL q := by
  have hs : (B q).size ≠ 0 := by rw [B_size]; exact fun e => h (List.eq_nil_of_length_eq_zero e)
  unfold dec Lib.decodeGo
  rw [if_neg hs]
  rfl
theorem getD_nth (l : List UInt8) (k : Nat) : l.getD k 0 = nth l k := rfl
theorem dec_N {q : List UInt8} (h : q ≠ []) : dec q = Lib.decodeN q.length (nth q 0).toNat (nth q 1).toNat (nth q 2).toNat (nth q 3).toNat := by
  rw [dec_L h, Lib.decodeL_N]
  rfl
theorem nth_take {l : List UInt8} {k j : Nat} (h : j < k) : nth (l.take k) j = nth l j := by
  unfold nth
  rw [List.getD_eq_getElem?_getD, List.getD_eq_getElem?_getD, List.getElem?_take, if_pos h]
/-- A code point's bytes, and what is told of them. -/
def Chr (ch : List UInt8) : Prop :=
  (ch.length = 1 ∧ (nth ch 0).toNat < 128) ∨ (2 ≤ ch.length ∧ (∀ c ∈ ch, 128 ≤ c.toNat) ∧ 194 ≤ (nth ch 0).toNat)
theorem mem2 {ch : List UInt8} (h : ch.length = 2) {c : UInt8} (hc : c ∈ ch) : c = nth ch 0 ∨ c = nth ch 1 := by
  match ch, h with
  | [a, b], _ => simpa [nth] using hc
theorem mem3 {ch : List UInt8} (h : ch.length = 3) {c : UInt8} (hc : c ∈ ch) : c = nth ch 0 ∨ c = nth ch 1 ∨ c = nth ch 2 := by
  match ch, h with
  | [a, b, d], _ => simpa [nth] using hc
theorem mem4 {ch : List UInt8} (h : ch.length = 4) {c : UInt8} (hc : c ∈ ch) : c = nth ch 0 ∨ c = nth ch 1 ∨ c = nth ch 2 ∨ c = nth ch 3 := by
  match ch, h with
  | [a, b, d, e], _ => simpa [nth] using hc
/-- A code point at the front: it is read whatever follows. -/
theorem dec_front {v : List UInt8} (hne : v ≠ []) (hv : ¬ ((dec v).1 = 65533 ∧ (dec v).2 = 1)) :
    Chr (v.take (dec v).2) ∧ (v.take (dec v).2).length = (dec v).2 ∧ ∀ z, dec (v.take (dec v).2 ++ z) = dec v := by
  have hl : 0 < v.length := List.length_pos_iff.2 hne
  have hN := dec_N hne
  have key : ∀ k, 1 ≤ k → k ≤ v.length → (v.take k).length = k ∧ ∀ z : List UInt8, dec (v.take k ++ z) = Lib.decodeN (k + z.length) (nth (v.take k ++ z) 0).toNat (nth (v.take k ++ z) 1).toNat (nth (v.take k ++ z) 2).toNat (nth (v.take k ++ z) 3).toNat := by
    intro k h1 h2
    have hk : (v.take k).length = k := by rw [List.length_take]; omega
    refine ⟨hk, fun z => ?_⟩
    rw [dec_N (fun e => by have := congrArg List.length e; rw [List.length_append, hk] at this; simp at this; omega), List.length_append, hk]
  have hn : ∀ k j (z : List UInt8), j < k → k ≤ v.length → nth (v.take k ++ z) j = nth v j := fun k j z h1 h2 => by
    rw [nth_app1 (by rw [List.length_take]; omega), nth_take h1]
  rw [hN] at hv ⊢
  rcases Lib.decodeN_shape v.length (nth v 0).toNat (nth v 1).toNat (nth v 2).toNat (nth v 3).toNat with ⟨c, e⟩ | ⟨c1, c2, c3, cv, e⟩ | ⟨c1, c2, c3, c4, cv, cs, e⟩ | ⟨c1, c2, c3, c4, c5, cv, cw, e⟩ | e
  · rw [e]
    dsimp only
    obtain ⟨h1, h2⟩ := key 1 (by omega) (by omega)
    refine ⟨.inl ⟨h1, by rw [nth_take (by omega)]; exact c⟩, h1, fun z => ?_⟩
    rw [h2 z, hn 1 0 z (by omega) (by omega)]
    unfold Lib.decodeN
    rw [if_pos c]
  · rw [e]
    dsimp only
    obtain ⟨h1, h2⟩ := key 2 (by omega) (by omega)
    refine ⟨.inr ⟨by omega, fun x hx => ?_, by rw [nth_take (by omega)]; omega⟩, h1, fun z => ?_⟩
    · rcases mem2 h1 hx with rfl | rfl <;> rw [nth_take (by omega)] <;> omega
    · rw [h2 z, hn 2 0 z (by omega) (by omega), hn 2 1 z (by omega) (by omega)]
      unfold Lib.decodeN
      rw [if_neg (by omega), if_pos ⟨c1, by omega, c3⟩, if_pos cv]
  · rw [e]
    dsimp only
    obtain ⟨h1, h2⟩ := key 3 (by omega) (by omega)
    refine ⟨.inr ⟨by omega, fun x hx => ?_, by rw [nth_take (by omega)]; omega⟩, h1, fun z => ?_⟩
    · rcases mem3 h1 hx with rfl | rfl | rfl <;> rw [nth_take (by omega)] <;> omega
    · rw [h2 z, hn 3 0 z (by omega) (by omega), hn 3 1 z (by omega) (by omega), hn 3 2 z (by omega) (by omega)]
      unfold Lib.decodeN
      rw [if_neg (by omega), if_neg (by omega), if_pos ⟨c1, ⟨by omega, c3⟩, by omega, c4⟩, if_pos ⟨cv, by omega⟩]
  · rw [e]
    dsimp only
    obtain ⟨h1, h2⟩ := key 4 (by omega) (by omega)
    refine ⟨.inr ⟨by omega, fun x hx => ?_, by rw [nth_take (by omega)]; omega⟩, h1, fun z => ?_⟩
    · rcases mem4 h1 hx with rfl | rfl | rfl | rfl <;> rw [nth_take (by omega)] <;> omega
    · rw [h2 z, hn 4 0 z (by omega) (by omega), hn 4 1 z (by omega) (by omega), hn 4 2 z (by omega) (by omega), hn 4 3 z (by omega) (by omega)]
      unfold Lib.decodeN
      rw [if_neg (by omega), if_neg (by omega), if_neg (by omega), if_pos ⟨c1, ⟨by omega, c3⟩, ⟨by omega, c4⟩, by omega, c5⟩, if_pos ⟨cv, by omega⟩]
  · rw [e] at hv
    exact absurd ⟨rfl, rfl⟩ hv
/-- Valid text, code point by code point. -/
theorem valid_cut {v : List UInt8} (hne : v ≠ []) (h : Lib.validD v = true) : ¬ ((dec v).1 = 65533 ∧ (dec v).2 = 1) ∧ Lib.validD (v.drop (dec v).2) = true := by
  rw [Lib.validD_step v hne, ← dec_L hne] at h
  split at h
  · cases h
  · exact ⟨by assumption, h⟩
theorem valid_join {v : List UInt8} (hne : v ≠ []) (h1 : ¬ ((dec v).1 = 65533 ∧ (dec v).2 = 1)) (h2 : Lib.validD (v.drop (dec v).2) = true) : Lib.validD v = true := by
  rw [Lib.validD_step v hne, ← dec_L hne, if_neg h1]
  exact h2
theorem valid_app : ∀ (n : Nat) (a b : List UInt8), a.length ≤ n → Lib.validD a = true → Lib.validD b = true → Lib.validD (a ++ b) = true
  | 0, a, b, hn, ha, hb => by
    have : a = [] := List.eq_nil_of_length_eq_zero (by omega)
    subst this
    exact hb
  | n + 1, a, b, hn, ha, hb => by
    rcases List.eq_nil_or_concat a with rfl | _
    · exact hb
    · have hne : a ≠ [] := by rintro rfl; simp_all
      obtain ⟨h1, h2⟩ := valid_cut hne ha
      obtain ⟨h3, h4, h5⟩ := dec_front hne h1
      have hk := dec_bd hne
      have e : a.take (dec a).2 ++ (a.drop (dec a).2 ++ b) = a ++ b := by rw [← List.append_assoc, List.take_append_drop]
      have h6 := h5 (a.drop (dec a).2 ++ b)
      rw [e] at h6
      refine valid_join (by simp [hne]) (by rw [h6]; exact h1) ?_
      rw [h6, List.drop_append_of_le_length hk.2]
      exact valid_app n _ b (by rw [List.length_drop]; omega) h2 hb
theorem valid_chr {ch : List UInt8} (h : ch ≠ []) (hv : ¬ ((dec ch).1 = 65533 ∧ (dec ch).2 = 1)) (hl : (dec ch).2 = ch.length) : Lib.validD ch = true := by
  refine valid_join h hv ?_
  rw [hl, List.drop_length]
  rfl
/-- What an escape's number is turned into. -/
theorem valid_enc {p : Int} (h : isPt p = true) : Lib.validD (Utf8.encode p).data.toList = true := by
  have hp : 0 ≤ p ∧ p ≤ 1114111 ∧ (p < 55296 ∨ 57343 < p) := by
    unfold isPt at h
    simp only [Bool.and_eq_true, Bool.or_eq_true, decide_eq_true_eq] at h
    exact h
  have hv : Utf8.valid p = true := by
    unfold Utf8.valid
    simp only [Bool.and_eq_true, Bool.or_eq_true, decide_eq_true_eq]
    omega
  obtain ⟨c, hc⟩ : ∃ c : Nat, p.toNat = c := ⟨_, rfl⟩
  have hu : ∀ n : Nat, n < 256 → (UInt8.ofNat n).toNat = n := fun n h => by rw [UInt8.toNat_ofNat']; omega
  unfold Utf8.encode
  rw [hv]
  simp only [if_true, hc]
  by_cases h1 : c < 128
  · rw [if_pos h1]
    show Lib.validD [UInt8.ofNat c] = true
    have e : dec [UInt8.ofNat c] = (c, 1) := by
      rw [dec_N (by simp)]
      show Lib.decodeN 1 (UInt8.ofNat c).toNat _ _ _ = _
      rw [hu c (by omega)]
      unfold Lib.decodeN
      rw [if_pos h1]
    exact valid_chr (by simp) (by rw [e]; simp only; omega) (by rw [e]; rfl)
  · rw [if_neg h1]
    by_cases h2 : c < 2048
    · rw [if_pos h2]
      show Lib.validD [UInt8.ofNat (192 + c / 64), UInt8.ofNat (128 + c % 64)] = true
      have e : dec [UInt8.ofNat (192 + c / 64), UInt8.ofNat (128 + c % 64)] = (c, 2) := by
        rw [dec_N (by simp)]
        show Lib.decodeN 2 (UInt8.ofNat (192 + c / 64)).toNat (UInt8.ofNat (128 + c % 64)).toNat _ _ = _
        rw [hu _ (by omega), hu _ (by omega)]
        unfold Lib.decodeN
        rw [if_neg (by omega), if_pos (by omega), if_pos (by omega)]
        congr 1
        omega
      exact valid_chr (by simp) (by rw [e]; simp only; omega) (by rw [e]; rfl)
    · rw [if_neg h2]
      by_cases h3 : c < 65536
      · rw [if_pos h3]
        show Lib.validD [UInt8.ofNat (224 + c / 4096), UInt8.ofNat (128 + c / 64 % 64), UInt8.ofNat (128 + c % 64)] = true
        have e : dec [UInt8.ofNat (224 + c / 4096), UInt8.ofNat (128 + c / 64 % 64), UInt8.ofNat (128 + c % 64)] = (c, 3) := by
          rw [dec_N (by simp)]
          show Lib.decodeN 3 (UInt8.ofNat (224 + c / 4096)).toNat (UInt8.ofNat (128 + c / 64 % 64)).toNat (UInt8.ofNat (128 + c % 64)).toNat _ = _
          rw [hu _ (by omega), hu _ (by omega), hu _ (by omega)]
          have e1 : (224 + c / 4096) % 16 * 4096 + (128 + c / 64 % 64) % 64 * 64 + (128 + c % 64) % 64 = c := by omega
          unfold Lib.decodeN
          rw [if_neg (by omega), if_neg (by omega), if_pos (by omega), e1, if_pos (by omega)]
        exact valid_chr (by simp) (by rw [e]; simp only; omega) (by rw [e]; rfl)
      · rw [if_neg h3]
        show Lib.validD [UInt8.ofNat (240 + c / 262144), UInt8.ofNat (128 + c / 4096 % 64), UInt8.ofNat (128 + c / 64 % 64), UInt8.ofNat (128 + c % 64)] = true
        have e : dec [UInt8.ofNat (240 + c / 262144), UInt8.ofNat (128 + c / 4096 % 64), UInt8.ofNat (128 + c / 64 % 64), UInt8.ofNat (128 + c % 64)] = (c, 4) := by
          rw [dec_N (by simp)]
          show Lib.decodeN 4 (UInt8.ofNat (240 + c / 262144)).toNat (UInt8.ofNat (128 + c / 4096 % 64)).toNat (UInt8.ofNat (128 + c / 64 % 64)).toNat (UInt8.ofNat (128 + c % 64)).toNat = _
          rw [hu _ (by omega), hu _ (by omega), hu _ (by omega), hu _ (by omega)]
          have e1 : (240 + c / 262144) % 8 * 262144 + (128 + c / 4096 % 64) % 64 * 4096 + (128 + c / 64 % 64) % 64 * 64 + (128 + c % 64) % 64 = c := by omega
          unfold Lib.decodeN
          rw [if_neg (by omega), if_neg (by omega), if_neg (by omega), if_pos (by omega), e1, if_pos (by omega)]
        exact valid_chr (by simp) (by rw [e]; simp only; omega) (by rw [e]; rfl)

/-! ### Bytes in pairs of digits -/
def hexD (n : Nat) : UInt8 := if n < 10 then UInt8.ofNat (48 + n) else UInt8.ofNat (87 + n)
theorem hexD_all : ∀ n : Fin 16, isHex (hexD n.val) = true ∧ hexV (hexD n.val) = n.val := by decide
theorem hexD_v {n : Nat} (h : n < 16) : isHex (hexD n) = true ∧ hexV (hexD n) = n := hexD_all ⟨n, h⟩
def qb : List UInt8 → List UInt8
  | [] => []
  | c :: r => hexD (c.toNat / 16) :: hexD (c.toNat % 16) :: qb r
theorem qb_len : ∀ v : List UInt8, (qb v).length = 2 * v.length
  | [] => rfl
  | c :: r => by simp only [qb, List.length_cons, qb_len r]; omega
theorem qb_hex : ∀ v : List UInt8, ∀ c ∈ qb v, isHex c = true
  | [], c, h => by simp [qb] at h
  | x :: r, c, h => by
    have hx := x.toNat_lt
    simp only [qb, List.mem_cons] at h
    rcases h with rfl | rfl | h
    · exact (hexD_v (by omega)).1
    · exact (hexD_v (by omega)).1
    · exact qb_hex r c h
theorem unhex_qb : ∀ v : List UInt8, unhex (qb v) = v
  | [] => rfl
  | x :: r => by
    have hx := x.toNat_lt
    simp only [qb, unhex, unhex_qb r, (hexD_v (show x.toNat / 16 < 16 by omega)).2, (hexD_v (show x.toNat % 16 < 16 by omega)).2]
    congr 1
    have e : (16 * ((x.toNat / 16 : Nat) : Int) + ((x.toNat % 16 : Nat) : Int)).toNat = x.toNat := by omega
    rw [e]
    simp
theorem spn_stop {p : UInt8 → Bool} {a : List UInt8} {c : UInt8} (h : ∀ x ∈ a, p x = true) (hc : p c = false) (z : List UInt8) : spn p (a ++ c :: z) = a.length := by
  induction a with
  | nil => simp [spn, hc]
  | cons x a ih =>
    rw [List.cons_append, spn, if_pos (h x (by simp)), ih (fun y hy => h y (by simp [hy]))]
    simp
def quoteB (v : List UInt8) : List UInt8 := 120 :: 34 :: (qb v ++ [34])
theorem lexX_quote (v z : List UInt8) : lexX (quoteB v ++ z) = if 1024 < v.length then .bad 0 5 else .ok (quoteB v).length ⟨4, [], v, 0, 0⟩ := by
  have e : quoteB v ++ z = 120 :: 34 :: (qb v ++ 34 :: z) := by simp [quoteB]
  have hs : spn isHex (qb v ++ 34 :: z) = (qb v).length := spn_stop (qb_hex v) (by decide) z
  have hd : (quoteB v ++ z).drop 2 = qb v ++ 34 :: z := by rw [e]; rfl
  have hl : (quoteB v ++ z).length = 2 + (qb v).length + 1 + z.length := by rw [e]; simp; omega
  have hn : nth (quoteB v ++ z) (2 + (qb v).length) = 34 := by
    rw [← nth_drop, hd, nth_appL]
    rfl
  unfold lexX
  rw [hd, hs, hl, hn, if_neg (by omega), if_neg (by have := qb_len v; rintro (h | h); (exact absurd rfl h); omega), List.take_left, unhex_qb]
  have hq : (quoteB v).length = 2 + (qb v).length + 1 := by simp [quoteB]; omega
  rw [hq]

/-! ### Strings -/
def hexs (c : UInt8) : List UInt8 := if c.toNat < 16 then [hexD c.toNat] else [hexD (c.toNat / 16), hexD (c.toNat % 16)]
/-- A byte of a string as it is printed. -/
def qc (c : UInt8) : List UInt8 :=
  if c.toNat = 34 then [92, 34] else if c.toNat = 92 then [92, 92] else if c.toNat = 10 then [92, 110] else if c.toNat = 13 then [92, 114] else if c.toNat = 9 then [92, 116]
  else if c.toNat < 32 ∨ c.toNat = 127 then 92 :: 117 :: 123 :: (hexs c ++ [125]) else [c]
def qs : List UInt8 → List UInt8
  | [] => []
  | c :: r => qc c ++ qs r
theorem qs_app (a b : List UInt8) : qs (a ++ b) = qs a ++ qs b := by
  induction a with
  | nil => rfl
  | cons c a ih => simp [qs, ih]
theorem qs_high {a : List UInt8} (h : ∀ c ∈ a, 128 ≤ c.toNat) : qs a = a := by
  induction a with
  | nil => rfl
  | cons c a ih =>
    have hc := h c (by simp)
    rw [qs, ih (fun x hx => h x (by simp [hx]))]
    unfold qc
    rw [if_neg (by omega), if_neg (by omega), if_neg (by omega), if_neg (by omega), if_neg (by omega), if_neg (by omega)]
    rfl
theorem hexs_fact : ∀ n : Fin 128, (∀ x ∈ hexs (UInt8.ofNat n.val), isHex x = true) ∧ hexN (hexs (UInt8.ofNat n.val)) = n.val ∧ (Utf8.encode n.val).data.toList = [UInt8.ofNat n.val] ∧ isPt n.val = true := by decide +kernel
theorem hexs_len (c : UInt8) : 1 ≤ (hexs c).length ∧ (hexs c).length ≤ 2 := by unfold hexs; split <;> simp
theorem esc_ctl {c : UInt8} (hc : c.toNat < 128) (z : List UInt8) : esc (92 :: 117 :: 123 :: (hexs c ++ 125 :: z)) = .ok (4 + (hexs c).length) [c] := by
  obtain ⟨h1, h2, h3, h4⟩ := hexs_fact ⟨c.toNat, hc⟩
  have hcc : UInt8.ofNat c.toNat = c := by simp
  simp only [hcc] at h1 h2 h3
  have hl := hexs_len c
  have hs : spn isHex (hexs c ++ 125 :: z) = (hexs c).length := spn_stop h1 (by decide) z
  have hd : (92 :: 117 :: 123 :: (hexs c ++ 125 :: z)).drop 3 = hexs c ++ 125 :: z := rfl
  have hn : nth (92 :: 117 :: 123 :: (hexs c ++ 125 :: z)) (3 + (hexs c).length) = 125 := by
    rw [← nth_drop, hd, nth_appL]
    rfl
  unfold esc
  have h0 : simple (nth (92 :: 117 :: 123 :: (hexs c ++ 125 :: z)) 1) = none := by
    show simple 117 = none
    decide
  rw [h0]
  simp only
  rw [hd, hs, hn, if_pos ⟨by rfl, by rfl, by omega, by omega, by rfl⟩, List.take_left, h2, h3, if_pos h4]
  rw [show 3 + (hexs c).length + 1 = 4 + (hexs c).length by omega]
theorem nth_of_drop {r q : List UInt8} {i : Nat} (h : r.drop i = q) (k : Nat) : nth r (i + k) = nth q k := by rw [← h, nth_drop]
theorem drop_of_drop {r q : List UInt8} {i : Nat} (h : r.drop i = q) (k : Nat) : r.drop (i + k) = q.drop k := by rw [← h, List.drop_drop]
theorem len_of_drop {r q : List UInt8} {i : Nat} (h : r.drop i = q) (hq : q ≠ []) : i + q.length = r.length := by
  have := congrArg List.length h
  rw [List.length_drop] at this
  have := List.length_pos_iff.2 hq
  omega
theorem strB_quote : ∀ (n : Nat) (v : List UInt8), v.length ≤ n → Lib.validD v = true → ∀ (r : List UInt8) (i f : Nat) (acc z : List UInt8), r.drop i = qs v ++ 34 :: z → v.length < f →
    strB f r i acc = .ok (i + (qs v).length + 1) (acc ++ v) := by
  intro n
  induction n with
  | zero =>
    intro v hn hv r i f acc z hr hf
    have : v = [] := List.eq_nil_of_length_eq_zero (by omega)
    subst this
    obtain ⟨f, rfl⟩ : ∃ g, f = g + 1 := ⟨f - 1, by simp at hf; omega⟩
    have h0 : nth r i = 34 := nth_of_drop hr 0
    have hl := len_of_drop hr (by simp)
    unfold strB
    rw [if_neg (by simp [qs] at hl; omega), h0, if_pos (show UInt8.toNat 34 = 34 from rfl)]
    simp [qs]
  | succ n ih =>
    intro v hn hv r i f acc z hr hf
    obtain ⟨f, rfl⟩ : ∃ g, f = g + 1 := ⟨f - 1, by omega⟩
    by_cases hne : v = []
    · subst hne
      have h0 : nth r i = 34 := nth_of_drop hr 0
      have hl := len_of_drop hr (by simp)
      unfold strB
      rw [if_neg (by simp [qs] at hl; omega), h0, if_pos (show UInt8.toNat 34 = 34 from rfl)]
      simp [qs]
    · obtain ⟨h1, h2⟩ := valid_cut hne hv
      obtain ⟨h3, h4, h5⟩ := dec_front hne h1
      have hk := dec_bd hne
      have hlen := len_of_drop hr (by simp)
      have hil : ¬ r.length ≤ i := by rw [List.length_append, List.length_cons] at hlen; omega
      have e : v = v.take (dec v).2 ++ v.drop (dec v).2 := (List.take_append_drop _ _).symm
      generalize hkk : (dec v).2 = k at *
      obtain ⟨v', hv'⟩ : ∃ v', v.drop k = v' := ⟨_, rfl⟩
      obtain ⟨ch, hch⟩ : ∃ ch, v.take k = ch := ⟨_, rfl⟩
      rw [hch, hv'] at e
      rw [hch] at h3 h4 h5
      rw [hv'] at h2
      have hvl : v'.length ≤ n := by rw [← hv', List.length_drop]; omega
      have hvf : v'.length < f := by rw [← hv', List.length_drop]; omega
      have hq : qs v = qs ch ++ qs v' := by rw [e, qs_app]
      rw [hq, List.append_assoc] at hr
      -- the step: from place i on by |qs ch|, giving ch
      have go : ∀ m, m = (qs ch).length → strB f r (i + m) (acc ++ ch) = .ok (i + (qs v).length + 1) (acc ++ v) := fun m hm => by
        rw [ih v' hvl h2 r (i + m) f (acc ++ ch) z (by rw [drop_of_drop hr, hm, List.drop_left]) hvf, hq, List.length_append, hm]
        congr 1
        · omega
        · rw [List.append_assoc, ← e]
      unfold strB
      rw [if_neg hil]
      rcases h3 with ⟨h6, h7⟩ | ⟨h6, h7, h8⟩
      · obtain ⟨c, rfl⟩ := List.length_eq_one_iff.1 h6
        have hc : c.toNat < 128 := h7
        have hqs : qs [c] = qc c := by simp [qs]
        rw [hqs] at hr go
        have simpleC : ∀ x : UInt8, qc c = [92, x] → simple x = some c → (if (nth r i).toNat = 34 then Bd.ok (i + 1) acc else if (nth r i).toNat = 92 then (match esc (r.drop i) with | .ok n b => strB f r (i + n) (acc ++ b) | .bad e => .bad i e) else if (nth r i).toNat < 32 ∨ (nth r i).toNat = 127 then .bad i 6 else if decBad (r.drop i) then .bad i 16 else strB f r (i + (dec (r.drop i)).2) (acc ++ (r.drop i).take (dec (r.drop i)).2)) = .ok (i + (qs v).length + 1) (acc ++ v) := by
          intro x hx hs
          rw [hx] at hr go
          have h0 : nth r i = 92 := nth_of_drop hr 0
          rw [h0, if_neg (by decide), if_pos (by decide), hr]
          have he : esc ([92, x] ++ (qs v' ++ 34 :: z)) = .ok 2 [c] := by
            unfold esc
            have : nth ([92, x] ++ (qs v' ++ 34 :: z)) 1 = x := rfl
            rw [this, hs]
          rw [he]
          exact go 2 rfl
        by_cases k1 : c.toNat = 34
        · exact simpleC 34 (by unfold qc; rw [if_pos k1]) (by rw [u8_of k1 (by decide)]; decide)
        by_cases k2 : c.toNat = 92
        · exact simpleC 92 (by unfold qc; rw [if_neg k1, if_pos k2]) (by rw [u8_of k2 (by decide)]; decide)
        by_cases k3 : c.toNat = 10
        · exact simpleC 110 (by unfold qc; rw [if_neg k1, if_neg k2, if_pos k3]) (by rw [u8_of k3 (by decide)]; decide)
        by_cases k4 : c.toNat = 13
        · exact simpleC 114 (by unfold qc; rw [if_neg k1, if_neg k2, if_neg k3, if_pos k4]) (by rw [u8_of k4 (by decide)]; decide)
        by_cases k5 : c.toNat = 9
        · exact simpleC 116 (by unfold qc; rw [if_neg k1, if_neg k2, if_neg k3, if_neg k4, if_pos k5]) (by rw [u8_of k5 (by decide)]; decide)
        clear simpleC
        by_cases k6 : c.toNat < 32 ∨ c.toNat = 127
        · have hx : qc c = 92 :: 117 :: 123 :: (hexs c ++ [125]) := by unfold qc; rw [if_neg k1, if_neg k2, if_neg k3, if_neg k4, if_neg k5, if_pos k6]
          rw [hx] at hr go
          have h0 : nth r i = 92 := nth_of_drop hr 0
          have he : esc (r.drop i) = .ok (4 + (hexs c).length) [c] := by
            rw [hr]
            have := esc_ctl hc (qs v' ++ 34 :: z)
            simpa using this
          rw [h0, if_neg (by decide), if_pos (by decide), he]
          exact go _ (by simp; omega)
        · have hx : qc c = [c] := by unfold qc; rw [if_neg k1, if_neg k2, if_neg k3, if_neg k4, if_neg k5, if_neg k6]
          rw [hx] at hr go
          have h0 : nth r i = c := nth_of_drop hr 0
          have hd : dec (r.drop i) = dec v := by rw [hr]; exact h5 _
          rw [h0, if_neg k1, if_neg k2, if_neg k6, if_neg (by unfold decBad; rw [hd]; rintro ⟨x1, x2⟩; exact h1 ⟨x1, by omega⟩), hd, hkk, hr]
          have : k = 1 := by simpa using h4.symm
          subst this
          exact go 1 rfl
      · have hx : qs ch = ch := qs_high h7
        rw [hx] at hr go
        have hpos : 0 < ch.length := by omega
        have h0 : nth r i = nth ch 0 := by
          have := nth_of_drop hr 0
          rw [nth_app1 hpos] at this
          exact this
        have hd : dec (r.drop i) = dec v := by rw [hr]; exact h5 _
        rw [h0, if_neg (by omega), if_neg (by omega), if_neg (by omega), if_neg (by unfold decBad; rw [hd]; rintro ⟨x1, x2⟩; rw [hkk] at x2; omega), hd, hkk, hr, ← h4, List.take_left]
        exact go _ rfl
def quoteL (v : List UInt8) : List UInt8 := 34 :: (qs v ++ [34])
theorem lexS_quote {v : List UInt8} (hv : Lib.validD v = true) (z : List UInt8) : lexS (quoteL v ++ z) = if 1024 < v.length then .bad 0 5 else .ok (quoteL v).length ⟨3, [], v, 0, 0⟩ := by
  have e : quoteL v ++ z = 34 :: (qs v ++ 34 :: z) := by simp [quoteL]
  have hq : v.length ≤ (qs v).length := by
    clear e hv
    induction v with
    | nil => exact Nat.le_refl _
    | cons c v ih =>
      have : 1 ≤ (qc c).length := by unfold qc; repeat' split
                                     all_goals simp
      simp only [qs, List.length_append, List.length_cons]
      omega
  unfold lexS
  rw [strB_quote v.length v (Nat.le_refl _) hv (quoteL v ++ z) 1 ((quoteL v ++ z).length + 1) [] z (by rw [e]; rfl) (by rw [e]; simp; omega)]
  simp only [List.nil_append]
  have : 1 + (qs v).length + 1 = (quoteL v).length := by simp [quoteL]; omega
  rw [this]
/-- What is read as a string is valid. -/
theorem strB_valid : ∀ (f : Nat) (r : List UInt8) (i : Nat) (acc : List UInt8) {n : Nat} {b : List UInt8}, Lib.validD acc = true → strB f r i acc = .ok n b → Lib.validD b = true
  | 0, r, i, acc, n, b, ha, h => by simp [strB] at h
  | f + 1, r, i, acc, n, b, ha, h => by
    unfold strB at h
    split at h
    · cases h
    · rename_i hi
      split at h
      · injection h with h1 h2
        rw [← h2]
        exact ha
      · split at h
        · rcases he : esc (r.drop i) with ⟨m, c⟩ | ⟨e⟩ <;> rw [he] at h
          · refine strB_valid f r _ _ (valid_app _ _ _ (Nat.le_refl _) ha ?_) h
            unfold esc at he
            rcases hs : simple (nth (r.drop i) 1) with _ | x <;> rw [hs] at he
            · simp only at he
              split at he
              · split at he
                · rename_i hp
                  injection he with _ h2
                  rw [← h2]
                  exact valid_enc hp
                · cases he
              · cases he
            · simp only at he
              injection he with _ h2
              rw [← h2]
              unfold simple at hs
              repeat' split at hs
              all_goals first | (injection hs with hs; rw [← hs]; decide) | cases hs
          · cases h
        · split at h
          · cases h
          · split at h
            · cases h
            · rename_i hb
              have hne : r.drop i ≠ [] := fun e => by have := congrArg List.length e; simp at this; omega
              have hk := dec_bd hne
              have h1 : ¬ ((dec (r.drop i)).1 = 65533 ∧ (dec (r.drop i)).2 = 1) := fun k => hb ⟨k.1, by omega⟩
              obtain ⟨_, h4, h5⟩ := dec_front hne h1
              have h6 := h5 []
              rw [List.append_nil] at h6
              refine strB_valid f r _ _ (valid_app _ _ _ (Nat.le_refl _) ha (valid_chr ?_ ?_ ?_)) h
              · intro e; rw [e] at h4; simp at h4; omega
              · rw [h6]; exact h1
              · rw [h6, h4]
theorem lexS_valid {r : List UInt8} {n : Nat} {t : Tk} (h : lexS r = .ok n t) : Lib.validD t.v = true ∧ t.v.length ≤ 1024 ∧ t.k = 3 ∧ t.tx = [] ∧ t.n = 0 ∧ t.s = 0 := by
  unfold lexS at h
  split at h
  · rename_i m b hb
    split at h
    · cases h
    · rename_i hl
      injection h with _ h2
      rw [← h2]
      exact ⟨strB_valid _ _ _ _ rfl hb, by simp only; omega, rfl, rfl, rfl, rfl⟩
  · cases h
end Go.Proofs.YtmchiibbodllaaaGreatDoor
