/- Words and symbols: plain text, IsWord, IsSymbol, Symbols. -/
import Derived.Test.YtmchiibbodllaaaGreatDoorPrM
import Derived.Test.YtmchiibbodllaaaGreatDoorScA
import Derived.Test.YtmchiibbodllaaaGreatDoorLEnv
import Derived.Test.YtmchiibbodllaaaGreatDoorShelf3
import Derived.Sort.OwnSorted
namespace Go.Proofs.YtmchiibbodllaaaGreatDoor
set_option linter.unusedVariables false
set_option linter.unnecessarySimpa false
set_option linter.unusedSimpArgs false

def wordB (l : List UInt8) : Bool := decide (1 ≤ l.length ∧ l.length ≤ 64) && (isLet (nth l 0) && l.all isPart)
def symB (l : List UInt8) : Bool := (decide (l.length = 1) && decide (nth l 0 ∈ singlesL)) || decide (l ∈ pairsL)
theorem spn_allW {p : UInt8 → Bool} : ∀ l : List UInt8, l.all p = true → spn p l = l.length
  | [], _ => rfl
  | c :: r, h => by
    rw [List.all_cons, Bool.and_eq_true] at h
    rw [spn, if_pos h.1, spn_allW r h.2]
    rfl
theorem all_spnW {p : UInt8 → Bool} : ∀ l : List UInt8, spn p l = l.length → l.all p = true
  | [], _ => rfl
  | c :: r, h => by
    rw [spn] at h
    split at h
    · rename_i hc
      rw [List.all_cons, hc, all_spnW r (by simpa using h)]
      rfl
    · cases h
theorem let_bl {c : UInt8} (h : isLet c = true) : isBl c = false ∧ c.toNat ≠ 47 ∧ isPart c = true := by
  unfold isLet at h
  simp only [Bool.or_eq_true, Bool.and_eq_true, decide_eq_true_eq] at h
  refine ⟨?_, by omega, ?_⟩
  · unfold isBl
    simp only [Bool.or_eq_false_iff, decide_eq_false_iff_not]
    omega
  · unfold isPart isLet
    simp only [Bool.or_eq_true, Bool.and_eq_true, decide_eq_true_eq]
    omega
theorem scan_word {l : List UInt8} (h : wordB l = true) : scanL l = .ok [⟨0, false, ⟨1, l, [], 0, 0⟩⟩] := by
  unfold wordB at h
  simp only [Bool.and_eq_true, decide_eq_true_eq] at h
  obtain ⟨⟨h1, h2⟩, h3, h4⟩ := h
  obtain ⟨b1, b2, b3⟩ := let_bl h3
  have hb : blk false l = 0 := by
    have := blk_no (l := l) (i := 0) b1 (fun h => b2 h.1)
    simpa using this
  refine scan_ok1 h1 hb ?_
  have hs := spn_allW l h4
  unfold lex1
  rw [if_neg, if_pos h3]
  · unfold lexW
    rw [hs, if_neg (by omega), List.take_length]
  · rintro ⟨h5, h6⟩
    have : isPart (nth l 1) = true := by
      rcases Nat.lt_or_ge 1 l.length with h7 | h7
      · rw [nth_get h7]
        exact List.all_eq_true.1 h4 _ (List.getElem_mem h7)
      · rw [nth_end h7] at h6
        cases h6
    unfold isPart isLet isDig at this
    simp only [Bool.or_eq_true, Bool.and_eq_true, decide_eq_true_eq] at this
    omega
theorem sym_cases {l : List UInt8} (h : symB l = true) : l ∈ singlesL.map (fun c => [c]) ++ pairsL := by
  unfold symB at h
  simp only [Bool.or_eq_true, Bool.and_eq_true, decide_eq_true_eq] at h
  rw [List.mem_append]
  rcases h with ⟨h1, h2⟩ | h
  · left
    match l, h1 with
    | [c], _ => exact List.mem_map.2 ⟨c, h2, rfl⟩
  · exact .inr h
theorem scan_sym {l : List UInt8} (h : symB l = true) : scanL l = .ok [⟨0, false, ⟨5, l, [], 0, 0⟩⟩] := by
  have h := sym_cases h
  simp only [singlesL, pairsL, List.map_cons, List.map_nil, List.cons_append, List.nil_append, List.mem_cons, List.not_mem_nil, or_false] at h
  rcases h with rfl | rfl | rfl | rfl | rfl | rfl | rfl | rfl | rfl | rfl | rfl | rfl | rfl | rfl | rfl | rfl | rfl | rfl | rfl | rfl | rfl | rfl | rfl | rfl | rfl
  all_goals exact scan_ok1 (by decide) (by decide +kernel) (by rfl)
theorem pairs_len {l : List UInt8} (h : l ∈ pairsL) : l.length = 2 := by
  simp only [pairsL, List.mem_cons, List.not_mem_nil, or_false] at h
  rcases h with rfl | rfl | rfl | rfl | rfl <;> rfl
theorem lex1_kind {r : List UInt8} {n : Nat} {t : Tk} (h : lex1 r = .ok n t) : (t.k = 1 → isLet (nth r 0) = true ∧ t.tx.length = spn isPart r ∧ spn isPart r ≤ 64) ∧ (t.k = 5 → t.tx ∈ pairsL ∧ t.tx = r.take 2 ∨ t.tx = r.take 1 ∧ nth r 0 ∈ singlesL) := by
  unfold lex1 at h
  split at h
  · unfold lexX at h
    split at h
    · cases h
    · split at h
      · cases h
      · split at h
        · cases h
        · injection h with _ h
          subst h
          exact ⟨fun h => (by cases h), fun h => (by cases h)⟩
  · split at h
    · rename_i hl
      unfold lexW at h
      split at h
      · cases h
      · rename_i h64
        injection h with _ h
        subst h
        refine ⟨fun _ => ⟨hl, ?_, by omega⟩, fun h => by cases h⟩
        have := spn_le isPart r
        simp only [List.length_take]
        omega
    · split at h
      · unfold lexN at h
        split at h
        · cases h
        · split at h
          · cases h
          · injection h with _ h
            subst h
            exact ⟨fun h => (by cases h), fun h => (by cases h)⟩
      · split at h
        · unfold lexS at h
          split at h
          · split at h
            · cases h
            · injection h with _ h
              subst h
              exact ⟨fun h => (by cases h), fun h => (by cases h)⟩
          · cases h
        · unfold lexY at h
          split at h
          · rename_i hp
            injection h with _ h
            subst h
            exact ⟨fun h => (by cases h), fun _ => .inl ⟨hp, rfl⟩⟩
          · split at h
            · rename_i hs
              injection h with _ h
              subst h
              exact ⟨fun h => (by cases h), fun _ => .inr ⟨rfl, hs⟩⟩
            · cases h
theorem of_scan {l : List UInt8} {p : Pl} (h : scanL l = .ok [p]) (ht : p.t.tx.length = l.length) (h0 : 1 ≤ l.length) : (p.t.k = 1 → wordB l = true) ∧ (p.t.k = 5 → symB l = true) := by
  obtain ⟨ps, hr, he, hc⟩ := scanL_ok h
  match ps, hr, he with
  | [], _, he => simp [plc] at he
  | x :: y :: r, _, he => simp [plc] at he
  | [x], hr, he =>
    simp only [plc, List.cons.injEq, and_true] at he
    subst he
    obtain ⟨h1, h2, h3, -⟩ := hr
    simp only at ht ⊢
    have hk := lex1_kind h3
    have hin := lex1_in (r := l.drop x.g) (by rw [List.length_drop]; omega)
    rw [h3] at hin
    have hin2 : 1 ≤ x.n ∧ x.n ≤ (l.drop x.g).length := hin
    rw [List.length_drop] at hin2
    constructor
    · intro hk1
      obtain ⟨h7, h8, h9⟩ := hk.1 hk1
      have h10 := spn_le isPart (l.drop x.g)
      rw [List.length_drop] at h10
      have hg : x.g = 0 := by omega
      rw [hg, List.drop_zero] at h7 h8 h9
      unfold wordB
      simp only [Bool.and_eq_true, decide_eq_true_eq]
      exact ⟨⟨h0, by omega⟩, h7, all_spnW l (by omega)⟩
    · intro hk5
      unfold symB
      rw [Bool.or_eq_true, Bool.and_eq_true, decide_eq_true_eq, decide_eq_true_eq, decide_eq_true_eq]
      rcases hk.2 hk5 with ⟨h7, h8⟩ | ⟨h7, h8⟩
      · right
        have h9 := pairs_len h7
        have h10 : x.t.tx.length = min 2 (l.length - x.g) := by rw [h8, List.length_take, List.length_drop]
        have hg : x.g = 0 := by omega
        rw [hg, List.drop_zero] at h8
        rw [show l = x.t.tx by rw [h8, List.take_of_length_le (by omega)]]
        exact h7
      · left
        have h10 : x.t.tx.length = min 1 (l.length - x.g) := by rw [h7, List.length_take, List.length_drop]
        have hg : x.g = 0 := by omega
        rw [hg, List.drop_zero] at h8
        exact ⟨by omega, h8⟩
theorem word_sym {l : List UInt8} (h : wordB l = true) : symB l = false := by
  rcases hs : symB l with _ | _
  · rfl
  · have h1 := scan_word h
    rw [scan_sym hs] at h1
    cases h1
/-- A text that is one token. -/
theorem one_tok {l : List UInt8} {p : Pl} (h : scanL l = .ok [p]) (ht : p.t.tx.length = l.length) (h0 : 1 ≤ l.length) : wordB l = decide (p.t.k = 1) ∧ symB l = decide (p.t.k = 5) := by
  obtain ⟨h1, h2⟩ := of_scan h ht h0
  refine ⟨?_, ?_⟩
  · rcases hw : wordB l with _ | _
    · symm
      rw [decide_eq_false_iff_not]
      intro hk
      rw [h1 hk] at hw
      cases hw
    · have h3 := scan_word hw
      rw [h] at h3
      simp only [Sc.ok.injEq, List.cons.injEq, and_true] at h3
      rw [h3]
      rfl
  · rcases hw : symB l with _ | _
    · symm
      rw [decide_eq_false_iff_not]
      intro hk
      rw [h2 hk] at hw
      cases hw
    · have h3 := scan_sym hw
      rw [h] at h3
      simp only [Sc.ok.injEq, List.cons.injEq, and_true] at h3
      rw [h3]
      rfl
/-- A text that is not one token. -/
theorem no_tok {l : List UInt8} (h : ∀ p, scanL l = .ok [p] → p.t.tx.length ≠ l.length) : wordB l = false ∧ symB l = false := by
  refine ⟨?_, ?_⟩
  · rcases hw : wordB l with _ | _
    · rfl
    · exact absurd rfl (h _ (scan_word hw))
  · rcases hw : symB l with _ | _
    · rfl
    · exact absurd rfl (h _ (scan_sym hw))
/-- The symbols, in order. -/
def symL : List (List UInt8) := [[33, 61], [38], [40], [41], [42], [43], [44], [45], [45, 62], [46], [46, 46], [58], [59], [60], [60, 61], [61], [62], [62, 61], [63], [64], [91], [93], [123], [124], [125]]
def rawL : List (List UInt8) := singlesL.map (fun c => [c]) ++ pairsL
theorem symL_len : symL.length = 25 := rfl
theorem symL_sym : ∀ (i : Nat) (x : List UInt8), symL[i]? = some x → symB x = true := by
  have h : ∀ x ∈ symL, symB x = true := by decide
  exact fun i x hx => h x (List.mem_of_getElem? hx)
theorem symL_sorted : rawL.mergeSort (fun x y => decide (x ≤ y)) = symL := by
  refine List.Perm.eq_of_pairwise (le := fun a b => decide (a ≤ b) = true) (fun a b _ _ h1 h2 => ?_) (List.pairwise_mergeSort (fun a b c h1 h2 => ?_) (fun a b => ?_) rawL) ?_ ((List.mergeSort_perm rawL _).trans (by decide))
  · simp only [decide_eq_true_eq] at h1 h2
    exact List.le_antisymm h1 h2
  · simp only [decide_eq_true_eq] at h1 h2 ⊢
    exact List.le_trans h1 h2
  · simp only [Bool.or_eq_true, decide_eq_true_eq]
    exact List.le_total a b
  · decide
theorem symL_lt : ∀ (i : Nat) (x y : List UInt8), symL[i]? = some x → symL[i + 1]? = some y → ¬ y ≤ x := by
  have h : ∀ i : Fin 24, ∀ x : List UInt8, symL[i.1]? = some x → ∀ y : List UInt8, symL[i.1 + 1]? = some y → ¬ y ≤ x := by
    have h2 : ∀ i : Fin 24, ¬ (symL[i.1 + 1]?).getD [] ≤ (symL[i.1]?).getD [] := by decide
    intro i x hx y hy
    have := h2 i
    rw [hx, hy] at this
    exact this
  intro i x y hx hy
  have : i + 1 < 25 := (List.getElem?_eq_some_iff.1 hy).1
  exact h ⟨i, by omega⟩ x hx y hy
end Go.Proofs.YtmchiibbodllaaaGreatDoor

namespace Go.Proofs.YtmchiibbodllaaaGreatDoor
set_option linter.unusedVariables false
set_option linter.unnecessarySimpa false
set_option linter.unusedSimpArgs false
open Go.RowKit

theorem wordB_no {l : List UInt8} {i : Nat} {b : UInt8} (hb : l[i]? = some b) (h : isPart b = false) : wordB l = false := by
  unfold wordB
  have : l.all isPart = false := by
    rw [List.all_eq_false]
    exact ⟨b, List.mem_of_getElem? hb, by rw [h]; decide⟩
  rw [this]
  simp
set_option maxRecDepth 20000 in set_option maxHeartbeats 1000000 in
theorem isword_any (s : ByteArray) (hs : s.size ≤ 1000) (w : World) : Calls Tryz.prog 41 #[.string s] w fun e w' => e = .returned (.bool (wordB s.data.toList)) ∧ w' = w := by
  have hl : Hid (s.data.toList.length = s.size) := rfl
  have hat : ∀ i (h : i < s.size), s.data.toList[i]? = some s[i] := fun i h => by
    have h1 : i < s.data.toList.length := h
    rw [List.getElem?_eq_getElem h1]
    rfl
  replace hat := Lib.hid hat
  have hn0 : ∀ (h : 0 < s.size), nth s.data.toList 0 = s[0] := fun h => nth_idx s h
  replace hn0 := Lib.hid hn0
  obtain ⟨l, hll⟩ : ∃ l, s.data.toList = l := ⟨_, rfl⟩
  rw [hll] at hl hat hn0 ⊢
  clear hll
  by_cases h1 : s.size < 1
  · rw [show wordB l = false by unfold wordB; simp only [Bool.and_eq_false_iff, decide_eq_false_iff_not]; left; have := hl.out; omega]
    have h1' : (s.size : Int) < 1 := by omega
    clear hat hn0
    go_enter Tryz.func41, Tryz.ntmps41
    go_wp2_with fail
    go_ret
    exact ⟨rfl, rfl⟩
  · have h1' : ¬ (s.size : Int) < 1 := by omega
    by_cases h2 : 64 < s.size
    · rw [show wordB l = false by unfold wordB; simp only [Bool.and_eq_false_iff, decide_eq_false_iff_not]; left; have := hl.out; omega]
      have h2' : (64 : Int) < (s.size : Int) := by omega
      clear hat hn0
      go_enter Tryz.func41, Tryz.ntmps41
      go_wp2_with fail
      go_ret
      exact ⟨rfl, rfl⟩
    · have h2' : ¬ (64 : Int) < (s.size : Int) := by omega
      have h3 : 0 < s.size := by omega
      have h3' : (0 : Int) < (s.size : Int) := by omega
      obtain ⟨b, hb⟩ : ∃ b, s[0] = b := ⟨_, rfl⟩
      have LB := Lib.hid (isLetter_any b w)
      have hnb : nth l 0 = b := by rw [hn0.out h3, hb]
      rcases hlb : isLet b with _ | _
      · rw [hlb] at LB
        rw [show wordB l = false by unfold wordB; rw [hnb, hlb]; simp]
        clear hat hn0 hlb hnb
        go_enter Tryz.func41, Tryz.ntmps41
        go_wp2_with fail
        go_at_call 69
        (with_reducible refine LB.out.mono ?_)
        rintro e1 w1 ⟨rfl, rfl⟩
        go_wp2_with fail
        go_ret
        exact ⟨rfl, rfl⟩
      · rw [hlb] at LB
        have HW : Hid (wordB l = l.all isPart) := by
          unfold Hid wordB
          rw [hnb, hlb, decide_eq_true (by have := hl.out; omega)]
          simp
        clear hn0 hlb hnb
        go_enter Tryz.func41, Tryz.ntmps41
        go_wp2_with fail
        go_at_call 69
        (with_reducible refine LB.out.mono ?_)
        rintro e1 w1 ⟨rfl, hw⟩
        obtain rfl := hw.symm
        clear hw LB hb
        go_wp2_with fail
        go_loopw [20] (fun iv wr => ∃ i : Nat, i ≤ s.size ∧ iv = .int .i64 (i : Int) ∧ Hid ((l.take i).all isPart = true) ∧ wr = w) (fun iv _ => s.size - (intOf iv).toNat)
        case atStart => exact ⟨0, Nat.zero_le _, rfl, by unfold Hid; rfl, rfl⟩
        case round =>
          obtain ⟨i, hi, rfl, hno, rfl⟩ := hrel
          by_cases hlt : i < s.size
          · have hlt' : (i : Int) < (s.size : Int) := by omega
            obtain ⟨b, hb⟩ : ∃ b, s[i] = b := ⟨_, rfl⟩
            have hlb : l[i]? = some b := by rw [hat.out i hlt, hb]
            have PB := Lib.hid (isPart_any b wr)
            have hs1 : Hid ((l.take (i + 1)).all isPart = isPart b) := by
              unfold Hid
              rw [List.take_add_one, hlb, List.all_append, hno.out]
              simp
            have hw2 : IntKind.i64.wrap ((i : Int) + 1) = ((i + 1 : Nat) : Int) := by rw [IntWalk.i64_in _ (by omega)]; omega
            rcases hpb : isPart b with _ | _
            · rw [hpb] at PB
              have hr := Lib.hid (wordB_no hlb hpb)
              clear hlb hpb hs1
              go_wp2_with fail
              go_at_call 70
              (with_reducible refine PB.out.mono ?_)
              rintro e1 w1 ⟨rfl, rfl⟩
              go_wp2_with fail
              go_ret
              exact ⟨by rw [hr.out]; rfl, rfl⟩
            · rw [hpb] at PB hs1
              clear hlb hpb
              go_wp2_with fail
              go_at_call 70
              (with_reducible refine PB.out.mono ?_)
              rintro e1 w1 ⟨rfl, rfl⟩
              go_wp2_with fail
              go_roundw
              case rel => exact ⟨i + 1, by omega, by go_num, hs1, trivial⟩
              case measure => simp [intOf]; omega
          · obtain rfl : i = s.size := by omega
            have hr : Hid (wordB l = true) := by
              unfold Hid
              rw [HW.out]
              have := hno.out
              rw [List.take_of_length_le (by have := hl.out; omega)] at this
              exact this
            go_wp2_with fail
            go_ret
            exact ⟨by rw [hr.out]; rfl, rfl⟩
end Go.Proofs.YtmchiibbodllaaaGreatDoor

namespace Go.Proofs.YtmchiibbodllaaaGreatDoor
set_option linter.unusedVariables false
set_option linter.unnecessarySimpa false
set_option linter.unusedSimpArgs false
open Go.RowKit Go.Sort

theorem idx_memW (c : UInt8) : ∀ l : List UInt8, decide (0 ≤ Lib.indexByte l c) = decide (c ∈ l)
  | [] => rfl
  | b :: l => by
    have ih := idx_memW c l
    rw [decide_eq_decide] at ih ⊢
    have hlow : -1 ≤ Lib.indexByte l c := by
      clear ih
      induction l with
      | nil => show (-1 : Int) ≤ -1; decide
      | cons x l ih =>
        unfold Lib.indexByte
        split
        · decide
        · split
          · decide
          · omega
    unfold Lib.indexByte
    rw [List.mem_cons]
    by_cases hb : b = c
    · subst hb
      simp
    · rw [if_neg (by simpa using hb)]
      by_cases h : Lib.indexByte l c = -1
      · rw [if_pos (by simpa using h)]
        rw [h] at ih
        have : ¬ c ∈ l := fun hm => absurd (ih.2 hm) (by decide)
        simp only [this, or_false]
        exact ⟨fun h => absurd h (by decide), fun h => absurd h.symm hb⟩
      · rw [if_neg (by simpa using h)]
        have h2 : c ∈ l := ih.1 (by omega)
        simp [h2]
        omega
theorem pairs_mem (x : ByteArray) : x ∈ pairsB ↔ x.data.toList ∈ pairsL := by
  have e : pairsL = pairsB.map (fun b => b.data.toList) := rfl
  rw [e, List.mem_map]
  constructor
  · exact fun h => ⟨x, h, rfl⟩
  · rintro ⟨y, h1, h2⟩
    have : y = x := by
      cases y; cases x
      simp only at h2
      rw [ByteArray.mk.injEq]
      exact Array.ext' h2
    rw [← this]
    exact h1
theorem contains_pairs (x : ByteArray) : Lib.containsS (pairsB.take 5) x = decide (x.data.toList ∈ pairsL) := by
  rw [Bool.eq_iff_iff, Lib.containsS_iff, decide_eq_true_eq, ← pairs_mem]
  rfl
section
variable {w : World}
theorem contains_wd (hE : Env w) (x : ByteArray) : Calls Tryz.prog 72 #[.slice (some ⟨0, 0, none⟩) 5 5, .string x] w fun e w' => e = .returned (.bool (decide (x.data.toList ∈ pairsL))) ∧ w' = w := by
  have h := AnyG.slices_Contains_string Tryz.contains72 0 0 5 5 pairsB x w (by decide) (by decide) (fun j hj => by
    rw [Nat.zero_add]
    refine hE.2.2.2 j _ ?_
    rw [List.getD_eq_getElem?_getD, List.getElem?_eq_getElem hj]
    rfl)
  rw [contains_pairs] at h
  exact h
set_option maxRecDepth 20000 in set_option maxHeartbeats 1000000 in
theorem issym_any (hE : Env w) (s : ByteArray) : Calls Tryz.prog 42 #[.string s] w fun e w' => e = .returned (.bool (symB s.data.toList)) ∧ w' = w := by
  have CT := Lib.hid (contains_wd hE s)
  have hlen : s.data.toList.length = s.size := rfl
  by_cases h1 : s.size = 1
  · obtain ⟨c, rfl⟩ : ∃ c, s = ⟨#[c]⟩ := by
      obtain ⟨⟨l⟩⟩ := s
      have : l.length = 1 := h1
      match l, this with
      | [c], _ => exact ⟨c, rfl⟩
    have CO := Lib.hid (Tryz.strings_Contains_one ⟨#[40, 41, 123, 125, 91, 93, 60, 62, 61, 58, 59, 44, 46, 63, 43, 45, 42, 38, 64, 124]⟩ c w)
    rw [idx_memW] at CO
    rw [show (⟨#[c]⟩ : ByteArray).data.toList = [c] from rfl]
    by_cases hc : c ∈ singlesL
    · rw [show symB [c] = true by unfold symB; simp [nth, hc]]
      rw [show decide (c ∈ (⟨#[40, 41, 123, 125, 91, 93, 60, 62, 61, 58, 59, 44, 46, 63, 43, 45, 42, 38, 64, 124]⟩ : ByteArray).data.toList) = true from decide_eq_true hc] at CO
      clear hc hlen h1 hE CT
      have hsz : (⟨#[c]⟩ : ByteArray).size = 1 := rfl
      go_enter Tryz.func42, Tryz.ntmps42
      go_wp2_with fail
      go_at_call 71
      (with_reducible refine CO.out.mono ?_)
      rintro e1 w1 ⟨rfl, rfl⟩
      go_wp2_with fail
      go_ret
      exact ⟨rfl, rfl⟩
    · rw [show decide (([c] : List UInt8) ∈ pairsL) = false by rw [decide_eq_false_iff_not]; intro h; cases pairs_len h] at CT
      rw [show symB [c] = false by
        unfold symB
        rw [show decide (([c] : List UInt8) ∈ pairsL) = false by rw [decide_eq_false_iff_not]; intro h; cases pairs_len h]
        simp [nth, hc]]
      rw [show decide (c ∈ (⟨#[40, 41, 123, 125, 91, 93, 60, 62, 61, 58, 59, 44, 46, 63, 43, 45, 42, 38, 64, 124]⟩ : ByteArray).data.toList) = false from decide_eq_false hc] at CO
      clear hc hlen h1 hE
      have hsz : (⟨#[c]⟩ : ByteArray).size = 1 := rfl
      go_enter Tryz.func42, Tryz.ntmps42
      go_wp2_with fail
      go_at_call 71
      (with_reducible refine CO.out.mono ?_)
      rintro e1 w1 ⟨rfl, rfl⟩
      go_wp2_with fail
      go_at_call 72
      (with_reducible refine CT.out.mono ?_)
      rintro e1 w1 ⟨rfl, rfl⟩
      go_wp2_with fail
      go_ret
      exact ⟨rfl, rfl⟩
  · have h1' : ¬ (s.size : Int) = 1 := by omega
    have hv : symB s.data.toList = decide (s.data.toList ∈ pairsL) := by
      unfold symB
      rw [hlen, decide_eq_false h1]
      simp
    rw [hv]
    obtain ⟨v, hv2⟩ : ∃ v, decide (s.data.toList ∈ pairsL) = v := ⟨_, rfl⟩
    rw [hv2] at CT ⊢
    clear hv hv2 hlen h1 hE
    go_enter Tryz.func42, Tryz.ntmps42
    go_wp2_with fail
    go_at_call 72
    (with_reducible refine CT.out.mono ?_)
    rintro e1 w1 ⟨rfl, rfl⟩
    go_wp2_with fail
    go_ret
    exact ⟨rfl, rfl⟩
end
/-! ### Symbols -/
theorem split_wd (w : World) : Calls Tryz.prog 67 #[.string ⟨#[40, 41, 123, 125, 91, 93, 60, 62, 61, 58, 59, 44, 46, 63, 43, 45, 42, 38, 64, 124]⟩, .string ⟨#[]⟩] w fun e w' => ∃ A c, e = .returned (.slice A 20 c) ∧ Below w.heap.size w w' ∧ w'.ownsRow w.heap.size 9 1 (.slice A 20 c) 20 ((singlesL.map (fun c => [c])).map encStr) := by
  refine (Tryz.strings_Split_chars ⟨#[40, 41, 123, 125, 91, 93, 60, 62, 61, 58, 59, 44, 46, 63, 43, 45, 42, 38, 64, 124]⟩ ⟨#[]⟩ w rfl (by decide) ?_).mono ?_
  · intro j b hb
    have h : ∀ x ∈ singlesL, x.toNat < 128 := by decide
    exact h b (List.mem_of_getElem? hb)
  · rintro e w' ⟨rfl, rfl⟩
    refine ⟨_, _, rfl, (G.alloc (G.alloc (G.refl w) _) _), by simp [singlesL], .inr ⟨_, _, _, rfl, by simp [World.iter], heap_alloc_new _ _, by decide, by unfold maxLen; decide, by kernel_rfl, by kernel_rfl⟩⟩
theorem infoStr : (Tryz.prog.info? 9).map (fun i => (i.zero, i.size, i.bytes)) = some (some (.string ⟨#[]⟩), 1, 16) := by kernel_rfl
theorem pairs_sl {w : World} (hE : Env w) : Sl w (some ⟨0, 0, none⟩) (5 * 1) (pairsL.map encStr) := by
  refine ⟨rfl, fun _ => ⟨_, _, rfl, hE.lt (by simp [GB, GBl]), fun j u hu => ?_⟩⟩
  have hj : j < 5 := (List.getElem?_eq_some_iff.1 hu).1
  have e : pairsL.map encStr = pairsB.map Value.string := rfl
  rw [e, List.getElem?_map] at hu
  obtain ⟨t, ht, rfl⟩ := Option.map_eq_some_iff.1 hu
  rw [Nat.zero_add]
  exact hE.2.2.2 j t ht
theorem sort_wd {w : World} {base : Nat} {A : Option Addr} {c : Nat} (hown : w.ownsRow base 9 1 (.slice A 25 c) 25 (rawL.map encStr)) :
    Calls Tryz.prog 68 #[.slice A 25 c] w fun e w' => e = .returned (.tuple #[]) ∧ w.grownBy w' (Value.slice A 25 c).ownBlock ∧ w'.ownsRow base 9 1 (.slice A 25 c) 25 (symL.map encStr) := by
  rcases hown.2 with ⟨h, _⟩ | ⟨g, cap, cur, hv, hbase, hb, h1, h2, h3, h4⟩
  · cases h
  · cases hv
    have h := AnyM.slices_Sort_string Tryz.sort68 g 0 c rawL w (holds_of_block hb (by rw [Nat.mul_one] at h4; exact h4)) (Array.getElem?_eq_some_iff.1 hb).1 (by decide)
    rw [symL_sorted] at h
    refine Calls.mono (show Calls Tryz.prog 68 #[.slice (some ⟨g, 0, none⟩) 25 c] w _ from h) ?_
    rintro e w' ⟨rfl, n, os, rfl⟩
    exact ⟨rfl, grownBy_sorted _, ownsRow_sorted (ss := rawL) rfl hbase hb h1 h2 h3⟩
set_option maxRecDepth 20000 in set_option maxHeartbeats 2000000 in
theorem symbols_any {w : World} (hE : Env w) : Calls Tryz.prog 40 #[] w fun e w' => ∃ A c, e = .returned (.slice A 25 c) ∧ Below w.heap.size w w' ∧ w'.ownsRow w.heap.size 9 1 (.slice A 25 c) 25 (symL.map encStr) := by
  obtain ⟨iU, hUi, hU0, hU1, hU2⟩ := info_parts infoStr
  have HE := Lib.hid hE
  have hgl := hE.lt (x := 0) (by simp [GB, GBl])
  clear hE
  go_enter Tryz.func40, Tryz.ntmps40
  go_upto_region 1 with fail
  refine wp_region_ord [(1, 1), (0, 2), (2, 2), (3, 1)] [] 5 (by kernel_rfl) (by decide +kernel) ?_
  simp only [pickO, List.append_eq, List.cons_append, List.nil_append, List.getElem?_cons_succ, List.getElem?_cons_zero]
  intro w0 hG
  (repeat ((first | (with_reducible refine ord_q1 ?_) | (with_reducible refine ord_q0 ?_)); intro K hK; first | (refine Or.inr ⟨?_, ?_⟩; (focus (go_simp; first | done | (simp [undef]; done))); go_simp; (with_reducible refine hK _ ?_); clear hK K) | (refine Or.inl ⟨?_, ?_⟩; (focus (go_simp; done)); apply Exists.intro; refine And.intro ?_ ?_; (focus (first | (intro wq hq; obtain ⟨hcq, hfq⟩ := G.old hq; go_simp; (first | done | exact rfl); done) | (intro wq; go_simp; (first | done | exact rfl); done))); go_simp; (with_reducible refine hK _ ?_); clear hK K) | fail))
  have HG0 := Lib.hid hG.b
  have hGo := hG
  (with_reducible refine ord_run ?_ hG)
  intro K hK
  go_simp
  go_at_call 67; (refine (split_wd _).mono ?_); rintro e w2 ⟨A2, c2, rfl, hb1, hown⟩; have HOW := Lib.hid hown; clear hown
  replace hG := Grew.trans hG hb1
  (try dsimp only)
  (with_reducible refine hK _ _ hG ?_)
  clear hK K
  (repeat ((first | (with_reducible refine ord_q1 ?_) | (with_reducible refine ord_q0 ?_)); intro K hK; first | (refine Or.inr ⟨?_, ?_⟩; (focus (go_simp; first | done | (simp [undef]; done))); go_simp; (with_reducible refine hK _ ?_); clear hK K) | (refine Or.inl ⟨?_, ?_⟩; (focus (go_simp; done)); apply Exists.intro; refine And.intro ?_ ?_; (focus (first | (intro wq hq; obtain ⟨hcq, hfq⟩ := G.old hq; go_simp; (first | done | exact rfl); done) | (intro wq; go_simp; (first | done | exact rfl); done))); go_simp; (with_reducible refine hK _ ?_); clear hK K) | fail))
  have HP := Lib.hid (pairs_sl (HE.out.grow hG.b))
  (with_reducible refine ord_run ?_ hG)
  intro K hK
  refine step_app _ rfl (.tmp 2) (.tmp 3) _ rfl w0.heap.size 9 iU _ 1 16 Tryz.underlying56 hUi hU0 hU1 hU2 rfl Nat.zero_lt_one (.slice A2 20 c2) 20 _ rfl HOW.out (some ⟨0, 0, none⟩) 5 5 (pairsL.map encStr) rfl HP.out (by simp [encStr, Value.oneCell']) (by unfold maxLen; decide) (by decide) hb1.size ?_; intro A3 c3 w3 hown3 hc3 hm3 hg3; have hb3 : Below w0.heap.size w0 w3 := hb1.grown hg3 hb1.size (fun q hq => (HOW.out.lt q hq).1); replace hG := hGo; have HOW3 := Lib.hid hown3
  replace hG := Grew.trans hG hb3
  (try dsimp only)
  (with_reducible refine hK _ _ hG ?_)
  clear hK K
  (repeat ((first | (with_reducible refine ord_q1 ?_) | (with_reducible refine ord_q0 ?_)); intro K hK; first | (refine Or.inr ⟨?_, ?_⟩; (focus (go_simp; first | done | (simp [undef]; done))); go_simp; (with_reducible refine hK _ ?_); clear hK K) | (refine Or.inl ⟨?_, ?_⟩; (focus (go_simp; done)); apply Exists.intro; refine And.intro ?_ ?_; (focus (first | (intro wq hq; obtain ⟨hcq, hfq⟩ := G.old hq; go_simp; (first | done | exact rfl); done) | (intro wq; go_simp; (first | done | exact rfl); done))); go_simp; (with_reducible refine hK _ ?_); clear hK K) | fail))
  (with_reducible refine ord_nil ?_)
  have HOW4 : Hid (w3.ownsRow w0.heap.size 9 1 (.slice A3 25 c3) 25 (rawL.map encStr)) := HOW3.out
  clear hown3 hc3 hm3 hg3 HOW3 HOW hb1 hb3 HP hGo
  have hs0 := HG0.out.size
  have HG3 := Lib.hid (hG.b)
  clear hG
  go_wp2_with fail
  go_at_call 68
  (with_reducible refine (sort_wd HOW4.out).mono ?_)
  rintro e1 w4 ⟨rfl, hg4, hown4⟩
  have hb4 : Hid (Below w.heap.size w w4) := Lib.hid (HG3.out.grown hg4 HG3.out.size (fun q hq => Nat.le_trans hs0 (HOW4.out.lt q hq).1))
  have HOW5 : Hid (w4.ownsRow w.heap.size 9 1 (.slice A3 25 c3) 25 (symL.map encStr)) := by
    refine ⟨hown4.1, ?_⟩
    rcases hown4.2 with ⟨h, _⟩ | ⟨g, cap, cur, hv, hbase, rest⟩
    · cases h
    · exact .inr ⟨g, cap, cur, hv, Nat.le_trans hs0 hbase, rest⟩
  clear hg4 hown4 HOW4 HG3
  go_wp2_with fail
  go_ret
  exact ⟨_, _, rfl, hb4.out, HOW5.out⟩
end Go.Proofs.YtmchiibbodllaaaGreatDoor
