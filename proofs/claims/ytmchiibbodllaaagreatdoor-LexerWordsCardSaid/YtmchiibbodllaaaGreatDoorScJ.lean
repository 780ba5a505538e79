/- lexer: the ways of reading a token, and slices.ContainsFunc over them. -/
import Derived.Test.YtmchiibbodllaaaGreatDoorScD
import Derived.Test.YtmchiibbodllaaaGreatDoorScG
import Derived.Test.YtmchiibbodllaaaGreatDoorScI
namespace Go.Proofs.YtmchiibbodllaaaGreatDoor
set_option linter.unusedVariables false
set_option linter.unnecessarySimpa false
set_option linter.unusedSimpArgs false
open Go.RowKit

theorem Rd.grow {w w1 w2 : World} {b r : Nat} {s : ByteArray} {i : Nat} {wg ln cl : Int} {j : Bool} {x : Lx} (hb : Below w.heap.size w w1) (h : Rd w1 w2 b r s i wg ln cl j x) : Rd w w2 b r s i wg ln cl j x := by
  rcases x with ⟨n, t⟩ | ⟨o, e⟩
  · exact ⟨h.1, h.2.1, (Chg.of_below hb).trans h.2.2⟩
  · exact ⟨h.1, h.2.1, (Chg.of_below hb).trans h.2.2⟩
/-- Does the way k take the token? -/
def Hit (q : List UInt8) (k : Nat) : Prop := way q = k ∧ (k = 4 → ∃ n t, lexY q = .ok n t)
theorem lex1_way (q : List UInt8) : (way q = 0 → lex1 q = lexX q) ∧ (way q = 1 → lex1 q = lexW q) ∧ (way q = 2 → lex1 q = lexN q) ∧ (way q = 3 → lex1 q = lexS q) ∧ (way q = 4 → lex1 q = lexY q) := by
  unfold way lex1
  by_cases h0 : (nth q 0).toNat = 120 ∧ (nth q 1).toNat = 34
  · rw [if_pos h0, if_pos h0]; simp
  · rw [if_neg h0, if_neg h0]
    by_cases h1 : isLet (nth q 0) = true
    · rw [if_pos h1, if_pos h1]; simp
    · rw [if_neg h1, if_neg h1]
      by_cases h2 : isDig (nth q 0) = true
      · rw [if_pos h2, if_pos h2]; simp
      · rw [if_neg h2, if_neg h2]
        by_cases h3 : (nth q 0).toNat = 34
        · rw [if_pos h3, if_pos h3]; simp
        · rw [if_neg h3, if_neg h3]; simp
theorem way_le (q : List UInt8) : way q ≤ 4 := by unfold way; repeat' split
                                                  all_goals omega
/-- A symbol's head is no other token's head. -/
theorem sym_way {q : List UInt8} {n : Nat} {t : Tk} (hq : 1 ≤ q.length) (h : lexY q = .ok n t) : way q = 4 := by
  have hs : isLet (nth q 0) = false ∧ isDig (nth q 0) = false ∧ (nth q 0).toNat ≠ 34 ∧ (nth q 0).toNat ≠ 120 := by
    have key : ∀ c : UInt8, (c ∈ singlesL ∨ c.toNat = 45 ∨ c.toNat = 33 ∨ c.toNat = 60 ∨ c.toNat = 62 ∨ c.toNat = 46) → isLet c = false ∧ isDig c = false ∧ c.toNat ≠ 34 ∧ c.toNat ≠ 120 := by
      intro c hc
      have : c.toNat ∈ [40, 41, 123, 125, 91, 93, 60, 62, 61, 58, 59, 44, 46, 63, 43, 45, 42, 38, 64, 124, 33] := by
        rcases hc with hc | hc
        · unfold singlesL at hc
          simp only [List.mem_cons, List.not_mem_nil, or_false] at hc
          rcases hc with h | h | h | h | h | h | h | h | h | h | h | h | h | h | h | h | h | h | h | h <;> subst h <;> decide
        · simp only [List.mem_cons, List.not_mem_nil, or_false]; omega
      simp only [List.mem_cons, List.not_mem_nil, or_false] at this
      unfold isLet isDig
      simp only [Bool.or_eq_false_iff, Bool.and_eq_false_iff, decide_eq_false_iff_not]
      omega
    unfold lexY at h
    split at h
    · rename_i h1
      refine key _ (.inr ?_)
      obtain ⟨a', ha⟩ : ∃ a', q.take 2 = nth q 0 :: a' := by
        rcases q with _ | ⟨c, r⟩
        · simp at hq
        · exact ⟨_, rfl⟩
      rw [ha] at h1
      unfold pairsL at h1
      simp only [List.mem_cons, List.not_mem_nil, or_false, List.cons.injEq] at h1
      rcases h1 with h | h | h | h | h <;> rw [h.1] <;> decide
    · split at h
      · rename_i h1; exact key _ (.inl h1)
      · cases h
  unfold way
  rw [if_neg (fun k => hs.2.2.2 k.1), if_neg (by rw [hs.1]; decide), if_neg (by rw [hs.2.1]; decide), if_neg hs.2.2.1]
def hits (q : List UInt8) (k : Nat) : Bool := decide (way q = k) && (decide (k ≠ 4) || (match lexY q with | .ok _ _ => true | .bad _ _ => false))
/-- What a way of reading answers. -/
def RetW (w : World) (b r : Nat) (s : ByteArray) (i : Nat) (wg ln cl : Int) (j : Bool) (v : Bool) (e : Ending) (w' : World) : Prop :=
  e = .returned (.bool v) ∧ (v = true → Rd w w' b r s i wg ln cl j (lex1 (s.data.toList.drop i))) ∧ (v = false → Below w.heap.size w w')
def Pre (b r : Nat) (s : ByteArray) (i : Nat) (wg ln cl : Int) (j : Bool) (w : World) : Prop := Env w ∧ Bx w b (scC s i wg 0) ∧ Bx w r (tkC 0 ln cl ⟨#[]⟩ ⟨#[]⟩ 0 0 j)
theorem Pre.grow {b r : Nat} {s : ByteArray} {i : Nat} {wg ln cl : Int} {j : Bool} {w w' : World} (h : Pre b r s i wg ln cl j w) (hb : Below w.heap.size w w') : Pre b r s i wg ln cl j w' := ⟨h.1.grow hb, h.2.1.grow hb, h.2.2.grow hb⟩
def fnV (k b : Nat) : Value := .func (.func k) #[.pointer (some ⟨b, 0, none⟩)] #[]
section
variable {w : World} {b r : Nat} {s : ByteArray} {i : Nat} {wg ln cl : Int} {j : Bool}
theorem way0_any (hP : Pre b r s i wg ln cl j w) (hgb : ¬ GB b) (hgr : ¬ GB r) (hbr : r ≠ b) (hs : s.size ≤ 100000) (hi : i < s.size) :
    Calls Tryz.prog 43 #[.pointer (some ⟨b, 0, none⟩), .pointer (some ⟨r, 0, none⟩)] w (RetW w b r s i wg ln cl j (decide (way (s.data.toList.drop i) = 0))) := by
  refine (bytes_any hP.2.1 hP.2.2 hbr hs hi).mono fun e w' h => ?_
  by_cases hk : way (s.data.toList.drop i) = 0
  · obtain ⟨h1, h2⟩ := h.1 hk
    exact ⟨by rw [h1, decide_eq_true hk], fun _ => by rw [(lex1_way _).1 hk]; exact h2, fun hf => by simp [hk] at hf⟩
  · obtain ⟨h1, h2⟩ := h.2 hk
    exact ⟨by rw [h1, decide_eq_false hk], fun hf => by simp [hk] at hf, fun _ => h2⟩
theorem way1_any (hP : Pre b r s i wg ln cl j w) (hgb : ¬ GB b) (hgr : ¬ GB r) (hbr : r ≠ b) (hs : s.size ≤ 100000) (hi : i < s.size) :
    Calls Tryz.prog 44 #[.pointer (some ⟨b, 0, none⟩), .pointer (some ⟨r, 0, none⟩)] w (RetW w b r s i wg ln cl j (decide (way (s.data.toList.drop i) = 1))) := by
  refine (word_any hP.2.1 hP.2.2 hbr hs hi).mono fun e w' h => ?_
  by_cases hk : way (s.data.toList.drop i) = 1
  · obtain ⟨h1, h2⟩ := h.1 hk
    exact ⟨by rw [h1, decide_eq_true hk], fun _ => by rw [(lex1_way _).2.1 hk]; exact h2, fun hf => by simp [hk] at hf⟩
  · obtain ⟨h1, h2⟩ := h.2 hk
    exact ⟨by rw [h1, decide_eq_false hk], fun hf => by simp [hk] at hf, fun _ => h2⟩
theorem way2_any (hP : Pre b r s i wg ln cl j w) (hgb : ¬ GB b) (hgr : ¬ GB r) (hbr : r ≠ b) (hs : s.size ≤ 100000) (hi : i < s.size) :
    Calls Tryz.prog 45 #[.pointer (some ⟨b, 0, none⟩), .pointer (some ⟨r, 0, none⟩)] w (RetW w b r s i wg ln cl j (decide (way (s.data.toList.drop i) = 2))) := by
  refine (number_any hP.1 hgb hgr hP.2.1 hP.2.2 hbr hs hi).mono fun e w' h => ?_
  by_cases hk : way (s.data.toList.drop i) = 2
  · obtain ⟨h1, h2⟩ := h.1 hk
    exact ⟨by rw [h1, decide_eq_true hk], fun _ => by rw [(lex1_way _).2.2.1 hk]; exact h2, fun hf => by simp [hk] at hf⟩
  · obtain ⟨h1, h2⟩ := h.2 hk
    exact ⟨by rw [h1, decide_eq_false hk], fun hf => by simp [hk] at hf, fun _ => h2⟩
theorem way3_any (hP : Pre b r s i wg ln cl j w) (hgb : ¬ GB b) (hgr : ¬ GB r) (hbr : r ≠ b) (hs : s.size ≤ 100000) (hi : i < s.size) :
    Calls Tryz.prog 46 #[.pointer (some ⟨b, 0, none⟩), .pointer (some ⟨r, 0, none⟩)] w (RetW w b r s i wg ln cl j (decide (way (s.data.toList.drop i) = 3))) := by
  refine (scText_any hP.1 hgb hgr hP.2.1 hP.2.2 hbr hs hi).mono fun e w' h => ?_
  by_cases hk : way (s.data.toList.drop i) = 3
  · obtain ⟨h1, h2⟩ := h.1 hk
    exact ⟨by rw [h1, decide_eq_true hk], fun _ => by rw [(lex1_way _).2.2.2.1 hk]; exact h2, fun hf => by simp [hk] at hf⟩
  · obtain ⟨h1, h2⟩ := h.2 hk
    exact ⟨by rw [h1, decide_eq_false hk], fun hf => by simp [hk] at hf, fun _ => h2⟩
def okY (q : List UInt8) : Bool := match lexY q with | .ok _ _ => true | .bad _ _ => false
theorem way4_any (hP : Pre b r s i wg ln cl j w) (hgb : ¬ GB b) (hgr : ¬ GB r) (hbr : r ≠ b) (hs : s.size ≤ 100000) (hi : i < s.size) :
    Calls Tryz.prog 47 #[.pointer (some ⟨b, 0, none⟩), .pointer (some ⟨r, 0, none⟩)] w (RetW w b r s i wg ln cl j (okY (s.data.toList.drop i))) := by
  refine (symbol_any hP.1 hgb hgr hP.2.1 hP.2.2 hbr hs hi).mono fun e w' h => ?_
  unfold okY
  rcases hy : lexY (s.data.toList.drop i) with ⟨n, t⟩ | ⟨o, c⟩
  · obtain ⟨h1, h2⟩ := h.1 n t hy
    have hk := sym_way (by rw [List.length_drop]; have : s.data.toList.length = s.size := rfl; omega) hy
    exact ⟨h1, fun _ => (by rw [(lex1_way _).2.2.2.2 hk]; exact h2), fun hf => (by cases hf)⟩
  · obtain ⟨h1, h2⟩ := h.2 o c hy
    exact ⟨h1, fun hf => (by cases hf), fun _ => h2⟩
theorem enW0 : Enters Tryz.prog 43 := enters_of Tryz.func43 (by kernel_rfl) rfl
theorem enW1 : Enters Tryz.prog 44 := enters_of Tryz.func44 (by kernel_rfl) rfl
theorem enW2 : Enters Tryz.prog 45 := enters_of Tryz.func45 (by kernel_rfl) rfl
theorem enW3 : Enters Tryz.prog 46 := enters_of Tryz.func46 (by kernel_rfl) rfl
theorem enW4 : Enters Tryz.prog 47 := enters_of Tryz.func47 (by kernel_rfl) rfl
theorem enClo : Enters Tryz.prog 51 := enters_of Tryz.func51 (by kernel_rfl) rfl
set_option maxRecDepth 20000 in set_option maxHeartbeats 400000 in
theorem clo_any (k : Nat) (v : Bool) (ek : Enters Tryz.prog k) (h : Calls Tryz.prog k #[.pointer (some ⟨b, 0, none⟩), .pointer (some ⟨r, 0, none⟩)] w (RetW w b r s i wg ln cl j v)) :
    Calls Tryz.prog 51 #[fnV k b, .pointer (some ⟨r, 0, none⟩)] w (RetW w b r s i wg ln cl j v) := by
  unfold Enters at ek
  unfold fnV
  have H := Lib.hid h
  clear h
  go_enter Tryz.func51, Tryz.ntmps51
  go_wp2_with fail
  go_at_fn k
  (with_reducible refine H.out.mono ?_)
  rintro e w1 ⟨rfl, h1, h2⟩
  go_wp2_with fail
  go_ret
  exact ⟨rfl, h1, h2⟩
def waysV (b : Nat) : List Value := [fnV 43 b, fnV 44 b, fnV 45 b, fnV 46 b, fnV 47 b]
set_option maxRecDepth 20000 in set_option maxHeartbeats 8000000 in
theorem index_any (hP : Pre b r s i wg ln cl j w) (hgb : ¬ GB b) (hgr : ¬ GB r) (hbr : r ≠ b) (hs : s.size ≤ 100000) (hi : i < s.size) (W : Nat)
    (hW : ∀ k u, (waysV b)[k]? = some u → w.cell? ⟨W, k, none⟩ = some u) :
    Calls Tryz.prog 83 #[.slice (some ⟨W, 0, none⟩) 5 5, .func (.func 51) #[] #[.pointer (some ⟨r, 0, none⟩)]] w
      (fun e w' => ∃ x : Int, e = .returned (.int .i64 x) ∧ ((0 ≤ x ∧ (way (s.data.toList.drop i) ≠ 4 ∨ okY (s.data.toList.drop i) = true) ∧ Rd w w' b r s i wg ln cl j (lex1 (s.data.toList.drop i))) ∨ (x < 0 ∧ way (s.data.toList.drop i) = 4 ∧ okY (s.data.toList.drop i) = false ∧ Below w.heap.size w w'))) := by
  have HP := Lib.hid hP
  have HG := Lib.hid (G.refl w)
  have q0 := hW 0 _ rfl
  have q1 := hW 1 _ rfl
  have q2 := hW 2 _ rfl
  have q3 := hW 3 _ rfl
  have q4 := hW 4 _ rfl
  unfold fnV at q0 q1 q2 q3 q4
  have ltW := cell_lt q0
  dsimp only at ltW
  clear hP hW
  have hwl := way_le (s.data.toList.drop i)
  have EC := enClo
  unfold Enters at EC
  have K0 := Lib.hid (fun wx (hp : Pre b r s i wg ln cl j wx) => clo_any 43 (decide (way (s.data.toList.drop i) = 0)) enW0 (way0_any hp hgb hgr hbr hs hi))
  unfold fnV at K0
  have K1 := Lib.hid (fun wx (hp : Pre b r s i wg ln cl j wx) => clo_any 44 (decide (way (s.data.toList.drop i) = 1)) enW1 (way1_any hp hgb hgr hbr hs hi))
  unfold fnV at K1
  have K2 := Lib.hid (fun wx (hp : Pre b r s i wg ln cl j wx) => clo_any 45 (decide (way (s.data.toList.drop i) = 2)) enW2 (way2_any hp hgb hgr hbr hs hi))
  unfold fnV at K2
  have K3 := Lib.hid (fun wx (hp : Pre b r s i wg ln cl j wx) => clo_any 46 (decide (way (s.data.toList.drop i) = 3)) enW3 (way3_any hp hgb hgr hbr hs hi))
  unfold fnV at K3
  have K4 := Lib.hid (fun wx (hp : Pre b r s i wg ln cl j wx) => clo_any 47 (okY (s.data.toList.drop i)) enW4 (way4_any hp hgb hgr hbr hs hi))
  unfold fnV at K4
  obtain ⟨y, hy⟩ : ∃ y, okY (s.data.toList.drop i) = y := ⟨_, rfl⟩
  obtain ⟨m, hm⟩ : ∃ m, way (s.data.toList.drop i) = m := ⟨_, rfl⟩
  rw [hm] at K0 K1 K2 K3 hwl
  rw [hy] at K4
  have hcase : m = 0 ∨ m = 1 ∨ m = 2 ∨ m = 3 ∨ (m = 4 ∧ y = true) ∨ (m = 4 ∧ y = false) := by cases y <;> simp <;> omega
  replace hm := Lib.hid hm
  replace hy := Lib.hid hy
  clear hwl
  rcases hcase with rfl | rfl | rfl | rfl | ⟨rfl, rfl⟩ | ⟨rfl, rfl⟩
  · rw [show decide ((0 : Nat) = 0) = true from by decide] at K0
    rw [show decide ((0 : Nat) = 1) = false from by decide] at K1
    rw [show decide ((0 : Nat) = 2) = false from by decide] at K2
    rw [show decide ((0 : Nat) = 3) = false from by decide] at K3
    go_enter Tryz.func83, Tryz.ntmps83
    go_wp2_with fail
    refine wp_loop_rounds 6 ?_
    rw [rounds_succ]
    go_wp2_with fail
    go_at_fn 51
    (with_reducible refine (K0.out _ HP.out).mono ?_)
    rintro e1 wn ⟨rfl, h1, _⟩
    have h2 := Rd.grow HG.out (h1 (by simp))
    go_wp2_with fail
    go_ret
    exact ⟨0, rfl, .inl ⟨by omega, .inl (by rw [hm.out]; decide), h2⟩⟩
  · rw [show decide ((1 : Nat) = 0) = false from by decide] at K0
    rw [show decide ((1 : Nat) = 1) = true from by decide] at K1
    rw [show decide ((1 : Nat) = 2) = false from by decide] at K2
    rw [show decide ((1 : Nat) = 3) = false from by decide] at K3
    go_enter Tryz.func83, Tryz.ntmps83
    go_wp2_with fail
    refine wp_loop_rounds 6 ?_
    rw [rounds_succ]
    go_wp2_with fail
    go_at_fn 51
    (with_reducible refine (K0.out _ HP.out).mono ?_)
    rintro e1 wn ⟨rfl, _, h2⟩
    have hb := h2 (by simp)
    replace HP := Lib.hid (HP.out.grow hb)
    replace HG := Lib.hid (G.trans HG.out hb)
    replace q0 := G.cell q0 hb
    replace q1 := G.cell q1 hb
    replace q2 := G.cell q2 hb
    replace q3 := G.cell q3 hb
    replace q4 := G.cell q4 hb
    replace ltW := cell_lt q0
    dsimp only at ltW
    clear hb h2
    go_wp2_with fail
    rw [rounds_succ]
    go_wp2_with fail
    go_at_fn 51
    (with_reducible refine (K1.out _ HP.out).mono ?_)
    rintro e1 wn ⟨rfl, h1, _⟩
    have h2 := Rd.grow HG.out (h1 (by simp))
    go_wp2_with fail
    go_ret
    exact ⟨1, rfl, .inl ⟨by omega, .inl (by rw [hm.out]; decide), h2⟩⟩
  · rw [show decide ((2 : Nat) = 0) = false from by decide] at K0
    rw [show decide ((2 : Nat) = 1) = false from by decide] at K1
    rw [show decide ((2 : Nat) = 2) = true from by decide] at K2
    rw [show decide ((2 : Nat) = 3) = false from by decide] at K3
    go_enter Tryz.func83, Tryz.ntmps83
    go_wp2_with fail
    refine wp_loop_rounds 6 ?_
    rw [rounds_succ]
    go_wp2_with fail
    go_at_fn 51
    (with_reducible refine (K0.out _ HP.out).mono ?_)
    rintro e1 wn ⟨rfl, _, h2⟩
    have hb := h2 (by simp)
    replace HP := Lib.hid (HP.out.grow hb)
    replace HG := Lib.hid (G.trans HG.out hb)
    replace q0 := G.cell q0 hb
    replace q1 := G.cell q1 hb
    replace q2 := G.cell q2 hb
    replace q3 := G.cell q3 hb
    replace q4 := G.cell q4 hb
    replace ltW := cell_lt q0
    dsimp only at ltW
    clear hb h2
    go_wp2_with fail
    rw [rounds_succ]
    go_wp2_with fail
    go_at_fn 51
    (with_reducible refine (K1.out _ HP.out).mono ?_)
    rintro e1 wn ⟨rfl, _, h2⟩
    have hb := h2 (by simp)
    replace HP := Lib.hid (HP.out.grow hb)
    replace HG := Lib.hid (G.trans HG.out hb)
    replace q0 := G.cell q0 hb
    replace q1 := G.cell q1 hb
    replace q2 := G.cell q2 hb
    replace q3 := G.cell q3 hb
    replace q4 := G.cell q4 hb
    replace ltW := cell_lt q0
    dsimp only at ltW
    clear hb h2
    go_wp2_with fail
    rw [rounds_succ]
    go_wp2_with fail
    go_at_fn 51
    (with_reducible refine (K2.out _ HP.out).mono ?_)
    rintro e1 wn ⟨rfl, h1, _⟩
    have h2 := Rd.grow HG.out (h1 (by simp))
    go_wp2_with fail
    go_ret
    exact ⟨2, rfl, .inl ⟨by omega, .inl (by rw [hm.out]; decide), h2⟩⟩
  · rw [show decide ((3 : Nat) = 0) = false from by decide] at K0
    rw [show decide ((3 : Nat) = 1) = false from by decide] at K1
    rw [show decide ((3 : Nat) = 2) = false from by decide] at K2
    rw [show decide ((3 : Nat) = 3) = true from by decide] at K3
    go_enter Tryz.func83, Tryz.ntmps83
    go_wp2_with fail
    refine wp_loop_rounds 6 ?_
    rw [rounds_succ]
    go_wp2_with fail
    go_at_fn 51
    (with_reducible refine (K0.out _ HP.out).mono ?_)
    rintro e1 wn ⟨rfl, _, h2⟩
    have hb := h2 (by simp)
    replace HP := Lib.hid (HP.out.grow hb)
    replace HG := Lib.hid (G.trans HG.out hb)
    replace q0 := G.cell q0 hb
    replace q1 := G.cell q1 hb
    replace q2 := G.cell q2 hb
    replace q3 := G.cell q3 hb
    replace q4 := G.cell q4 hb
    replace ltW := cell_lt q0
    dsimp only at ltW
    clear hb h2
    go_wp2_with fail
    rw [rounds_succ]
    go_wp2_with fail
    go_at_fn 51
    (with_reducible refine (K1.out _ HP.out).mono ?_)
    rintro e1 wn ⟨rfl, _, h2⟩
    have hb := h2 (by simp)
    replace HP := Lib.hid (HP.out.grow hb)
    replace HG := Lib.hid (G.trans HG.out hb)
    replace q0 := G.cell q0 hb
    replace q1 := G.cell q1 hb
    replace q2 := G.cell q2 hb
    replace q3 := G.cell q3 hb
    replace q4 := G.cell q4 hb
    replace ltW := cell_lt q0
    dsimp only at ltW
    clear hb h2
    go_wp2_with fail
    rw [rounds_succ]
    go_wp2_with fail
    go_at_fn 51
    (with_reducible refine (K2.out _ HP.out).mono ?_)
    rintro e1 wn ⟨rfl, _, h2⟩
    have hb := h2 (by simp)
    replace HP := Lib.hid (HP.out.grow hb)
    replace HG := Lib.hid (G.trans HG.out hb)
    replace q0 := G.cell q0 hb
    replace q1 := G.cell q1 hb
    replace q2 := G.cell q2 hb
    replace q3 := G.cell q3 hb
    replace q4 := G.cell q4 hb
    replace ltW := cell_lt q0
    dsimp only at ltW
    clear hb h2
    go_wp2_with fail
    rw [rounds_succ]
    go_wp2_with fail
    go_at_fn 51
    (with_reducible refine (K3.out _ HP.out).mono ?_)
    rintro e1 wn ⟨rfl, h1, _⟩
    have h2 := Rd.grow HG.out (h1 (by simp))
    go_wp2_with fail
    go_ret
    exact ⟨3, rfl, .inl ⟨by omega, .inl (by rw [hm.out]; decide), h2⟩⟩
  · rw [show decide ((4 : Nat) = 0) = false from by decide] at K0
    rw [show decide ((4 : Nat) = 1) = false from by decide] at K1
    rw [show decide ((4 : Nat) = 2) = false from by decide] at K2
    rw [show decide ((4 : Nat) = 3) = false from by decide] at K3
    go_enter Tryz.func83, Tryz.ntmps83
    go_wp2_with fail
    refine wp_loop_rounds 6 ?_
    rw [rounds_succ]
    go_wp2_with fail
    go_at_fn 51
    (with_reducible refine (K0.out _ HP.out).mono ?_)
    rintro e1 wn ⟨rfl, _, h2⟩
    have hb := h2 (by simp)
    replace HP := Lib.hid (HP.out.grow hb)
    replace HG := Lib.hid (G.trans HG.out hb)
    replace q0 := G.cell q0 hb
    replace q1 := G.cell q1 hb
    replace q2 := G.cell q2 hb
    replace q3 := G.cell q3 hb
    replace q4 := G.cell q4 hb
    replace ltW := cell_lt q0
    dsimp only at ltW
    clear hb h2
    go_wp2_with fail
    rw [rounds_succ]
    go_wp2_with fail
    go_at_fn 51
    (with_reducible refine (K1.out _ HP.out).mono ?_)
    rintro e1 wn ⟨rfl, _, h2⟩
    have hb := h2 (by simp)
    replace HP := Lib.hid (HP.out.grow hb)
    replace HG := Lib.hid (G.trans HG.out hb)
    replace q0 := G.cell q0 hb
    replace q1 := G.cell q1 hb
    replace q2 := G.cell q2 hb
    replace q3 := G.cell q3 hb
    replace q4 := G.cell q4 hb
    replace ltW := cell_lt q0
    dsimp only at ltW
    clear hb h2
    go_wp2_with fail
    rw [rounds_succ]
    go_wp2_with fail
    go_at_fn 51
    (with_reducible refine (K2.out _ HP.out).mono ?_)
    rintro e1 wn ⟨rfl, _, h2⟩
    have hb := h2 (by simp)
    replace HP := Lib.hid (HP.out.grow hb)
    replace HG := Lib.hid (G.trans HG.out hb)
    replace q0 := G.cell q0 hb
    replace q1 := G.cell q1 hb
    replace q2 := G.cell q2 hb
    replace q3 := G.cell q3 hb
    replace q4 := G.cell q4 hb
    replace ltW := cell_lt q0
    dsimp only at ltW
    clear hb h2
    go_wp2_with fail
    rw [rounds_succ]
    go_wp2_with fail
    go_at_fn 51
    (with_reducible refine (K3.out _ HP.out).mono ?_)
    rintro e1 wn ⟨rfl, _, h2⟩
    have hb := h2 (by simp)
    replace HP := Lib.hid (HP.out.grow hb)
    replace HG := Lib.hid (G.trans HG.out hb)
    replace q0 := G.cell q0 hb
    replace q1 := G.cell q1 hb
    replace q2 := G.cell q2 hb
    replace q3 := G.cell q3 hb
    replace q4 := G.cell q4 hb
    replace ltW := cell_lt q0
    dsimp only at ltW
    clear hb h2
    go_wp2_with fail
    rw [rounds_succ]
    go_wp2_with fail
    go_at_fn 51
    (with_reducible refine (K4.out _ HP.out).mono ?_)
    rintro e1 wn ⟨rfl, h1, _⟩
    have h2 := Rd.grow HG.out (h1 (by simp))
    go_wp2_with fail
    go_ret
    exact ⟨4, rfl, .inl ⟨by omega, .inr hy.out, h2⟩⟩
  · rw [show decide ((4 : Nat) = 0) = false from by decide] at K0
    rw [show decide ((4 : Nat) = 1) = false from by decide] at K1
    rw [show decide ((4 : Nat) = 2) = false from by decide] at K2
    rw [show decide ((4 : Nat) = 3) = false from by decide] at K3
    go_enter Tryz.func83, Tryz.ntmps83
    go_wp2_with fail
    refine wp_loop_rounds 6 ?_
    rw [rounds_succ]
    go_wp2_with fail
    go_at_fn 51
    (with_reducible refine (K0.out _ HP.out).mono ?_)
    rintro e1 wn ⟨rfl, _, h2⟩
    have hb := h2 (by simp)
    replace HP := Lib.hid (HP.out.grow hb)
    replace HG := Lib.hid (G.trans HG.out hb)
    replace q0 := G.cell q0 hb
    replace q1 := G.cell q1 hb
    replace q2 := G.cell q2 hb
    replace q3 := G.cell q3 hb
    replace q4 := G.cell q4 hb
    replace ltW := cell_lt q0
    dsimp only at ltW
    clear hb h2
    go_wp2_with fail
    rw [rounds_succ]
    go_wp2_with fail
    go_at_fn 51
    (with_reducible refine (K1.out _ HP.out).mono ?_)
    rintro e1 wn ⟨rfl, _, h2⟩
    have hb := h2 (by simp)
    replace HP := Lib.hid (HP.out.grow hb)
    replace HG := Lib.hid (G.trans HG.out hb)
    replace q0 := G.cell q0 hb
    replace q1 := G.cell q1 hb
    replace q2 := G.cell q2 hb
    replace q3 := G.cell q3 hb
    replace q4 := G.cell q4 hb
    replace ltW := cell_lt q0
    dsimp only at ltW
    clear hb h2
    go_wp2_with fail
    rw [rounds_succ]
    go_wp2_with fail
    go_at_fn 51
    (with_reducible refine (K2.out _ HP.out).mono ?_)
    rintro e1 wn ⟨rfl, _, h2⟩
    have hb := h2 (by simp)
    replace HP := Lib.hid (HP.out.grow hb)
    replace HG := Lib.hid (G.trans HG.out hb)
    replace q0 := G.cell q0 hb
    replace q1 := G.cell q1 hb
    replace q2 := G.cell q2 hb
    replace q3 := G.cell q3 hb
    replace q4 := G.cell q4 hb
    replace ltW := cell_lt q0
    dsimp only at ltW
    clear hb h2
    go_wp2_with fail
    rw [rounds_succ]
    go_wp2_with fail
    go_at_fn 51
    (with_reducible refine (K3.out _ HP.out).mono ?_)
    rintro e1 wn ⟨rfl, _, h2⟩
    have hb := h2 (by simp)
    replace HP := Lib.hid (HP.out.grow hb)
    replace HG := Lib.hid (G.trans HG.out hb)
    replace q0 := G.cell q0 hb
    replace q1 := G.cell q1 hb
    replace q2 := G.cell q2 hb
    replace q3 := G.cell q3 hb
    replace q4 := G.cell q4 hb
    replace ltW := cell_lt q0
    dsimp only at ltW
    clear hb h2
    go_wp2_with fail
    rw [rounds_succ]
    go_wp2_with fail
    go_at_fn 51
    (with_reducible refine (K4.out _ HP.out).mono ?_)
    rintro e1 wn ⟨rfl, _, h2⟩
    have hb := h2 (by simp)
    replace HP := Lib.hid (HP.out.grow hb)
    replace HG := Lib.hid (G.trans HG.out hb)
    replace q0 := G.cell q0 hb
    replace q1 := G.cell q1 hb
    replace q2 := G.cell q2 hb
    replace q3 := G.cell q3 hb
    replace q4 := G.cell q4 hb
    replace ltW := cell_lt q0
    dsimp only at ltW
    clear hb h2
    go_wp2_with fail
    rw [rounds_succ]
    go_wp2_with fail
    go_ret
    exact ⟨-1, rfl, .inr ⟨by omega, hm.out, hy.out, HG.out⟩⟩
end
end Go.Proofs.YtmchiibbodllaaaGreatDoor
