/- lexer: byteAt, fail, letters and digits. -/
import Derived.Test.YtmchiibbodllaaaGreatDoorLexV
import Derived.Test.YtmchiibbodllaaaGreatDoorOrd
namespace Go.Proofs.YtmchiibbodllaaaGreatDoor
set_option linter.unusedVariables false
set_option linter.unnecessarySimpa false
set_option linter.unusedSimpArgs false
open Go.RowKit

theorem ord_skip {P : Program} {ops : Array Oper} {Q : Exit → Act → World → Prop} {C : World → Prop} {o : Oper} {l : List (Nat × Oper)} {a : Act} {w : World} (hw : Region.wanted o (yielded ops a.tmps) = false) (hc : C w)
    (h : ∀ K : Act → Prop, (∀ a', wpOrd P ops Q C l a' w → K a') → K (a.put o.dst undef)) : wpOrd P ops Q C ((2, o) :: l) a w := by
  simp only [wpOrd, hw, Bool.false_eq_true, if_false]
  exact h (fun a' => wpOrd P ops Q C l a' w) (fun _ h => h)
theorem add_nat {i k q : Nat} (h : i + k = q) (hq : q ≤ 1000000) : IntKind.i64.wrap ((i : Int) + (k : Int)) = (q : Int) := by
  rw [← h, ← Int.natCast_add]
  exact IntWalk.i64_in _ (by omega)
section
variable {w : World} {b : Nat} {s : ByteArray} {i : Nat} {wg e : Int}
set_option maxRecDepth 20000 in set_option maxHeartbeats 400000 in
theorem byteAt_any (h : Bx w b (scC s i wg e)) (hs : s.size ≤ 100000) (hi : i ≤ s.size) (k : Nat) (hk : k ≤ 10) :
    Calls Tryz.prog 73 #[.pointer (some ⟨b, 0, none⟩), .int .i64 (k : Int)] w fun e' w' => e' = .returned (.int .u8 ((nth s.data.toList (i + k)).toNat : Int)) ∧ Below w.heap.size w w' := by
  obtain ⟨c0, c1, _, _⟩ := h.c4
  have lt := h.lt
  clear h
  obtain ⟨q, hq⟩ : ∃ q, i + k = q := ⟨_, rfl⟩
  have hw := add_nat hq (by omega)
  rw [hq]
  have hq6 : q ≤ 1000000 := by omega
  clear hq hk hi hs
  by_cases hlt : q < s.size
  · rw [nth_idx s hlt]
    obtain ⟨c, hc⟩ : ∃ c, s[q] = c := ⟨_, rfl⟩
    rw [hc]
    have hlt' : ¬ (s.size : Int) ≤ (q : Int) := by omega
    have hlt2 : (q : Int) < (s.size : Int) := by omega
    go_enter Tryz.func73, Tryz.ntmps73
    go_wp2_with fail
    refine wp_region_ord [(0, 1), (1, 1), (2, 1), (3, 1), (4, 1), (5, 1), (6, 1), (7, 1), (8, 1), (9, 1), (10, 1), (11, 1)] [] 5 (by kernel_rfl) (by decide +kernel) ?_
    simp only [pickO, List.append_eq, List.cons_append, List.nil_append, List.getElem?_cons_succ, List.getElem?_cons_zero]
    intro w0 hG
    (repeat ((first | (with_reducible refine ord_q1 ?_) | (with_reducible refine ord_q0 ?_)); intro K hK; first | (refine Or.inr ⟨?_, ?_⟩; (focus (go_simp; first | done | (simp [undef]; done))); go_simp; (with_reducible refine hK _ ?_); clear hK K) | (refine Or.inl ⟨?_, ?_⟩; (focus (go_simp; done)); apply Exists.intro; refine And.intro ?_ ?_; (focus (first | (intro wq hq; obtain ⟨hcq, hfq⟩ := G.old hq; go_simp; (first | done | exact rfl); done) | (intro wq; go_simp; (first | done | exact rfl); done))); go_simp; (with_reducible refine hK _ ?_); clear hK K) | fail))
    (with_reducible refine ord_nil ?_)
    have hb1 := hG.b
    replace c0 := G.cell c0 hb1
    replace c1 := G.cell c1 hb1
    replace lt := cell_lt c0
    clear hG
    go_wp2_with fail
    refine wp_region_ord [(0, 1), (1, 1), (2, 1), (3, 1), (4, 1), (5, 1), (6, 1), (7, 1), (8, 1), (9, 1), (10, 1), (11, 1)] [] 5 (by kernel_rfl) (by decide +kernel) ?_
    simp only [pickO, List.append_eq, List.cons_append, List.nil_append, List.getElem?_cons_succ, List.getElem?_cons_zero]
    intro w0 hG
    (repeat ((first | (with_reducible refine ord_q1 ?_) | (with_reducible refine ord_q0 ?_)); intro K hK; first | (refine Or.inr ⟨?_, ?_⟩; (focus (go_simp; first | done | (simp [undef]; done))); go_simp; (with_reducible refine hK _ ?_); clear hK K) | (refine Or.inl ⟨?_, ?_⟩; (focus (go_simp; done)); apply Exists.intro; refine And.intro ?_ ?_; (focus (first | (intro wq hq; obtain ⟨hcq, hfq⟩ := G.old hq; go_simp; (first | done | exact rfl); done) | (intro wq; go_simp; (first | done | exact rfl); done))); go_simp; (with_reducible refine hK _ ?_); clear hK K) | fail))
    (with_reducible refine ord_nil ?_)
    have hb2 := hG.b
    clear hG
    go_wp2_with fail
    go_ret
    exact ⟨rfl, G.trans hb1 hb2⟩
  · rw [nth_end (show s.data.toList.length ≤ q by rw [Array.length_toList]; exact Nat.le_of_not_lt hlt)]
    have hlt' : (s.size : Int) ≤ (q : Int) := by omega
    go_enter Tryz.func73, Tryz.ntmps73
    go_wp2_with fail
    refine wp_region_ord [(0, 1), (1, 1), (2, 1), (3, 1), (4, 1), (5, 1), (6, 1), (7, 1), (8, 1), (9, 1), (10, 1), (11, 1)] [] 5 (by kernel_rfl) (by decide +kernel) ?_
    simp only [pickO, List.append_eq, List.cons_append, List.nil_append, List.getElem?_cons_succ, List.getElem?_cons_zero]
    intro w0 hG
    (repeat ((first | (with_reducible refine ord_q1 ?_) | (with_reducible refine ord_q0 ?_)); intro K hK; first | (refine Or.inr ⟨?_, ?_⟩; (focus (go_simp; first | done | (simp [undef]; done))); go_simp; (with_reducible refine hK _ ?_); clear hK K) | (refine Or.inl ⟨?_, ?_⟩; (focus (go_simp; done)); apply Exists.intro; refine And.intro ?_ ?_; (focus (first | (intro wq hq; obtain ⟨hcq, hfq⟩ := G.old hq; go_simp; (first | done | exact rfl); done) | (intro wq; go_simp; (first | done | exact rfl); done))); go_simp; (with_reducible refine hK _ ?_); clear hK K) | fail))
    (with_reducible refine ord_nil ?_)
    have hb1 := hG.b
    clear hG
    go_wp2_with fail
    go_ret
    exact ⟨rfl, hb1⟩
theorem byteAt0 (h : Bx w b (scC s i wg e)) (hs : s.size ≤ 100000) (hi : i ≤ s.size) : Calls Tryz.prog 73 #[.pointer (some ⟨b, 0, none⟩), .int .i64 0] w fun e' w' => e' = .returned (.int .u8 ((nth s.data.toList i).toNat : Int)) ∧ Below w.heap.size w w' := byteAt_any h hs hi 0 (by omega)
theorem byteAt1 (h : Bx w b (scC s i wg e)) (hs : s.size ≤ 100000) (hi : i ≤ s.size) : Calls Tryz.prog 73 #[.pointer (some ⟨b, 0, none⟩), .int .i64 1] w fun e' w' => e' = .returned (.int .u8 ((nth s.data.toList (i + 1)).toNat : Int)) ∧ Below w.heap.size w w' := byteAt_any h hs hi 1 (by omega)
theorem byteAt2 (h : Bx w b (scC s i wg e)) (hs : s.size ≤ 100000) (hi : i ≤ s.size) : Calls Tryz.prog 73 #[.pointer (some ⟨b, 0, none⟩), .int .i64 2] w fun e' w' => e' = .returned (.int .u8 ((nth s.data.toList (i + 2)).toNat : Int)) ∧ Below w.heap.size w w' := byteAt_any h hs hi 2 (by omega)
set_option maxRecDepth 20000 in set_option maxHeartbeats 400000 in
theorem fail_ok (h : Bx w b (scC s i wg 0)) (wg' e' : Int) : Calls Tryz.prog 49 #[.pointer (some ⟨b, 0, none⟩), .int .i64 wg', .int .i64 e'] w fun e1 w' => e1 = .returned (.tuple #[]) ∧ Bx w' b (scC s i wg' e') ∧ Chg b b w w' := by
  obtain ⟨c0, c1, c2, c3⟩ := h.c4
  obtain ⟨f0, f1, f2, f3⟩ := h.f4
  have lt := h.lt
  have H := Lib.hid h
  clear h
  go_enter Tryz.func49, Tryz.ntmps49
  go_wp2_with fail
  go_end0
  exact ⟨rfl, (H.out.put rfl).put rfl, ((Chg.refl b b w).set1 _ _).set1 _ _⟩
set_option maxRecDepth 20000 in set_option maxHeartbeats 400000 in
theorem isLetter_any (c : UInt8) (w : World) : Calls Tryz.prog 69 #[.int .u8 (c.toNat : Int)] w fun e w' => e = .returned (.bool (isLet c)) ∧ w' = w := by
  have hb : isLet c = (decide ((97 : Int) ≤ (c.toNat : Int)) && decide ((c.toNat : Int) ≤ 122) || decide ((65 : Int) ≤ (c.toNat : Int)) && decide ((c.toNat : Int) ≤ 90)) := by
    unfold isLet
    congr 1 <;> congr 1 <;> exact decide_eq_decide.2 (by omega)
  rw [hb]
  generalize (c.toNat : Int) = x
  clear hb
  have key : ∀ v : Bool, (decide ((97 : Int) ≤ x) && decide (x ≤ 122) || decide ((65 : Int) ≤ x) && decide (x ≤ 90)) = v → Calls Tryz.prog 69 #[.int .u8 x] w fun e w' => e = .returned (.bool v) ∧ w' = w := by
    intro v hv
    go_enter Tryz.func69, Tryz.ntmps69
    by_cases h1 : (97 : Int) ≤ x <;> by_cases h2 : x ≤ 122 <;> by_cases h3 : (65 : Int) ≤ x <;> by_cases h4 : x ≤ 90 <;> simp only [h1, h2, h3, h4, decide_true, decide_false, Bool.and_self, Bool.or_false, Bool.and_true, Bool.and_false, Bool.or_true, Bool.false_or, Bool.or_self] at hv <;> subst hv <;> (go_wp2_with fail) <;> go_ret <;> exact ⟨rfl, rfl⟩
  exact key _ rfl
set_option maxRecDepth 20000 in set_option maxHeartbeats 400000 in
theorem isDigit_any (c : UInt8) (w : World) : Calls Tryz.prog 78 #[.int .u8 (c.toNat : Int)] w fun e w' => e = .returned (.bool (isDig c)) ∧ w' = w := by
  have hb : isDig c = (decide ((48 : Int) ≤ (c.toNat : Int)) && decide ((c.toNat : Int) ≤ 57)) := by
    unfold isDig
    congr 1 <;> exact decide_eq_decide.2 (by omega)
  rw [hb]
  generalize (c.toNat : Int) = x
  clear hb
  go_enter Tryz.func78, Tryz.ntmps78
  by_cases h1 : (48 : Int) ≤ x
  · by_cases h2 : x ≤ 57
    · go_wp2_with fail
      go_ret
      exact ⟨by simp [h1, h2], rfl⟩
    · go_wp2_with fail
      go_ret
      exact ⟨by simp [h1, h2], rfl⟩
  · go_wp2_with fail
    go_ret
    exact ⟨by rw [decide_eq_false (show ¬ (48 : Int) ≤ x by omega)]; rfl, rfl⟩
set_option maxRecDepth 20000 in set_option maxHeartbeats 400000 in
theorem isPart_any (c : UInt8) (w : World) : Calls Tryz.prog 70 #[.int .u8 (c.toNat : Int)] w fun e w' => e = .returned (.bool (isPart c)) ∧ w' = w := by
  have hb : isPart c = (isLet c || isDig c || decide ((c.toNat : Int) = 95)) := by
    unfold isPart
    congr 1
    exact decide_eq_decide.2 (by omega)
  rw [hb]
  have L := Lib.hid (fun w => isLetter_any c w)
  have D := Lib.hid (fun w => isDigit_any c w)
  generalize (c.toNat : Int) = x at *
  clear hb
  generalize isLet c = p at *
  generalize isDig c = q at *
  go_enter Tryz.func70, Tryz.ntmps70
  cases p <;> cases q <;> (go_wp2_with (first | (go_at_call 69; refine (L.out _).mono ?_; rintro e w1 ⟨rfl, rfl⟩) | (go_at_call 78; refine (D.out _).mono ?_; rintro e w1 ⟨rfl, rfl⟩))) <;> go_ret <;> exact ⟨by first | (simp; done) | (simp; rfl), rfl⟩
/-- strings.IndexByte over the digits. -/
theorem hex_tab_nat : ∀ n : Fin 256, Lib.indexByte [48, 49, 50, 51, 52, 53, 54, 55, 56, 57, 97, 98, 99, 100, 101, 102] (if 65 ≤ n.val ∧ n.val ≤ 70 then UInt8.ofNat (n.val + 32) else UInt8.ofNat n.val) = hexV (UInt8.ofNat n.val) := by decide +kernel
theorem u8_self (c : UInt8) : UInt8.ofNat c.toNat = c := by
  apply UInt8.toNat_inj.1
  rw [UInt8.toNat_ofNat']
  have := c.toNat_lt
  omega
theorem hex_tab (c : UInt8) : Lib.indexByte [48, 49, 50, 51, 52, 53, 54, 55, 56, 57, 97, 98, 99, 100, 101, 102] (if 65 ≤ c.toNat ∧ c.toNat ≤ 70 then UInt8.ofNat (c.toNat + 32) else c) = hexV c := by
  have := hex_tab_nat ⟨c.toNat, c.toNat_lt⟩
  simp only [u8_self] at this
  exact this
set_option maxRecDepth 20000 in set_option maxHeartbeats 400000 in
theorem hex_any (c : UInt8) (w : World) : Calls Tryz.prog 76 #[.int .u8 (c.toNat : Int)] w fun e w' => e = .returned (.int .i64 (hexV c)) ∧ Below w.heap.size w w' := by
  have hv := hex_tab c
  by_cases h : 65 ≤ c.toNat ∧ c.toNat ≤ 70
  · rw [if_pos h] at hv
    have h1 : (65 : Int) ≤ (c.toNat : Int) := by omega
    have h2 : (c.toNat : Int) ≤ 70 := by omega
    have hw : IntKind.u8.wrap ((c.toNat : Int) + 32) = ((c.toNat + 32 : Nat) : Int) := by
      rw [Int.natCast_add]
      exact IntWalk.u8_in _ (by omega)
    have IB := Lib.hid (fun w => Tryz.strings_IndexByte ⟨#[48, 49, 50, 51, 52, 53, 54, 55, 56, 57, 97, 98, 99, 100, 101, 102]⟩ ((c.toNat + 32 : Nat) : Int) w)
    have e1 : (((c.toNat + 32 : Nat) : Int)).toNat.toUInt8 = UInt8.ofNat (c.toNat + 32) := rfl
    rw [e1, hv] at IB
    generalize ((c.toNat + 32 : Nat) : Int) = y at *
    generalize (c.toNat : Int) = x at *
    clear hv e1 h
    go_enter Tryz.func76, Tryz.ntmps76
    go_wp2_with fail
    refine (IB.out _).mono ?_
    rintro e w1 ⟨rfl, rfl⟩
    go_wp2_with fail
    go_ret
    exact ⟨rfl, by repeat (first | with_reducible assumption | with_reducible exact G.refl _ | with_reducible refine G.drew ?_ | with_reducible refine G.drewN ?_ _ | with_reducible refine G.alloc ?_ _ | with_reducible refine Below.setCell ?_ (by first | (simp; done) | (simp; omega)) _ | with_reducible refine G.trans ?_ hb12 | with_reducible refine G.trans ?_ hb11 | with_reducible refine G.trans ?_ hb10 | with_reducible refine G.trans ?_ hb9 | with_reducible refine G.trans ?_ hb8 | with_reducible refine G.trans ?_ hb7 | with_reducible refine G.trans ?_ hb6 | with_reducible refine G.trans ?_ hb5 | with_reducible refine G.trans ?_ hb4 | with_reducible refine G.trans ?_ hb3 | with_reducible refine G.trans ?_ hb2 | with_reducible refine G.trans ?_ hb1 | with_reducible refine G.trans ?_ hb | assumption)⟩
  · rw [if_neg h] at hv
    have IB := Lib.hid (fun w => Tryz.strings_IndexByte ⟨#[48, 49, 50, 51, 52, 53, 54, 55, 56, 57, 97, 98, 99, 100, 101, 102]⟩ ((c.toNat : Nat) : Int) w)
    have e1 : (((c.toNat : Nat) : Int)).toNat.toUInt8 = c := by simp
    rw [e1, hv] at IB
    have h' : ¬ ((65 : Int) ≤ (c.toNat : Int) ∧ (c.toNat : Int) ≤ 70) := by omega
    generalize (c.toNat : Int) = x at *
    clear hv e1 h
    go_enter Tryz.func76, Tryz.ntmps76
    by_cases h1 : (65 : Int) ≤ x
    · have h2 : ¬ x ≤ 70 := fun k => h' ⟨h1, k⟩
      go_wp2_with fail
      refine (IB.out _).mono ?_
      rintro e w1 ⟨rfl, rfl⟩
      go_wp2_with fail
      go_ret
      exact ⟨rfl, by repeat (first | with_reducible assumption | with_reducible exact G.refl _ | with_reducible refine G.drew ?_ | with_reducible refine G.drewN ?_ _ | with_reducible refine G.alloc ?_ _ | with_reducible refine Below.setCell ?_ (by first | (simp; done) | (simp; omega)) _ | with_reducible refine G.trans ?_ hb12 | with_reducible refine G.trans ?_ hb11 | with_reducible refine G.trans ?_ hb10 | with_reducible refine G.trans ?_ hb9 | with_reducible refine G.trans ?_ hb8 | with_reducible refine G.trans ?_ hb7 | with_reducible refine G.trans ?_ hb6 | with_reducible refine G.trans ?_ hb5 | with_reducible refine G.trans ?_ hb4 | with_reducible refine G.trans ?_ hb3 | with_reducible refine G.trans ?_ hb2 | with_reducible refine G.trans ?_ hb1 | with_reducible refine G.trans ?_ hb | assumption)⟩
    · go_wp2_with fail
      refine (IB.out _).mono ?_
      rintro e w1 ⟨rfl, rfl⟩
      go_wp2_with fail
      go_ret
      exact ⟨rfl, by repeat (first | with_reducible assumption | with_reducible exact G.refl _ | with_reducible refine G.drew ?_ | with_reducible refine G.drewN ?_ _ | with_reducible refine G.alloc ?_ _ | with_reducible refine Below.setCell ?_ (by first | (simp; done) | (simp; omega)) _ | with_reducible refine G.trans ?_ hb12 | with_reducible refine G.trans ?_ hb11 | with_reducible refine G.trans ?_ hb10 | with_reducible refine G.trans ?_ hb9 | with_reducible refine G.trans ?_ hb8 | with_reducible refine G.trans ?_ hb7 | with_reducible refine G.trans ?_ hb6 | with_reducible refine G.trans ?_ hb5 | with_reducible refine G.trans ?_ hb4 | with_reducible refine G.trans ?_ hb3 | with_reducible refine G.trans ?_ hb2 | with_reducible refine G.trans ?_ hb1 | with_reducible refine G.trans ?_ hb | assumption)⟩
end
end Go.Proofs.YtmchiibbodllaaaGreatDoor
