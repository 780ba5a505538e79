/- lexer: word, long. -/
import Derived.Test.YtmchiibbodllaaaGreatDoorScB
import Derived.Test.YtmchiibbodllaaaGreatDoorRel2
namespace Go.Proofs.YtmchiibbodllaaaGreatDoor
set_option linter.unusedVariables false
set_option linter.unnecessarySimpa false
set_option linter.unusedSimpArgs false
open Go.RowKit

/-- What a reader leaves where it has read a token, or has met an error. -/
def Rd (w w' : World) (b r : Nat) (s : ByteArray) (i : Nat) (wg ln cl : Int) (j : Bool) : Lx → Prop
  | .ok n t => Bx w' b (scC s ((i + n : Nat) : Int) wg 0) ∧ Bx w' r (tkC t.k ln cl (B t.tx) (B t.v) t.n t.s j) ∧ Chg b r w w'
  | .bad o e => (∃ p : Int, Bx w' b (scC s p ((i + o : Nat) : Int) e)) ∧ (∃ cs, Bx w' r cs) ∧ Chg b r w w'
/-- A reader's answer. -/
def RetRd (w : World) (b r : Nat) (s : ByteArray) (i : Nat) (wg ln cl : Int) (j : Bool) (k : Nat) (x : Lx) (e : Ending) (w' : World) : Prop :=
  (way (s.data.toList.drop i) = k → e = .returned (.bool true) ∧ Rd w w' b r s i wg ln cl j x) ∧ (way (s.data.toList.drop i) ≠ k → e = .returned (.bool false) ∧ Below w.heap.size w w')
theorem isWay1 (q : List UInt8) : way q = 1 ↔ isLet (nth q 0) = true ∧ ¬ ((nth q 0).toNat = 120 ∧ (nth q 1).toNat = 34) := by
  unfold way
  split
  · rename_i h; simp [h]
  · rename_i h
    split
    · rename_i h1; simp [h, h1]
    · rename_i h1
      simp only [h1, false_and, iff_false]
      split
      · simp
      · split <;> simp
theorem nth_drop0 (l : List UInt8) (i : Nat) : nth (l.drop i) 0 = nth l i := nth_drop l i 0
theorem ext_take (s : ByteArray) (i n : Nat) : s.extract i (i + n) = B ((s.data.toList.drop i).take n) := by rw [ext_eq, show i + n - i = n by omega]
theorem ext_size (s : ByteArray) {i n : Nat} (h : i + n ≤ s.size) : (s.extract i (i + n)).size = n := by rw [ByteArray.size_extract]; omega
theorem nth_takeC {l : List UInt8} {k j : Nat} (h : j < k) : nth (l.take k) j = nth l j := by
  unfold nth
  rw [List.getD_eq_getElem?_getD, List.getD_eq_getElem?_getD, List.getElem?_take, if_pos h]
theorem beq_nat (c : UInt8) (k : Nat) : (((c.toNat : Int) == (k : Int)) = true) ↔ c.toNat = k := by simp only [beq_iff_eq]; omega
theorem enPart : Enters Tryz.prog 70 := enters_of Tryz.func70 (by kernel_rfl) rfl
theorem enDigit : Enters Tryz.prog 78 := enters_of Tryz.func78 (by kernel_rfl) rfl
theorem isPart_b (c : UInt8) (w : World) : Calls Tryz.prog 70 #[.int .u8 (c.toNat : Int)] w fun e w' => e = .returned (.bool (isPart c)) ∧ Below w.heap.size w w' := (isPart_any c w).mono fun e w' h => ⟨h.1, by rw [h.2]; exact G.refl _⟩
theorem isDigit_b (c : UInt8) (w : World) : Calls Tryz.prog 78 #[.int .u8 (c.toNat : Int)] w fun e w' => e = .returned (.bool (isDig c)) ∧ Below w.heap.size w w' := (isDigit_any c w).mono fun e w' h => ⟨h.1, by rw [h.2]; exact G.refl _⟩

section
variable {w : World} {b r : Nat} {s : ByteArray} {i : Nat} {wg ln cl : Int} {j : Bool}
set_option maxRecDepth 20000 in set_option maxHeartbeats 2000000 in
theorem word_any (h : Bx w b (scC s i wg 0)) (ht : Bx w r (tkC 0 ln cl ⟨#[]⟩ ⟨#[]⟩ 0 0 j)) (hbr : r ≠ b) (hs : s.size ≤ 100000) (hi : i < s.size) :
    Calls Tryz.prog 44 #[.pointer (some ⟨b, 0, none⟩), .pointer (some ⟨r, 0, none⟩)] w (RetRd w b r s i wg ln cl j 1 (lexW (s.data.toList.drop i))) := by
  have HB := Lib.hid h
  have HT := Lib.hid ht
  have HG := Lib.hid (G.refl w)
  have hw := isWay1 (s.data.toList.drop i)
  rw [nth_drop0, nth_drop] at hw
  have BA0 := Lib.hid (fun wx hb => byteAt0 (w := wx) (b := b) (s := s) (i := i) (wg := wg) (e := 0) hb hs (by omega))
  have BA1 := Lib.hid (fun wx hb => byteAt1 (w := wx) (b := b) (s := s) (i := i) (wg := wg) (e := 0) hb hs (by omega))
  have IL := Lib.hid (fun wx => isLetter_any (nth s.data.toList i) wx)
  generalize hc : nth s.data.toList i = c at *
  generalize hd : nth s.data.toList (i + 1) = d at *
  rw [← beq_nat c 120, ← beq_nat d 34] at hw
  generalize hv : isLet c = v at *
  obtain ⟨k120, hk120⟩ : ∃ k, ((c.toNat : Int) == 120) = k := ⟨_, rfl⟩
  obtain ⟨k34, hk34⟩ : ∃ k, ((d.toNat : Int) == 34) = k := ⟨_, rfl⟩
  rw [show ((c.toNat : Int) == ((120 : Nat) : Int)) = k120 from hk120, show ((d.toNat : Int) == ((34 : Nat) : Int)) = k34 from hk34] at hw
  have hle := spn_bd isPart s.data.toList (i := i) (Nat.le_of_lt hi)
  have WH := Lib.hid (fun wx hb => while_any (w := wx) (b := b) (s := s) (i := i) (wg := wg) (e := 0) hb hs (by omega) 70 isPart enPart isPart_b)
  obtain ⟨n, hn⟩ : ∃ n, spn isPart (s.data.toList.drop i) = n := ⟨_, rfl⟩
  rw [hn] at WH hle
  have hle2 : i + n ≤ s.size := hle
  have hsz := ext_size s hle2
  have htx := ext_take s i n
  obtain ⟨tx, htq⟩ : ∃ tx, s.extract i (i + n) = tx := ⟨_, rfl⟩
  rw [htq] at WH hsz htx
  have hlex : Hid (lexW (s.data.toList.drop i) = if 64 < n then .bad 0 5 else .ok n ⟨1, (s.data.toList.drop i).take n, [], 0, 0⟩) := by unfold Hid lexW; rw [hn]
  clear hle htq hn h ht
  replace htx := Lib.hid htx
  replace hw := Lib.hid hw
  replace hc := Lib.hid hc
  replace hv := Lib.hid hv
  replace hd := Lib.hid hd
  by_cases hno : v = true ∧ ¬ (k120 = true ∧ k34 = true)
  · have hyes : Hid (way (s.data.toList.drop i) = 1) := hw.out.2 hno
    have hcase : (k120 = false) ∨ (k120 = true ∧ k34 = false) := by
      cases k120
      · exact .inl rfl
      · exact .inr ⟨rfl, by simpa using hno.2⟩
    obtain ⟨rfl, _⟩ := hno
    go_enter Tryz.func44, Tryz.ntmps44
    go_wp2_with fail
    (go_at_call 73; (with_reducible refine (BA0.out _ HB.out).mono ?_); rintro e1 wn ⟨rfl, hb⟩; replace HB := Lib.hid (HB.out.grow hb); replace HT := Lib.hid (HT.out.grow hb); replace HG := Lib.hid (G.trans HG.out hb); clear hb)
    go_wp2_with fail
    go_at_call 69
    (with_reducible refine (IL.out _).mono ?_)
    rintro e1 w2 ⟨rfl, rfl⟩
    go_wp2_with fail
    (go_at_call 73; (with_reducible refine (BA0.out _ HB.out).mono ?_); rintro e1 wn ⟨rfl, hb⟩; replace HB := Lib.hid (HB.out.grow hb); replace HT := Lib.hid (HT.out.grow hb); replace HG := Lib.hid (G.trans HG.out hb); clear hb)
    have fin : ∀ (e : Ending) (wz : World), e = .returned (.bool true) → Rd w wz b r s i wg ln cl j (if 64 < n then .bad 0 5 else .ok n ⟨1, (s.data.toList.drop i).take n, [], 0, 0⟩) → RetRd w b r s i wg ln cl j 1 (lexW (s.data.toList.drop i)) e wz := fun e wz h1 h2 => ⟨fun _ => ⟨h1, by rw [hlex.out]; exact h2⟩, fun k => absurd hyes.out k⟩
    replace fin := Lib.hid fin
    (obtain ⟨c0, c1, c2, c3⟩ := HB.out.c4; obtain ⟨f0, f1, f2, f3⟩ := HB.out.f4; have lt := HB.out.lt)
    rcases hcase with rfl | ⟨rfl, rfl⟩ <;> go_wp2_with fail
    all_goals (first | ((go_at_call 73; (with_reducible refine (BA1.out _ HB.out).mono ?_); rintro e1 wn ⟨rfl, hb⟩; replace HB := Lib.hid (HB.out.grow hb); replace HT := Lib.hid (HT.out.grow hb); replace HG := Lib.hid (G.trans HG.out hb); clear hb); (obtain ⟨c0, c1, c2, c3⟩ := HB.out.c4; obtain ⟨f0, f1, f2, f3⟩ := HB.out.f4; have lt := HB.out.lt); go_wp2_with fail) | skip)
    all_goals
      go_at_call 74
      (with_reducible refine (WH.out _ HB.out).mono ?_)
      rintro e1 w3 ⟨rfl, hb3, hc3⟩
      replace HB := Lib.hid hb3
      replace HT := Lib.hid (HT.out.chg hc3 hbr hbr)
      have HC := Lib.hid (((Chg.of_below (b := b) (r := b) HG.out).trans hc3).wider r)
      clear hb3 hc3 c0 c1 c2 c3 f0 f1 f2 f3 lt HG
      have t0 := (HT.out.2 0 _ rfl).1
      have t3 := (HT.out.2 3 _ rfl).1
      have z0 := (HT.out.2 0 _ rfl).2
      have z3 := (HT.out.2 3 _ rfl).2
      have ltr := HT.out.lt
      by_cases hn64 : 64 < n
      · have hn64' : (64 : Int) < (n : Int) := by omega
        have fin := Lib.hid (fun e wz => fin.out e wz)
        rw [if_pos hn64] at fin
        go_wp2_with fail
        go_at_call 49
        (with_reducible refine (fail_ok (i := i + n) (wg := wg) ((HB.out.other (Ne.symm hbr) _).other (Ne.symm hbr) _) _ _).mono ?_)
        rintro e1 w4 ⟨rfl, hb4, hc4⟩
        go_wp2_with fail
        go_ret
        refine fin.out _ _ rfl ⟨⟨_, by rw [Nat.add_zero]; exact hb4⟩, ⟨_, ((HT.out.put (i := 0) rfl).put (i := 3) rfl).chg hc4 hbr hbr⟩, ((HC.out.set2 _ _).set2 _ _).trans (hc4.wider r)⟩
      · have hn64' : ¬ (64 : Int) < (n : Int) := by omega
        have fin := Lib.hid (fun e wz => fin.out e wz)
        rw [if_neg hn64] at fin
        go_wp2_with fail
        go_ret
        refine fin.out _ _ rfl ⟨(HB.out.other (Ne.symm hbr) _).other (Ne.symm hbr) _, ?_, (HC.out.set2 _ _).set2 _ _⟩
        have := (HT.out.put (i := 0) (v := .int .i64 1) rfl).put (i := 3) (v := .string tx) rfl
        show Bx _ r (tkC 1 ln cl (B ((s.data.toList.drop i).take n)) ⟨#[]⟩ 0 0 j)
        rw [← htx.out]
        exact this
  · have hyes : Hid (way (s.data.toList.drop i) ≠ 1) := fun k => hno (hw.out.1 k)
    have fin := Lib.hid (fun (e : Ending) (wz : World) (h1 : e = .returned (.bool false)) (h2 : Below w.heap.size w wz) => (⟨fun k => absurd k hyes.out, fun _ => ⟨h1, h2⟩⟩ : RetRd w b r s i wg ln cl j 1 (lexW (s.data.toList.drop i)) e wz))
    have hcase : v = false ∨ (v = true ∧ k120 = true ∧ k34 = true) := by
      cases v
      · exact .inl rfl
      · exact .inr ⟨rfl, by simpa using hno⟩
    clear hno WH
    rcases hcase with rfl | ⟨rfl, rfl, rfl⟩
    · go_enter Tryz.func44, Tryz.ntmps44
      go_wp2_with fail
      (go_at_call 73; (with_reducible refine (BA0.out _ HB.out).mono ?_); rintro e1 wn ⟨rfl, hb⟩; replace HB := Lib.hid (HB.out.grow hb); replace HT := Lib.hid (HT.out.grow hb); replace HG := Lib.hid (G.trans HG.out hb); clear hb)
      go_wp2_with fail
      go_at_call 69
      (with_reducible refine (IL.out _).mono ?_)
      rintro e1 w2 ⟨rfl, rfl⟩
      go_wp2_with fail
      go_ret
      exact fin.out _ _ rfl HG.out
    · go_enter Tryz.func44, Tryz.ntmps44
      go_wp2_with fail
      (go_at_call 73; (with_reducible refine (BA0.out _ HB.out).mono ?_); rintro e1 wn ⟨rfl, hb⟩; replace HB := Lib.hid (HB.out.grow hb); replace HT := Lib.hid (HT.out.grow hb); replace HG := Lib.hid (G.trans HG.out hb); clear hb)
      go_wp2_with fail
      go_at_call 69
      (with_reducible refine (IL.out _).mono ?_)
      rintro e1 w2 ⟨rfl, rfl⟩
      go_wp2_with fail
      (go_at_call 73; (with_reducible refine (BA0.out _ HB.out).mono ?_); rintro e1 wn ⟨rfl, hb⟩; replace HB := Lib.hid (HB.out.grow hb); replace HT := Lib.hid (HT.out.grow hb); replace HG := Lib.hid (G.trans HG.out hb); clear hb)
      go_wp2_with fail
      (go_at_call 73; (with_reducible refine (BA1.out _ HB.out).mono ?_); rintro e1 wn ⟨rfl, hb⟩; replace HB := Lib.hid (HB.out.grow hb); replace HT := Lib.hid (HT.out.grow hb); replace HG := Lib.hid (G.trans HG.out hb); clear hb)
      go_wp2_with fail
      go_ret
      exact fin.out _ _ rfl HG.out
end
end Go.Proofs.YtmchiibbodllaaaGreatDoor
