/- lexer: number. -/
import Derived.Test.YtmchiibbodllaaaGreatDoorScC
import Derived.Test.YtmchiibbodllaaaGreatDoorLEnv
namespace Go.Proofs.YtmchiibbodllaaaGreatDoor
set_option linter.unusedVariables false
set_option linter.unnecessarySimpa false
set_option linter.unusedSimpArgs false
open Go.RowKit

theorem isWay2 (q : List UInt8) : way q = 2 ↔ isDig (nth q 0) = true := by
  unfold way
  constructor
  · intro h
    split at h
    · omega
    · split at h
      · omega
      · split at h
        · assumption
        · split at h <;> omega
  · intro h
    have h1 := h
    unfold isDig at h1
    simp only [Bool.and_eq_true, decide_eq_true_eq] at h1
    have h2 : ¬ isLet (nth q 0) = true := by unfold isLet; simp; omega
    rw [if_neg (by omega), if_neg h2, if_pos h]
theorem Env.of_chg {w w' : World} {b r : Nat} (h : Env w) (hb : ¬ GB b) (hr : ¬ GB r) (hc : Chg b r w w') : Env w' := h.chg hc hb hr
theorem str_ne {a b : ByteArray} (h : a.size ≠ b.size) : (a.toList == b.toList) = false := by
  have : ¬ a.toList = b.toList := fun e => h (by
    have := congrArg List.length e
    rw [ByteArray.toList_eq, ByteArray.toList_eq] at this
    simpa using this)
  simpa using this
theorem sum_take (q : List UInt8) (n1 n2 : Nat) : (n1 + 1 ≤ q.length → q.take (n1 + 1) = q.take n1 ++ [nth q n1]) ∧ (n1 + 1 + n2 ≤ q.length → q.take (n1 + 1 + n2) = q.take n1 ++ [nth q n1] ++ (q.drop (n1 + 1)).take n2) := by
  have h1 : n1 + 1 ≤ q.length → q.take (n1 + 1) = q.take n1 ++ [nth q n1] := fun h => by
    rw [List.take_add_one, List.getElem?_eq_getElem (by omega), nth_get (by omega)]
    rfl
  refine ⟨h1, fun h => ?_⟩
  rw [List.take_add, h1 (by omega)]
section
variable {w : World} {b r : Nat} {s : ByteArray} {i : Nat} {wg ln cl : Int} {j : Bool}
set_option maxRecDepth 20000 in set_option maxHeartbeats 8000000 in
theorem number_any (hE : Env w) (hgb : ¬ GB b) (hgr : ¬ GB r) (h : Bx w b (scC s i wg 0)) (ht : Bx w r (tkC 0 ln cl ⟨#[]⟩ ⟨#[]⟩ 0 0 j)) (hbr : r ≠ b) (hs : s.size ≤ 100000) (hi : i < s.size) :
    Calls Tryz.prog 45 #[.pointer (some ⟨b, 0, none⟩), .pointer (some ⟨r, 0, none⟩)] w (RetRd w b r s i wg ln cl j 2 (lexN (s.data.toList.drop i))) := by
  have HB := Lib.hid h
  have HT := Lib.hid ht
  have HE := Lib.hid hE
  have HG := Lib.hid (G.refl w)
  have hw := isWay2 (s.data.toList.drop i)
  rw [nth_drop0] at hw
  have BA0 := Lib.hid (fun wx hb => byteAt0 (w := wx) (b := b) (s := s) (i := i) (wg := wg) (e := 0) hb hs (by omega))
  have ID0 := Lib.hid (fun wx => isDigit_any (nth s.data.toList i) wx)
  have hc0 : s[i] = nth s.data.toList i := (nth_idx s hi).symm
  obtain ⟨c, hc⟩ : ∃ c, nth s.data.toList i = c := ⟨_, rfl⟩
  rw [hc] at hw BA0 ID0 hc0
  by_cases hdc : isDig c = true
  · rw [hdc] at hw ID0
    have hyes : Hid (way (s.data.toList.drop i) = 2) := hw.2 rfl
    have hle := spn_bd isDig s.data.toList (i := i) (Nat.le_of_lt hi)
    have h1n : 1 ≤ spn isDig (s.data.toList.drop i) := spn_pos hi (by rw [hc]; exact hdc)
    have WH := Lib.hid (fun wx hb => while_any (w := wx) (b := b) (s := s) (i := i) (wg := wg) (e := 0) hb hs (by omega) 78 isDig enDigit isDigit_b)
    have hlexN := lexN.eq_1 (s.data.toList.drop i)
    have hnum := numN.eq_1 (s.data.toList.drop i)
    obtain ⟨n1, hn1⟩ : ∃ n1, spn isDig (s.data.toList.drop i) = n1 := ⟨_, rfl⟩
    rw [hn1, nth_drop, nth_drop, List.drop_drop] at hnum
    rw [hn1] at WH hle h1n hlexN
    rw [nth_drop0, hc] at hlexN
    have hle2 : i + n1 ≤ s.size := hle
    have hsz := ext_size s hle2
    have hwt := ext_take s i n1
    have hW0 : ∀ h, (s.extract i (i + n1))[0]'h = c := fun h => by
      rw [← hc0]
      have e1 := nth_idx (s.extract i (i + n1)) h
      rw [← e1, hwt, B_list, nth_takeC (by omega), nth_drop0, hc, hc0]
    obtain ⟨WB, hWB⟩ : ∃ WB, s.extract i (i + n1) = WB := ⟨_, rfl⟩
    rw [hWB] at WH hsz hwt hW0
    rw [← Nat.add_assoc] at hnum
    have hsum := fun n2 => sum_take (s.data.toList.drop i) n1 n2
    rw [nth_drop] at hsum
    obtain ⟨m, hm⟩ : ∃ m, i + n1 = m := ⟨_, rfl⟩
    rw [hm] at hnum WH hle2 hle hsum
    have BB0 := Lib.hid (fun wx hb => byteAt0 (w := wx) (b := b) (s := s) (i := m) (wg := wg) (e := 0) hb hs (by omega))
    have BB1 := Lib.hid (fun wx hb => byteAt1 (w := wx) (b := b) (s := s) (i := m) (wg := wg) (e := 0) hb hs (by omega))
    have ID1 := Lib.hid (fun wx => isDigit_any (nth s.data.toList (m + 1)) wx)
    have IP1 := Lib.hid (fun wx => isPart_any (nth s.data.toList (m + 1)) wx)
    obtain ⟨p0, hp0⟩ : ∃ p, nth s.data.toList m = p := ⟨_, rfl⟩
    obtain ⟨p1, hp1⟩ : ∃ p, nth s.data.toList (m + 1) = p := ⟨_, rfl⟩
    rw [hp0] at BB0 hnum hsum
    rw [hp1] at BB1 ID1 IP1 hnum
    have hin : 46 = p0.toNat ∨ 100 = p0.toNat → m + 1 ≤ s.size := fun h => by
      rcases Nat.lt_or_ge m s.size with k | k
      · omega
      · rw [nth_end (show s.data.toList.length ≤ m from k)] at hp0
        rw [← hp0] at h
        exact absurd h (by decide)
    obtain ⟨dg, hdg⟩ : ∃ v, isDig p1 = v := ⟨_, rfl⟩
    obtain ⟨pt, hpt⟩ : ∃ v, isPart p1 = v := ⟨_, rfl⟩
    rw [hdg] at ID1 hnum
    rw [hpt] at IP1 hnum
    have hb46 := beq_nat p0 46
    have hb100 := beq_nat p0 100
    obtain ⟨k46, hk46⟩ : ∃ k, ((p0.toNat : Int) == 46) = k := ⟨_, rfl⟩
    obtain ⟨k100, hk100⟩ : ∃ k, ((p0.toNat : Int) == 100) = k := ⟨_, rfl⟩
    obtain ⟨k48, hk48⟩ : ∃ k, ((c.toNat : Int) == 48) = k := ⟨_, rfl⟩
    have hb48 := beq_nat c 48
    rw [show ((p0.toNat : Int) == ((46 : Nat) : Int)) = k46 from hk46] at hb46
    rw [show ((p0.toNat : Int) == ((100 : Nat) : Int)) = k100 from hk100] at hb100
    rw [show ((c.toNat : Int) == ((48 : Nat) : Int)) = k48 from hk48] at hb48
    simp only [← hb46, ← hb100] at hnum
    simp only [← hb48] at hlexN
    have hx1 : k46 = true → k100 = true → False := fun a b => by have := hb46.1 a; have := hb100.1 b; omega
    have hcase : (k46 = true ∧ dg = true) ∨ (k46 = true ∧ dg = false ∧ k100 = false) ∨ (k46 = false ∧ k100 = false) ∨ (k46 = false ∧ k100 = true ∧ pt = true) ∨ (k46 = false ∧ k100 = true ∧ pt = false) := by
      cases k46 <;> cases k100 <;> cases dg <;> cases pt <;> simp_all
    have hin' : k46 = true → m + 1 ≤ s.size := fun k => hin (.inl (hb46.1 k).symm)
    have hin2' : k100 = true → m + 1 ≤ s.size := fun k => hin (.inr (hb100.1 k).symm)
    have h46 : Hid (k46 = true → p0 = 46) := fun k => UInt8.toNat_inj.1 (hb46.1 k)
    have h100 : Hid (k100 = true → p0 = 100) := fun k => UInt8.toNat_inj.1 (hb100.1 k)
    replace hin' := Lib.hid hin'
    replace hin2' := Lib.hid hin2'
    clear hin hb46 hb100 hb48 hx1 hdg hpt hp0 hp1 hn1 hle hdc h ht hE hc hWB
    have h0s : 0 < WB.size := by rw [hsz]; exact h1n
    have hW0' : WB[0]'h0s = c := hW0 h0s
    clear hW0
    have fin : Hid (∀ (e : Ending) (wz : World), e = .returned (.bool true) → Rd w wz b r s i wg ln cl j (lexN (s.data.toList.drop i)) → RetRd w b r s i wg ln cl j 2 (lexN (s.data.toList.drop i)) e wz) := fun e wz h1 h2 => ⟨fun _ => ⟨h1, h2⟩, fun k => absurd hyes.out k⟩
    have hlx : Hid (lexN (s.data.toList.drop i) = if 1 < n1 ∧ k48 = true then Lx.bad 0 3 else if (parseN ((s.data.toList.drop i).take (numN (s.data.toList.drop i)).2)).2.2 ≠ 0 then Lx.bad 0 (parseN ((s.data.toList.drop i).take (numN (s.data.toList.drop i)).2)).2.2 else Lx.ok (numN (s.data.toList.drop i)).1 ⟨2, (s.data.toList.drop i).take (numN (s.data.toList.drop i)).1, [], (parseN ((s.data.toList.drop i).take (numN (s.data.toList.drop i)).2)).1, (parseN ((s.data.toList.drop i).take (numN (s.data.toList.drop i)).2)).2.1⟩) := hlexN
    clear hlexN
    obtain ⟨q, hq⟩ : ∃ q, s.data.toList.drop i = q := ⟨_, rfl⟩
    rw [hq] at hlx fin hnum hwt hsum ⊢
    replace hwt := Lib.hid hwt
    replace hm := Lib.hid hm
    replace hsum := Lib.hid hsum
    have hn1m : n1 ≤ 100000 := by have := hm.out; omega
    have hql : Hid (q.length = s.size - i) := by unfold Hid; rw [← hq, List.length_drop]; rfl
    rcases hcase with ⟨rfl, rfl⟩ | ⟨rfl, rfl, rfl⟩ | ⟨rfl, rfl⟩ | ⟨rfl, rfl, rfl⟩ | ⟨rfl, rfl, rfl⟩
    · go_enter Tryz.func45, Tryz.ntmps45
      go_wp2_with fail
      (go_at_call 73; (with_reducible refine (BA0.out _ HB.out).mono ?_); rintro e1 wn ⟨rfl, hb⟩; replace HB := Lib.hid (HB.out.grow hb); replace HT := Lib.hid (HT.out.grow hb); replace HG := Lib.hid (G.trans HG.out hb); clear hb)
      go_wp2_with fail
      go_at_call 78
      (with_reducible refine (ID0.out _).mono ?_)
      rintro e1 w2 ⟨rfl, rfl⟩
      (obtain ⟨c0, c1, c2, c3⟩ := HB.out.c4; obtain ⟨f0, f1, f2, f3⟩ := HB.out.f4; have lt := HB.out.lt)
      go_wp2_with fail
      go_at_call 74
      (with_reducible refine (WH.out _ HB.out).mono ?_)
      rintro e1 w3 ⟨rfl, hb3, hc3⟩
      replace HB := Lib.hid hb3
      replace HT := Lib.hid (HT.out.chg hc3 hbr hbr)
      replace HE := Lib.hid ((HE.out.grow HG.out).chg hc3 hgb hgb)
      have HC := Lib.hid (((Chg.of_below (b := b) (r := b) HG.out).trans hc3).wider r)
      clear hb3 hc3 c0 c1 c2 c3 f0 f1 f2 f3 lt HG
      go_wp2_with fail
      (go_at_call 73; (with_reducible refine (BB0.out _ HB.out).mono ?_); rintro e1 wn ⟨rfl, hb⟩; replace HB := Lib.hid (HB.out.grow hb); replace HT := Lib.hid (HT.out.grow hb); replace HE := Lib.hid (HE.out.grow hb); replace HC := Lib.hid (HC.out.grow hb); clear hb)
      go_wp2_with fail
      (go_at_call 73; (with_reducible refine (BB1.out _ HB.out).mono ?_); rintro e1 wn ⟨rfl, hb⟩; replace HB := Lib.hid (HB.out.grow hb); replace HT := Lib.hid (HT.out.grow hb); replace HE := Lib.hid (HE.out.grow hb); replace HC := Lib.hid (HC.out.grow hb); clear hb)
      go_wp2_with fail
      go_at_call 78
      (with_reducible refine (ID1.out _).mono ?_)
      rintro e1 w2 ⟨rfl, rfl⟩
      have hm1 : m + 1 ≤ s.size := hin'.out (by simp)
      have hbd2 := spn_bd isDig s.data.toList (i := m + 1) hm1
      have WH2 := Lib.hid (fun wx hb => while_any (w := wx) (b := b) (s := s) (i := m + 1) (wg := wg) (e := 0) hb hs hm1 78 isDig enDigit isDigit_b)
      obtain ⟨n2, hn2⟩ : ∃ n2, spn isDig (s.data.toList.drop (m + 1)) = n2 := ⟨_, rfl⟩
      rw [hn2] at WH2 hbd2
      have hbd3 : m + 1 + n2 ≤ s.size := hbd2
      have h2 : spn isDig (s.data.toList.drop (i + n1 + 1)) = n2 := by rw [hm.out]; exact hn2
      have h3 : spn isDig (s.data.toList.drop (i + (n1 + 1))) = n2 := h2
      have hNM : numN q = (n1 + 1 + n2, n1 + 1 + n2) := by rw [hnum]; simp [hn2, h2, h3]
      clear h2 h3
      rw [hNM] at hlx
      dsimp only at hlx
      have hm9 : Hid (i + (n1 + 1 + n2) = m + 1 + n2) := by have := hm.out; unfold Hid; omega
      have hq1 : n1 + 1 + n2 ≤ q.length := by have h1 := hql.out; have h2 := hm.out; omega
      have hzt := ext_take s (m + 1) n2
      have hzs := ext_size s hbd3
      have hqd : q.drop (n1 + 1) = s.data.toList.drop (m + 1) := by rw [← hq, List.drop_drop, ← hm.out]; rfl
      obtain ⟨Z, hZ⟩ : ∃ Z, s.extract (m + 1) (m + 1 + n2) = Z := ⟨_, rfl⟩
      rw [hZ] at hzt hzs WH2
      have hTT := Lib.hid (show WB ++ ⟨#[46]⟩ ++ Z = B (q.take (n1 + 1 + n2)) by rw [(hsum.out n2).2 hq1, h46.out (by simp), hwt.out, hzt, hqd]; rw [show (⟨#[46]⟩ : ByteArray) = B [46] from rfl, B_app, B_app])
      have s1 := fun (wx : World) => run_string_add_sum (P := Tryz.prog) wx WB ⟨#[46]⟩ (by rw [hsz]; show n1 + 1 ≤ _; omega)
      have hds : (WB ++ ⟨#[46]⟩ : ByteArray).size = n1 + 1 := by rw [ByteArray.size_append, hsz]; rfl
      obtain ⟨D1, hD1⟩ : ∃ D1, WB ++ ⟨#[46]⟩ = D1 := ⟨_, rfl⟩
      rw [hD1] at hTT s1 hds
      have s2 := fun (wx : World) => run_string_add_sum (P := Tryz.prog) wx D1 Z (by rw [hds, hzs]; omega)
      have hts : (D1 ++ Z).size = n1 + 1 + n2 := by rw [ByteArray.size_append, hds, hzs]
      obtain ⟨TX, hTX0⟩ : ∃ TX, D1 ++ Z = TX := ⟨_, rfl⟩
      rw [hTX0] at hTT s2 hts
      have hTX := hTT
      have hws := str_ne (a := TX) (b := WB) (by rw [hts, hsz]; omega)
      clear hTX0 hD1 hZ hzt hqd hn2 hbd2 hnum hsum
      have hx1 : IntKind.i64.wrap ((m : Int) + 1) = ((m + 1 : Nat) : Int) := by rw [IntWalk.i64_in _ (by omega)]; simp
      (obtain ⟨c0, c1, c2, c3⟩ := HB.out.c4; obtain ⟨f0, f1, f2, f3⟩ := HB.out.f4; have lt := HB.out.lt)
      go_wp2_with fail
      refine calls_name (fun wx => Bx wx b (scC s ((m + 1 : Nat) : Int) wg 0) ∧ Bx wx r (tkC 0 ln cl ⟨#[]⟩ ⟨#[]⟩ 0 0 j) ∧ Env wx ∧ Chg b r w wx) ⟨HB.out.put (i := 1) (v := .int .i64 ((m + 1 : Nat) : Int)) rfl, HT.out.other hbr _, HE.out.chg ((Chg.refl b r _).set1 _ _) hgb hgr, HC.out.set1 _ _⟩ ?_
      rintro w8 ⟨hb8, ht8, he8, hc8⟩
      clear c0 c1 c2 c3 f0 f1 f2 f3 lt
      go_at_call 74
      (with_reducible refine (WH2.out _ hb8).mono ?_)
      rintro e1 w7 ⟨rfl, hb7, hc7⟩
      replace HB := Lib.hid hb7
      replace HT := Lib.hid (ht8.chg hc7 hbr hbr)
      replace HE := Lib.hid (he8.chg hc7 hgb hgb)
      replace HC := Lib.hid (hc8.trans (hc7.wider r))
      clear hb8 ht8 he8 hc8 hb7 hc7
      have t0 := (HT.out.2 0 _ rfl).1
      have t3 := (HT.out.2 3 _ rfl).1
      have z0 := (HT.out.2 0 _ rfl).2
      have z3 := (HT.out.2 3 _ rfl).2
      have ltr := HT.out.lt
      go_upto_region 10 with fail
      refine wp_name (fun wx => Bx wx b (scC s ((m + 1 + n2 : Nat) : Int) wg 0) ∧ Bx wx r (tkC 2 ln cl TX ⟨#[]⟩ 0 0 j) ∧ Env wx ∧ Chg b r w wx) ⟨(HB.out.other (Ne.symm hbr) _).other (Ne.symm hbr) _, (HT.out.put (i := 0) (v := .int .i64 2) rfl).put (i := 3) (v := .string TX) rfl, HE.out.chg (((Chg.refl b r _).set2 _ _).set2 _ _) hgb hgr, (HC.out.set2 _ _).set2 _ _⟩ ?_
      rintro w9 ⟨hb9, ht9, he9, hc9⟩
      replace HB := Lib.hid hb9
      replace HT := Lib.hid ht9
      replace HE := Lib.hid he9
      replace HC := Lib.hid hc9
      clear hb9 ht9 he9 hc9 t0 t3 z0 z3 ltr
      have t0 := (HT.out.2 0 _ rfl).1
      have t3 := (HT.out.2 3 _ rfl).1
      have z0 := (HT.out.2 0 _ rfl).2
      have z3 := (HT.out.2 3 _ rfl).2
      have ltr := HT.out.lt
      obtain ⟨PA, hPA⟩ : ∃ PA, q.take (n1 + 1 + n2) = PA := ⟨_, rfl⟩
      rw [hPA] at hlx hTX hTT
      have PP := Lib.hid (fun wx he => parse_any PA wx (by rw [← hPA, List.length_take]; have := hql.out; omega) (Env.vars he) (Env.pow he))
      rw [← hTX.out] at PP
      unfold RetF RetN at PP
      obtain ⟨⟨pn, ps, pe⟩, hpp⟩ : ∃ p, parseN PA = p := ⟨_, rfl⟩
      rw [hpp] at PP hlx
      dsimp only at PP hlx
      by_cases h48 : 1 < n1 ∧ k48 = true
      · rw [if_pos h48] at hlx
        obtain ⟨h1, rfl⟩ := h48
        have h1' : (1 : Int) < (n1 : Int) := by omega
        go_wp2_with fail
        go_at_call 49
        (with_reducible refine (fail_ok (i := (m + 1 + n2)) (wg := wg) HB.out _ _).mono ?_)
        rintro e1 w4 ⟨rfl, hb4, hc4⟩
        go_wp2_with fail
        go_ret
        refine fin.out _ _ rfl ?_
        rw [hlx.out]
        exact ⟨⟨_, by rw [Nat.add_zero]; exact hb4⟩, ⟨_, HT.out.chg hc4 hbr hbr⟩, HC.out.trans (hc4.wider r)⟩
      · rw [if_neg h48] at hlx
        have hcc : ¬ (1 : Int) < (n1 : Int) ∨ ((1 : Int) < (n1 : Int) ∧ k48 = false) := by
          cases k48
          · by_cases h : 1 < n1
            · exact .inr ⟨by omega, rfl⟩
            · exact .inl (by omega)
          · exact .inl (fun h => h48 ⟨by omega, rfl⟩)
        clear h48
        rcases hcc with h1' | ⟨h1', rfl⟩ <;> (go_wp2_with fail) <;>
        · go_at_call 79
          (with_reducible refine (PP.out _ HE.out).mono ?_)
          rintro e1 w5 ⟨rfl, hb5⟩
          replace HB := Lib.hid (HB.out.grow hb5)
          replace HT := Lib.hid (HT.out.grow hb5)
          replace HC := Lib.hid (HC.out.grow hb5)
          clear hb5
          clear t0 t3 z0 z3 ltr
          have t5 := (HT.out.2 5 _ rfl).1
          have t6 := (HT.out.2 6 _ rfl).1
          have z5 := (HT.out.2 5 _ rfl).2
          have z6 := (HT.out.2 6 _ rfl).2
          have ltr := HT.out.lt
          have ltb := HB.out.lt
          by_cases hpe : pe = 0
          · subst hpe
            rw [if_neg (by simp)] at hlx
            go_wp2_with fail
            go_ret
            refine fin.out _ _ rfl ?_
            rw [hlx.out]
            refine ⟨by rw [hm9.out]; exact ((HB.out.other (Ne.symm hbr) _).other (Ne.symm hbr) _).alloc _, ?_, ((HC.out.set2 _ _).set2 _ _).alloc _⟩
            show Bx _ r (tkC 2 ln cl (B PA) ⟨#[]⟩ pn ps j)
            rw [← hTT.out]
            exact ((HT.out.put (i := 5) (v := .int .i64 pn) rfl).put (i := 6) (v := .int .i64 ps) rfl).alloc _
          · rw [if_pos hpe] at hlx
            have hpe' : (pe != 0) = true := by simpa using hpe
            go_wp2_with fail
            go_at_call 49
            refine calls_name (fun wx => Bx wx b (scC s ((m + 1 + n2) : Int) wg 0) ∧ Bx wx r (tkC 2 ln cl TX ⟨#[]⟩ 0 0 j) ∧ Bx wx w5.heap.size [.int .i64 pn, .int .i64 ps] ∧ Chg b r w wx) ⟨HB.out.alloc _, HT.out.alloc _, Bx.new rfl rfl, HC.out.alloc _⟩ ?_
            rintro w6 ⟨HB6, HT6, HN6, HC6⟩
            (with_reducible refine (fail_ok (i := (m + 1 + n2)) (wg := wg) HB6 _ _).mono ?_)
            rintro e1 w4 ⟨rfl, hb4, hc4⟩
            replace HT := Lib.hid (HT6.chg hc4 hbr hbr)
            have HN := Lib.hid (HN6.chg hc4 (by omega) (by omega))
            replace HC := Lib.hid (HC6.trans (hc4.wider r))
            clear t5 t6 z5 z6 ltr HT6 HN6 HC6 hc4
            have t5 := (HT.out.2 5 _ rfl).1
            have t6 := (HT.out.2 6 _ rfl).1
            have z5 := (HT.out.2 5 _ rfl).2
            have z6 := (HT.out.2 6 _ rfl).2
            have ltr := HT.out.lt
            have n0 := (HN.out.2 0 _ rfl).1
            have n1' := (HN.out.2 1 _ rfl).1
            replace HB := Lib.hid hb4
            clear hb4
            go_wp2_with fail
            go_ret
            refine fin.out _ _ rfl ?_
            rw [hlx.out]
            exact ⟨⟨_, by rw [Nat.add_zero]; exact (HB.out.other (Ne.symm hbr) _).other (Ne.symm hbr) _⟩, ⟨_, (HT.out.put (i := 5) rfl).put (i := 6) rfl⟩, (HC.out.set2 _ _).set2 _ _⟩
    · go_enter Tryz.func45, Tryz.ntmps45
      go_wp2_with fail
      (go_at_call 73; (with_reducible refine (BA0.out _ HB.out).mono ?_); rintro e1 wn ⟨rfl, hb⟩; replace HB := Lib.hid (HB.out.grow hb); replace HT := Lib.hid (HT.out.grow hb); replace HG := Lib.hid (G.trans HG.out hb); clear hb)
      go_wp2_with fail
      go_at_call 78
      (with_reducible refine (ID0.out _).mono ?_)
      rintro e1 w2 ⟨rfl, rfl⟩
      (obtain ⟨c0, c1, c2, c3⟩ := HB.out.c4; obtain ⟨f0, f1, f2, f3⟩ := HB.out.f4; have lt := HB.out.lt)
      go_wp2_with fail
      go_at_call 74
      (with_reducible refine (WH.out _ HB.out).mono ?_)
      rintro e1 w3 ⟨rfl, hb3, hc3⟩
      replace HB := Lib.hid hb3
      replace HT := Lib.hid (HT.out.chg hc3 hbr hbr)
      replace HE := Lib.hid ((HE.out.grow HG.out).chg hc3 hgb hgb)
      have HC := Lib.hid (((Chg.of_below (b := b) (r := b) HG.out).trans hc3).wider r)
      clear hb3 hc3 c0 c1 c2 c3 f0 f1 f2 f3 lt HG
      go_wp2_with fail
      (go_at_call 73; (with_reducible refine (BB0.out _ HB.out).mono ?_); rintro e1 wn ⟨rfl, hb⟩; replace HB := Lib.hid (HB.out.grow hb); replace HT := Lib.hid (HT.out.grow hb); replace HE := Lib.hid (HE.out.grow hb); replace HC := Lib.hid (HC.out.grow hb); clear hb)
      go_wp2_with fail
      (go_at_call 73; (with_reducible refine (BB1.out _ HB.out).mono ?_); rintro e1 wn ⟨rfl, hb⟩; replace HB := Lib.hid (HB.out.grow hb); replace HT := Lib.hid (HT.out.grow hb); replace HE := Lib.hid (HE.out.grow hb); replace HC := Lib.hid (HC.out.grow hb); clear hb)
      go_wp2_with fail
      go_at_call 78
      (with_reducible refine (ID1.out _).mono ?_)
      rintro e1 w2 ⟨rfl, rfl⟩
      have t0 := (HT.out.2 0 _ rfl).1
      have t3 := (HT.out.2 3 _ rfl).1
      have z0 := (HT.out.2 0 _ rfl).2
      have z3 := (HT.out.2 3 _ rfl).2
      have ltr := HT.out.lt
      have hNM : numN q = (n1, n1) := by rw [hnum]; simp
      rw [hNM] at hlx
      dsimp only at hlx
      have hm9 : Hid (i + n1 = m) := hm
      have hTT : Hid (WB = B (q.take n1)) := hwt
      have hTX := hTT
      clear hnum hsum
      have hws : (WB.toList == WB.toList) = true := by simp
      go_wp2_with fail
      refine calls_name (fun wx => Bx wx b (scC s (m : Int) wg 0) ∧ Bx wx r (tkC 2 ln cl WB ⟨#[]⟩ 0 0 j) ∧ Env wx ∧ Chg b r w wx) ⟨(HB.out.other (Ne.symm hbr) _).other (Ne.symm hbr) _, (HT.out.put (i := 0) (v := .int .i64 2) rfl).put (i := 3) (v := .string WB) rfl, HE.out.chg (((Chg.refl b r _).set2 _ _).set2 _ _) hgb hgr, (HC.out.set2 _ _).set2 _ _⟩ ?_
      rintro w9 ⟨hb9, ht9, he9, hc9⟩
      replace HB := Lib.hid hb9
      replace HT := Lib.hid ht9
      replace HE := Lib.hid he9
      replace HC := Lib.hid hc9
      clear hb9 ht9 he9 hc9 t0 t3 z0 z3 ltr
      (go_at_call 73; (with_reducible refine (BB0.out _ HB.out).mono ?_); rintro e1 wn ⟨rfl, hb⟩; replace HB := Lib.hid (HB.out.grow hb); replace HT := Lib.hid (HT.out.grow hb); replace HE := Lib.hid (HE.out.grow hb); replace HC := Lib.hid (HC.out.grow hb); clear hb)
      have t0 := (HT.out.2 0 _ rfl).1
      have t3 := (HT.out.2 3 _ rfl).1
      have z0 := (HT.out.2 0 _ rfl).2
      have z3 := (HT.out.2 3 _ rfl).2
      have ltr := HT.out.lt
      obtain ⟨PA, hPA⟩ : ∃ PA, q.take n1 = PA := ⟨_, rfl⟩
      rw [hPA] at hlx hTX hTT
      have PP := Lib.hid (fun wx he => parse_any PA wx (by rw [← hPA, List.length_take]; have := hql.out; omega) (Env.vars he) (Env.pow he))
      rw [← hTX.out] at PP
      unfold RetF RetN at PP
      obtain ⟨⟨pn, ps, pe⟩, hpp⟩ : ∃ p, parseN PA = p := ⟨_, rfl⟩
      rw [hpp] at PP hlx
      dsimp only at PP hlx
      by_cases h48 : 1 < n1 ∧ k48 = true
      · rw [if_pos h48] at hlx
        obtain ⟨h1, rfl⟩ := h48
        have h1' : (1 : Int) < (n1 : Int) := by omega
        go_wp2_with fail
        go_at_call 49
        (with_reducible refine (fail_ok (i := m) (wg := wg) HB.out _ _).mono ?_)
        rintro e1 w4 ⟨rfl, hb4, hc4⟩
        go_wp2_with fail
        go_ret
        refine fin.out _ _ rfl ?_
        rw [hlx.out]
        exact ⟨⟨_, by rw [Nat.add_zero]; exact hb4⟩, ⟨_, HT.out.chg hc4 hbr hbr⟩, HC.out.trans (hc4.wider r)⟩
      · rw [if_neg h48] at hlx
        have hcc : ¬ (1 : Int) < (n1 : Int) ∨ ((1 : Int) < (n1 : Int) ∧ k48 = false) := by
          cases k48
          · by_cases h : 1 < n1
            · exact .inr ⟨by omega, rfl⟩
            · exact .inl (by omega)
          · exact .inl (fun h => h48 ⟨by omega, rfl⟩)
        clear h48
        rcases hcc with h1' | ⟨h1', rfl⟩ <;> (go_wp2_with fail) <;>
        · go_at_call 79
          (with_reducible refine (PP.out _ HE.out).mono ?_)
          rintro e1 w5 ⟨rfl, hb5⟩
          replace HB := Lib.hid (HB.out.grow hb5)
          replace HT := Lib.hid (HT.out.grow hb5)
          replace HC := Lib.hid (HC.out.grow hb5)
          clear hb5
          clear t0 t3 z0 z3 ltr
          have t5 := (HT.out.2 5 _ rfl).1
          have t6 := (HT.out.2 6 _ rfl).1
          have z5 := (HT.out.2 5 _ rfl).2
          have z6 := (HT.out.2 6 _ rfl).2
          have ltr := HT.out.lt
          have ltb := HB.out.lt
          by_cases hpe : pe = 0
          · subst hpe
            rw [if_neg (by simp)] at hlx
            go_wp2_with fail
            go_ret
            refine fin.out _ _ rfl ?_
            rw [hlx.out]
            refine ⟨by rw [hm9.out]; exact ((HB.out.other (Ne.symm hbr) _).other (Ne.symm hbr) _).alloc _, ?_, ((HC.out.set2 _ _).set2 _ _).alloc _⟩
            show Bx _ r (tkC 2 ln cl (B PA) ⟨#[]⟩ pn ps j)
            rw [← hTT.out]
            exact ((HT.out.put (i := 5) (v := .int .i64 pn) rfl).put (i := 6) (v := .int .i64 ps) rfl).alloc _
          · rw [if_pos hpe] at hlx
            have hpe' : (pe != 0) = true := by simpa using hpe
            go_wp2_with fail
            go_at_call 49
            refine calls_name (fun wx => Bx wx b (scC s (m : Int) wg 0) ∧ Bx wx r (tkC 2 ln cl WB ⟨#[]⟩ 0 0 j) ∧ Bx wx w5.heap.size [.int .i64 pn, .int .i64 ps] ∧ Chg b r w wx) ⟨HB.out.alloc _, HT.out.alloc _, Bx.new rfl rfl, HC.out.alloc _⟩ ?_
            rintro w6 ⟨HB6, HT6, HN6, HC6⟩
            (with_reducible refine (fail_ok (i := m) (wg := wg) HB6 _ _).mono ?_)
            rintro e1 w4 ⟨rfl, hb4, hc4⟩
            replace HT := Lib.hid (HT6.chg hc4 hbr hbr)
            have HN := Lib.hid (HN6.chg hc4 (by omega) (by omega))
            replace HC := Lib.hid (HC6.trans (hc4.wider r))
            clear t5 t6 z5 z6 ltr HT6 HN6 HC6 hc4
            have t5 := (HT.out.2 5 _ rfl).1
            have t6 := (HT.out.2 6 _ rfl).1
            have z5 := (HT.out.2 5 _ rfl).2
            have z6 := (HT.out.2 6 _ rfl).2
            have ltr := HT.out.lt
            have n0 := (HN.out.2 0 _ rfl).1
            have n1' := (HN.out.2 1 _ rfl).1
            replace HB := Lib.hid hb4
            clear hb4
            go_wp2_with fail
            go_ret
            refine fin.out _ _ rfl ?_
            rw [hlx.out]
            exact ⟨⟨_, by rw [Nat.add_zero]; exact (HB.out.other (Ne.symm hbr) _).other (Ne.symm hbr) _⟩, ⟨_, (HT.out.put (i := 5) rfl).put (i := 6) rfl⟩, (HC.out.set2 _ _).set2 _ _⟩
    · go_enter Tryz.func45, Tryz.ntmps45
      go_wp2_with fail
      (go_at_call 73; (with_reducible refine (BA0.out _ HB.out).mono ?_); rintro e1 wn ⟨rfl, hb⟩; replace HB := Lib.hid (HB.out.grow hb); replace HT := Lib.hid (HT.out.grow hb); replace HG := Lib.hid (G.trans HG.out hb); clear hb)
      go_wp2_with fail
      go_at_call 78
      (with_reducible refine (ID0.out _).mono ?_)
      rintro e1 w2 ⟨rfl, rfl⟩
      (obtain ⟨c0, c1, c2, c3⟩ := HB.out.c4; obtain ⟨f0, f1, f2, f3⟩ := HB.out.f4; have lt := HB.out.lt)
      go_wp2_with fail
      go_at_call 74
      (with_reducible refine (WH.out _ HB.out).mono ?_)
      rintro e1 w3 ⟨rfl, hb3, hc3⟩
      replace HB := Lib.hid hb3
      replace HT := Lib.hid (HT.out.chg hc3 hbr hbr)
      replace HE := Lib.hid ((HE.out.grow HG.out).chg hc3 hgb hgb)
      have HC := Lib.hid (((Chg.of_below (b := b) (r := b) HG.out).trans hc3).wider r)
      clear hb3 hc3 c0 c1 c2 c3 f0 f1 f2 f3 lt HG
      go_wp2_with fail
      (go_at_call 73; (with_reducible refine (BB0.out _ HB.out).mono ?_); rintro e1 wn ⟨rfl, hb⟩; replace HB := Lib.hid (HB.out.grow hb); replace HT := Lib.hid (HT.out.grow hb); replace HE := Lib.hid (HE.out.grow hb); replace HC := Lib.hid (HC.out.grow hb); clear hb)
      have t0 := (HT.out.2 0 _ rfl).1
      have t3 := (HT.out.2 3 _ rfl).1
      have z0 := (HT.out.2 0 _ rfl).2
      have z3 := (HT.out.2 3 _ rfl).2
      have ltr := HT.out.lt
      have hNM : numN q = (n1, n1) := by rw [hnum]; simp
      rw [hNM] at hlx
      dsimp only at hlx
      have hm9 : Hid (i + n1 = m) := hm
      have hTT : Hid (WB = B (q.take n1)) := hwt
      have hTX := hTT
      clear hnum hsum
      have hws : (WB.toList == WB.toList) = true := by simp
      go_wp2_with fail
      refine calls_name (fun wx => Bx wx b (scC s (m : Int) wg 0) ∧ Bx wx r (tkC 2 ln cl WB ⟨#[]⟩ 0 0 j) ∧ Env wx ∧ Chg b r w wx) ⟨(HB.out.other (Ne.symm hbr) _).other (Ne.symm hbr) _, (HT.out.put (i := 0) (v := .int .i64 2) rfl).put (i := 3) (v := .string WB) rfl, HE.out.chg (((Chg.refl b r _).set2 _ _).set2 _ _) hgb hgr, (HC.out.set2 _ _).set2 _ _⟩ ?_
      rintro w9 ⟨hb9, ht9, he9, hc9⟩
      replace HB := Lib.hid hb9
      replace HT := Lib.hid ht9
      replace HE := Lib.hid he9
      replace HC := Lib.hid hc9
      clear hb9 ht9 he9 hc9 t0 t3 z0 z3 ltr
      (go_at_call 73; (with_reducible refine (BB0.out _ HB.out).mono ?_); rintro e1 wn ⟨rfl, hb⟩; replace HB := Lib.hid (HB.out.grow hb); replace HT := Lib.hid (HT.out.grow hb); replace HE := Lib.hid (HE.out.grow hb); replace HC := Lib.hid (HC.out.grow hb); clear hb)
      have t0 := (HT.out.2 0 _ rfl).1
      have t3 := (HT.out.2 3 _ rfl).1
      have z0 := (HT.out.2 0 _ rfl).2
      have z3 := (HT.out.2 3 _ rfl).2
      have ltr := HT.out.lt
      obtain ⟨PA, hPA⟩ : ∃ PA, q.take n1 = PA := ⟨_, rfl⟩
      rw [hPA] at hlx hTX hTT
      have PP := Lib.hid (fun wx he => parse_any PA wx (by rw [← hPA, List.length_take]; have := hql.out; omega) (Env.vars he) (Env.pow he))
      rw [← hTX.out] at PP
      unfold RetF RetN at PP
      obtain ⟨⟨pn, ps, pe⟩, hpp⟩ : ∃ p, parseN PA = p := ⟨_, rfl⟩
      rw [hpp] at PP hlx
      dsimp only at PP hlx
      by_cases h48 : 1 < n1 ∧ k48 = true
      · rw [if_pos h48] at hlx
        obtain ⟨h1, rfl⟩ := h48
        have h1' : (1 : Int) < (n1 : Int) := by omega
        go_wp2_with fail
        go_at_call 49
        (with_reducible refine (fail_ok (i := m) (wg := wg) HB.out _ _).mono ?_)
        rintro e1 w4 ⟨rfl, hb4, hc4⟩
        go_wp2_with fail
        go_ret
        refine fin.out _ _ rfl ?_
        rw [hlx.out]
        exact ⟨⟨_, by rw [Nat.add_zero]; exact hb4⟩, ⟨_, HT.out.chg hc4 hbr hbr⟩, HC.out.trans (hc4.wider r)⟩
      · rw [if_neg h48] at hlx
        have hcc : ¬ (1 : Int) < (n1 : Int) ∨ ((1 : Int) < (n1 : Int) ∧ k48 = false) := by
          cases k48
          · by_cases h : 1 < n1
            · exact .inr ⟨by omega, rfl⟩
            · exact .inl (by omega)
          · exact .inl (fun h => h48 ⟨by omega, rfl⟩)
        clear h48
        rcases hcc with h1' | ⟨h1', rfl⟩ <;> (go_wp2_with fail) <;>
        · go_at_call 79
          (with_reducible refine (PP.out _ HE.out).mono ?_)
          rintro e1 w5 ⟨rfl, hb5⟩
          replace HB := Lib.hid (HB.out.grow hb5)
          replace HT := Lib.hid (HT.out.grow hb5)
          replace HC := Lib.hid (HC.out.grow hb5)
          clear hb5
          clear t0 t3 z0 z3 ltr
          have t5 := (HT.out.2 5 _ rfl).1
          have t6 := (HT.out.2 6 _ rfl).1
          have z5 := (HT.out.2 5 _ rfl).2
          have z6 := (HT.out.2 6 _ rfl).2
          have ltr := HT.out.lt
          have ltb := HB.out.lt
          by_cases hpe : pe = 0
          · subst hpe
            rw [if_neg (by simp)] at hlx
            go_wp2_with fail
            go_ret
            refine fin.out _ _ rfl ?_
            rw [hlx.out]
            refine ⟨by rw [hm9.out]; exact ((HB.out.other (Ne.symm hbr) _).other (Ne.symm hbr) _).alloc _, ?_, ((HC.out.set2 _ _).set2 _ _).alloc _⟩
            show Bx _ r (tkC 2 ln cl (B PA) ⟨#[]⟩ pn ps j)
            rw [← hTT.out]
            exact ((HT.out.put (i := 5) (v := .int .i64 pn) rfl).put (i := 6) (v := .int .i64 ps) rfl).alloc _
          · rw [if_pos hpe] at hlx
            have hpe' : (pe != 0) = true := by simpa using hpe
            go_wp2_with fail
            go_at_call 49
            refine calls_name (fun wx => Bx wx b (scC s (m : Int) wg 0) ∧ Bx wx r (tkC 2 ln cl WB ⟨#[]⟩ 0 0 j) ∧ Bx wx w5.heap.size [.int .i64 pn, .int .i64 ps] ∧ Chg b r w wx) ⟨HB.out.alloc _, HT.out.alloc _, Bx.new rfl rfl, HC.out.alloc _⟩ ?_
            rintro w6 ⟨HB6, HT6, HN6, HC6⟩
            (with_reducible refine (fail_ok (i := m) (wg := wg) HB6 _ _).mono ?_)
            rintro e1 w4 ⟨rfl, hb4, hc4⟩
            replace HT := Lib.hid (HT6.chg hc4 hbr hbr)
            have HN := Lib.hid (HN6.chg hc4 (by omega) (by omega))
            replace HC := Lib.hid (HC6.trans (hc4.wider r))
            clear t5 t6 z5 z6 ltr HT6 HN6 HC6 hc4
            have t5 := (HT.out.2 5 _ rfl).1
            have t6 := (HT.out.2 6 _ rfl).1
            have z5 := (HT.out.2 5 _ rfl).2
            have z6 := (HT.out.2 6 _ rfl).2
            have ltr := HT.out.lt
            have n0 := (HN.out.2 0 _ rfl).1
            have n1' := (HN.out.2 1 _ rfl).1
            replace HB := Lib.hid hb4
            clear hb4
            go_wp2_with fail
            go_ret
            refine fin.out _ _ rfl ?_
            rw [hlx.out]
            exact ⟨⟨_, by rw [Nat.add_zero]; exact (HB.out.other (Ne.symm hbr) _).other (Ne.symm hbr) _⟩, ⟨_, (HT.out.put (i := 5) rfl).put (i := 6) rfl⟩, (HC.out.set2 _ _).set2 _ _⟩
    · go_enter Tryz.func45, Tryz.ntmps45
      go_wp2_with fail
      (go_at_call 73; (with_reducible refine (BA0.out _ HB.out).mono ?_); rintro e1 wn ⟨rfl, hb⟩; replace HB := Lib.hid (HB.out.grow hb); replace HT := Lib.hid (HT.out.grow hb); replace HG := Lib.hid (G.trans HG.out hb); clear hb)
      go_wp2_with fail
      go_at_call 78
      (with_reducible refine (ID0.out _).mono ?_)
      rintro e1 w2 ⟨rfl, rfl⟩
      (obtain ⟨c0, c1, c2, c3⟩ := HB.out.c4; obtain ⟨f0, f1, f2, f3⟩ := HB.out.f4; have lt := HB.out.lt)
      go_wp2_with fail
      go_at_call 74
      (with_reducible refine (WH.out _ HB.out).mono ?_)
      rintro e1 w3 ⟨rfl, hb3, hc3⟩
      replace HB := Lib.hid hb3
      replace HT := Lib.hid (HT.out.chg hc3 hbr hbr)
      replace HE := Lib.hid ((HE.out.grow HG.out).chg hc3 hgb hgb)
      have HC := Lib.hid (((Chg.of_below (b := b) (r := b) HG.out).trans hc3).wider r)
      clear hb3 hc3 c0 c1 c2 c3 f0 f1 f2 f3 lt HG
      go_wp2_with fail
      (go_at_call 73; (with_reducible refine (BB0.out _ HB.out).mono ?_); rintro e1 wn ⟨rfl, hb⟩; replace HB := Lib.hid (HB.out.grow hb); replace HT := Lib.hid (HT.out.grow hb); replace HE := Lib.hid (HE.out.grow hb); replace HC := Lib.hid (HC.out.grow hb); clear hb)
      have t0 := (HT.out.2 0 _ rfl).1
      have t3 := (HT.out.2 3 _ rfl).1
      have z0 := (HT.out.2 0 _ rfl).2
      have z3 := (HT.out.2 3 _ rfl).2
      have ltr := HT.out.lt
      have hNM : numN q = (n1, n1) := by rw [hnum]; simp
      rw [hNM] at hlx
      dsimp only at hlx
      have hm9 : Hid (i + n1 = m) := hm
      have hTT : Hid (WB = B (q.take n1)) := hwt
      have hTX := hTT
      clear hnum hsum
      have hws : (WB.toList == WB.toList) = true := by simp
      go_wp2_with fail
      refine calls_name (fun wx => Bx wx b (scC s (m : Int) wg 0) ∧ Bx wx r (tkC 2 ln cl WB ⟨#[]⟩ 0 0 j) ∧ Env wx ∧ Chg b r w wx) ⟨(HB.out.other (Ne.symm hbr) _).other (Ne.symm hbr) _, (HT.out.put (i := 0) (v := .int .i64 2) rfl).put (i := 3) (v := .string WB) rfl, HE.out.chg (((Chg.refl b r _).set2 _ _).set2 _ _) hgb hgr, (HC.out.set2 _ _).set2 _ _⟩ ?_
      rintro w9 ⟨hb9, ht9, he9, hc9⟩
      replace HB := Lib.hid hb9
      replace HT := Lib.hid ht9
      replace HE := Lib.hid he9
      replace HC := Lib.hid hc9
      clear hb9 ht9 he9 hc9 t0 t3 z0 z3 ltr
      (go_at_call 73; (with_reducible refine (BB0.out _ HB.out).mono ?_); rintro e1 wn ⟨rfl, hb⟩; replace HB := Lib.hid (HB.out.grow hb); replace HT := Lib.hid (HT.out.grow hb); replace HE := Lib.hid (HE.out.grow hb); replace HC := Lib.hid (HC.out.grow hb); clear hb)
      go_wp2_with fail
      (go_at_call 73; (with_reducible refine (BB1.out _ HB.out).mono ?_); rintro e1 wn ⟨rfl, hb⟩; replace HB := Lib.hid (HB.out.grow hb); replace HT := Lib.hid (HT.out.grow hb); replace HE := Lib.hid (HE.out.grow hb); replace HC := Lib.hid (HC.out.grow hb); clear hb)
      go_wp2_with fail
      go_at_call 70
      (with_reducible refine (IP1.out _).mono ?_)
      rintro e1 w2 ⟨rfl, rfl⟩
      have t0 := (HT.out.2 0 _ rfl).1
      have t3 := (HT.out.2 3 _ rfl).1
      have z0 := (HT.out.2 0 _ rfl).2
      have z3 := (HT.out.2 3 _ rfl).2
      have ltr := HT.out.lt
      obtain ⟨PA, hPA⟩ : ∃ PA, q.take n1 = PA := ⟨_, rfl⟩
      rw [hPA] at hlx hTX hTT
      have PP := Lib.hid (fun wx he => parse_any PA wx (by rw [← hPA, List.length_take]; have := hql.out; omega) (Env.vars he) (Env.pow he))
      rw [← hTX.out] at PP
      unfold RetF RetN at PP
      obtain ⟨⟨pn, ps, pe⟩, hpp⟩ : ∃ p, parseN PA = p := ⟨_, rfl⟩
      rw [hpp] at PP hlx
      dsimp only at PP hlx
      by_cases h48 : 1 < n1 ∧ k48 = true
      · rw [if_pos h48] at hlx
        obtain ⟨h1, rfl⟩ := h48
        have h1' : (1 : Int) < (n1 : Int) := by omega
        go_wp2_with fail
        go_at_call 49
        (with_reducible refine (fail_ok (i := m) (wg := wg) HB.out _ _).mono ?_)
        rintro e1 w4 ⟨rfl, hb4, hc4⟩
        go_wp2_with fail
        go_ret
        refine fin.out _ _ rfl ?_
        rw [hlx.out]
        exact ⟨⟨_, by rw [Nat.add_zero]; exact hb4⟩, ⟨_, HT.out.chg hc4 hbr hbr⟩, HC.out.trans (hc4.wider r)⟩
      · rw [if_neg h48] at hlx
        have hcc : ¬ (1 : Int) < (n1 : Int) ∨ ((1 : Int) < (n1 : Int) ∧ k48 = false) := by
          cases k48
          · by_cases h : 1 < n1
            · exact .inr ⟨by omega, rfl⟩
            · exact .inl (by omega)
          · exact .inl (fun h => h48 ⟨by omega, rfl⟩)
        clear h48
        rcases hcc with h1' | ⟨h1', rfl⟩ <;> (go_wp2_with fail) <;>
        · go_at_call 79
          (with_reducible refine (PP.out _ HE.out).mono ?_)
          rintro e1 w5 ⟨rfl, hb5⟩
          replace HB := Lib.hid (HB.out.grow hb5)
          replace HT := Lib.hid (HT.out.grow hb5)
          replace HC := Lib.hid (HC.out.grow hb5)
          clear hb5
          clear t0 t3 z0 z3 ltr
          have t5 := (HT.out.2 5 _ rfl).1
          have t6 := (HT.out.2 6 _ rfl).1
          have z5 := (HT.out.2 5 _ rfl).2
          have z6 := (HT.out.2 6 _ rfl).2
          have ltr := HT.out.lt
          have ltb := HB.out.lt
          by_cases hpe : pe = 0
          · subst hpe
            rw [if_neg (by simp)] at hlx
            go_wp2_with fail
            go_ret
            refine fin.out _ _ rfl ?_
            rw [hlx.out]
            refine ⟨by rw [hm9.out]; exact ((HB.out.other (Ne.symm hbr) _).other (Ne.symm hbr) _).alloc _, ?_, ((HC.out.set2 _ _).set2 _ _).alloc _⟩
            show Bx _ r (tkC 2 ln cl (B PA) ⟨#[]⟩ pn ps j)
            rw [← hTT.out]
            exact ((HT.out.put (i := 5) (v := .int .i64 pn) rfl).put (i := 6) (v := .int .i64 ps) rfl).alloc _
          · rw [if_pos hpe] at hlx
            have hpe' : (pe != 0) = true := by simpa using hpe
            go_wp2_with fail
            go_at_call 49
            refine calls_name (fun wx => Bx wx b (scC s (m : Int) wg 0) ∧ Bx wx r (tkC 2 ln cl WB ⟨#[]⟩ 0 0 j) ∧ Bx wx w5.heap.size [.int .i64 pn, .int .i64 ps] ∧ Chg b r w wx) ⟨HB.out.alloc _, HT.out.alloc _, Bx.new rfl rfl, HC.out.alloc _⟩ ?_
            rintro w6 ⟨HB6, HT6, HN6, HC6⟩
            (with_reducible refine (fail_ok (i := m) (wg := wg) HB6 _ _).mono ?_)
            rintro e1 w4 ⟨rfl, hb4, hc4⟩
            replace HT := Lib.hid (HT6.chg hc4 hbr hbr)
            have HN := Lib.hid (HN6.chg hc4 (by omega) (by omega))
            replace HC := Lib.hid (HC6.trans (hc4.wider r))
            clear t5 t6 z5 z6 ltr HT6 HN6 HC6 hc4
            have t5 := (HT.out.2 5 _ rfl).1
            have t6 := (HT.out.2 6 _ rfl).1
            have z5 := (HT.out.2 5 _ rfl).2
            have z6 := (HT.out.2 6 _ rfl).2
            have ltr := HT.out.lt
            have n0 := (HN.out.2 0 _ rfl).1
            have n1' := (HN.out.2 1 _ rfl).1
            replace HB := Lib.hid hb4
            clear hb4
            go_wp2_with fail
            go_ret
            refine fin.out _ _ rfl ?_
            rw [hlx.out]
            exact ⟨⟨_, by rw [Nat.add_zero]; exact (HB.out.other (Ne.symm hbr) _).other (Ne.symm hbr) _⟩, ⟨_, (HT.out.put (i := 5) rfl).put (i := 6) rfl⟩, (HC.out.set2 _ _).set2 _ _⟩
    · go_enter Tryz.func45, Tryz.ntmps45
      go_wp2_with fail
      (go_at_call 73; (with_reducible refine (BA0.out _ HB.out).mono ?_); rintro e1 wn ⟨rfl, hb⟩; replace HB := Lib.hid (HB.out.grow hb); replace HT := Lib.hid (HT.out.grow hb); replace HG := Lib.hid (G.trans HG.out hb); clear hb)
      go_wp2_with fail
      go_at_call 78
      (with_reducible refine (ID0.out _).mono ?_)
      rintro e1 w2 ⟨rfl, rfl⟩
      (obtain ⟨c0, c1, c2, c3⟩ := HB.out.c4; obtain ⟨f0, f1, f2, f3⟩ := HB.out.f4; have lt := HB.out.lt)
      go_wp2_with fail
      go_at_call 74
      (with_reducible refine (WH.out _ HB.out).mono ?_)
      rintro e1 w3 ⟨rfl, hb3, hc3⟩
      replace HB := Lib.hid hb3
      replace HT := Lib.hid (HT.out.chg hc3 hbr hbr)
      replace HE := Lib.hid ((HE.out.grow HG.out).chg hc3 hgb hgb)
      have HC := Lib.hid (((Chg.of_below (b := b) (r := b) HG.out).trans hc3).wider r)
      clear hb3 hc3 c0 c1 c2 c3 f0 f1 f2 f3 lt HG
      go_wp2_with fail
      (go_at_call 73; (with_reducible refine (BB0.out _ HB.out).mono ?_); rintro e1 wn ⟨rfl, hb⟩; replace HB := Lib.hid (HB.out.grow hb); replace HT := Lib.hid (HT.out.grow hb); replace HE := Lib.hid (HE.out.grow hb); replace HC := Lib.hid (HC.out.grow hb); clear hb)
      have t0 := (HT.out.2 0 _ rfl).1
      have t3 := (HT.out.2 3 _ rfl).1
      have z0 := (HT.out.2 0 _ rfl).2
      have z3 := (HT.out.2 3 _ rfl).2
      have ltr := HT.out.lt
      have hNM : numN q = (n1 + 1, n1) := by rw [hnum]; simp
      rw [hNM] at hlx
      dsimp only at hlx
      have hm1 : m + 1 ≤ s.size := hin2'.out (by simp)
      have hm9 : Hid (i + (n1 + 1) = m + 1) := by have := hm.out; unfold Hid; omega
      have hTX := hwt
      have hq1 : n1 + 1 ≤ q.length := by have h1 := hql.out; have h2 := hm.out; omega
      have hTT := Lib.hid (show WB ++ ⟨#[100]⟩ = B (q.take (n1 + 1)) by rw [(hsum.out 0).1 hq1, h100.out (by simp), hwt.out]; exact B_app _ _)
      have s1 := fun (wx : World) => run_string_add_sum (P := Tryz.prog) wx WB ⟨#[100]⟩ (by rw [hsz]; show n1 + 1 ≤ _; omega)
      obtain ⟨TT, hTT0⟩ : ∃ TT, WB ++ ⟨#[100]⟩ = TT := ⟨_, rfl⟩
      rw [hTT0] at hTT s1
      clear hTT0 hnum hsum
      have hx1 : IntKind.i64.wrap ((m : Int) + 1) = ((m + 1 : Nat) : Int) := by rw [IntWalk.i64_in _ (by omega)]; simp
      have hws : (WB.toList == WB.toList) = true := by simp
      go_wp2_with fail
      refine calls_name (fun wx => Bx wx b (scC s (m : Int) wg 0) ∧ Bx wx r (tkC 2 ln cl WB ⟨#[]⟩ 0 0 j) ∧ Env wx ∧ Chg b r w wx) ⟨(HB.out.other (Ne.symm hbr) _).other (Ne.symm hbr) _, (HT.out.put (i := 0) (v := .int .i64 2) rfl).put (i := 3) (v := .string WB) rfl, HE.out.chg (((Chg.refl b r _).set2 _ _).set2 _ _) hgb hgr, (HC.out.set2 _ _).set2 _ _⟩ ?_
      rintro w9 ⟨hb9, ht9, he9, hc9⟩
      replace HB := Lib.hid hb9
      replace HT := Lib.hid ht9
      replace HE := Lib.hid he9
      replace HC := Lib.hid hc9
      clear hb9 ht9 he9 hc9 t0 t3 z0 z3 ltr
      (go_at_call 73; (with_reducible refine (BB0.out _ HB.out).mono ?_); rintro e1 wn ⟨rfl, hb⟩; replace HB := Lib.hid (HB.out.grow hb); replace HT := Lib.hid (HT.out.grow hb); replace HE := Lib.hid (HE.out.grow hb); replace HC := Lib.hid (HC.out.grow hb); clear hb)
      go_wp2_with fail
      (go_at_call 73; (with_reducible refine (BB1.out _ HB.out).mono ?_); rintro e1 wn ⟨rfl, hb⟩; replace HB := Lib.hid (HB.out.grow hb); replace HT := Lib.hid (HT.out.grow hb); replace HE := Lib.hid (HE.out.grow hb); replace HC := Lib.hid (HC.out.grow hb); clear hb)
      go_wp2_with fail
      go_at_call 70
      (with_reducible refine (IP1.out _).mono ?_)
      rintro e1 w2 ⟨rfl, rfl⟩
      (obtain ⟨c0, c1, c2, c3⟩ := HB.out.c4; obtain ⟨f0, f1, f2, f3⟩ := HB.out.f4; have lt := HB.out.lt)
      have t0 := (HT.out.2 0 _ rfl).1
      have t3 := (HT.out.2 3 _ rfl).1
      have z0 := (HT.out.2 0 _ rfl).2
      have z3 := (HT.out.2 3 _ rfl).2
      have ltr := HT.out.lt
      go_upto_region 13 with fail
      refine wp_name (fun wx => Bx wx b (scC s ((m + 1 : Nat) : Int) wg 0) ∧ Bx wx r (tkC 2 ln cl TT ⟨#[]⟩ 0 0 j) ∧ Env wx ∧ Chg b r w wx) ⟨(HB.out.put (i := 1) (v := .int .i64 ((m + 1 : Nat) : Int)) rfl).other (Ne.symm hbr) _, (HT.out.other hbr _).put (i := 3) (v := .string TT) rfl, HE.out.chg (((Chg.refl b r _).set1 _ _).set2 _ _) hgb hgr, (HC.out.set1 _ _).set2 _ _⟩ ?_
      rintro w9 ⟨hb9, ht9, he9, hc9⟩
      replace HB := Lib.hid hb9
      replace HT := Lib.hid ht9
      replace HE := Lib.hid he9
      replace HC := Lib.hid hc9
      clear c0 c1 c2 c3 f0 f1 f2 f3 lt hb9 ht9 he9 hc9 t0 t3 z0 z3 ltr
      have t0 := (HT.out.2 0 _ rfl).1
      have t3 := (HT.out.2 3 _ rfl).1
      have z0 := (HT.out.2 0 _ rfl).2
      have z3 := (HT.out.2 3 _ rfl).2
      have ltr := HT.out.lt
      obtain ⟨PA, hPA⟩ : ∃ PA, q.take n1 = PA := ⟨_, rfl⟩
      obtain ⟨TL, hTL⟩ : ∃ TL, q.take (n1 + 1) = TL := ⟨_, rfl⟩
      rw [hPA, hTL] at hlx
      rw [hPA] at hTX
      rw [hTL] at hTT
      have PP := Lib.hid (fun wx he => parse_any PA wx (by rw [← hPA, List.length_take]; have := hql.out; omega) (Env.vars he) (Env.pow he))
      rw [← hTX.out] at PP
      unfold RetF RetN at PP
      obtain ⟨⟨pn, ps, pe⟩, hpp⟩ : ∃ p, parseN PA = p := ⟨_, rfl⟩
      rw [hpp] at PP hlx
      dsimp only at PP hlx
      by_cases h48 : 1 < n1 ∧ k48 = true
      · rw [if_pos h48] at hlx
        obtain ⟨h1, rfl⟩ := h48
        have h1' : (1 : Int) < (n1 : Int) := by omega
        go_wp2_with fail
        go_at_call 49
        (with_reducible refine (fail_ok (i := (m + 1)) (wg := wg) HB.out _ _).mono ?_)
        rintro e1 w4 ⟨rfl, hb4, hc4⟩
        go_wp2_with fail
        go_ret
        refine fin.out _ _ rfl ?_
        rw [hlx.out]
        exact ⟨⟨_, by rw [Nat.add_zero]; exact hb4⟩, ⟨_, HT.out.chg hc4 hbr hbr⟩, HC.out.trans (hc4.wider r)⟩
      · rw [if_neg h48] at hlx
        have hcc : ¬ (1 : Int) < (n1 : Int) ∨ ((1 : Int) < (n1 : Int) ∧ k48 = false) := by
          cases k48
          · by_cases h : 1 < n1
            · exact .inr ⟨by omega, rfl⟩
            · exact .inl (by omega)
          · exact .inl (fun h => h48 ⟨by omega, rfl⟩)
        clear h48
        rcases hcc with h1' | ⟨h1', rfl⟩ <;> (go_wp2_with fail) <;>
        · go_at_call 79
          (with_reducible refine (PP.out _ HE.out).mono ?_)
          rintro e1 w5 ⟨rfl, hb5⟩
          replace HB := Lib.hid (HB.out.grow hb5)
          replace HT := Lib.hid (HT.out.grow hb5)
          replace HC := Lib.hid (HC.out.grow hb5)
          clear hb5
          clear t0 t3 z0 z3 ltr
          have t5 := (HT.out.2 5 _ rfl).1
          have t6 := (HT.out.2 6 _ rfl).1
          have z5 := (HT.out.2 5 _ rfl).2
          have z6 := (HT.out.2 6 _ rfl).2
          have ltr := HT.out.lt
          have ltb := HB.out.lt
          by_cases hpe : pe = 0
          · subst hpe
            rw [if_neg (by simp)] at hlx
            go_wp2_with fail
            go_ret
            refine fin.out _ _ rfl ?_
            rw [hlx.out]
            refine ⟨by rw [hm9.out]; exact ((HB.out.other (Ne.symm hbr) _).other (Ne.symm hbr) _).alloc _, ?_, ((HC.out.set2 _ _).set2 _ _).alloc _⟩
            show Bx _ r (tkC 2 ln cl (B TL) ⟨#[]⟩ pn ps j)
            rw [← hTT.out]
            exact ((HT.out.put (i := 5) (v := .int .i64 pn) rfl).put (i := 6) (v := .int .i64 ps) rfl).alloc _
          · rw [if_pos hpe] at hlx
            have hpe' : (pe != 0) = true := by simpa using hpe
            go_wp2_with fail
            go_at_call 49
            refine calls_name (fun wx => Bx wx b (scC s ((m + 1) : Int) wg 0) ∧ Bx wx r (tkC 2 ln cl TT ⟨#[]⟩ 0 0 j) ∧ Bx wx w5.heap.size [.int .i64 pn, .int .i64 ps] ∧ Chg b r w wx) ⟨HB.out.alloc _, HT.out.alloc _, Bx.new rfl rfl, HC.out.alloc _⟩ ?_
            rintro w6 ⟨HB6, HT6, HN6, HC6⟩
            (with_reducible refine (fail_ok (i := (m + 1)) (wg := wg) HB6 _ _).mono ?_)
            rintro e1 w4 ⟨rfl, hb4, hc4⟩
            replace HT := Lib.hid (HT6.chg hc4 hbr hbr)
            have HN := Lib.hid (HN6.chg hc4 (by omega) (by omega))
            replace HC := Lib.hid (HC6.trans (hc4.wider r))
            clear t5 t6 z5 z6 ltr HT6 HN6 HC6 hc4
            have t5 := (HT.out.2 5 _ rfl).1
            have t6 := (HT.out.2 6 _ rfl).1
            have z5 := (HT.out.2 5 _ rfl).2
            have z6 := (HT.out.2 6 _ rfl).2
            have ltr := HT.out.lt
            have n0 := (HN.out.2 0 _ rfl).1
            have n1' := (HN.out.2 1 _ rfl).1
            replace HB := Lib.hid hb4
            clear hb4
            go_wp2_with fail
            go_ret
            refine fin.out _ _ rfl ?_
            rw [hlx.out]
            exact ⟨⟨_, by rw [Nat.add_zero]; exact (HB.out.other (Ne.symm hbr) _).other (Ne.symm hbr) _⟩, ⟨_, (HT.out.put (i := 5) rfl).put (i := 6) rfl⟩, (HC.out.set2 _ _).set2 _ _⟩
  · have hno : Hid (way (s.data.toList.drop i) ≠ 2) := fun k => hdc (hw.1 k)
    have hdf : isDig c = false := by simpa using hdc
    rw [hdf] at ID0
    clear hc hc0 hdc hw hdf h ht
    go_enter Tryz.func45, Tryz.ntmps45
    go_wp2_with fail
    (go_at_call 73; (with_reducible refine (BA0.out _ HB.out).mono ?_); rintro e1 wn ⟨rfl, hb⟩; replace HB := Lib.hid (HB.out.grow hb); replace HT := Lib.hid (HT.out.grow hb); replace HG := Lib.hid (G.trans HG.out hb); clear hb)
    go_wp2_with fail
    go_at_call 78
    (with_reducible refine (ID0.out _).mono ?_)
    rintro e1 w2 ⟨rfl, rfl⟩
    go_wp2_with fail
    go_ret
    exact ⟨fun k => absurd k hno.out, fun _ => ⟨rfl, HG.out⟩⟩
end
end Go.Proofs.YtmchiibbodllaaaGreatDoor
