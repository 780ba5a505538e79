/- lexer: bytes. -/
import Derived.Test.YtmchiibbodllaaaGreatDoorBld
import Derived.Test.YtmchiibbodllaaaGreatDoorLEnv
namespace Go.Proofs.YtmchiibbodllaaaGreatDoor
set_option linter.unusedVariables false
set_option linter.unnecessarySimpa false
set_option linter.unusedSimpArgs false
open Go.RowKit

theorem isWay0 (q : List UInt8) : way q = 0 ↔ ((nth q 0).toNat = 120 ∧ (nth q 1).toNat = 34) := by
  unfold way
  constructor
  · intro h
    split at h
    · assumption
    · split at h
      · omega
      · split at h
        · omega
        · split at h <;> omega
  · intro h
    rw [if_pos h]
theorem pair_or : ∀ x y : Fin 16, bits .or .i64 ((x.val : Int) * 16) (y.val : Int) = (x.val : Int) * 16 + (y.val : Int) := by decide +kernel
theorem hex_nat {c : UInt8} (h : isHex c = true) : ∃ x : Nat, hexV c = (x : Int) ∧ x < 16 := by
  have := hex_bd c
  unfold isHex at h
  simp only [decide_eq_true_eq] at h
  exact ⟨(hexV c).toNat, by omega, by omega⟩
theorem pairV {a b : Nat} (ha : a < 16) (hb : b < 16) : bits .or .i64 ((a : Int) * 16) (b : Int) = (a : Int) * 16 + (b : Int) := pair_or ⟨a, ha⟩ ⟨b, hb⟩
theorem unhex_app : ∀ (n : Nat) (a : List UInt8) (x y : UInt8), a.length ≤ n → a.length % 2 = 0 → unhex (a ++ [x, y]) = unhex a ++ [UInt8.ofNat (16 * hexV x + hexV y).toNat]
  | _, [], x, y, _, _ => rfl
  | _, [c], x, y, _, h => by simp at h
  | 0, a :: b :: r, x, y, h, _ => by simp at h
  | n + 1, a :: b :: r, x, y, h, h2 => by
    have := unhex_app n r x y (by simp at h; omega) (by simp at h2; omega)
    simp only [List.cons_append, unhex, this]
section
variable {w : World} {b r : Nat} {s : ByteArray} {i : Nat} {wg e ln cl : Int} {j : Bool}
set_option maxRecDepth 20000 in set_option maxHeartbeats 400000 in
theorem long_any (h : Bx w b (scC s i wg 0)) (v : ByteArray) (hv : v.size ≤ 100000) (k : Int) : Calls Tryz.prog 77 #[.pointer (some ⟨b, 0, none⟩), .int .i64 k, .string v] w fun e1 w' => e1 = .returned (.tuple #[]) ∧ Bx w' b (if 1024 < v.size then scC s i k 5 else scC s i wg 0) ∧ Chg b b w w' := by
  have HB := Lib.hid h
  by_cases hl : 1024 < v.size
  · have hl' : (1024 : Int) < (v.size : Int) := by omega
    rw [if_pos hl]
    go_enter Tryz.func77, Tryz.ntmps77
    go_wp2_with fail
    go_at_call 49
    (with_reducible refine (fail_ok HB.out _ _).mono ?_)
    rintro e1 w1 ⟨rfl, hb1, hc1⟩
    go_wp2_with fail
    go_end0
    exact ⟨rfl, hb1, hc1⟩
  · have hl' : ¬ (1024 : Int) < (v.size : Int) := by omega
    rw [if_neg hl]
    go_enter Tryz.func77, Tryz.ntmps77
    go_wp2_with fail
    go_end0
    exact ⟨rfl, HB.out, Chg.refl _ _ _⟩
theorem enHex : Enters Tryz.prog 75 := enters_of Tryz.func75 (by kernel_rfl) rfl
set_option maxRecDepth 20000 in set_option maxHeartbeats 400000 in
theorem isHex_b (c : UInt8) (w : World) : Calls Tryz.prog 75 #[.int .u8 (c.toNat : Int)] w fun e w' => e = .returned (.bool (isHex c)) ∧ Below w.heap.size w w' := by
  have HX := Lib.hid (fun wx => hex_any c wx)
  have hv : isHex c = decide (0 ≤ hexV c) := rfl
  rw [hv]
  generalize hexV c = x at *
  clear hv
  by_cases h0 : 0 ≤ x
  · go_enter Tryz.func75, Tryz.ntmps75
    go_wp2_with fail
    go_at_call 76
    (with_reducible refine (HX.out _).mono ?_)
    rintro e1 w1 ⟨rfl, hb1⟩
    go_wp2_with fail
    go_ret
    exact ⟨by simp [h0], hb1⟩
  · go_enter Tryz.func75, Tryz.ntmps75
    go_wp2_with fail
    go_at_call 76
    (with_reducible refine (HX.out _).mono ?_)
    rintro e1 w1 ⟨rfl, hb1⟩
    go_wp2_with fail
    go_ret
    exact ⟨by simp [h0], hb1⟩
set_option maxRecDepth 20000 in set_option maxHeartbeats 4000000 in
theorem bytes_any (h : Bx w b (scC s i wg 0)) (ht : Bx w r (tkC 0 ln cl ⟨#[]⟩ ⟨#[]⟩ 0 0 j)) (hbr : r ≠ b) (hs : s.size ≤ 100000) (hi : i < s.size) :
    Calls Tryz.prog 43 #[.pointer (some ⟨b, 0, none⟩), .pointer (some ⟨r, 0, none⟩)] w (RetRd w b r s i wg ln cl j 0 (lexX (s.data.toList.drop i))) := by
  have HB := Lib.hid h
  have HT := Lib.hid ht
  have HG := Lib.hid (G.refl w)
  have hw := isWay0 (s.data.toList.drop i)
  rw [nth_drop0, nth_drop] at hw
  have BA0 := Lib.hid (fun wx hb => byteAt0 (w := wx) (b := b) (s := s) (i := i) (wg := wg) (e := 0) hb hs (by omega))
  have BA1 := Lib.hid (fun wx hb => byteAt1 (w := wx) (b := b) (s := s) (i := i) (wg := wg) (e := 0) hb hs (by omega))
  have hin1 : (nth s.data.toList (i + 1)).toNat = 34 → i + 2 ≤ s.size := fun h => by
    rcases Nat.lt_or_ge (i + 1) s.size with k | k
    · omega
    · rw [nth_end (show s.data.toList.length ≤ i + 1 from k)] at h
      exact absurd h (by decide)
  obtain ⟨c, hc⟩ : ∃ c, nth s.data.toList i = c := ⟨_, rfl⟩
  obtain ⟨d, hd⟩ : ∃ d, nth s.data.toList (i + 1) = d := ⟨_, rfl⟩
  rw [hc] at hw BA0
  rw [hd] at hw BA1 hin1
  have hb120 := beq_nat c 120
  have hb34 := beq_nat d 34
  obtain ⟨k120, hk120⟩ : ∃ k, ((c.toNat : Int) != 120) = k := ⟨_, rfl⟩
  obtain ⟨k34, hk34⟩ : ∃ k, ((d.toNat : Int) != 34) = k := ⟨_, rfl⟩
  have e120 : c.toNat = 120 ↔ k120 = false := by rw [← hk120]; simp; omega
  have e34 : d.toNat = 34 ↔ k34 = false := by rw [← hk34]; simp; omega
  rw [e120, e34] at hw
  rw [e34] at hin1
  clear hb120 hb34 e120 e34 hc hd h ht
  have hcase : (k120 = false ∧ k34 = false) ∨ k120 = true ∨ (k120 = false ∧ k34 = true) := by cases k120 <;> cases k34 <;> simp
  rcases hcase with ⟨rfl, rfl⟩ | hno
  · have hyes : Hid (way (s.data.toList.drop i) = 0) := hw.2 ⟨rfl, rfl⟩
    have hi2 : i + 2 ≤ s.size := hin1 rfl
    clear hw hin1
    have fin : Hid (∀ (e : Ending) (wz : World), e = .returned (.bool true) → Rd w wz b r s i wg ln cl j (lexX (s.data.toList.drop i)) → RetRd w b r s i wg ln cl j 0 (lexX (s.data.toList.drop i)) e wz) := fun e wz h1 h2 => ⟨fun _ => ⟨h1, h2⟩, fun k => absurd hyes.out k⟩
    have hle := spn_bd isHex s.data.toList (i := i + 2) hi2
    have WH := Lib.hid (fun wx hb => while_any (w := wx) (b := b) (s := s) (i := i + 2) (wg := wg) (e := 0) hb hs hi2 75 isHex enHex isHex_b)
    have hlx := lexX.eq_1 (s.data.toList.drop i)
    rw [List.drop_drop, List.length_drop, nth_drop] at hlx
    obtain ⟨n, hn⟩ : ∃ n, spn isHex (s.data.toList.drop (i + 2)) = n := ⟨_, rfl⟩
    have hall : Hid (∀ x ∈ (s.data.toList.drop (i + 2)).take n, isHex x = true) := by
      intro x hx
      obtain ⟨k, hk, rfl⟩ := List.getElem_of_mem hx
      rw [List.length_take] at hk
      have := spn_all (p := isHex) (r := s.data.toList.drop (i + 2)) (k := k) (by omega)
      rw [List.getElem_take, ← nth_get]
      exact this
    rw [hn] at WH hle hlx
    rw [show s.data.toList.length = s.size from rfl] at hlx hle
    have hsz := ext_size s hle
    have hxt := ext_take s (i + 2) n
    obtain ⟨L, hL⟩ : ∃ L, (s.data.toList.drop (i + 2)).take n = L := ⟨_, rfl⟩
    rw [hL] at hxt hlx hall
    have hLl : Hid (L.length = n) := by unfold Hid; rw [← hL, List.length_take, List.length_drop, show s.data.toList.length = s.size from rfl]; omega
    obtain ⟨AL, hAL⟩ : ∃ AL, s.extract (i + 2) (i + 2 + n) = AL := ⟨_, rfl⟩
    rw [hAL] at WH hsz hxt
    have hi2' : IntKind.i64.wrap ((i : Int) + 2) = ((i + 2 : Nat) : Int) := by rw [IntWalk.i64_in _ (by omega)]; simp
    rw [show i + (2 + n) = i + 2 + n by omega] at hlx
    obtain ⟨m, hm⟩ : ∃ m, i + 2 = m := ⟨_, rfl⟩
    rw [hm] at WH hle hlx hi2'
    obtain ⟨m2, hm2⟩ : ∃ m2, m + n = m2 := ⟨_, rfl⟩
    rw [hm2] at WH hle hlx
    have hn10 : n ≤ 100000 := by omega
    replace hm := Lib.hid hm
    replace hm2 := Lib.hid hm2
    replace hxt := Lib.hid hxt
    replace hlx := Lib.hid hlx
    clear hn hL hAL
    go_enter Tryz.func43, Tryz.ntmps43
    go_wp2_with fail
    (go_at_call 73; (with_reducible refine (BA0.out _ HB.out).mono ?_); rintro e1 wn ⟨rfl, hb⟩; replace HB := Lib.hid (HB.out.grow hb); replace HT := Lib.hid (HT.out.grow hb); replace HG := Lib.hid (G.trans HG.out hb); clear hb)
    go_wp2_with fail
    (go_at_call 73; (with_reducible refine (BA1.out _ HB.out).mono ?_); rintro e1 wn ⟨rfl, hb⟩; replace HB := Lib.hid (HB.out.grow hb); replace HT := Lib.hid (HT.out.grow hb); replace HG := Lib.hid (G.trans HG.out hb); clear hb)
    (obtain ⟨c0, c1, c2, c3⟩ := HB.out.c4; obtain ⟨f0, f1, f2, f3⟩ := HB.out.f4; have lt := HB.out.lt)
    have t0 := (HT.out.2 0 _ rfl).1
    have z0 := (HT.out.2 0 _ rfl).2
    have ltr := HT.out.lt
    go_wp2_with fail
    refine calls_name (fun wx => Bx wx b (scC s (m : Int) wg 0) ∧ Bx wx r (tkC 4 ln cl ⟨#[]⟩ ⟨#[]⟩ 0 0 j) ∧ Chg b r w wx) ⟨(HB.out.other (Ne.symm hbr) _).put (i := 1) (v := .int .i64 (m : Int)) rfl, (HT.out.put (i := 0) (v := .int .i64 4) rfl).other hbr _, ((Chg.of_below HG.out).set2 _ _).set1 _ _⟩ ?_
    rintro w8 ⟨hb8, ht8, hc8⟩
    clear c0 c1 c2 c3 f0 f1 f2 f3 lt t0 z0 ltr
    go_at_call 74
    (with_reducible refine (WH.out _ hb8).mono ?_)
    rintro e1 w7 ⟨rfl, hb7, hc7⟩
    replace HB := Lib.hid hb7
    replace HT := Lib.hid (ht8.chg hc7 hbr hbr)
    have HC := Lib.hid (hc8.trans (hc7.wider r))
    clear hb8 ht8 hc8 hb7 hc7 HG
    (obtain ⟨c0, c1, c2, c3⟩ := HB.out.c4; obtain ⟨f0, f1, f2, f3⟩ := HB.out.f4; have lt := HB.out.lt)
    by_cases hend : s.size ≤ m2
    · have hend' : (s.size : Int) ≤ (m2 : Int) := by omega
      go_wp2_with fail
      refine wp_region_ord [(0, 1), (1, 1), (2, 1), (3, 1), (4, 1), (5, 1), (6, 1), (7, 1), (8, 1), (9, 1), (10, 1)] [] 5 (by kernel_rfl) (by decide +kernel) ?_
      simp only [pickO, List.append_eq, List.cons_append, List.nil_append, List.getElem?_cons_succ, List.getElem?_cons_zero]
      intro w0 hG
      (repeat ((first | (with_reducible refine ord_q1 ?_) | (with_reducible refine ord_q0 ?_)); intro K hK; first | (refine Or.inr ⟨?_, ?_⟩; (focus (go_simp; first | done | (simp [undef]; done))); go_simp; (with_reducible refine hK _ ?_); clear hK K) | (refine Or.inl ⟨?_, ?_⟩; (focus (go_simp; done)); apply Exists.intro; refine And.intro ?_ ?_; (focus (first | (intro wq hq; obtain ⟨hcq, hfq⟩ := G.old hq; go_simp; (first | done | exact rfl); done) | (intro wq; go_simp; (first | done | exact rfl); done))); go_simp; (with_reducible refine hK _ ?_); clear hK K) | fail))
      (with_reducible refine ord_nil ?_)
      have hbx := hG.b; replace HB := Lib.hid (HB.out.grow hbx); replace HT := Lib.hid (HT.out.grow hbx); replace HC := Lib.hid (HC.out.grow hbx); clear hG c0 c1 c2 c3 f0 f1 f2 f3 lt hbx; (obtain ⟨c0, c1, c2, c3⟩ := HB.out.c4; obtain ⟨f0, f1, f2, f3⟩ := HB.out.f4; have lt := HB.out.lt)
      go_wp2_with fail
      go_at_call 49
      (with_reducible refine (fail_ok HB.out _ _).mono ?_)
      rintro e1 w4 ⟨rfl, hb4, hc4⟩
      go_wp2_with fail
      go_ret
      refine fin.out _ _ rfl ?_
      rw [hlx.out, if_pos (by have := hm.out; have := hm2.out; omega)]
      exact ⟨⟨_, by rw [show i + (s.size - i) = s.size by omega]; exact hb4⟩, ⟨_, HT.out.chg hc4 hbr hbr⟩, HC.out.trans (hc4.wider r)⟩
    · have hend' : ¬ (s.size : Int) ≤ (m2 : Int) := by omega
      have hend2 : (m2 : Int) < (s.size : Int) := by omega
      have hnp := nth_idx s (i := m2) (by omega)
      obtain ⟨p, hp⟩ : ∃ p, s[m2] = p := ⟨_, rfl⟩
      rw [hp] at hnp
      have hlx2 : Hid (lexX (s.data.toList.drop i) = if p.toNat ≠ 34 ∨ n % 2 ≠ 0 then .bad (2 + n) 13 else if 1024 < (unhex L).length then .bad 0 5 else .ok (2 + n + 1) ⟨4, [], unhex L, 0, 0⟩) := by
        have := hlx.out
        rw [if_neg (by have := hm.out; have := hm2.out; omega), hnp] at this
        exact this
      obtain ⟨kp, hkp⟩ : ∃ k, ((p.toNat : Int) != 34) = k := ⟨_, rfl⟩
      obtain ⟨kn, hkn⟩ : ∃ k, (((n : Int) % 2) != 0) = k := ⟨_, rfl⟩
      have hkn2 : ((n : Int).tmod 2 != 0) = kn := by rw [Int.tmod_eq_emod_of_nonneg (by omega)]; exact hkn
      have ep : p.toNat ≠ 34 ↔ kp = true := by rw [← hkp]; simp; omega
      have en : n % 2 ≠ 0 ↔ kn = true := by rw [← hkn]; simp; omega
      have hm9 : Hid (i + (2 + n) = m2) := by have := hm.out; have := hm2.out; unfold Hid; omega
      by_cases hbad : kp = true ∨ kn = true
      · have hlx3 : Hid (lexX (s.data.toList.drop i) = .bad (2 + n) 13) := by
          unfold Hid
          rw [hlx2.out, if_pos (by rw [ep, en]; exact hbad)]
        have hc2 : kp = true ∨ (kp = false ∧ kn = true) := by cases kp <;> simp_all
        clear hbad ep en hlx2
        rcases hc2 with rfl | ⟨rfl, rfl⟩
        · go_wp2_with fail
          refine wp_region_ord [(0, 1), (1, 1), (2, 1), (3, 1), (4, 1), (5, 1), (6, 1), (7, 1), (8, 1), (9, 1), (10, 1)] [] 5 (by kernel_rfl) (by decide +kernel) ?_
          simp only [pickO, List.append_eq, List.cons_append, List.nil_append, List.getElem?_cons_succ, List.getElem?_cons_zero]
          intro w0 hG
          (repeat ((first | (with_reducible refine ord_q1 ?_) | (with_reducible refine ord_q0 ?_)); intro K hK; first | (refine Or.inr ⟨?_, ?_⟩; (focus (go_simp; first | done | (simp [undef]; done))); go_simp; (with_reducible refine hK _ ?_); clear hK K) | (refine Or.inl ⟨?_, ?_⟩; (focus (go_simp; done)); apply Exists.intro; refine And.intro ?_ ?_; (focus (first | (intro wq hq; obtain ⟨hcq, hfq⟩ := G.old hq; go_simp; (first | done | exact rfl); done) | (intro wq; go_simp; (first | done | exact rfl); done))); go_simp; (with_reducible refine hK _ ?_); clear hK K) | fail))
          (with_reducible refine ord_nil ?_)
          have hbx := hG.b; replace HB := Lib.hid (HB.out.grow hbx); replace HT := Lib.hid (HT.out.grow hbx); replace HC := Lib.hid (HC.out.grow hbx); clear hG c0 c1 c2 c3 f0 f1 f2 f3 lt hbx; (obtain ⟨c0, c1, c2, c3⟩ := HB.out.c4; obtain ⟨f0, f1, f2, f3⟩ := HB.out.f4; have lt := HB.out.lt)
          go_wp2_with fail
          refine wp_region_ord [(0, 1), (1, 1), (2, 1), (3, 1), (4, 1), (5, 1), (6, 1), (7, 1), (8, 1), (9, 1), (10, 1), (11, 1), (12, 1), (13, 1), (14, 1), (15, 1), (16, 1)] [] 5 (by kernel_rfl) (by decide +kernel) ?_
          simp only [pickO, List.append_eq, List.cons_append, List.nil_append, List.getElem?_cons_succ, List.getElem?_cons_zero]
          intro w0 hG
          (repeat ((first | (with_reducible refine ord_q1 ?_) | (with_reducible refine ord_q0 ?_)); intro K hK; first | (refine Or.inr ⟨?_, ?_⟩; (focus (go_simp; first | done | (simp [undef]; done))); go_simp; (with_reducible refine hK _ ?_); clear hK K) | (refine Or.inl ⟨?_, ?_⟩; (focus (go_simp; done)); apply Exists.intro; refine And.intro ?_ ?_; (focus (first | (intro wq hq; obtain ⟨hcq, hfq⟩ := G.old hq; go_simp; (first | done | exact rfl); done) | (intro wq; go_simp; (first | done | exact rfl); done))); go_simp; (with_reducible refine hK _ ?_); clear hK K) | fail))
          (with_reducible refine ord_nil ?_)
          have hbx := hG.b; replace HB := Lib.hid (HB.out.grow hbx); replace HT := Lib.hid (HT.out.grow hbx); replace HC := Lib.hid (HC.out.grow hbx); clear hG c0 c1 c2 c3 f0 f1 f2 f3 lt hbx; (obtain ⟨c0, c1, c2, c3⟩ := HB.out.c4; obtain ⟨f0, f1, f2, f3⟩ := HB.out.f4; have lt := HB.out.lt)
          go_wp2_with fail
          go_at_call 49
          (with_reducible refine (fail_ok HB.out _ _).mono ?_)
          rintro e1 w4 ⟨rfl, hb4, hc4⟩
          go_wp2_with fail
          go_ret
          refine fin.out _ _ rfl ?_
          rw [hlx3.out]
          exact ⟨⟨_, by rw [hm9.out]; exact hb4⟩, ⟨_, HT.out.chg hc4 hbr hbr⟩, HC.out.trans (hc4.wider r)⟩
        · go_wp2_with fail
          refine wp_region_ord [(0, 1), (1, 1), (2, 1), (3, 1), (4, 1), (5, 1), (6, 1), (7, 1), (8, 1), (9, 1), (10, 1)] [] 5 (by kernel_rfl) (by decide +kernel) ?_
          simp only [pickO, List.append_eq, List.cons_append, List.nil_append, List.getElem?_cons_succ, List.getElem?_cons_zero]
          intro w0 hG
          (repeat ((first | (with_reducible refine ord_q1 ?_) | (with_reducible refine ord_q0 ?_)); intro K hK; first | (refine Or.inr ⟨?_, ?_⟩; (focus (go_simp; first | done | (simp [undef]; done))); go_simp; (with_reducible refine hK _ ?_); clear hK K) | (refine Or.inl ⟨?_, ?_⟩; (focus (go_simp; done)); apply Exists.intro; refine And.intro ?_ ?_; (focus (first | (intro wq hq; obtain ⟨hcq, hfq⟩ := G.old hq; go_simp; (first | done | exact rfl); done) | (intro wq; go_simp; (first | done | exact rfl); done))); go_simp; (with_reducible refine hK _ ?_); clear hK K) | fail))
          (with_reducible refine ord_nil ?_)
          have hbx := hG.b; replace HB := Lib.hid (HB.out.grow hbx); replace HT := Lib.hid (HT.out.grow hbx); replace HC := Lib.hid (HC.out.grow hbx); clear hG c0 c1 c2 c3 f0 f1 f2 f3 lt hbx; (obtain ⟨c0, c1, c2, c3⟩ := HB.out.c4; obtain ⟨f0, f1, f2, f3⟩ := HB.out.f4; have lt := HB.out.lt)
          go_wp2_with fail
          refine wp_region_ord [(0, 1), (1, 1), (2, 1), (3, 1), (4, 1), (5, 1), (6, 1), (7, 1), (8, 1), (9, 1), (10, 1), (11, 1), (12, 1), (13, 1), (14, 1), (15, 1), (16, 1)] [] 5 (by kernel_rfl) (by decide +kernel) ?_
          simp only [pickO, List.append_eq, List.cons_append, List.nil_append, List.getElem?_cons_succ, List.getElem?_cons_zero]
          intro w0 hG
          (repeat ((first | (with_reducible refine ord_q1 ?_) | (with_reducible refine ord_q0 ?_)); intro K hK; first | (refine Or.inr ⟨?_, ?_⟩; (focus (go_simp; first | done | (simp [undef]; done))); go_simp; (with_reducible refine hK _ ?_); clear hK K) | (refine Or.inl ⟨?_, ?_⟩; (focus (go_simp; done)); apply Exists.intro; refine And.intro ?_ ?_; (focus (first | (intro wq hq; obtain ⟨hcq, hfq⟩ := G.old hq; go_simp; (first | done | exact rfl); done) | (intro wq; go_simp; (first | done | exact rfl); done))); go_simp; (with_reducible refine hK _ ?_); clear hK K) | fail))
          (with_reducible refine ord_nil ?_)
          have hbx := hG.b; replace HB := Lib.hid (HB.out.grow hbx); replace HT := Lib.hid (HT.out.grow hbx); replace HC := Lib.hid (HC.out.grow hbx); clear hG c0 c1 c2 c3 f0 f1 f2 f3 lt hbx; (obtain ⟨c0, c1, c2, c3⟩ := HB.out.c4; obtain ⟨f0, f1, f2, f3⟩ := HB.out.f4; have lt := HB.out.lt)
          go_wp2_with fail
          go_at_call 49
          (with_reducible refine (fail_ok HB.out _ _).mono ?_)
          rintro e1 w4 ⟨rfl, hb4, hc4⟩
          go_wp2_with fail
          go_ret
          refine fin.out _ _ rfl ?_
          rw [hlx3.out]
          exact ⟨⟨_, by rw [hm9.out]; exact hb4⟩, ⟨_, HT.out.chg hc4 hbr hbr⟩, HC.out.trans (hc4.wider r)⟩
      · have hlx3 : Hid (lexX (s.data.toList.drop i) = if 1024 < (unhex L).length then .bad 0 5 else .ok (2 + n + 1) ⟨4, [], unhex L, 0, 0⟩) := by
          unfold Hid
          rw [hlx2.out, if_neg (by rw [ep, en]; exact hbad)]
        have hc2 : kp = false ∧ kn = false := by cases kp <;> cases kn <;> simp_all
        have hev : n % 2 = 0 := by
          have := en
          rw [hc2.2] at this
          simpa using this
        obtain ⟨rfl, rfl⟩ := hc2
        clear hbad ep en hlx2
        have hx1 : IntKind.i64.wrap ((m2 : Int) + 1) = ((m2 + 1 : Nat) : Int) := by rw [IntWalk.i64_in _ (by omega)]; simp
        go_wp2_with fail
        refine wp_region_ord [(0, 1), (1, 1), (2, 1), (3, 1), (4, 1), (5, 1), (6, 1), (7, 1), (8, 1), (9, 1), (10, 1)] [] 5 (by kernel_rfl) (by decide +kernel) ?_
        simp only [pickO, List.append_eq, List.cons_append, List.nil_append, List.getElem?_cons_succ, List.getElem?_cons_zero]
        intro w0 hG
        (repeat ((first | (with_reducible refine ord_q1 ?_) | (with_reducible refine ord_q0 ?_)); intro K hK; first | (refine Or.inr ⟨?_, ?_⟩; (focus (go_simp; first | done | (simp [undef]; done))); go_simp; (with_reducible refine hK _ ?_); clear hK K) | (refine Or.inl ⟨?_, ?_⟩; (focus (go_simp; done)); apply Exists.intro; refine And.intro ?_ ?_; (focus (first | (intro wq hq; obtain ⟨hcq, hfq⟩ := G.old hq; go_simp; (first | done | exact rfl); done) | (intro wq; go_simp; (first | done | exact rfl); done))); go_simp; (with_reducible refine hK _ ?_); clear hK K) | fail))
        (with_reducible refine ord_nil ?_)
        have hbx := hG.b; replace HB := Lib.hid (HB.out.grow hbx); replace HT := Lib.hid (HT.out.grow hbx); replace HC := Lib.hid (HC.out.grow hbx); clear hG c0 c1 c2 c3 f0 f1 f2 f3 lt hbx; (obtain ⟨c0, c1, c2, c3⟩ := HB.out.c4; obtain ⟨f0, f1, f2, f3⟩ := HB.out.f4; have lt := HB.out.lt)
        go_wp2_with fail
        refine wp_region_ord [(0, 1), (1, 1), (2, 1), (3, 1), (4, 1), (5, 1), (6, 1), (7, 1), (8, 1), (9, 1), (10, 1), (11, 1), (12, 1), (13, 1), (14, 1), (15, 1), (16, 1)] [] 5 (by kernel_rfl) (by decide +kernel) ?_
        simp only [pickO, List.append_eq, List.cons_append, List.nil_append, List.getElem?_cons_succ, List.getElem?_cons_zero]
        intro w0 hG
        (repeat ((first | (with_reducible refine ord_q1 ?_) | (with_reducible refine ord_q0 ?_)); intro K hK; first | (refine Or.inr ⟨?_, ?_⟩; (focus (go_simp; first | done | (simp [undef]; done))); go_simp; (with_reducible refine hK _ ?_); clear hK K) | (refine Or.inl ⟨?_, ?_⟩; (focus (go_simp; done)); apply Exists.intro; refine And.intro ?_ ?_; (focus (first | (intro wq hq; obtain ⟨hcq, hfq⟩ := G.old hq; go_simp; (first | done | exact rfl); done) | (intro wq; go_simp; (first | done | exact rfl); done))); go_simp; (with_reducible refine hK _ ?_); clear hK K) | fail))
        (with_reducible refine ord_nil ?_)
        have hbx := hG.b; replace HB := Lib.hid (HB.out.grow hbx); replace HT := Lib.hid (HT.out.grow hbx); replace HC := Lib.hid (HC.out.grow hbx); clear hG c0 c1 c2 c3 f0 f1 f2 f3 lt hbx; (obtain ⟨c0, c1, c2, c3⟩ := HB.out.c4; obtain ⟨f0, f1, f2, f3⟩ := HB.out.f4; have lt := HB.out.lt)
        go_wp2_with fail
        obtain ⟨NB, hNB⟩ : ∃ NB, w0.heap.size = NB := ⟨_, rfl⟩
        rw [hNB]
        refine wp_name (fun wx => Bx wx b (scC s ((m2 + 1 : Nat) : Int) wg 0) ∧ Bx wx r (tkC 4 ln cl ⟨#[]⟩ ⟨#[]⟩ 0 0 j) ∧ Chg b r w wx ∧ IsB NB NB [] wx) ⟨(HB.out.put (i := 1) (v := .int .i64 ((m2 + 1 : Nat) : Int)) rfl).alloc _, (HT.out.other hbr _).alloc _, (HC.out.set1 _ _).alloc _, by have := Lib.fresh_isBuilder 82 5 (w0.setCell ⟨b, 1, none⟩ (.int .i64 ((m2 : Int) + 1))); simp only [World.size_setCell, hNB] at this; exact this⟩ ?_
        rintro w9 ⟨hb9, ht9, hc9, hi9⟩
        have hbN : b < NB := by have := HB.out.lt; omega
        have hrN : r < NB := by have := HT.out.lt; omega
        have hwN : Hid (w.heap.size ≤ NB) := by have := HC.out.size; unfold Hid; omega
        replace HB := Lib.hid hb9
        replace HT := Lib.hid ht9
        replace HC := Lib.hid hc9
        have HI := Lib.hid hi9
        clear hb9 ht9 hc9 hi9 c0 c1 c2 c3 f0 f1 f2 f3 lt hNB
        go_loopw [8] (fun kv wx => ∃ k : Nat, k ≤ n ∧ k % 2 = 0 ∧ kv = .int .i64 k ∧ Hid (IsB NB NB (Lib.byteCells (unhex (L.take k))) wx) ∧ Hid (Bx wx b (scC s ((m2 + 1 : Nat) : Int) wg 0)) ∧ Hid (Bx wx r (tkC 4 ln cl ⟨#[]⟩ ⟨#[]⟩ 0 0 j)) ∧ Hid (Chg b r w wx)) (fun kv _ => n - (intOf kv).toNat)
        case atStart => exact ⟨0, Nat.zero_le _, rfl, rfl, HI, HB, HT, HC⟩
        case round =>
          clear HI HB HT HC
          obtain ⟨k, hk, hke, rfl, HI, HB, HT, HC⟩ := hrel
          by_cases hlt : k < n
          · have hlt' : (k : Int) < (n : Int) := by omega
            obtain ⟨k1, hk1e⟩ : ∃ k1, k + 1 = k1 := ⟨_, rfl⟩
            have hk1 : k1 < n := by omega
            have hkA : k < AL.size := by omega
            have hkA1 : k1 < AL.size := by omega
            have hkA1' : (k1 : Int) < (AL.size : Int) := by omega
            have hkA' : (k : Int) < (AL.size : Int) := by omega
            have hL0 : k < L.length := by have := hLl.out; omega
            have hL1 : k1 < L.length := by have := hLl.out; omega
            have e0 := nth_idx AL hkA
            have e1' := nth_idx AL hkA1
            have hAd : AL.data.toList = L := by rw [hxt.out, B_list]
            rw [hAd] at e0 e1'
            clear hAd
            have hx0 := hall.out _ (List.getElem_mem hL0)
            have hx1' := hall.out _ (List.getElem_mem hL1)
            rw [← nth_get hL0, e0] at hx0
            rw [← nth_get hL1, e1'] at hx1'
            have hun : Hid (Lib.byteCells (unhex (L.take (k + 2))) = Lib.byteCells (unhex (L.take k)) ++ [.int .u8 ((UInt8.ofNat (16 * hexV AL[k] + hexV AL[k1]).toNat).toNat : Int)]) := by
              unfold Hid
              have : L.take (k + 2) = L.take k ++ [AL[k], AL[k1]] := by
                rw [List.take_add_one, List.take_add_one, hk1e, List.getElem?_eq_getElem hL0, List.getElem?_eq_getElem hL1, ← nth_get hL0, ← nth_get hL1, e0, e1']
                simp
              rw [this, unhex_app k _ _ _ (by rw [List.length_take]; omega) (by rw [List.length_take]; omega), bytes_app]
              rfl
            obtain ⟨x, hx⟩ : ∃ x, AL[k] = x := ⟨_, rfl⟩
            obtain ⟨y, hy⟩ : ∃ y, AL[k1] = y := ⟨_, rfl⟩
            rw [hx] at hx0 hun
            rw [hy] at hx1' hun
            obtain ⟨X, hX, hX16⟩ := hex_nat hx0
            obtain ⟨Y, hY, hY16⟩ := hex_nat hx1'
            have HX := Lib.hid (fun wx => hex_any x wx)
            have HY := Lib.hid (fun wx => hex_any y wx)
            rw [hX] at HX hun
            rw [hY] at HY hun
            have hor := pairV hX16 hY16
            have hw1 : IntKind.i64.wrap ((X : Int) * 16) = (X : Int) * 16 := IntWalk.i64_in _ (by omega)
            have hw2 : IntKind.u8.wrap ((X : Int) * 16 + (Y : Int)) = (X : Int) * 16 + (Y : Int) := IntWalk.u8_in _ (by omega)
            have hw3 : IntKind.i64.wrap ((k : Int) + 1) = (k1 : Int) := by rw [IntWalk.i64_in _ (by omega)]; omega
            have hw4 : IntKind.i64.wrap ((k : Int) + 2) = ((k + 2 : Nat) : Int) := by rw [IntWalk.i64_in _ (by omega)]; simp
            have hby : Hid (Lib.byteCells (unhex (L.take (k + 2))) = Lib.byteCells (unhex (L.take k)) ++ [.int .u8 ((X : Int) * 16 + (Y : Int))]) := by
              unfold Hid
              rw [hun.out]
              have : ((UInt8.ofNat (16 * (X : Int) + (Y : Int)).toNat).toNat : Int) = (X : Int) * 16 + (Y : Int) := by
                rw [UInt8.toNat_ofNat']
                omega
              rw [this]
            have hlenb : Hid ((Lib.byteCells (unhex (L.take k))).length + 1 ≤ 140737488355328) := by
              unfold Hid Lib.byteCells
              rw [List.length_map, unhex_len _ _ (Nat.le_refl _), List.length_take]
              omega
            have hNw : Hid (NB ≤ wr.heap.size) := Nat.le_of_lt (isB_lt HI.out)
            replace hk1e := Lib.hid hk1e
            clear hx0 hx1' hX hY hun e0 e1' hL0 hL1
            (obtain ⟨c0, c1, c2, c3⟩ := HB.out.c4; obtain ⟨f0, f1, f2, f3⟩ := HB.out.f4; have lt := HB.out.lt)
            go_wp2_with fail
            refine wp_region_ord [(0, 1), (1, 1), (2, 1), (5, 1), (6, 1), (7, 1), (8, 1), (3, 2), (4, 1), (9, 2), (10, 1), (11, 1), (12, 3)] [12] 5 (by kernel_rfl) (by decide +kernel) ?_
            simp only [pickO, List.append_eq, List.cons_append, List.nil_append, List.getElem?_cons_succ, List.getElem?_cons_zero]
            intro w0 hG
            (repeat ((first | (with_reducible refine ord_q1 ?_) | (with_reducible refine ord_q0 ?_)); intro K hK; first | (refine Or.inr ⟨?_, ?_⟩; (focus (go_simp; first | done | (simp [undef]; done))); go_simp; (with_reducible refine hK _ ?_); clear hK K) | (refine Or.inl ⟨?_, ?_⟩; (focus (go_simp; done)); apply Exists.intro; refine And.intro ?_ ?_; (focus (first | (intro wq hq; obtain ⟨hcq, hfq⟩ := G.old hq; go_simp; (first | done | exact rfl); done) | (intro wq; go_simp; (first | done | exact rfl); done))); go_simp; (with_reducible refine hK _ ?_); clear hK K) | fail))
            (with_reducible refine ord_run ?_ hG)
            intro K hK
            go_simp
            go_at_call 76; (with_reducible refine (HX.out _).mono ?_); rintro e1 w2 ⟨rfl, hb⟩
            replace hG := Grew.trans hG hb
            (try dsimp only)
            (with_reducible refine hK _ _ hG ?_)
            clear hK K
            (repeat ((first | (with_reducible refine ord_q1 ?_) | (with_reducible refine ord_q0 ?_)); intro K hK; first | (refine Or.inr ⟨?_, ?_⟩; (focus (go_simp; first | done | (simp [undef]; done))); go_simp; (with_reducible refine hK _ ?_); clear hK K) | (refine Or.inl ⟨?_, ?_⟩; (focus (go_simp; done)); apply Exists.intro; refine And.intro ?_ ?_; (focus (first | (intro wq hq; obtain ⟨hcq, hfq⟩ := G.old hq; go_simp; (first | done | exact rfl); done) | (intro wq; go_simp; (first | done | exact rfl); done))); go_simp; (with_reducible refine hK _ ?_); clear hK K) | fail))
            (with_reducible refine ord_run ?_ hG)
            intro K hK
            go_simp
            go_at_call 76; (with_reducible refine (HY.out _).mono ?_); rintro e1 w3 ⟨rfl, hbb⟩
            replace hG := Grew.trans hG hbb
            (try dsimp only)
            (with_reducible refine hK _ _ hG ?_)
            clear hK K
            (repeat ((first | (with_reducible refine ord_q1 ?_) | (with_reducible refine ord_q0 ?_)); intro K hK; first | (refine Or.inr ⟨?_, ?_⟩; (focus (go_simp; first | done | (simp [undef]; done))); go_simp; (with_reducible refine hK _ ?_); clear hK K) | (refine Or.inl ⟨?_, ?_⟩; (focus (go_simp; done)); apply Exists.intro; refine And.intro ?_ ?_; (focus (first | (intro wq hq; obtain ⟨hcq, hfq⟩ := G.old hq; go_simp; (first | done | exact rfl); done) | (intro wq; go_simp; (first | done | exact rfl); done))); go_simp; (with_reducible refine hK _ ?_); clear hK K) | fail))
            (with_reducible refine ord_tail ?_)
            intro K hK
            go_simp
            go_at_call 62
            have hbx := hG.b
            replace HB := Lib.hid (HB.out.grow hbx)
            replace HT := Lib.hid (HT.out.grow hbx)
            replace HC := Lib.hid (HC.out.grow hbx)
            replace HI := Lib.hid (isB_grow HI.out hbx)
            have hNx : NB ≤ w3.heap.size := Nat.le_of_lt (isB_lt HI.out)
            (with_reducible refine (wbyte_any HI.out _ hlenb.out hNx).mono ?_)
            rintro e1 w4 ⟨rfl, hi4, hb4⟩
            replace HC := Lib.hid (HC.out.under hwN.out hNx hb4)
            replace HB := Lib.hid (HB.out.below hb4 hbN)
            replace HT := Lib.hid (HT.out.below hb4 hrN)
            rw [← hby.out] at hi4
            replace HI := Lib.hid hi4
            clear hG hb hbb hbx hb4 hi4 hNx c0 c1 c2 c3 f0 f1 f2 f3 lt
            (try dsimp only)
            (with_reducible refine hK _ _ ?_)
            clear hK K
            (with_reducible refine ord_nil ?_)
            go_wp2_with fail
            go_roundw
            case rel => exact ⟨k + 2, by omega, by omega, by go_num, HI, HB, HT, HC⟩
            case measure => simp [intOf]; omega
          · obtain rfl : k = n := by omega
            have hfull : L.take k = L := List.take_of_length_le (by have := hLl.out; omega)
            rw [hfull] at HI
            have hNx : NB ≤ wr.heap.size := Nat.le_of_lt (isB_lt HI.out)
            have hul : (unhex L).length ≤ 100000 := by rw [unhex_len _ _ (Nat.le_refl _), hLl.out]; omega
            go_wp2_with fail
            go_at_call 64
            (with_reducible refine (bstring_any (unhex L) HI.out hNx).mono ?_)
            rintro e1 w4 ⟨rfl, hb4⟩
            replace HC := Lib.hid (HC.out.under hwN.out hNx hb4)
            replace HB := Lib.hid (HB.out.below hb4 hbN)
            replace HT := Lib.hid (HT.out.below hb4 hrN)
            have hVs : (⟨(unhex L).toArray⟩ : ByteArray).size = (unhex L).length := B_size _
            obtain ⟨V, hV⟩ : ∃ V : ByteArray, ⟨(unhex L).toArray⟩ = V := ⟨_, rfl⟩
            rw [hV] at hVs ⊢
            have t4 := (HT.out.2 4 _ rfl).1
            have z4 := (HT.out.2 4 _ rfl).2
            have ltr := HT.out.lt
            replace hV := Lib.hid hV
            clear hb4 HI hNx
            go_wp2_with fail
            go_at_call 77
            (with_reducible refine (long_any (HB.out.other (Ne.symm hbr) _) V (by omega) _).mono ?_)
            rintro e1 w5 ⟨rfl, hb5, hc5⟩
            go_wp2_with fail
            go_ret
            refine fin.out _ _ rfl ?_
            rw [hlx3.out]
            rw [hVs] at hb5
            by_cases hlong : 1024 < (unhex L).length
            · rw [if_pos hlong] at hb5 ⊢
              exact ⟨⟨_, by rw [Nat.add_zero]; exact hb5⟩, ⟨_, (HT.out.put (i := 4) rfl).chg hc5 hbr hbr⟩, (HC.out.set2 _ _).trans (hc5.wider r)⟩
            · rw [if_neg hlong] at hb5 ⊢
              refine ⟨by rw [show i + (2 + k + 1) = m2 + 1 by have := hm9.out; omega]; exact hb5, ?_, (HC.out.set2 _ _).trans (hc5.wider r)⟩
              refine Bx.chg ?_ hc5 hbr hbr
              show Bx _ r (tkC 4 ln cl ⟨#[]⟩ ⟨(unhex L).toArray⟩ 0 0 j)
              rw [hV.out]
              exact HT.out.put (i := 4) (v := .string V) rfl
  · have hno2 : Hid (way (s.data.toList.drop i) ≠ 0) := fun k => by have := hw.1 k; rcases hno with h | h <;> simp_all
    clear hw hin1
    rcases hno with rfl | ⟨rfl, rfl⟩
    · go_enter Tryz.func43, Tryz.ntmps43
      go_wp2_with fail
      (go_at_call 73; (with_reducible refine (BA0.out _ HB.out).mono ?_); rintro e1 wn ⟨rfl, hb⟩; replace HB := Lib.hid (HB.out.grow hb); replace HT := Lib.hid (HT.out.grow hb); replace HG := Lib.hid (G.trans HG.out hb); clear hb)
      go_wp2_with fail
      go_ret
      exact ⟨fun k => absurd k hno2.out, fun _ => ⟨rfl, HG.out⟩⟩
    · go_enter Tryz.func43, Tryz.ntmps43
      go_wp2_with fail
      (go_at_call 73; (with_reducible refine (BA0.out _ HB.out).mono ?_); rintro e1 wn ⟨rfl, hb⟩; replace HB := Lib.hid (HB.out.grow hb); replace HT := Lib.hid (HT.out.grow hb); replace HG := Lib.hid (G.trans HG.out hb); clear hb)
      go_wp2_with fail
      (go_at_call 73; (with_reducible refine (BA1.out _ HB.out).mono ?_); rintro e1 wn ⟨rfl, hb⟩; replace HB := Lib.hid (HB.out.grow hb); replace HT := Lib.hid (HT.out.grow hb); replace HG := Lib.hid (G.trans HG.out hb); clear hb)
      go_wp2_with fail
      go_ret
      exact ⟨fun k => absurd k hno2.out, fun _ => ⟨rfl, HG.out⟩⟩
end
end Go.Proofs.YtmchiibbodllaaaGreatDoor
