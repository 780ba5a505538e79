/- lexer: escape. -/
import Derived.Test.YtmchiibbodllaaaGreatDoorScE
import Derived.Test.YtmchiibbodllaaaGreatDoorScF
import Derived.Laws.BitsLemmas
namespace Go.Proofs.YtmchiibbodllaaaGreatDoor
set_option linter.unusedVariables false
set_option linter.unnecessarySimpa false
set_option linter.unusedSimpArgs false
open Go.RowKit

/-! ### A frame: the scanner's block and what lies from NB on may change -/
def Fr (NB b : Nat) (w w' : World) : Prop := Below 0 w w' ∧ Keeps (fun x => x ≠ b ∧ x < NB) w w'
section
variable {NB b r : Nat} {w w' x y z a : World}
theorem Fr.refl (NB b : Nat) (w : World) : Fr NB b w w := ⟨Below.refl _ _, Keeps.refl _ _⟩
theorem Fr.trans (h : Fr NB b x y) (k : Fr NB b y z) : Fr NB b x z := ⟨h.1.trans k.1, h.2.trans k.2⟩
theorem Fr.of_chg (h : Chg b b w w') : Fr NB b w w' := ⟨h.1, h.2.mono fun x hx => ⟨hx.1, hx.1⟩⟩
theorem Fr.of_grow (h : Below w.heap.size w w') : Fr NB b w w' := ⟨h.mono (Nat.zero_le _), Keeps.of_below h⟩
theorem Fr.of_below (h : Below NB w w') : Fr NB b w w' := ⟨h.mono (Nat.zero_le _), ⟨h.size, fun x hx _ => h.block x hx.2⟩⟩
theorem Fr.set (h : Fr NB b a w) (o : Nat) (u : Value) : Fr NB b a (w.setCell ⟨b, o, none⟩ u) := ⟨h.1.setCell (Nat.zero_le _) _, h.2.setCell (fun k => k.1 rfl) _⟩
theorem Fr.size (h : Fr NB b w w') : w.heap.size ≤ w'.heap.size := h.1.size
theorem Chg.fr (h : Chg b r a w) (hN : a.heap.size ≤ NB) (k : Fr NB b w w') : Chg b r a w' :=
  ⟨h.1.trans k.1, Nat.le_trans h.2.1 k.2.1, fun x hx hl => (k.2.2 x ⟨hx.1, Nat.lt_of_lt_of_le hl hN⟩ (Nat.lt_of_lt_of_le hl h.2.1)).trans (h.2.2 x hx hl)⟩
theorem Bx.fr {c : Nat} {l : List Value} (h : Bx w c l) (k : Fr NB b w w') (hb : c ≠ b) (hN : c < NB) : Bx w' c l := h.block k.2.1 (k.2.2 c ⟨hb, hN⟩ h.1)
theorem Env.fr (h : Env w) (k : Fr NB b w w') (hb : ¬ GB b) (hN : ∀ x, GB x → x < NB) : Env w' := h.keep (k.2.mono fun x hx => ⟨fun e => hb (e ▸ hx), hN x hx⟩)
end
theorem wraps_i64 (n : Int) (h₀ : 0 ≤ n) (h₁ : n < 2 ^ 63) : IntKind.i64.wrap n = n := by rw [IntKind.wrap_i64]; omega
theorem or4 {x y : Int} (hx₀ : 0 ≤ x) (hx₁ : x < 1000000000000) (h₀ : 0 ≤ y) (h₁ : y < 16) : bits .or .i64 (x * 16) y = x * 16 + y :=
  bits_join .i64 63 (by decide) wraps_i64 4 (x * 16) y (by omega) (by show x * 16 % 16 = 0; omega) (by show x * 16 < 9223372036854775808; omega) h₀ (by show y < 16; omega) (by show y < 9223372036854775808; omega)
/-- What an escape leaves. -/
def RetEsc (w : World) (NB b : Nat) (s : ByteArray) (i : Nat) (wg : Int) (bs : List Value) (x : Es) (e : Ending) (w' : World) : Prop :=
  e = .returned (.tuple #[]) ∧ Fr NB b w w' ∧ match x with
  | .ok n l => Bx w' b (scC s ((i + n : Nat) : Int) wg 0) ∧ IsB NB NB (bs ++ Lib.byteCells l) w'
  | .bad c => ∃ p : Int, Bx w' b (scC s p (i : Int) c)
theorem simple_idx : ∀ d : Fin 256, (simple (UInt8.ofNat d.val) = none ↔ Lib.indexByte [34, 92, 110, 114, 116] (UInt8.ofNat d.val) = -1) ∧ -1 ≤ Lib.indexByte [34, 92, 110, 114, 116] (UInt8.ofNat d.val) := by decide +kernel
theorem simple_some {d : UInt8} {m : UInt8} (h : simple d = some m) : (d = 34 ∧ m = 34) ∨ (d = 92 ∧ m = 92) ∨ (d = 110 ∧ m = 10) ∨ (d = 114 ∧ m = 13) ∨ (d = 116 ∧ m = 9) := by
  unfold simple at h
  by_cases h1 : d.toNat = 34
  · rw [if_pos h1] at h; exact .inl ⟨UInt8.toNat_inj.1 h1, (Option.some.inj h).symm⟩
  · rw [if_neg h1] at h
    by_cases h2 : d.toNat = 92
    · rw [if_pos h2] at h; exact .inr (.inl ⟨UInt8.toNat_inj.1 h2, (Option.some.inj h).symm⟩)
    · rw [if_neg h2] at h
      by_cases h3 : d.toNat = 110
      · rw [if_pos h3] at h; exact .inr (.inr (.inl ⟨UInt8.toNat_inj.1 h3, (Option.some.inj h).symm⟩))
      · rw [if_neg h3] at h
        by_cases h4 : d.toNat = 114
        · rw [if_pos h4] at h; exact .inr (.inr (.inr (.inl ⟨UInt8.toNat_inj.1 h4, (Option.some.inj h).symm⟩)))
        · rw [if_neg h4] at h
          by_cases h5 : d.toNat = 116
          · rw [if_pos h5] at h; exact .inr (.inr (.inr (.inr ⟨UInt8.toNat_inj.1 h5, (Option.some.inj h).symm⟩)))
          · rw [if_neg h5] at h; cases h
theorem spn_stop2 (p : UInt8 → Bool) : ∀ (l : List UInt8), spn p l < l.length → p (nth l (spn p l)) = false
  | [], h => by simp [spn] at h
  | c :: l, h => by
    unfold spn at h ⊢
    by_cases hc : p c = true
    · rw [if_pos hc] at h ⊢
      have := spn_stop2 p l (by simp at h; omega)
      exact this
    · rw [if_neg hc]
      show p c = false
      simpa using hc
section
variable {w : World} {NB b : Nat} {s : ByteArray} {i : Nat} {wg : Int} {bs : List Value}
set_option maxRecDepth 20000 in set_option maxHeartbeats 8000000 in
theorem escape_any (h : Bx w b (scC s i wg 0)) (hI : IsB NB NB bs w) (hbN : b < NB) (hbl : bs.length ≤ 1000000) (hs : s.size ≤ 100000) (hi : i < s.size) :
    Calls Tryz.prog 80 #[.pointer (some ⟨b, 0, none⟩), .pointer (some ⟨NB, 0, none⟩)] w (RetEsc w NB b s i wg bs (esc (s.data.toList.drop i))) := by
  have HB := Lib.hid h
  have HI := Lib.hid hI
  have HF := Lib.hid (Fr.refl NB b w)
  have BA1 := Lib.hid (fun wx hb => byteAt1 (w := wx) (b := b) (s := s) (i := i) (wg := wg) (e := 0) hb hs (by omega))
  have BA2 := Lib.hid (fun wx hb => byteAt2 (w := wx) (b := b) (s := s) (i := i) (wg := wg) (e := 0) hb hs (by omega))
  have hes := esc.eq_1 (s.data.toList.drop i)
  rw [nth_drop, nth_drop, nth_drop, List.drop_drop] at hes
  have hin1 : (nth s.data.toList (i + 1)).toNat ≠ 0 → i + 1 < s.size := fun h => by
    rcases Nat.lt_or_ge (i + 1) s.size with k | k
    · exact k
    · exact absurd (by rw [nth_end (show s.data.toList.length ≤ i + 1 from k)]; rfl) h
  have hin2 : (nth s.data.toList (i + 2)).toNat ≠ 0 → i + 2 < s.size := fun h => by
    rcases Nat.lt_or_ge (i + 2) s.size with k | k
    · exact k
    · exact absurd (by rw [nth_end (show s.data.toList.length ≤ i + 2 from k)]; rfl) h
  obtain ⟨d, hd⟩ : ∃ d, nth s.data.toList (i + 1) = d := ⟨_, rfl⟩
  obtain ⟨f, hf⟩ : ∃ f, nth s.data.toList (i + 2) = f := ⟨_, rfl⟩
  rw [hd] at BA1 hes hin1
  rw [hf] at BA2 hes hin2
  have IB := Lib.hid (fun w => Tryz.strings_IndexByte ⟨#[34, 92, 110, 114, 116]⟩ (d.toNat : Int) w)
  have e1 : (((d.toNat : Nat) : Int)).toNat.toUInt8 = d := by simp
  rw [e1, show (⟨#[34, 92, 110, 114, 116]⟩ : ByteArray).data.toList = [34, 92, 110, 114, 116] from rfl] at IB
  clear e1 h hI
  have hx2 : IntKind.i64.wrap ((i : Int) + 2) = ((i + 2 : Nat) : Int) := by rw [IntWalk.i64_in _ (by omega)]; simp
  have hx1 : IntKind.i64.wrap ((i : Int) + 1) = ((i + 1 : Nat) : Int) := by rw [IntWalk.i64_in _ (by omega)]; simp
  have hx3 : IntKind.i64.wrap ((i : Int) + 3) = ((i + 3 : Nat) : Int) := by rw [IntWalk.i64_in _ (by omega)]; simp
  have hNw : Hid (NB ≤ w.heap.size) := Nat.le_of_lt (isB_lt HI.out)
  rcases hsm : simple d with _ | m
  · have hix := simple_idx ⟨d.toNat, d.toNat_lt⟩
    simp only [u8_self] at hix
    have hx := hix.1.1 hsm
    rw [hx] at IB
    rw [hsm] at hes
    dsimp only at hes
    clear hix hx hin1
    obtain ⟨k117, hk117⟩ : ∃ k, ((d.toNat : Int) != 117) = k := ⟨_, rfl⟩
    obtain ⟨k123, hk123⟩ : ∃ k, ((f.toNat : Int) != 123) = k := ⟨_, rfl⟩
    have e117 : d.toNat = 117 ↔ k117 = false := by rw [← hk117]; simp; omega
    have e123 : f.toNat = 123 ↔ k123 = false := by rw [← hk123]; simp; omega
    simp only [e117, e123] at hes
    by_cases hno : k117 = true ∨ k123 = true
    · have hbad : Hid (esc (s.data.toList.drop i) = .bad 13) := by
        unfold Hid
        rw [hes, if_neg]
        rintro ⟨h1, h2, _⟩
        rcases hno with h | h <;> simp_all
      have hc2 : k117 = true ∨ (k117 = false ∧ k123 = true) := by cases k117 <;> simp_all
      clear hes hin2 e117 e123
      by_cases hlt : (i : Int) + 1 < (s.size : Int)
      · rcases hc2 with rfl | ⟨rfl, rfl⟩
        · (obtain ⟨c0, c1, c2, c3⟩ := HB.out.c4; obtain ⟨f0, f1, f2, f3⟩ := HB.out.f4; have lt := HB.out.lt)
          go_enter Tryz.func80, Tryz.ntmps80
          go_wp2_with fail
          (go_at_call 73; (with_reducible refine (BA1.out _ HB.out).mono ?_); rintro e1 wn ⟨rfl, hb⟩; replace HB := Lib.hid (HB.out.grow hb); replace HI := Lib.hid (isB_grow HI.out hb); replace HF := Lib.hid (HF.out.trans (Fr.of_grow hb)); clear hb)
          go_wp2_with fail
          go_at_call 58
          (with_reducible refine (IB.out _).mono ?_)
          rintro e1 w2 ⟨rfl, rfl⟩
          (obtain ⟨c0, c1, c2, c3⟩ := HB.out.c4; obtain ⟨f0, f1, f2, f3⟩ := HB.out.f4; have lt := HB.out.lt)
          go_wp2_with fail
          refine wp_region_ord [(0, 1), (1, 1), (2, 1), (3, 1), (4, 1), (5, 1), (6, 1), (7, 1), (8, 1), (9, 1), (10, 1), (11, 1), (12, 1), (13, 1), (14, 1)] [] 5 (by kernel_rfl) (by decide +kernel) ?_
          simp only [pickO, List.append_eq, List.cons_append, List.nil_append, List.getElem?_cons_succ, List.getElem?_cons_zero]
          intro w0 hG
          (repeat ((first | (with_reducible refine ord_q1 ?_) | (with_reducible refine ord_q0 ?_)); intro K hK; first | (refine Or.inr ⟨?_, ?_⟩; (focus (go_simp; first | done | (simp [undef]; done))); go_simp; (with_reducible refine hK _ ?_); clear hK K) | (refine Or.inl ⟨?_, ?_⟩; (focus (go_simp; done)); apply Exists.intro; refine And.intro ?_ ?_; (focus (first | (intro wq hq; obtain ⟨hcq, hfq⟩ := G.old hq; go_simp; (first | done | exact rfl); done) | (intro wq; go_simp; (first | done | exact rfl); done))); go_simp; (with_reducible refine hK _ ?_); clear hK K) | fail))
          (with_reducible refine ord_nil ?_)
          have hbx := hG.b; replace HB := Lib.hid (HB.out.grow hbx); replace HI := Lib.hid (isB_grow HI.out hbx); replace HF := Lib.hid (HF.out.trans (Fr.of_grow hbx)); clear hG hbx c0 c1 c2 c3 f0 f1 f2 f3 lt; (obtain ⟨c0, c1, c2, c3⟩ := HB.out.c4; obtain ⟨f0, f1, f2, f3⟩ := HB.out.f4; have lt := HB.out.lt)
          go_wp2_with fail
          (go_at_call 73; (with_reducible refine (BA1.out _ HB.out).mono ?_); rintro e1 wn ⟨rfl, hb⟩; replace HB := Lib.hid (HB.out.grow hb); replace HI := Lib.hid (isB_grow HI.out hb); replace HF := Lib.hid (HF.out.trans (Fr.of_grow hb)); clear hb)
          go_wp2_with fail
          go_at_call 49
          (with_reducible refine (fail_ok HB.out _ _).mono ?_)
          rintro e1 w4 ⟨rfl, hb4, hc4⟩
          go_wp2_with fail
          (first | go_end0 | refine bodyPost_ret (results_none rfl _ _ _) rfl ?_)
          rw [hbad.out]
          exact ⟨rfl, HF.out.trans (Fr.of_chg hc4), _, hb4⟩
        · (obtain ⟨c0, c1, c2, c3⟩ := HB.out.c4; obtain ⟨f0, f1, f2, f3⟩ := HB.out.f4; have lt := HB.out.lt)
          go_enter Tryz.func80, Tryz.ntmps80
          go_wp2_with fail
          (go_at_call 73; (with_reducible refine (BA1.out _ HB.out).mono ?_); rintro e1 wn ⟨rfl, hb⟩; replace HB := Lib.hid (HB.out.grow hb); replace HI := Lib.hid (isB_grow HI.out hb); replace HF := Lib.hid (HF.out.trans (Fr.of_grow hb)); clear hb)
          go_wp2_with fail
          go_at_call 58
          (with_reducible refine (IB.out _).mono ?_)
          rintro e1 w2 ⟨rfl, rfl⟩
          (obtain ⟨c0, c1, c2, c3⟩ := HB.out.c4; obtain ⟨f0, f1, f2, f3⟩ := HB.out.f4; have lt := HB.out.lt)
          go_wp2_with fail
          refine wp_region_ord [(0, 1), (1, 1), (2, 1), (3, 1), (4, 1), (5, 1), (6, 1), (7, 1), (8, 1), (9, 1), (10, 1), (11, 1), (12, 1), (13, 1), (14, 1)] [] 5 (by kernel_rfl) (by decide +kernel) ?_
          simp only [pickO, List.append_eq, List.cons_append, List.nil_append, List.getElem?_cons_succ, List.getElem?_cons_zero]
          intro w0 hG
          (repeat ((first | (with_reducible refine ord_q1 ?_) | (with_reducible refine ord_q0 ?_)); intro K hK; first | (refine Or.inr ⟨?_, ?_⟩; (focus (go_simp; first | done | (simp [undef]; done))); go_simp; (with_reducible refine hK _ ?_); clear hK K) | (refine Or.inl ⟨?_, ?_⟩; (focus (go_simp; done)); apply Exists.intro; refine And.intro ?_ ?_; (focus (first | (intro wq hq; obtain ⟨hcq, hfq⟩ := G.old hq; go_simp; (first | done | exact rfl); done) | (intro wq; go_simp; (first | done | exact rfl); done))); go_simp; (with_reducible refine hK _ ?_); clear hK K) | fail))
          (with_reducible refine ord_nil ?_)
          have hbx := hG.b; replace HB := Lib.hid (HB.out.grow hbx); replace HI := Lib.hid (isB_grow HI.out hbx); replace HF := Lib.hid (HF.out.trans (Fr.of_grow hbx)); clear hG hbx c0 c1 c2 c3 f0 f1 f2 f3 lt; (obtain ⟨c0, c1, c2, c3⟩ := HB.out.c4; obtain ⟨f0, f1, f2, f3⟩ := HB.out.f4; have lt := HB.out.lt)
          go_wp2_with fail
          (go_at_call 73; (with_reducible refine (BA1.out _ HB.out).mono ?_); rintro e1 wn ⟨rfl, hb⟩; replace HB := Lib.hid (HB.out.grow hb); replace HI := Lib.hid (isB_grow HI.out hb); replace HF := Lib.hid (HF.out.trans (Fr.of_grow hb)); clear hb)
          go_wp2_with fail
          (go_at_call 73; (with_reducible refine (BA2.out _ HB.out).mono ?_); rintro e1 wn ⟨rfl, hb⟩; replace HB := Lib.hid (HB.out.grow hb); replace HI := Lib.hid (isB_grow HI.out hb); replace HF := Lib.hid (HF.out.trans (Fr.of_grow hb)); clear hb)
          go_wp2_with fail
          go_at_call 49
          (with_reducible refine (fail_ok HB.out _ _).mono ?_)
          rintro e1 w4 ⟨rfl, hb4, hc4⟩
          go_wp2_with fail
          (first | go_end0 | refine bodyPost_ret (results_none rfl _ _ _) rfl ?_)
          rw [hbad.out]
          exact ⟨rfl, HF.out.trans (Fr.of_chg hc4), _, hb4⟩
      · rcases hc2 with rfl | ⟨rfl, rfl⟩
        · (obtain ⟨c0, c1, c2, c3⟩ := HB.out.c4; obtain ⟨f0, f1, f2, f3⟩ := HB.out.f4; have lt := HB.out.lt)
          go_enter Tryz.func80, Tryz.ntmps80
          go_wp2_with fail
          (go_at_call 73; (with_reducible refine (BA1.out _ HB.out).mono ?_); rintro e1 wn ⟨rfl, hb⟩; replace HB := Lib.hid (HB.out.grow hb); replace HI := Lib.hid (isB_grow HI.out hb); replace HF := Lib.hid (HF.out.trans (Fr.of_grow hb)); clear hb)
          go_wp2_with fail
          go_at_call 58
          (with_reducible refine (IB.out _).mono ?_)
          rintro e1 w2 ⟨rfl, rfl⟩
          (obtain ⟨c0, c1, c2, c3⟩ := HB.out.c4; obtain ⟨f0, f1, f2, f3⟩ := HB.out.f4; have lt := HB.out.lt)
          go_wp2_with fail
          refine wp_region_ord [(0, 1), (1, 1), (2, 1), (3, 1), (4, 1), (5, 1), (6, 1), (7, 1), (8, 1), (9, 1), (10, 1), (11, 1), (12, 1), (13, 1), (14, 1)] [] 5 (by kernel_rfl) (by decide +kernel) ?_
          simp only [pickO, List.append_eq, List.cons_append, List.nil_append, List.getElem?_cons_succ, List.getElem?_cons_zero]
          intro w0 hG
          (repeat ((first | (with_reducible refine ord_q1 ?_) | (with_reducible refine ord_q0 ?_)); intro K hK; first | (refine Or.inr ⟨?_, ?_⟩; (focus (go_simp; first | done | (simp [undef]; done))); go_simp; (with_reducible refine hK _ ?_); clear hK K) | (refine Or.inl ⟨?_, ?_⟩; (focus (go_simp; done)); apply Exists.intro; refine And.intro ?_ ?_; (focus (first | (intro wq hq; obtain ⟨hcq, hfq⟩ := G.old hq; go_simp; (first | done | exact rfl); done) | (intro wq; go_simp; (first | done | exact rfl); done))); go_simp; (with_reducible refine hK _ ?_); clear hK K) | fail))
          (with_reducible refine ord_nil ?_)
          have hbx := hG.b; replace HB := Lib.hid (HB.out.grow hbx); replace HI := Lib.hid (isB_grow HI.out hbx); replace HF := Lib.hid (HF.out.trans (Fr.of_grow hbx)); clear hG hbx c0 c1 c2 c3 f0 f1 f2 f3 lt; (obtain ⟨c0, c1, c2, c3⟩ := HB.out.c4; obtain ⟨f0, f1, f2, f3⟩ := HB.out.f4; have lt := HB.out.lt)
          go_wp2_with fail
          (go_at_call 73; (with_reducible refine (BA1.out _ HB.out).mono ?_); rintro e1 wn ⟨rfl, hb⟩; replace HB := Lib.hid (HB.out.grow hb); replace HI := Lib.hid (isB_grow HI.out hb); replace HF := Lib.hid (HF.out.trans (Fr.of_grow hb)); clear hb)
          go_wp2_with fail
          go_at_call 49
          (with_reducible refine (fail_ok HB.out _ _).mono ?_)
          rintro e1 w4 ⟨rfl, hb4, hc4⟩
          go_wp2_with fail
          (first | go_end0 | refine bodyPost_ret (results_none rfl _ _ _) rfl ?_)
          rw [hbad.out]
          exact ⟨rfl, HF.out.trans (Fr.of_chg hc4), _, hb4⟩
        · (obtain ⟨c0, c1, c2, c3⟩ := HB.out.c4; obtain ⟨f0, f1, f2, f3⟩ := HB.out.f4; have lt := HB.out.lt)
          go_enter Tryz.func80, Tryz.ntmps80
          go_wp2_with fail
          (go_at_call 73; (with_reducible refine (BA1.out _ HB.out).mono ?_); rintro e1 wn ⟨rfl, hb⟩; replace HB := Lib.hid (HB.out.grow hb); replace HI := Lib.hid (isB_grow HI.out hb); replace HF := Lib.hid (HF.out.trans (Fr.of_grow hb)); clear hb)
          go_wp2_with fail
          go_at_call 58
          (with_reducible refine (IB.out _).mono ?_)
          rintro e1 w2 ⟨rfl, rfl⟩
          (obtain ⟨c0, c1, c2, c3⟩ := HB.out.c4; obtain ⟨f0, f1, f2, f3⟩ := HB.out.f4; have lt := HB.out.lt)
          go_wp2_with fail
          refine wp_region_ord [(0, 1), (1, 1), (2, 1), (3, 1), (4, 1), (5, 1), (6, 1), (7, 1), (8, 1), (9, 1), (10, 1), (11, 1), (12, 1), (13, 1), (14, 1)] [] 5 (by kernel_rfl) (by decide +kernel) ?_
          simp only [pickO, List.append_eq, List.cons_append, List.nil_append, List.getElem?_cons_succ, List.getElem?_cons_zero]
          intro w0 hG
          (repeat ((first | (with_reducible refine ord_q1 ?_) | (with_reducible refine ord_q0 ?_)); intro K hK; first | (refine Or.inr ⟨?_, ?_⟩; (focus (go_simp; first | done | (simp [undef]; done))); go_simp; (with_reducible refine hK _ ?_); clear hK K) | (refine Or.inl ⟨?_, ?_⟩; (focus (go_simp; done)); apply Exists.intro; refine And.intro ?_ ?_; (focus (first | (intro wq hq; obtain ⟨hcq, hfq⟩ := G.old hq; go_simp; (first | done | exact rfl); done) | (intro wq; go_simp; (first | done | exact rfl); done))); go_simp; (with_reducible refine hK _ ?_); clear hK K) | fail))
          (with_reducible refine ord_nil ?_)
          have hbx := hG.b; replace HB := Lib.hid (HB.out.grow hbx); replace HI := Lib.hid (isB_grow HI.out hbx); replace HF := Lib.hid (HF.out.trans (Fr.of_grow hbx)); clear hG hbx c0 c1 c2 c3 f0 f1 f2 f3 lt; (obtain ⟨c0, c1, c2, c3⟩ := HB.out.c4; obtain ⟨f0, f1, f2, f3⟩ := HB.out.f4; have lt := HB.out.lt)
          go_wp2_with fail
          (go_at_call 73; (with_reducible refine (BA1.out _ HB.out).mono ?_); rintro e1 wn ⟨rfl, hb⟩; replace HB := Lib.hid (HB.out.grow hb); replace HI := Lib.hid (isB_grow HI.out hb); replace HF := Lib.hid (HF.out.trans (Fr.of_grow hb)); clear hb)
          go_wp2_with fail
          (go_at_call 73; (with_reducible refine (BA2.out _ HB.out).mono ?_); rintro e1 wn ⟨rfl, hb⟩; replace HB := Lib.hid (HB.out.grow hb); replace HI := Lib.hid (isB_grow HI.out hb); replace HF := Lib.hid (HF.out.trans (Fr.of_grow hb)); clear hb)
          go_wp2_with fail
          go_at_call 49
          (with_reducible refine (fail_ok HB.out _ _).mono ?_)
          rintro e1 w4 ⟨rfl, hb4, hc4⟩
          go_wp2_with fail
          (first | go_end0 | refine bodyPost_ret (results_none rfl _ _ _) rfl ?_)
          rw [hbad.out]
          exact ⟨rfl, HF.out.trans (Fr.of_chg hc4), _, hb4⟩
    · have h117 : k117 = false := by cases k117 <;> simp_all
      have h123 : k123 = false := by cases k123 <;> simp_all
      have hi2 : i + 2 < s.size := hin2 (by have := e123.2 h123; omega)
      have hlt : (i : Int) + 1 < (s.size : Int) := by omega
      subst h117 h123
      clear hin2 e117 e123 hno
      obtain ⟨m, hm⟩ : ∃ m, i + 3 = m := ⟨_, rfl⟩
      obtain ⟨n, hn⟩ : ∃ n, spn isHex (s.data.toList.drop m) = n := ⟨_, rfl⟩
      have hml : m ≤ s.size := by omega
      have hle := spn_bd isHex s.data.toList (i := m) hml
      rw [hm] at hes hx3
      rw [hn] at hes hle
      rw [show i + (3 + n) = m + n by omega] at hes
      have hle2 : m + n ≤ s.size := hle
      have hall : Hid (∀ k, k ≤ n → ∀ c ∈ (s.data.toList.drop m).take k, isHex c = true) := by
        intro k hk c hc
        obtain ⟨j, hj, rfl⟩ := List.getElem_of_mem hc
        rw [List.length_take] at hj
        have := spn_all (p := isHex) (r := s.data.toList.drop m) (k := j) (by omega)
        rw [List.getElem_take, ← nth_get]
        exact this
      have hstep : Hid (∀ k, m + k < s.size → (isHex (nth s.data.toList (m + k)) = true → k ≤ n → k < n) ∧ (isHex (nth s.data.toList (m + k)) = false → k ≤ n → k = n)) := by
        intro k hk
        constructor
        · intro h1 h2
          rcases Nat.lt_or_ge k n with h3 | h3
          · exact h3
          · exfalso
            have h4 : k = n := by omega
            subst h4
            have h5 := spn_stop2 isHex (s.data.toList.drop m) (by rw [hn, List.length_drop]; have : s.data.toList.length = s.size := rfl; omega)
            rw [hn, nth_drop, h1] at h5
            cases h5
        · intro h1 h2
          rcases Nat.lt_or_ge k n with h3 | h3
          · have h4 := spn_all (p := isHex) (r := s.data.toList.drop m) (k := k) (by omega)
            rw [nth_drop, h1] at h4
            cases h4
          · omega
      replace hes := Lib.hid hes
      replace hn := Lib.hid hn
      replace hm := Lib.hid hm
      replace hd := Lib.hid hd
      replace hf := Lib.hid hf
      clear hle
      (obtain ⟨c0, c1, c2, c3⟩ := HB.out.c4; obtain ⟨f0, f1, f2, f3⟩ := HB.out.f4; have lt := HB.out.lt)
      go_enter Tryz.func80, Tryz.ntmps80
      go_wp2_with fail
      (go_at_call 73; (with_reducible refine (BA1.out _ HB.out).mono ?_); rintro e1 wn ⟨rfl, hb⟩; replace HB := Lib.hid (HB.out.grow hb); replace HI := Lib.hid (isB_grow HI.out hb); replace HF := Lib.hid (HF.out.trans (Fr.of_grow hb)); clear hb)
      go_wp2_with fail
      go_at_call 58
      (with_reducible refine (IB.out _).mono ?_)
      rintro e1 w2 ⟨rfl, rfl⟩
      (obtain ⟨c0, c1, c2, c3⟩ := HB.out.c4; obtain ⟨f0, f1, f2, f3⟩ := HB.out.f4; have lt := HB.out.lt)
      go_wp2_with fail
      refine wp_region_ord [(0, 1), (1, 1), (2, 1), (3, 1), (4, 1), (5, 1), (6, 1), (7, 1), (8, 1), (9, 1), (10, 1), (11, 1), (12, 1), (13, 1), (14, 1)] [] 5 (by kernel_rfl) (by decide +kernel) ?_
      simp only [pickO, List.append_eq, List.cons_append, List.nil_append, List.getElem?_cons_succ, List.getElem?_cons_zero]
      intro w0 hG
      (repeat ((first | (with_reducible refine ord_q1 ?_) | (with_reducible refine ord_q0 ?_)); intro K hK; first | (refine Or.inr ⟨?_, ?_⟩; (focus (go_simp; first | done | (simp [undef]; done))); go_simp; (with_reducible refine hK _ ?_); clear hK K) | (refine Or.inl ⟨?_, ?_⟩; (focus (go_simp; done)); apply Exists.intro; refine And.intro ?_ ?_; (focus (first | (intro wq hq; obtain ⟨hcq, hfq⟩ := G.old hq; go_simp; (first | done | exact rfl); done) | (intro wq; go_simp; (first | done | exact rfl); done))); go_simp; (with_reducible refine hK _ ?_); clear hK K) | fail))
      (with_reducible refine ord_nil ?_)
      have hbx := hG.b; replace HB := Lib.hid (HB.out.grow hbx); replace HI := Lib.hid (isB_grow HI.out hbx); replace HF := Lib.hid (HF.out.trans (Fr.of_grow hbx)); clear hG hbx c0 c1 c2 c3 f0 f1 f2 f3 lt; (obtain ⟨c0, c1, c2, c3⟩ := HB.out.c4; obtain ⟨f0, f1, f2, f3⟩ := HB.out.f4; have lt := HB.out.lt)
      go_wp2_with fail
      (go_at_call 73; (with_reducible refine (BA1.out _ HB.out).mono ?_); rintro e1 wn ⟨rfl, hb⟩; replace HB := Lib.hid (HB.out.grow hb); replace HI := Lib.hid (isB_grow HI.out hb); replace HF := Lib.hid (HF.out.trans (Fr.of_grow hb)); clear hb)
      go_wp2_with fail
      (go_at_call 73; (with_reducible refine (BA2.out _ HB.out).mono ?_); rintro e1 wn ⟨rfl, hb⟩; replace HB := Lib.hid (HB.out.grow hb); replace HI := Lib.hid (isB_grow HI.out hb); replace HF := Lib.hid (HF.out.trans (Fr.of_grow hb)); clear hb)
      (obtain ⟨c0, c1, c2, c3⟩ := HB.out.c4; obtain ⟨f0, f1, f2, f3⟩ := HB.out.f4; have lt := HB.out.lt)
      go_wp2_with fail
      refine wp_name (fun wx => Bx wx b (scC s (m : Int) wg 0) ∧ IsB NB NB bs wx ∧ Fr NB b w wx) ⟨HB.out.put (i := 1) (v := .int .i64 (m : Int)) rfl, isB_set HI.out hbN _, HF.out.set _ _⟩ ?_
      rintro w8 ⟨hb8, hi8, hf8⟩
      replace HB := Lib.hid hb8
      replace HI := Lib.hid hi8
      replace HF := Lib.hid hf8
      clear hb8 hi8 hf8 c0 c1 c2 c3 f0 f1 f2 f3 lt
      go_loopw [6, 7] (fun pv kv wx => ∃ (k : Nat) (P : Int), k ≤ 7 ∧ k ≤ n ∧ kv = .int .i64 k ∧ pv = .int .i64 P ∧ Hid (hexN ((s.data.toList.drop m).take k) = P) ∧ Hid (Bx wx b (scC s ((m + k : Nat) : Int) wg 0)) ∧ Hid (IsB NB NB bs wx) ∧ Hid (Fr NB b w wx)) (fun _ kv _ => 7 - (intOf kv).toNat)
      case atStart => exact ⟨0, 0, by omega, Nat.zero_le _, rfl, rfl, Lib.hid rfl, HB, HI, HF⟩
      case round =>
        clear HB HI HF
        obtain ⟨k, P, hk7, hkn, rfl, rfl, hP, HB, HI, HF⟩ := hrel
        have hPb := hexN_bd 7 ((s.data.toList.drop m).take k) (by rw [List.length_take]; omega) (hall.out k hkn)
        have hst := hstep.out k
        have hPs : Hid (∀ c, (s.data.toList.drop m)[k]? = some c → hexN ((s.data.toList.drop m).take (k + 1)) = hexN ((s.data.toList.drop m).take k) * 16 + hexV c) := by
          intro c hc
          rw [List.take_add_one, hc]
          have := hexN_app ((s.data.toList.drop m).take k) c
          simp only [Option.toList_some] at this ⊢
          rw [this, Int.mul_comm]
        have hPn : Hid (k = n → hexN ((s.data.toList.drop m).take n) = hexN ((s.data.toList.drop m).take k)) := fun h => by rw [h]
        rw [hP.out] at hPb hPs hPn
        have hPb1 : 0 ≤ P := hPb.1
        have hPb2 : P < 268435456 := hPb.2
        obtain ⟨a, ha⟩ : ∃ a, m + k = a := ⟨_, rfl⟩
        rw [ha] at HB hst
        have hw16 : IntKind.i64.wrap (P * 16) = P * 16 := IntWalk.i64_in _ (by omega)
        have hwk : IntKind.i64.wrap ((k : Int) + 1) = ((k + 1 : Nat) : Int) := by rw [IntWalk.i64_in _ (by omega)]; simp
        have hwa : IntKind.i64.wrap ((a : Int) + 1) = ((a + 1 : Nat) : Int) := by rw [IntWalk.i64_in _ (by omega)]; simp
        have hab : a ≤ s.size := by omega
        clear hPb
        by_cases hk : (k : Int) < 7
        · by_cases hlt : a < s.size
          · have hlt' : (a : Int) < (s.size : Int) := by omega
            have hna := nth_idx s hlt
            obtain ⟨c, hc⟩ : ∃ c, s[a] = c := ⟨_, rfl⟩
            rw [hc] at hna
            rw [hna] at hst
            have hst2 := hst hlt
            have HX := Lib.hid (fun wx => hex_any c wx)
            have hci : (s.data.toList.drop m)[k]? = some c := by
              rw [List.getElem?_drop, ha, List.getElem?_eq_getElem (show a < s.data.toList.length from hlt), ← nth_get, hna]
            have hPs2 := Lib.hid (hPs.out c hci)
            have hhx : isHex c = decide (0 ≤ hexV c) := rfl
            have hxb := hex_bd c
            obtain ⟨x, hx⟩ : ∃ x, hexV c = x := ⟨_, rfl⟩
            rw [hx] at HX hPs2 hhx hxb
            clear hci hna hst hPs
            (obtain ⟨c0, c1, c2, c3⟩ := HB.out.c4; obtain ⟨f0, f1, f2, f3⟩ := HB.out.f4; have lt := HB.out.lt)
            by_cases hx0 : 0 ≤ x
            · have hkn2 : k < n := hst2.1 (by rw [hhx]; simp [hx0]) hkn
              have hor := or4 hPb1 (by omega) hx0 (by omega : x < 16)
              clear hst2 hhx hx
              go_wp2_with fail
              refine wp_region_ord [(0, 1), (1, 1), (2, 1), (3, 1), (4, 1), (5, 1), (6, 1), (7, 1), (8, 1), (9, 1), (10, 1), (11, 1), (12, 1), (13, 1), (14, 1), (15, 1), (16, 1), (17, 1), (18, 1), (19, 1), (20, 1), (21, 1), (22, 1), (23, 1), (24, 2), (25, 1), (26, 1)] [] 5 (by kernel_rfl) (by decide +kernel) ?_
              simp only [pickO, List.append_eq, List.cons_append, List.nil_append, List.getElem?_cons_succ, List.getElem?_cons_zero]
              intro w0 hG
              (repeat ((first | (with_reducible refine ord_q1 ?_) | (with_reducible refine ord_q0 ?_)); intro K hK; first | (refine Or.inr ⟨?_, ?_⟩; (focus (go_simp; first | done | (simp [undef]; done))); go_simp; (with_reducible refine hK _ ?_); clear hK K) | (refine Or.inl ⟨?_, ?_⟩; (focus (go_simp; done)); apply Exists.intro; refine And.intro ?_ ?_; (focus (first | (intro wq hq; obtain ⟨hcq, hfq⟩ := G.old hq; go_simp; (first | done | exact rfl); done) | (intro wq; go_simp; (first | done | exact rfl); done))); go_simp; (with_reducible refine hK _ ?_); clear hK K) | fail))
              (with_reducible refine ord_run ?_ hG)
              intro K hK
              go_simp
              go_at_call 76; (with_reducible refine (HX.out _).mono ?_); rintro e1 w2 ⟨rfl, hb⟩
              replace hG := Grew.trans hG hb
              (try dsimp only)
              (with_reducible refine hK _ _ hG ?_)
              clear hK K
              (repeat ((first | (with_reducible refine ord_q1 ?_) | (with_reducible refine ord_q0 ?_)); intro K hK; first | (refine Or.inr ⟨?_, ?_⟩; (focus (go_simp; first | done | (simp [undef]; done))); go_simp; (with_reducible refine hK _ ?_); clear hK K) | (refine Or.inl ⟨?_, ?_⟩; (focus (go_simp; done)); apply Exists.intro; refine And.intro ?_ ?_; (focus (first | (intro wq hq; obtain ⟨hcq, hfq⟩ := G.old hq; go_simp; (first | done | exact rfl); done) | (intro wq; go_simp; (first | done | exact rfl); done))); go_simp; (with_reducible refine hK _ ?_); clear hK K) | fail))
              (with_reducible refine ord_nil ?_)
              have hbx := hG.b; replace HB := Lib.hid (HB.out.grow hbx); replace HI := Lib.hid (isB_grow HI.out hbx); replace HF := Lib.hid (HF.out.trans (Fr.of_grow hbx)); clear hG hbx c0 c1 c2 c3 f0 f1 f2 f3 lt; (obtain ⟨c0, c1, c2, c3⟩ := HB.out.c4; obtain ⟨f0, f1, f2, f3⟩ := HB.out.f4; have lt := HB.out.lt)
              go_wp2_with fail
              refine wp_region_ord [(0, 1), (1, 1), (2, 1), (3, 1), (4, 1), (5, 1), (6, 1), (7, 1), (8, 1), (9, 1), (10, 1), (11, 2), (12, 1), (13, 1)] [] 5 (by kernel_rfl) (by decide +kernel) ?_
              simp only [pickO, List.append_eq, List.cons_append, List.nil_append, List.getElem?_cons_succ, List.getElem?_cons_zero]
              intro w0 hG
              (repeat ((first | (with_reducible refine ord_q1 ?_) | (with_reducible refine ord_q0 ?_)); intro K hK; first | (refine Or.inr ⟨?_, ?_⟩; (focus (go_simp; first | done | (simp [undef]; done))); go_simp; (with_reducible refine hK _ ?_); clear hK K) | (refine Or.inl ⟨?_, ?_⟩; (focus (go_simp; done)); apply Exists.intro; refine And.intro ?_ ?_; (focus (first | (intro wq hq; obtain ⟨hcq, hfq⟩ := G.old hq; go_simp; (first | done | exact rfl); done) | (intro wq; go_simp; (first | done | exact rfl); done))); go_simp; (with_reducible refine hK _ ?_); clear hK K) | fail))
              (with_reducible refine ord_run ?_ hG)
              intro K hK
              go_simp
              go_at_call 76; (with_reducible refine (HX.out _).mono ?_); rintro e1 w2 ⟨rfl, hb⟩
              replace hG := Grew.trans hG hb
              (try dsimp only)
              (with_reducible refine hK _ _ hG ?_)
              clear hK K
              (repeat ((first | (with_reducible refine ord_q1 ?_) | (with_reducible refine ord_q0 ?_)); intro K hK; first | (refine Or.inr ⟨?_, ?_⟩; (focus (go_simp; first | done | (simp [undef]; done))); go_simp; (with_reducible refine hK _ ?_); clear hK K) | (refine Or.inl ⟨?_, ?_⟩; (focus (go_simp; done)); apply Exists.intro; refine And.intro ?_ ?_; (focus (first | (intro wq hq; obtain ⟨hcq, hfq⟩ := G.old hq; go_simp; (first | done | exact rfl); done) | (intro wq; go_simp; (first | done | exact rfl); done))); go_simp; (with_reducible refine hK _ ?_); clear hK K) | fail))
              (with_reducible refine ord_nil ?_)
              have hbx := hG.b; replace HB := Lib.hid (HB.out.grow hbx); replace HI := Lib.hid (isB_grow HI.out hbx); replace HF := Lib.hid (HF.out.trans (Fr.of_grow hbx)); clear hG hbx c0 c1 c2 c3 f0 f1 f2 f3 lt; (obtain ⟨c0, c1, c2, c3⟩ := HB.out.c4; obtain ⟨f0, f1, f2, f3⟩ := HB.out.f4; have lt := HB.out.lt)
              go_wp2_with fail
              go_roundw
              case rel => exact ⟨k + 1, P * 16 + x, by omega, hkn2, by go_num, by go_num, hPs2, by rw [← Nat.add_assoc, ha]; exact Lib.hid (HB.out.put (i := 1) (v := .int .i64 ((a + 1 : Nat) : Int)) rfl), Lib.hid (isB_set HI.out hbN _), Lib.hid (HF.out.set _ _)⟩
              case measure => simp [intOf]; omega
            · have hkn2 : Hid (k = n) := hst2.2 (by rw [hhx]; simp [hx0]) hkn
              clear hst2 hhx hx
              go_wp2_with fail
              refine wp_region_ord [(0, 1), (1, 1), (2, 1), (3, 1), (4, 1), (5, 1), (6, 1), (7, 1), (8, 1), (9, 1), (10, 1), (11, 1), (12, 1), (13, 1), (14, 1), (15, 1), (16, 1), (17, 1), (18, 1), (19, 1), (20, 1), (21, 1), (22, 1), (23, 1), (24, 2), (25, 1), (26, 1)] [] 5 (by kernel_rfl) (by decide +kernel) ?_
              simp only [pickO, List.append_eq, List.cons_append, List.nil_append, List.getElem?_cons_succ, List.getElem?_cons_zero]
              intro w0 hG
              (repeat ((first | (with_reducible refine ord_q1 ?_) | (with_reducible refine ord_q0 ?_)); intro K hK; first | (refine Or.inr ⟨?_, ?_⟩; (focus (go_simp; first | done | (simp [undef]; done))); go_simp; (with_reducible refine hK _ ?_); clear hK K) | (refine Or.inl ⟨?_, ?_⟩; (focus (go_simp; done)); apply Exists.intro; refine And.intro ?_ ?_; (focus (first | (intro wq hq; obtain ⟨hcq, hfq⟩ := G.old hq; go_simp; (first | done | exact rfl); done) | (intro wq; go_simp; (first | done | exact rfl); done))); go_simp; (with_reducible refine hK _ ?_); clear hK K) | fail))
              (with_reducible refine ord_run ?_ hG)
              intro K hK
              go_simp
              go_at_call 76; (with_reducible refine (HX.out _).mono ?_); rintro e1 w2 ⟨rfl, hb⟩
              replace hG := Grew.trans hG hb
              (try dsimp only)
              (with_reducible refine hK _ _ hG ?_)
              clear hK K
              (repeat ((first | (with_reducible refine ord_q1 ?_) | (with_reducible refine ord_q0 ?_)); intro K hK; first | (refine Or.inr ⟨?_, ?_⟩; (focus (go_simp; first | done | (simp [undef]; done))); go_simp; (with_reducible refine hK _ ?_); clear hK K) | (refine Or.inl ⟨?_, ?_⟩; (focus (go_simp; done)); apply Exists.intro; refine And.intro ?_ ?_; (focus (first | (intro wq hq; obtain ⟨hcq, hfq⟩ := G.old hq; go_simp; (first | done | exact rfl); done) | (intro wq; go_simp; (first | done | exact rfl); done))); go_simp; (with_reducible refine hK _ ?_); clear hK K) | fail))
              (with_reducible refine ord_nil ?_)
              have hbx := hG.b; replace HB := Lib.hid (HB.out.grow hbx); replace HI := Lib.hid (isB_grow HI.out hbx); replace HF := Lib.hid (HF.out.trans (Fr.of_grow hbx)); clear hG hbx c0 c1 c2 c3 f0 f1 f2 f3 lt; (obtain ⟨c0, c1, c2, c3⟩ := HB.out.c4; obtain ⟨f0, f1, f2, f3⟩ := HB.out.f4; have lt := HB.out.lt)
              have hPn2 := Lib.hid (hPn.out hkn2.out)
              have hkn3 : k = n := hkn2.out
              clear hkn2
              subst hkn3
              have BN := Lib.hid (fun wx hb => byteAt0 (w := wx) (b := b) (s := s) (i := a) (wg := wg) (e := 0) hb hs hab)
              obtain ⟨g, hg⟩ : ∃ g, nth s.data.toList a = g := ⟨_, rfl⟩
              rw [hg] at BN
              have hes2 : Hid (esc (s.data.toList.drop i) = if 1 ≤ k ∧ k ≤ 6 ∧ g.toNat = 125 then (if isPt P = true then .ok (3 + k + 1) (Utf8.encode P).data.toList else .bad 16) else .bad 13) := by
                unfold Hid
                have := hes.out
                rw [ha, hg, hP.out] at this
                rw [this]
                first | done | (simp; done)
              obtain ⟨k125, hk125⟩ : ∃ q, ((g.toNat : Int) != 125) = q := ⟨_, rfl⟩
              have e125 : g.toNat = 125 ↔ k125 = false := by rw [← hk125]; simp; omega
              clear hes hPn hPn2 hg
              by_cases hk1 : (k : Int) < 1
              · have hbad : Hid (esc (s.data.toList.drop i) = .bad 13) := by
                  unfold Hid
                  rw [hes2.out, if_neg]
                  rintro ⟨h1, _⟩
                  omega
                go_wp2_with fail
                go_at_call 49
                (with_reducible refine (fail_ok HB.out _ _).mono ?_)
                rintro e1 w4 ⟨rfl, hb4, hc4⟩
                go_wp2_with fail
                (first | go_end0 | refine bodyPost_ret (results_none rfl _ _ _) rfl ?_)
                rw [hbad.out]
                exact ⟨rfl, HF.out.trans (Fr.of_chg hc4), _, hb4⟩
              · by_cases hk6 : (6 : Int) < (k : Int)
                · exfalso; omega
                · cases k125
                  · have hes3 : Hid (esc (s.data.toList.drop i) = if isPt P = true then .ok (3 + k + 1) (Utf8.encode P).data.toList else .bad 16) := by
                      unfold Hid
                      rw [hes2.out, if_pos ⟨by omega, by omega, e125.2 rfl⟩]
                    have EN := Lib.hid (fun wx => encode_any P wx ⟨hPb1, by omega⟩)
                    clear e125 hes2
                    go_wp2_with fail
                    go_at_call 73
                    (with_reducible refine (BN.out _ HB.out).mono ?_)
                    rintro e1 wn ⟨rfl, hb⟩
                    replace HB := Lib.hid (HB.out.grow hb)
                    replace HI := Lib.hid (isB_grow HI.out hb)
                    replace HF := Lib.hid (HF.out.trans (Fr.of_grow hb))
                    clear hb c0 c1 c2 c3 f0 f1 f2 f3 lt
                    (obtain ⟨c0, c1, c2, c3⟩ := HB.out.c4; obtain ⟨f0, f1, f2, f3⟩ := HB.out.f4; have lt := HB.out.lt)
                    by_cases hpt : isPt P = true
                    · have hes4 : Hid (esc (s.data.toList.drop i) = .ok (3 + k + 1) (Utf8.encode P).data.toList) := by
                        unfold Hid
                        rw [hes3.out, if_pos hpt]
                      have hsz4 : (Utf8.encode P).size ≤ 4 := by
                        unfold Utf8.encode
                        simp only
                        repeat' split
                        all_goals exact Nat.le_of_ble_eq_true rfl
                      rw [hpt] at EN
                      simp only [if_true] at EN
                      obtain ⟨U, hU⟩ : ∃ U, Utf8.encode P = U := ⟨_, rfl⟩
                      rw [hU] at EN hes4 hsz4
                      clear hU hes3
                      go_wp2_with fail
                      go_at_call 107
                      (with_reducible refine (EN.out _).mono ?_)
                      rintro e1 w5 ⟨rfl, rfl⟩
                      go_wp2_with fail
                      go_at_call 63
                      (with_reducible refine (wstring_any (isB_set HI.out hbN _) U (by omega) (by have := isB_lt HI.out; simp; omega)).mono ?_)
                      rintro e1 w6 ⟨rfl, hi6, hb6⟩
                      go_wp2_with fail
                      (first | go_end0 | refine bodyPost_ret (results_none rfl _ _ _) rfl ?_)
                      rw [hes4.out]
                      refine ⟨rfl, (HF.out.set _ _).trans (Fr.of_below hb6), ?_, hi6⟩
                      have := (HB.out.put (i := 1) (v := .int .i64 ((a + 1 : Nat) : Int)) rfl).below hb6 hbN
                      rw [show i + (3 + k + 1) = a + 1 by have := hm.out; omega]
                      exact this
                    · have hbad : Hid (esc (s.data.toList.drop i) = .bad 16) := by
                        unfold Hid
                        rw [hes3.out, if_neg hpt]
                      rw [if_neg hpt] at EN
                      clear hes3
                      go_wp2_with fail
                      go_at_call 107
                      (with_reducible refine (EN.out _).mono ?_)
                      rintro e1 w5 ⟨rfl, rfl⟩
                      go_wp2_with fail
                      go_at_call 49
                      (with_reducible refine (fail_ok (i := a + 1) (HB.out.put (i := 1) (v := .int .i64 ((a : Int) + 1)) rfl) _ _).mono ?_)
                      rintro e1 w4 ⟨rfl, hb4, hc4⟩
                      go_wp2_with fail
                      (first | go_end0 | refine bodyPost_ret (results_none rfl _ _ _) rfl ?_)
                      rw [hbad.out]
                      exact ⟨rfl, (HF.out.set _ _).trans (Fr.of_chg hc4), _, hb4⟩
                  · have hbad : Hid (esc (s.data.toList.drop i) = .bad 13) := by
                      unfold Hid
                      rw [hes2.out, if_neg]
                      rintro ⟨_, _, h1⟩
                      have := e125.1 h1
                      cases this
                    go_wp2_with fail
                    go_at_call 73
                    (with_reducible refine (BN.out _ HB.out).mono ?_)
                    rintro e1 wn ⟨rfl, hb⟩
                    replace HB := Lib.hid (HB.out.grow hb)
                    replace HI := Lib.hid (isB_grow HI.out hb)
                    replace HF := Lib.hid (HF.out.trans (Fr.of_grow hb))
                    clear hb
                    go_wp2_with fail
                    go_at_call 49
                    (with_reducible refine (fail_ok HB.out _ _).mono ?_)
                    rintro e1 w4 ⟨rfl, hb4, hc4⟩
                    go_wp2_with fail
                    (first | go_end0 | refine bodyPost_ret (results_none rfl _ _ _) rfl ?_)
                    rw [hbad.out]
                    exact ⟨rfl, HF.out.trans (Fr.of_chg hc4), _, hb4⟩
          · have hlt' : ¬ (a : Int) < (s.size : Int) := by omega
            have hkn2 : Hid (k = n) := by unfold Hid; omega
            clear hst hPs
            (obtain ⟨c0, c1, c2, c3⟩ := HB.out.c4; obtain ⟨f0, f1, f2, f3⟩ := HB.out.f4; have lt := HB.out.lt)
            go_wp2_with fail
            refine wp_region_ord [(0, 1), (1, 1), (2, 1), (3, 1), (4, 1), (5, 1), (6, 1), (7, 1), (8, 1), (9, 1), (10, 1), (11, 1), (12, 1), (13, 1), (14, 1), (15, 1), (16, 1), (17, 1), (18, 1), (19, 1), (20, 1), (21, 1), (22, 1), (23, 1), (24, 2), (25, 1), (26, 1)] [] 5 (by kernel_rfl) (by decide +kernel) ?_
            simp only [pickO, List.append_eq, List.cons_append, List.nil_append, List.getElem?_cons_succ, List.getElem?_cons_zero]
            intro w0 hG
            (repeat ((first | (with_reducible refine ord_q1 ?_) | (with_reducible refine ord_q0 ?_)); intro K hK; first | (refine Or.inr ⟨?_, ?_⟩; (focus (go_simp; first | done | (simp [undef]; done))); go_simp; (with_reducible refine hK _ ?_); clear hK K) | (refine Or.inl ⟨?_, ?_⟩; (focus (go_simp; done)); apply Exists.intro; refine And.intro ?_ ?_; (focus (first | (intro wq hq; obtain ⟨hcq, hfq⟩ := G.old hq; go_simp; (first | done | exact rfl); done) | (intro wq; go_simp; (first | done | exact rfl); done))); go_simp; (with_reducible refine hK _ ?_); clear hK K) | fail))
            (with_reducible refine ord_skip ?_ hG ?_); (focus (go_simp; first | done | (simp [undef]; done))); intro K hK; go_simp; (with_reducible refine hK _ ?_); clear hK K; (repeat ((first | (with_reducible refine ord_q1 ?_) | (with_reducible refine ord_q0 ?_)); intro K hK; first | (refine Or.inr ⟨?_, ?_⟩; (focus (go_simp; first | done | (simp [undef]; done))); go_simp; (with_reducible refine hK _ ?_); clear hK K) | (refine Or.inl ⟨?_, ?_⟩; (focus (go_simp; done)); apply Exists.intro; refine And.intro ?_ ?_; (focus (first | (intro wq hq; obtain ⟨hcq, hfq⟩ := G.old hq; go_simp; (first | done | exact rfl); done) | (intro wq; go_simp; (first | done | exact rfl); done))); go_simp; (with_reducible refine hK _ ?_); clear hK K) | fail))
            (with_reducible refine ord_nil ?_)
            have hbx := hG.b; replace HB := Lib.hid (HB.out.grow hbx); replace HI := Lib.hid (isB_grow HI.out hbx); replace HF := Lib.hid (HF.out.trans (Fr.of_grow hbx)); clear hG hbx c0 c1 c2 c3 f0 f1 f2 f3 lt; (obtain ⟨c0, c1, c2, c3⟩ := HB.out.c4; obtain ⟨f0, f1, f2, f3⟩ := HB.out.f4; have lt := HB.out.lt)
            have hPn2 := Lib.hid (hPn.out hkn2.out)
            have hkn3 : k = n := hkn2.out
            clear hkn2
            subst hkn3
            have BN := Lib.hid (fun wx hb => byteAt0 (w := wx) (b := b) (s := s) (i := a) (wg := wg) (e := 0) hb hs hab)
            obtain ⟨g, hg⟩ : ∃ g, nth s.data.toList a = g := ⟨_, rfl⟩
            rw [hg] at BN
            have hes2 : Hid (esc (s.data.toList.drop i) = if 1 ≤ k ∧ k ≤ 6 ∧ g.toNat = 125 then (if isPt P = true then .ok (3 + k + 1) (Utf8.encode P).data.toList else .bad 16) else .bad 13) := by
              unfold Hid
              have := hes.out
              rw [ha, hg, hP.out] at this
              rw [this]
              first | done | (simp; done)
            obtain ⟨k125, hk125⟩ : ∃ q, ((g.toNat : Int) != 125) = q := ⟨_, rfl⟩
            have e125 : g.toNat = 125 ↔ k125 = false := by rw [← hk125]; simp; omega
            clear hes hPn hPn2 hg
            by_cases hk1 : (k : Int) < 1
            · have hbad : Hid (esc (s.data.toList.drop i) = .bad 13) := by
                unfold Hid
                rw [hes2.out, if_neg]
                rintro ⟨h1, _⟩
                omega
              go_wp2_with fail
              go_at_call 49
              (with_reducible refine (fail_ok HB.out _ _).mono ?_)
              rintro e1 w4 ⟨rfl, hb4, hc4⟩
              go_wp2_with fail
              (first | go_end0 | refine bodyPost_ret (results_none rfl _ _ _) rfl ?_)
              rw [hbad.out]
              exact ⟨rfl, HF.out.trans (Fr.of_chg hc4), _, hb4⟩
            · by_cases hk6 : (6 : Int) < (k : Int)
              · exfalso; omega
              · cases k125
                · have hes3 : Hid (esc (s.data.toList.drop i) = if isPt P = true then .ok (3 + k + 1) (Utf8.encode P).data.toList else .bad 16) := by
                    unfold Hid
                    rw [hes2.out, if_pos ⟨by omega, by omega, e125.2 rfl⟩]
                  have EN := Lib.hid (fun wx => encode_any P wx ⟨hPb1, by omega⟩)
                  clear e125 hes2
                  go_wp2_with fail
                  go_at_call 73
                  (with_reducible refine (BN.out _ HB.out).mono ?_)
                  rintro e1 wn ⟨rfl, hb⟩
                  replace HB := Lib.hid (HB.out.grow hb)
                  replace HI := Lib.hid (isB_grow HI.out hb)
                  replace HF := Lib.hid (HF.out.trans (Fr.of_grow hb))
                  clear hb c0 c1 c2 c3 f0 f1 f2 f3 lt
                  (obtain ⟨c0, c1, c2, c3⟩ := HB.out.c4; obtain ⟨f0, f1, f2, f3⟩ := HB.out.f4; have lt := HB.out.lt)
                  by_cases hpt : isPt P = true
                  · have hes4 : Hid (esc (s.data.toList.drop i) = .ok (3 + k + 1) (Utf8.encode P).data.toList) := by
                      unfold Hid
                      rw [hes3.out, if_pos hpt]
                    have hsz4 : (Utf8.encode P).size ≤ 4 := by
                      unfold Utf8.encode
                      simp only
                      repeat' split
                      all_goals exact Nat.le_of_ble_eq_true rfl
                    rw [hpt] at EN
                    simp only [if_true] at EN
                    obtain ⟨U, hU⟩ : ∃ U, Utf8.encode P = U := ⟨_, rfl⟩
                    rw [hU] at EN hes4 hsz4
                    clear hU hes3
                    go_wp2_with fail
                    go_at_call 107
                    (with_reducible refine (EN.out _).mono ?_)
                    rintro e1 w5 ⟨rfl, rfl⟩
                    go_wp2_with fail
                    go_at_call 63
                    (with_reducible refine (wstring_any (isB_set HI.out hbN _) U (by omega) (by have := isB_lt HI.out; simp; omega)).mono ?_)
                    rintro e1 w6 ⟨rfl, hi6, hb6⟩
                    go_wp2_with fail
                    (first | go_end0 | refine bodyPost_ret (results_none rfl _ _ _) rfl ?_)
                    rw [hes4.out]
                    refine ⟨rfl, (HF.out.set _ _).trans (Fr.of_below hb6), ?_, hi6⟩
                    have := (HB.out.put (i := 1) (v := .int .i64 ((a + 1 : Nat) : Int)) rfl).below hb6 hbN
                    rw [show i + (3 + k + 1) = a + 1 by have := hm.out; omega]
                    exact this
                  · have hbad : Hid (esc (s.data.toList.drop i) = .bad 16) := by
                      unfold Hid
                      rw [hes3.out, if_neg hpt]
                    rw [if_neg hpt] at EN
                    clear hes3
                    go_wp2_with fail
                    go_at_call 107
                    (with_reducible refine (EN.out _).mono ?_)
                    rintro e1 w5 ⟨rfl, rfl⟩
                    go_wp2_with fail
                    go_at_call 49
                    (with_reducible refine (fail_ok (i := a + 1) (HB.out.put (i := 1) (v := .int .i64 ((a : Int) + 1)) rfl) _ _).mono ?_)
                    rintro e1 w4 ⟨rfl, hb4, hc4⟩
                    go_wp2_with fail
                    (first | go_end0 | refine bodyPost_ret (results_none rfl _ _ _) rfl ?_)
                    rw [hbad.out]
                    exact ⟨rfl, (HF.out.set _ _).trans (Fr.of_chg hc4), _, hb4⟩
                · have hbad : Hid (esc (s.data.toList.drop i) = .bad 13) := by
                    unfold Hid
                    rw [hes2.out, if_neg]
                    rintro ⟨_, _, h1⟩
                    have := e125.1 h1
                    cases this
                  go_wp2_with fail
                  go_at_call 73
                  (with_reducible refine (BN.out _ HB.out).mono ?_)
                  rintro e1 wn ⟨rfl, hb⟩
                  replace HB := Lib.hid (HB.out.grow hb)
                  replace HI := Lib.hid (isB_grow HI.out hb)
                  replace HF := Lib.hid (HF.out.trans (Fr.of_grow hb))
                  clear hb
                  go_wp2_with fail
                  go_at_call 49
                  (with_reducible refine (fail_ok HB.out _ _).mono ?_)
                  rintro e1 w4 ⟨rfl, hb4, hc4⟩
                  go_wp2_with fail
                  (first | go_end0 | refine bodyPost_ret (results_none rfl _ _ _) rfl ?_)
                  rw [hbad.out]
                  exact ⟨rfl, HF.out.trans (Fr.of_chg hc4), _, hb4⟩
        · have hk7' : k = 7 := by omega
          have hbad : Hid (esc (s.data.toList.drop i) = .bad 13) := by
            unfold Hid
            rw [hes.out, if_neg]
            rintro ⟨_, _, _, h1, _⟩
            omega
          have hk6 : (6 : Int) < (k : Int) := by omega
          have hk1 : ¬ (k : Int) < 1 := by omega
          clear hst hPs
          (obtain ⟨c0, c1, c2, c3⟩ := HB.out.c4; obtain ⟨f0, f1, f2, f3⟩ := HB.out.f4; have lt := HB.out.lt)
          go_wp2_with fail
          refine wp_region_ord [(0, 1), (1, 1), (2, 1), (3, 1), (4, 1), (5, 1), (6, 1), (7, 1), (8, 1), (9, 1), (10, 1), (11, 1), (12, 1), (13, 1), (14, 1), (15, 1), (16, 1), (17, 1), (18, 1), (19, 1), (20, 1), (21, 1), (22, 1), (23, 1), (24, 2), (25, 1), (26, 1)] [] 5 (by kernel_rfl) (by decide +kernel) ?_
          simp only [pickO, List.append_eq, List.cons_append, List.nil_append, List.getElem?_cons_succ, List.getElem?_cons_zero]
          intro w0 hG
          (repeat ((first | (with_reducible refine ord_q1 ?_) | (with_reducible refine ord_q0 ?_)); intro K hK; first | (refine Or.inr ⟨?_, ?_⟩; (focus (go_simp; first | done | (simp [undef]; done))); go_simp; (with_reducible refine hK _ ?_); clear hK K) | (refine Or.inl ⟨?_, ?_⟩; (focus (go_simp; done)); apply Exists.intro; refine And.intro ?_ ?_; (focus (first | (intro wq hq; obtain ⟨hcq, hfq⟩ := G.old hq; go_simp; (first | done | exact rfl); done) | (intro wq; go_simp; (first | done | exact rfl); done))); go_simp; (with_reducible refine hK _ ?_); clear hK K) | fail))
          (with_reducible refine ord_skip ?_ hG ?_); (focus (go_simp; first | done | (simp [undef]; done))); intro K hK; go_simp; (with_reducible refine hK _ ?_); clear hK K; (repeat ((first | (with_reducible refine ord_q1 ?_) | (with_reducible refine ord_q0 ?_)); intro K hK; first | (refine Or.inr ⟨?_, ?_⟩; (focus (go_simp; first | done | (simp [undef]; done))); go_simp; (with_reducible refine hK _ ?_); clear hK K) | (refine Or.inl ⟨?_, ?_⟩; (focus (go_simp; done)); apply Exists.intro; refine And.intro ?_ ?_; (focus (first | (intro wq hq; obtain ⟨hcq, hfq⟩ := G.old hq; go_simp; (first | done | exact rfl); done) | (intro wq; go_simp; (first | done | exact rfl); done))); go_simp; (with_reducible refine hK _ ?_); clear hK K) | fail))
          (with_reducible refine ord_nil ?_)
          have hbx := hG.b; replace HB := Lib.hid (HB.out.grow hbx); replace HI := Lib.hid (isB_grow HI.out hbx); replace HF := Lib.hid (HF.out.trans (Fr.of_grow hbx)); clear hG hbx c0 c1 c2 c3 f0 f1 f2 f3 lt; (obtain ⟨c0, c1, c2, c3⟩ := HB.out.c4; obtain ⟨f0, f1, f2, f3⟩ := HB.out.f4; have lt := HB.out.lt)
          go_wp2_with fail
          go_at_call 49
          (with_reducible refine (fail_ok HB.out _ _).mono ?_)
          rintro e1 w4 ⟨rfl, hb4, hc4⟩
          go_wp2_with fail
          (first | go_end0 | refine bodyPost_ret (results_none rfl _ _ _) rfl ?_)
          rw [hbad.out]
          exact ⟨rfl, HF.out.trans (Fr.of_chg hc4), _, hb4⟩
  · have hcase := simple_some hsm
    have hdn : d.toNat ≠ 0 := simple_nz hsm
    have hi1 := hin1 hdn
    have hi1' : (i : Int) + 1 < (s.size : Int) := by omega
    rw [hsm] at hes
    dsimp only at hes
    replace hes := Lib.hid hes
    replace hd := Lib.hid hd
    clear hin1 hin2 hf BA2 hx3 hdn
    rcases hcase with ⟨rfl, rfl⟩ | ⟨rfl, rfl⟩ | ⟨rfl, rfl⟩ | ⟨rfl, rfl⟩ | ⟨rfl, rfl⟩
    · have hix : Lib.indexByte [34, 92, 110, 114, 116] 34 = 0 := by decide
      rw [hix, show ((UInt8.toNat 34 : Nat) : Int) = 34 from rfl] at IB
      rw [show ((UInt8.toNat 34 : Nat) : Int) = 34 from rfl] at BA1
      have hI9 : ∀ (wx : World), (Instr.index 9 (.string ⟨#[34, 92, 10, 13, 9]⟩) (.int .i64 0)).run Tryz.prog wx = .ok (.int .u8 34) wx := fun wx => by kernel_rfl
      (obtain ⟨c0, c1, c2, c3⟩ := HB.out.c4; obtain ⟨f0, f1, f2, f3⟩ := HB.out.f4; have lt := HB.out.lt)
      go_enter Tryz.func80, Tryz.ntmps80
      go_wp2_with fail
      (go_at_call 73; (with_reducible refine (BA1.out _ HB.out).mono ?_); rintro e1 wn ⟨rfl, hb⟩; replace HB := Lib.hid (HB.out.grow hb); replace HI := Lib.hid (isB_grow HI.out hb); replace HF := Lib.hid (HF.out.trans (Fr.of_grow hb)); clear hb)
      go_wp2_with fail
      go_at_call 58
      (with_reducible refine (IB.out _).mono ?_)
      rintro e1 w2 ⟨rfl, rfl⟩
      (obtain ⟨c0, c1, c2, c3⟩ := HB.out.c4; obtain ⟨f0, f1, f2, f3⟩ := HB.out.f4; have lt := HB.out.lt)
      go_wp2_with fail
      refine wp_region_ord [(0, 1), (1, 1), (2, 1), (3, 1), (4, 1), (5, 1), (6, 1), (7, 1), (8, 1), (9, 1), (10, 1), (11, 1), (12, 1), (13, 1), (14, 1)] [] 5 (by kernel_rfl) (by decide +kernel) ?_
      simp only [pickO, List.append_eq, List.cons_append, List.nil_append, List.getElem?_cons_succ, List.getElem?_cons_zero]
      intro w0 hG
      (repeat ((first | (with_reducible refine ord_q1 ?_) | (with_reducible refine ord_q0 ?_)); intro K hK; first | (refine Or.inr ⟨?_, ?_⟩; (focus (go_simp; first | done | (simp [undef]; done))); go_simp; (with_reducible refine hK _ ?_); clear hK K) | (refine Or.inl ⟨?_, ?_⟩; (focus (go_simp; done)); apply Exists.intro; refine And.intro ?_ ?_; (focus (first | (intro wq hq; obtain ⟨hcq, hfq⟩ := G.old hq; go_simp; (first | done | exact rfl); done) | (intro wq; go_simp; (first | done | exact rfl); done))); go_simp; (with_reducible refine hK _ ?_); clear hK K) | fail))
      (with_reducible refine ord_nil ?_)
      have hbx := hG.b; replace HB := Lib.hid (HB.out.grow hbx); replace HI := Lib.hid (isB_grow HI.out hbx); replace HF := Lib.hid (HF.out.trans (Fr.of_grow hbx)); clear hG hbx c0 c1 c2 c3 f0 f1 f2 f3 lt; (obtain ⟨c0, c1, c2, c3⟩ := HB.out.c4; obtain ⟨f0, f1, f2, f3⟩ := HB.out.f4; have lt := HB.out.lt)
      go_wp2_with fail
      go_at_call 62
      (with_reducible refine (wbyte_any HI.out _ (by omega) (Nat.le_of_lt (isB_lt HI.out))).mono ?_)
      rintro e1 w3 ⟨rfl, hi3, hb3⟩
      replace HF := Lib.hid (HF.out.trans (Fr.of_below hb3))
      replace HB := Lib.hid (HB.out.below hb3 hbN)
      replace HI := Lib.hid hi3
      clear hb3 hi3 c0 c1 c2 c3 f0 f1 f2 f3 lt
      (obtain ⟨c0, c1, c2, c3⟩ := HB.out.c4; obtain ⟨f0, f1, f2, f3⟩ := HB.out.f4; have lt := HB.out.lt)
      go_wp2_with fail
      (first | go_end0 | refine bodyPost_ret (results_none rfl _ _ _) rfl ?_)
      rw [hes.out]
      exact ⟨rfl, HF.out.set _ _, HB.out.put (i := 1) (v := .int .i64 ((i + 2 : Nat) : Int)) rfl, isB_set HI.out hbN _⟩
    · have hix : Lib.indexByte [34, 92, 110, 114, 116] 92 = 1 := by decide
      rw [hix, show ((UInt8.toNat 92 : Nat) : Int) = 92 from rfl] at IB
      rw [show ((UInt8.toNat 92 : Nat) : Int) = 92 from rfl] at BA1
      have hI9 : ∀ (wx : World), (Instr.index 9 (.string ⟨#[34, 92, 10, 13, 9]⟩) (.int .i64 1)).run Tryz.prog wx = .ok (.int .u8 92) wx := fun wx => by kernel_rfl
      (obtain ⟨c0, c1, c2, c3⟩ := HB.out.c4; obtain ⟨f0, f1, f2, f3⟩ := HB.out.f4; have lt := HB.out.lt)
      go_enter Tryz.func80, Tryz.ntmps80
      go_wp2_with fail
      (go_at_call 73; (with_reducible refine (BA1.out _ HB.out).mono ?_); rintro e1 wn ⟨rfl, hb⟩; replace HB := Lib.hid (HB.out.grow hb); replace HI := Lib.hid (isB_grow HI.out hb); replace HF := Lib.hid (HF.out.trans (Fr.of_grow hb)); clear hb)
      go_wp2_with fail
      go_at_call 58
      (with_reducible refine (IB.out _).mono ?_)
      rintro e1 w2 ⟨rfl, rfl⟩
      (obtain ⟨c0, c1, c2, c3⟩ := HB.out.c4; obtain ⟨f0, f1, f2, f3⟩ := HB.out.f4; have lt := HB.out.lt)
      go_wp2_with fail
      refine wp_region_ord [(0, 1), (1, 1), (2, 1), (3, 1), (4, 1), (5, 1), (6, 1), (7, 1), (8, 1), (9, 1), (10, 1), (11, 1), (12, 1), (13, 1), (14, 1)] [] 5 (by kernel_rfl) (by decide +kernel) ?_
      simp only [pickO, List.append_eq, List.cons_append, List.nil_append, List.getElem?_cons_succ, List.getElem?_cons_zero]
      intro w0 hG
      (repeat ((first | (with_reducible refine ord_q1 ?_) | (with_reducible refine ord_q0 ?_)); intro K hK; first | (refine Or.inr ⟨?_, ?_⟩; (focus (go_simp; first | done | (simp [undef]; done))); go_simp; (with_reducible refine hK _ ?_); clear hK K) | (refine Or.inl ⟨?_, ?_⟩; (focus (go_simp; done)); apply Exists.intro; refine And.intro ?_ ?_; (focus (first | (intro wq hq; obtain ⟨hcq, hfq⟩ := G.old hq; go_simp; (first | done | exact rfl); done) | (intro wq; go_simp; (first | done | exact rfl); done))); go_simp; (with_reducible refine hK _ ?_); clear hK K) | fail))
      (with_reducible refine ord_nil ?_)
      have hbx := hG.b; replace HB := Lib.hid (HB.out.grow hbx); replace HI := Lib.hid (isB_grow HI.out hbx); replace HF := Lib.hid (HF.out.trans (Fr.of_grow hbx)); clear hG hbx c0 c1 c2 c3 f0 f1 f2 f3 lt; (obtain ⟨c0, c1, c2, c3⟩ := HB.out.c4; obtain ⟨f0, f1, f2, f3⟩ := HB.out.f4; have lt := HB.out.lt)
      go_wp2_with fail
      go_at_call 62
      (with_reducible refine (wbyte_any HI.out _ (by omega) (Nat.le_of_lt (isB_lt HI.out))).mono ?_)
      rintro e1 w3 ⟨rfl, hi3, hb3⟩
      replace HF := Lib.hid (HF.out.trans (Fr.of_below hb3))
      replace HB := Lib.hid (HB.out.below hb3 hbN)
      replace HI := Lib.hid hi3
      clear hb3 hi3 c0 c1 c2 c3 f0 f1 f2 f3 lt
      (obtain ⟨c0, c1, c2, c3⟩ := HB.out.c4; obtain ⟨f0, f1, f2, f3⟩ := HB.out.f4; have lt := HB.out.lt)
      go_wp2_with fail
      (first | go_end0 | refine bodyPost_ret (results_none rfl _ _ _) rfl ?_)
      rw [hes.out]
      exact ⟨rfl, HF.out.set _ _, HB.out.put (i := 1) (v := .int .i64 ((i + 2 : Nat) : Int)) rfl, isB_set HI.out hbN _⟩
    · have hix : Lib.indexByte [34, 92, 110, 114, 116] 110 = 2 := by decide
      rw [hix, show ((UInt8.toNat 110 : Nat) : Int) = 110 from rfl] at IB
      rw [show ((UInt8.toNat 110 : Nat) : Int) = 110 from rfl] at BA1
      have hI9 : ∀ (wx : World), (Instr.index 9 (.string ⟨#[34, 92, 10, 13, 9]⟩) (.int .i64 2)).run Tryz.prog wx = .ok (.int .u8 10) wx := fun wx => by kernel_rfl
      (obtain ⟨c0, c1, c2, c3⟩ := HB.out.c4; obtain ⟨f0, f1, f2, f3⟩ := HB.out.f4; have lt := HB.out.lt)
      go_enter Tryz.func80, Tryz.ntmps80
      go_wp2_with fail
      (go_at_call 73; (with_reducible refine (BA1.out _ HB.out).mono ?_); rintro e1 wn ⟨rfl, hb⟩; replace HB := Lib.hid (HB.out.grow hb); replace HI := Lib.hid (isB_grow HI.out hb); replace HF := Lib.hid (HF.out.trans (Fr.of_grow hb)); clear hb)
      go_wp2_with fail
      go_at_call 58
      (with_reducible refine (IB.out _).mono ?_)
      rintro e1 w2 ⟨rfl, rfl⟩
      (obtain ⟨c0, c1, c2, c3⟩ := HB.out.c4; obtain ⟨f0, f1, f2, f3⟩ := HB.out.f4; have lt := HB.out.lt)
      go_wp2_with fail
      refine wp_region_ord [(0, 1), (1, 1), (2, 1), (3, 1), (4, 1), (5, 1), (6, 1), (7, 1), (8, 1), (9, 1), (10, 1), (11, 1), (12, 1), (13, 1), (14, 1)] [] 5 (by kernel_rfl) (by decide +kernel) ?_
      simp only [pickO, List.append_eq, List.cons_append, List.nil_append, List.getElem?_cons_succ, List.getElem?_cons_zero]
      intro w0 hG
      (repeat ((first | (with_reducible refine ord_q1 ?_) | (with_reducible refine ord_q0 ?_)); intro K hK; first | (refine Or.inr ⟨?_, ?_⟩; (focus (go_simp; first | done | (simp [undef]; done))); go_simp; (with_reducible refine hK _ ?_); clear hK K) | (refine Or.inl ⟨?_, ?_⟩; (focus (go_simp; done)); apply Exists.intro; refine And.intro ?_ ?_; (focus (first | (intro wq hq; obtain ⟨hcq, hfq⟩ := G.old hq; go_simp; (first | done | exact rfl); done) | (intro wq; go_simp; (first | done | exact rfl); done))); go_simp; (with_reducible refine hK _ ?_); clear hK K) | fail))
      (with_reducible refine ord_nil ?_)
      have hbx := hG.b; replace HB := Lib.hid (HB.out.grow hbx); replace HI := Lib.hid (isB_grow HI.out hbx); replace HF := Lib.hid (HF.out.trans (Fr.of_grow hbx)); clear hG hbx c0 c1 c2 c3 f0 f1 f2 f3 lt; (obtain ⟨c0, c1, c2, c3⟩ := HB.out.c4; obtain ⟨f0, f1, f2, f3⟩ := HB.out.f4; have lt := HB.out.lt)
      go_wp2_with fail
      go_at_call 62
      (with_reducible refine (wbyte_any HI.out _ (by omega) (Nat.le_of_lt (isB_lt HI.out))).mono ?_)
      rintro e1 w3 ⟨rfl, hi3, hb3⟩
      replace HF := Lib.hid (HF.out.trans (Fr.of_below hb3))
      replace HB := Lib.hid (HB.out.below hb3 hbN)
      replace HI := Lib.hid hi3
      clear hb3 hi3 c0 c1 c2 c3 f0 f1 f2 f3 lt
      (obtain ⟨c0, c1, c2, c3⟩ := HB.out.c4; obtain ⟨f0, f1, f2, f3⟩ := HB.out.f4; have lt := HB.out.lt)
      go_wp2_with fail
      (first | go_end0 | refine bodyPost_ret (results_none rfl _ _ _) rfl ?_)
      rw [hes.out]
      exact ⟨rfl, HF.out.set _ _, HB.out.put (i := 1) (v := .int .i64 ((i + 2 : Nat) : Int)) rfl, isB_set HI.out hbN _⟩
    · have hix : Lib.indexByte [34, 92, 110, 114, 116] 114 = 3 := by decide
      rw [hix, show ((UInt8.toNat 114 : Nat) : Int) = 114 from rfl] at IB
      rw [show ((UInt8.toNat 114 : Nat) : Int) = 114 from rfl] at BA1
      have hI9 : ∀ (wx : World), (Instr.index 9 (.string ⟨#[34, 92, 10, 13, 9]⟩) (.int .i64 3)).run Tryz.prog wx = .ok (.int .u8 13) wx := fun wx => by kernel_rfl
      (obtain ⟨c0, c1, c2, c3⟩ := HB.out.c4; obtain ⟨f0, f1, f2, f3⟩ := HB.out.f4; have lt := HB.out.lt)
      go_enter Tryz.func80, Tryz.ntmps80
      go_wp2_with fail
      (go_at_call 73; (with_reducible refine (BA1.out _ HB.out).mono ?_); rintro e1 wn ⟨rfl, hb⟩; replace HB := Lib.hid (HB.out.grow hb); replace HI := Lib.hid (isB_grow HI.out hb); replace HF := Lib.hid (HF.out.trans (Fr.of_grow hb)); clear hb)
      go_wp2_with fail
      go_at_call 58
      (with_reducible refine (IB.out _).mono ?_)
      rintro e1 w2 ⟨rfl, rfl⟩
      (obtain ⟨c0, c1, c2, c3⟩ := HB.out.c4; obtain ⟨f0, f1, f2, f3⟩ := HB.out.f4; have lt := HB.out.lt)
      go_wp2_with fail
      refine wp_region_ord [(0, 1), (1, 1), (2, 1), (3, 1), (4, 1), (5, 1), (6, 1), (7, 1), (8, 1), (9, 1), (10, 1), (11, 1), (12, 1), (13, 1), (14, 1)] [] 5 (by kernel_rfl) (by decide +kernel) ?_
      simp only [pickO, List.append_eq, List.cons_append, List.nil_append, List.getElem?_cons_succ, List.getElem?_cons_zero]
      intro w0 hG
      (repeat ((first | (with_reducible refine ord_q1 ?_) | (with_reducible refine ord_q0 ?_)); intro K hK; first | (refine Or.inr ⟨?_, ?_⟩; (focus (go_simp; first | done | (simp [undef]; done))); go_simp; (with_reducible refine hK _ ?_); clear hK K) | (refine Or.inl ⟨?_, ?_⟩; (focus (go_simp; done)); apply Exists.intro; refine And.intro ?_ ?_; (focus (first | (intro wq hq; obtain ⟨hcq, hfq⟩ := G.old hq; go_simp; (first | done | exact rfl); done) | (intro wq; go_simp; (first | done | exact rfl); done))); go_simp; (with_reducible refine hK _ ?_); clear hK K) | fail))
      (with_reducible refine ord_nil ?_)
      have hbx := hG.b; replace HB := Lib.hid (HB.out.grow hbx); replace HI := Lib.hid (isB_grow HI.out hbx); replace HF := Lib.hid (HF.out.trans (Fr.of_grow hbx)); clear hG hbx c0 c1 c2 c3 f0 f1 f2 f3 lt; (obtain ⟨c0, c1, c2, c3⟩ := HB.out.c4; obtain ⟨f0, f1, f2, f3⟩ := HB.out.f4; have lt := HB.out.lt)
      go_wp2_with fail
      go_at_call 62
      (with_reducible refine (wbyte_any HI.out _ (by omega) (Nat.le_of_lt (isB_lt HI.out))).mono ?_)
      rintro e1 w3 ⟨rfl, hi3, hb3⟩
      replace HF := Lib.hid (HF.out.trans (Fr.of_below hb3))
      replace HB := Lib.hid (HB.out.below hb3 hbN)
      replace HI := Lib.hid hi3
      clear hb3 hi3 c0 c1 c2 c3 f0 f1 f2 f3 lt
      (obtain ⟨c0, c1, c2, c3⟩ := HB.out.c4; obtain ⟨f0, f1, f2, f3⟩ := HB.out.f4; have lt := HB.out.lt)
      go_wp2_with fail
      (first | go_end0 | refine bodyPost_ret (results_none rfl _ _ _) rfl ?_)
      rw [hes.out]
      exact ⟨rfl, HF.out.set _ _, HB.out.put (i := 1) (v := .int .i64 ((i + 2 : Nat) : Int)) rfl, isB_set HI.out hbN _⟩
    · have hix : Lib.indexByte [34, 92, 110, 114, 116] 116 = 4 := by decide
      rw [hix, show ((UInt8.toNat 116 : Nat) : Int) = 116 from rfl] at IB
      rw [show ((UInt8.toNat 116 : Nat) : Int) = 116 from rfl] at BA1
      have hI9 : ∀ (wx : World), (Instr.index 9 (.string ⟨#[34, 92, 10, 13, 9]⟩) (.int .i64 4)).run Tryz.prog wx = .ok (.int .u8 9) wx := fun wx => by kernel_rfl
      (obtain ⟨c0, c1, c2, c3⟩ := HB.out.c4; obtain ⟨f0, f1, f2, f3⟩ := HB.out.f4; have lt := HB.out.lt)
      go_enter Tryz.func80, Tryz.ntmps80
      go_wp2_with fail
      (go_at_call 73; (with_reducible refine (BA1.out _ HB.out).mono ?_); rintro e1 wn ⟨rfl, hb⟩; replace HB := Lib.hid (HB.out.grow hb); replace HI := Lib.hid (isB_grow HI.out hb); replace HF := Lib.hid (HF.out.trans (Fr.of_grow hb)); clear hb)
      go_wp2_with fail
      go_at_call 58
      (with_reducible refine (IB.out _).mono ?_)
      rintro e1 w2 ⟨rfl, rfl⟩
      (obtain ⟨c0, c1, c2, c3⟩ := HB.out.c4; obtain ⟨f0, f1, f2, f3⟩ := HB.out.f4; have lt := HB.out.lt)
      go_wp2_with fail
      refine wp_region_ord [(0, 1), (1, 1), (2, 1), (3, 1), (4, 1), (5, 1), (6, 1), (7, 1), (8, 1), (9, 1), (10, 1), (11, 1), (12, 1), (13, 1), (14, 1)] [] 5 (by kernel_rfl) (by decide +kernel) ?_
      simp only [pickO, List.append_eq, List.cons_append, List.nil_append, List.getElem?_cons_succ, List.getElem?_cons_zero]
      intro w0 hG
      (repeat ((first | (with_reducible refine ord_q1 ?_) | (with_reducible refine ord_q0 ?_)); intro K hK; first | (refine Or.inr ⟨?_, ?_⟩; (focus (go_simp; first | done | (simp [undef]; done))); go_simp; (with_reducible refine hK _ ?_); clear hK K) | (refine Or.inl ⟨?_, ?_⟩; (focus (go_simp; done)); apply Exists.intro; refine And.intro ?_ ?_; (focus (first | (intro wq hq; obtain ⟨hcq, hfq⟩ := G.old hq; go_simp; (first | done | exact rfl); done) | (intro wq; go_simp; (first | done | exact rfl); done))); go_simp; (with_reducible refine hK _ ?_); clear hK K) | fail))
      (with_reducible refine ord_nil ?_)
      have hbx := hG.b; replace HB := Lib.hid (HB.out.grow hbx); replace HI := Lib.hid (isB_grow HI.out hbx); replace HF := Lib.hid (HF.out.trans (Fr.of_grow hbx)); clear hG hbx c0 c1 c2 c3 f0 f1 f2 f3 lt; (obtain ⟨c0, c1, c2, c3⟩ := HB.out.c4; obtain ⟨f0, f1, f2, f3⟩ := HB.out.f4; have lt := HB.out.lt)
      go_wp2_with fail
      go_at_call 62
      (with_reducible refine (wbyte_any HI.out _ (by omega) (Nat.le_of_lt (isB_lt HI.out))).mono ?_)
      rintro e1 w3 ⟨rfl, hi3, hb3⟩
      replace HF := Lib.hid (HF.out.trans (Fr.of_below hb3))
      replace HB := Lib.hid (HB.out.below hb3 hbN)
      replace HI := Lib.hid hi3
      clear hb3 hi3 c0 c1 c2 c3 f0 f1 f2 f3 lt
      (obtain ⟨c0, c1, c2, c3⟩ := HB.out.c4; obtain ⟨f0, f1, f2, f3⟩ := HB.out.f4; have lt := HB.out.lt)
      go_wp2_with fail
      (first | go_end0 | refine bodyPost_ret (results_none rfl _ _ _) rfl ?_)
      rw [hes.out]
      exact ⟨rfl, HF.out.set _ _, HB.out.put (i := 1) (v := .int .i64 ((i + 2 : Nat) : Int)) rfl, isB_set HI.out hbN _⟩
end
end Go.Proofs.YtmchiibbodllaaaGreatDoor
