/- lexer: text. -/
import Derived.Test.YtmchiibbodllaaaGreatDoorScH
namespace Go.Proofs.YtmchiibbodllaaaGreatDoor
set_option linter.unusedVariables false
set_option linter.unnecessarySimpa false
set_option linter.unusedSimpArgs false
open Go.RowKit

theorem isWay3 (q : List UInt8) : way q = 3 ↔ (nth q 0).toNat = 34 := by
  unfold way
  constructor
  · intro h
    split at h
    · omega
    · split at h
      · omega
      · split at h
        · omega
        · split at h
          · assumption
          · omega
  · intro h
    have h2 : ¬ isLet (nth q 0) = true := by unfold isLet; simp; omega
    have h3 : ¬ isDig (nth q 0) = true := by unfold isDig; simp; omega
    rw [if_neg (by omega), if_neg h2, if_neg h3, if_pos h]
theorem strB_step (f : Nat) (r : List UInt8) (i : Nat) (acc : List UInt8) : strB (f + 1) r i acc =
    if r.length ≤ i then .bad r.length 29
    else if (nth r i).toNat = 34 then .ok (i + 1) acc
    else if (nth r i).toNat = 92 then
      match esc (r.drop i) with
      | .ok n b => strB f r (i + n) (acc ++ b)
      | .bad e => .bad i e
    else if (nth r i).toNat < 32 ∨ (nth r i).toNat = 127 then .bad i 6
    else if decBad (r.drop i) then .bad i 16
    else strB f r (i + (dec (r.drop i)).2) (acc ++ (r.drop i).take (dec (r.drop i)).2) := rfl
theorem esc_len {q : List UInt8} {n : Nat} {l : List UInt8} (h : esc q = .ok n l) : l.length ≤ n := by
  unfold esc at h
  rcases hs : simple (nth q 1) with _ | b <;> rw [hs] at h
  · simp only at h
    split at h
    · rename_i h2
      split at h
      · injection h with h3 h4
        subst h3 h4
        have : (Utf8.encode (hexN ((q.drop 3).take (spn isHex (q.drop 3))))).data.toList.length ≤ 4 := by
          unfold Utf8.encode
          simp only
          repeat' split
          all_goals exact Nat.le_of_ble_eq_true rfl
        omega
      · cases h
    · cases h
  · simp only at h
    injection h with h3 h4
    subst h3 h4
    simp
theorem byteCells_len (l : List UInt8) : (Lib.byteCells l).length = l.length := by unfold Lib.byteCells; rw [List.length_map]
def Going (s : ByteArray) (b NB i : Nat) (wg : Int) (wx : World) : Prop :=
  ∃ (q f : Nat) (acc : List UInt8), 1 ≤ q ∧ i + q ≤ s.size ∧ acc.length + 1 ≤ q ∧ (s.data.toList.drop i).length < q + f ∧ strB ((s.data.toList.drop i).length + 1) (s.data.toList.drop i) 1 [] = strB f (s.data.toList.drop i) q acc ∧
    Bx wx b (scC s ((i + q : Nat) : Int) wg 0) ∧ IsB NB NB (Lib.byteCells acc) wx
def Failed (s : ByteArray) (b i : Nat) (wx : World) : Prop :=
  ∃ (o : Nat) (e p : Int), e ≠ 0 ∧ strB ((s.data.toList.drop i).length + 1) (s.data.toList.drop i) 1 [] = .bad o e ∧ Bx wx b (scC s p ((i + o : Nat) : Int) e)
def msr (n : Nat) (b : Nat) (wx : World) : Nat := if rdI wx ⟨b, 3, none⟩ = 0 then n + 2 - (rdI wx ⟨b, 1, none⟩).toNat else 0
theorem msr_go {n b : Nat} {wx : World} {s : ByteArray} {p : Nat} {wg : Int} (h : Bx wx b (scC s (p : Int) wg 0)) : msr n b wx = n + 2 - p := by
  unfold msr
  rw [rdI_of h.c4.2.2.2, rdI_at h]
  simp
theorem msr_bad {n b : Nat} {wx : World} {s : ByteArray} {p wg e : Int} (h : Bx wx b (scC s p wg e)) (he : e ≠ 0) : msr n b wx = 0 := by
  unfold msr
  rw [rdI_of h.c4.2.2.2, if_neg he]
section
variable {w : World} {b r : Nat} {s : ByteArray} {i : Nat} {wg ln cl : Int} {j : Bool}
set_option maxRecDepth 20000 in set_option maxHeartbeats 8000000 in
theorem scText_any (hE : Env w) (hgb : ¬ GB b) (hgr : ¬ GB r) (h : Bx w b (scC s i wg 0)) (ht : Bx w r (tkC 0 ln cl ⟨#[]⟩ ⟨#[]⟩ 0 0 j)) (hbr : r ≠ b) (hs : s.size ≤ 100000) (hi : i < s.size) :
    Calls Tryz.prog 46 #[.pointer (some ⟨b, 0, none⟩), .pointer (some ⟨r, 0, none⟩)] w (RetRd w b r s i wg ln cl j 3 (lexS (s.data.toList.drop i))) := by
  have HB := Lib.hid h
  have HT := Lib.hid ht
  have HE := Lib.hid hE
  have HG := Lib.hid (G.refl w)
  have hw := isWay3 (s.data.toList.drop i)
  rw [nth_drop0] at hw
  have BA0 := Lib.hid (fun wx hb => byteAt0 (w := wx) (b := b) (s := s) (i := i) (wg := wg) (e := 0) hb hs (by omega))
  obtain ⟨c, hc⟩ : ∃ c, nth s.data.toList i = c := ⟨_, rfl⟩
  rw [hc] at hw BA0
  obtain ⟨k34, hk34⟩ : ∃ k, ((c.toNat : Int) != 34) = k := ⟨_, rfl⟩
  have e34 : c.toNat = 34 ↔ k34 = false := by rw [← hk34]; simp; omega
  rw [e34] at hw
  clear e34 hc h ht hE
  cases k34
  · have hyes : Hid (way (s.data.toList.drop i) = 3) := hw.2 rfl
    have fin : Hid (∀ (e : Ending) (wz : World), e = .returned (.bool true) → Rd w wz b r s i wg ln cl j (lexS (s.data.toList.drop i)) → RetRd w b r s i wg ln cl j 3 (lexS (s.data.toList.drop i)) e wz) := fun e wz h1 h2 => ⟨fun _ => ⟨h1, h2⟩, fun k => absurd hyes.out k⟩
    have hlx := Lib.hid (lexS.eq_1 (s.data.toList.drop i))
    have hrl : Hid ((s.data.toList.drop i).length = s.size - i) := by unfold Hid; rw [List.length_drop]; rfl
    have hx1 : IntKind.i64.wrap ((i : Int) + 1) = ((i + 1 : Nat) : Int) := by rw [IntWalk.i64_in _ (by omega)]; simp
    clear hw
    go_enter Tryz.func46, Tryz.ntmps46
    go_wp2_with fail
    (go_at_call 73; (with_reducible refine (BA0.out _ HB.out).mono ?_); rintro e1 wn ⟨rfl, hb⟩; replace HB := Lib.hid (HB.out.grow hb); replace HT := Lib.hid (HT.out.grow hb); replace HG := Lib.hid (G.trans HG.out hb); clear hb)
    (obtain ⟨c0, c1, c2, c3⟩ := HB.out.c4; obtain ⟨f0, f1, f2, f3⟩ := HB.out.f4; have lt := HB.out.lt)
    have t0 := (HT.out.2 0 _ rfl).1
    have z0 := (HT.out.2 0 _ rfl).2
    have ltr := HT.out.lt
    go_wp2_with fail
    obtain ⟨NB, hNB⟩ : ∃ NB, wn.heap.size = NB := ⟨_, rfl⟩
    rw [hNB]
    refine wp_name (fun wx => Bx wx b (scC s ((i + 1 : Nat) : Int) wg 0) ∧ Bx wx r (tkC 3 ln cl ⟨#[]⟩ ⟨#[]⟩ 0 0 j) ∧ Chg b r w wx ∧ IsB NB NB [] wx) ?_ ?_
    · have hB := Lib.fresh_isBuilder 82 5 ((wn.setCell ⟨r, 0, none⟩ (.int .i64 3)).setCell ⟨b, 1, none⟩ (.int .i64 ((i : Int) + 1)))
      simp only [World.size_setCell, hNB] at hB
      exact ⟨((HB.out.other (Ne.symm hbr) _).put (i := 1) (v := .int .i64 ((i + 1 : Nat) : Int)) rfl).alloc _, ((HT.out.put (i := 0) (v := .int .i64 3) rfl).other hbr _).alloc _, (((Chg.of_below HG.out).set2 _ _).set1 _ _).alloc _, hB⟩
    rintro w9 ⟨hb9, ht9, hc9, hi9⟩
    have hbN : b < NB := by have := HB.out.lt; omega
    have hrN : r < NB := by have := HT.out.lt; omega
    have hwN : Hid (w.heap.size ≤ NB) := by have := HG.out.size; unfold Hid; omega
    have hgN : Hid (∀ x, GB x → x < NB) := fun x hx => Nat.lt_of_lt_of_le (HE.out.lt hx) hwN.out
    have hstart : Hid (Going s b NB i wg w9) := ⟨1, _, [], Nat.le_refl _, hi, by simp, by omega, rfl, hb9, hi9⟩
    replace HT := Lib.hid ht9
    have HC := Lib.hid hc9
    have hsz9 := Lib.hid (Nat.le_of_lt (isB_lt hi9))
    clear hb9 ht9 hc9 hi9 c0 c1 c2 c3 f0 f1 f2 f3 lt hNB t0 z0 ltr HB HG
    go_loopw [] (fun wx => Hid (Bx wx r (tkC 3 ln cl ⟨#[]⟩ ⟨#[]⟩ 0 0 j)) ∧ Hid (Chg b r w wx) ∧ Hid (Going s b NB i wg wx ∨ Failed s b i wx)) (fun wx => msr s.size b wx)
    case atStart => exact ⟨HT, HC, Lib.hid (.inl hstart.out)⟩
    case round =>
      clear HT HC hstart
      obtain ⟨HT, HC, HH⟩ := hrel
      rcases HH.out with hgo | hbd
      · obtain ⟨q, f, acc, hq1, hiq, hal, hfu, hst, hbx, hib⟩ := hgo
        have HB := Lib.hid hbx
        have HI := Lib.hid hib
        have hm0 := Lib.hid (msr_go (n := s.size) hbx)
        clear hbx hib HH
        obtain ⟨p, hp⟩ : ∃ p, i + q = p := ⟨_, rfl⟩
        rw [hp] at HB hm0
        obtain ⟨f, rfl⟩ : ∃ g, f = g + 1 := ⟨f - 1, by have := hrl.out; omega⟩
        rw [strB_step f, nth_drop, List.drop_drop, hp] at hst
        have hps : p ≤ s.size := by omega
        replace hp := Lib.hid hp
        replace hst := Lib.hid hst
        replace hal := Lib.hid hal
        (obtain ⟨c0, c1, c2, c3⟩ := HB.out.c4; obtain ⟨f0, f1, f2, f3⟩ := HB.out.f4; have lt := HB.out.lt)
        by_cases hend : s.size ≤ p
        · have hend' : (s.size : Int) ≤ (p : Int) := by omega
          have hst2 := hst.out
          rw [if_pos (by have := hp.out; have := hrl.out; omega)] at hst2
          replace hst2 := Lib.hid hst2
          go_wp2_with fail
          refine wp_region_ord [(0, 1), (1, 1), (2, 1), (3, 1), (4, 1), (5, 1), (6, 1), (7, 1), (8, 1), (9, 1)] [] 5 (by kernel_rfl) (by decide +kernel) ?_
          simp only [pickO, List.append_eq, List.cons_append, List.nil_append, List.getElem?_cons_succ, List.getElem?_cons_zero]
          intro w0 hG
          (repeat ((first | (with_reducible refine ord_q1 ?_) | (with_reducible refine ord_q0 ?_)); intro K hK; first | (refine Or.inr ⟨?_, ?_⟩; (focus (go_simp; first | done | (simp [undef]; done))); go_simp; (with_reducible refine hK _ ?_); clear hK K) | (refine Or.inl ⟨?_, ?_⟩; (focus (go_simp; done)); apply Exists.intro; refine And.intro ?_ ?_; (focus (first | (intro wq hq; obtain ⟨hcq, hfq⟩ := G.old hq; go_simp; (first | done | exact rfl); done) | (intro wq; go_simp; (first | done | exact rfl); done))); go_simp; (with_reducible refine hK _ ?_); clear hK K) | fail))
          (with_reducible refine ord_nil ?_)
          have hbx := hG.b; replace HB := Lib.hid (HB.out.grow hbx); replace HI := Lib.hid (isB_grow HI.out hbx); replace HT := Lib.hid (HT.out.grow hbx); replace HC := Lib.hid (HC.out.grow hbx); clear hG hbx c0 c1 c2 c3 f0 f1 f2 f3 lt; (obtain ⟨c0, c1, c2, c3⟩ := HB.out.c4; obtain ⟨f0, f1, f2, f3⟩ := HB.out.f4; have lt := HB.out.lt)
          go_wp2_with fail
          go_at_call 49
          (with_reducible refine (fail_ok HB.out _ _).mono ?_)
          rintro e1 w4 ⟨rfl, hb4, hc4⟩
          go_wp2_with fail
          go_ret
          refine fin.out _ _ rfl ?_
          rw [hlx.out, hst2.out]
          exact ⟨⟨_, by rw [hrl.out, show i + (s.size - i) = s.size by omega]; exact hb4⟩, ⟨_, HT.out.chg hc4 hbr hbr⟩, HC.out.trans (hc4.wider r)⟩
        · have hend' : ¬ (s.size : Int) ≤ (p : Int) := by omega
          have hend2 : (p : Int) < (s.size : Int) := by omega
          have hnp := nth_idx s (i := p) (by omega)
          obtain ⟨d, hd⟩ : ∃ d, s[p] = d := ⟨_, rfl⟩
          rw [hd] at hnp
          have hst2 := hst.out
          rw [if_neg (by have := hp.out; have := hrl.out; omega), hnp] at hst2
          clear hst hnp
          obtain ⟨kq, hkq⟩ : ∃ k, ((d.toNat : Int) == 34) = k := ⟨_, rfl⟩
          have eq34 : d.toNat = 34 ↔ kq = true := by rw [← hkq]; simp; omega
          obtain ⟨kb, hkb⟩ : ∃ k, ((d.toNat : Int) == 92) = k := ⟨_, rfl⟩
          have eq92 : d.toNat = 92 ↔ kb = true := by rw [← hkb]; simp; omega
          obtain ⟨kd, hkd⟩ : ∃ k, ((d.toNat : Int) == 127) = k := ⟨_, rfl⟩
          have eq127 : d.toNat = 127 ↔ kd = true := by rw [← hkd]; simp; omega
          have e32 : d.toNat < 32 ↔ (d.toNat : Int) < 32 := by omega
          simp only [eq34, eq92, eq127, e32] at hst2
          clear eq34 eq92 eq127 e32
          have hxp : IntKind.i64.wrap ((p : Int) + 1) = ((p + 1 : Nat) : Int) := by rw [IntWalk.i64_in _ (by omega)]; simp
          cases kq
          · cases kb
            · by_cases h32 : (d.toNat : Int) < 32
              · replace hst2 : Hid (strB ((s.data.toList.drop i).length + 1) (s.data.toList.drop i) 1 [] = Bd.bad q 6) := by
                  unfold Hid
                  rw [hst2]
                  simp [h32]
                go_wp2_with fail
                refine wp_region_ord [(0, 1), (1, 1), (2, 1), (3, 1), (4, 1), (5, 1), (6, 1), (7, 1), (8, 1), (9, 1)] [] 5 (by kernel_rfl) (by decide +kernel) ?_
                simp only [pickO, List.append_eq, List.cons_append, List.nil_append, List.getElem?_cons_succ, List.getElem?_cons_zero]
                intro w0 hG
                (repeat ((first | (with_reducible refine ord_q1 ?_) | (with_reducible refine ord_q0 ?_)); intro K hK; first | (refine Or.inr ⟨?_, ?_⟩; (focus (go_simp; first | done | (simp [undef]; done))); go_simp; (with_reducible refine hK _ ?_); clear hK K) | (refine Or.inl ⟨?_, ?_⟩; (focus (go_simp; done)); apply Exists.intro; refine And.intro ?_ ?_; (focus (first | (intro wq hq; obtain ⟨hcq, hfq⟩ := G.old hq; go_simp; (first | done | exact rfl); done) | (intro wq; go_simp; (first | done | exact rfl); done))); go_simp; (with_reducible refine hK _ ?_); clear hK K) | fail))
                (with_reducible refine ord_nil ?_)
                have hbx := hG.b; replace HB := Lib.hid (HB.out.grow hbx); replace HI := Lib.hid (isB_grow HI.out hbx); replace HT := Lib.hid (HT.out.grow hbx); replace HC := Lib.hid (HC.out.grow hbx); clear hG hbx c0 c1 c2 c3 f0 f1 f2 f3 lt; (obtain ⟨c0, c1, c2, c3⟩ := HB.out.c4; obtain ⟨f0, f1, f2, f3⟩ := HB.out.f4; have lt := HB.out.lt)
                go_wp2_with fail
                refine wp_region_ord [(0, 1), (1, 1), (2, 1), (3, 1), (4, 1), (5, 1), (6, 1), (7, 1), (8, 1), (9, 1)] [] 5 (by kernel_rfl) (by decide +kernel) ?_
                simp only [pickO, List.append_eq, List.cons_append, List.nil_append, List.getElem?_cons_succ, List.getElem?_cons_zero]
                intro w0 hG
                (repeat ((first | (with_reducible refine ord_q1 ?_) | (with_reducible refine ord_q0 ?_)); intro K hK; first | (refine Or.inr ⟨?_, ?_⟩; (focus (go_simp; first | done | (simp [undef]; done))); go_simp; (with_reducible refine hK _ ?_); clear hK K) | (refine Or.inl ⟨?_, ?_⟩; (focus (go_simp; done)); apply Exists.intro; refine And.intro ?_ ?_; (focus (first | (intro wq hq; obtain ⟨hcq, hfq⟩ := G.old hq; go_simp; (first | done | exact rfl); done) | (intro wq; go_simp; (first | done | exact rfl); done))); go_simp; (with_reducible refine hK _ ?_); clear hK K) | fail))
                (with_reducible refine ord_nil ?_)
                have hbx := hG.b; replace HB := Lib.hid (HB.out.grow hbx); replace HI := Lib.hid (isB_grow HI.out hbx); replace HT := Lib.hid (HT.out.grow hbx); replace HC := Lib.hid (HC.out.grow hbx); clear hG hbx c0 c1 c2 c3 f0 f1 f2 f3 lt; (obtain ⟨c0, c1, c2, c3⟩ := HB.out.c4; obtain ⟨f0, f1, f2, f3⟩ := HB.out.f4; have lt := HB.out.lt)
                go_wp2_with fail
                go_at_call 49
                (with_reducible refine (fail_ok HB.out _ _).mono ?_)
                rintro e1 w4 ⟨rfl, hb4, hc4⟩
                go_wp2_with fail
                go_roundw
                case rel => exact ⟨Lib.hid (HT.out.chg hc4 hbr hbr), Lib.hid (HC.out.trans (hc4.wider r)), Lib.hid (.inr ⟨q, 6, _, by decide, hst2.out, by rw [hp.out]; exact hb4⟩)⟩
                case measure =>
                  rw [hm0.out, msr_bad hb4 (by decide)]
                  omega
              · cases kd
                · have hne : s.data.toList.drop p ≠ [] := fun e => by have := congrArg List.length e; rw [List.length_drop] at this; simp at this; have : s.data.toList.length = s.size := rfl; omega
                  have hbdd := dec_bd hne
                  rw [List.length_drop, show s.data.toList.length = s.size from rfl] at hbdd
                  have hst3 : Hid (strB ((s.data.toList.drop i).length + 1) (s.data.toList.drop i) 1 [] = if decBad (s.data.toList.drop p) then Bd.bad q 16 else strB f (s.data.toList.drop i) (q + (dec (s.data.toList.drop p)).2) (acc ++ (s.data.toList.drop p).take (dec (s.data.toList.drop p)).2)) := by
                    unfold Hid
                    rw [hst2]
                    simp [h32]
                  clear hst2
                  by_cases hdb : decBad (s.data.toList.drop p)
                  · have hst4 := hst3.out
                    rw [if_pos hdb] at hst4
                    replace hst4 := Lib.hid hst4
                    have DE := Lib.hid (fun wx he => (decode_any (w := wx) he s p (by omega)).mono fun e w' h => (⟨h.1.1 hdb, h.2⟩ : e = .returned (.tuple #[.int .i64 0, .int .i64 0, .int .i64 16]) ∧ Below wx.heap.size wx w'))
                    clear hst3 hbdd
                    go_wp2_with fail
                    refine wp_region_ord [(0, 1), (1, 1), (2, 1), (3, 1), (4, 1), (5, 1), (6, 1), (7, 1), (8, 1), (9, 1)] [] 5 (by kernel_rfl) (by decide +kernel) ?_
                    simp only [pickO, List.append_eq, List.cons_append, List.nil_append, List.getElem?_cons_succ, List.getElem?_cons_zero]
                    intro w0 hG
                    (repeat ((first | (with_reducible refine ord_q1 ?_) | (with_reducible refine ord_q0 ?_)); intro K hK; first | (refine Or.inr ⟨?_, ?_⟩; (focus (go_simp; first | done | (simp [undef]; done))); go_simp; (with_reducible refine hK _ ?_); clear hK K) | (refine Or.inl ⟨?_, ?_⟩; (focus (go_simp; done)); apply Exists.intro; refine And.intro ?_ ?_; (focus (first | (intro wq hq; obtain ⟨hcq, hfq⟩ := G.old hq; go_simp; (first | done | exact rfl); done) | (intro wq; go_simp; (first | done | exact rfl); done))); go_simp; (with_reducible refine hK _ ?_); clear hK K) | fail))
                    (with_reducible refine ord_nil ?_)
                    have hbx := hG.b; replace HB := Lib.hid (HB.out.grow hbx); replace HI := Lib.hid (isB_grow HI.out hbx); replace HT := Lib.hid (HT.out.grow hbx); replace HC := Lib.hid (HC.out.grow hbx); clear hG hbx c0 c1 c2 c3 f0 f1 f2 f3 lt; (obtain ⟨c0, c1, c2, c3⟩ := HB.out.c4; obtain ⟨f0, f1, f2, f3⟩ := HB.out.f4; have lt := HB.out.lt)
                    go_wp2_with fail
                    refine wp_region_ord [(0, 1), (1, 1), (2, 1), (3, 1), (4, 1), (5, 1), (6, 1), (7, 1), (8, 1), (9, 1)] [] 5 (by kernel_rfl) (by decide +kernel) ?_
                    simp only [pickO, List.append_eq, List.cons_append, List.nil_append, List.getElem?_cons_succ, List.getElem?_cons_zero]
                    intro w0 hG
                    (repeat ((first | (with_reducible refine ord_q1 ?_) | (with_reducible refine ord_q0 ?_)); intro K hK; first | (refine Or.inr ⟨?_, ?_⟩; (focus (go_simp; first | done | (simp [undef]; done))); go_simp; (with_reducible refine hK _ ?_); clear hK K) | (refine Or.inl ⟨?_, ?_⟩; (focus (go_simp; done)); apply Exists.intro; refine And.intro ?_ ?_; (focus (first | (intro wq hq; obtain ⟨hcq, hfq⟩ := G.old hq; go_simp; (first | done | exact rfl); done) | (intro wq; go_simp; (first | done | exact rfl); done))); go_simp; (with_reducible refine hK _ ?_); clear hK K) | fail))
                    (with_reducible refine ord_nil ?_)
                    have hbx := hG.b; replace HB := Lib.hid (HB.out.grow hbx); replace HI := Lib.hid (isB_grow HI.out hbx); replace HT := Lib.hid (HT.out.grow hbx); replace HC := Lib.hid (HC.out.grow hbx); clear hG hbx c0 c1 c2 c3 f0 f1 f2 f3 lt; (obtain ⟨c0, c1, c2, c3⟩ := HB.out.c4; obtain ⟨f0, f1, f2, f3⟩ := HB.out.f4; have lt := HB.out.lt)
                    go_wp2_with fail
                    have HE2 := Lib.hid (HE.out.chg HC.out hgb hgr)
                    refine wp_region_ord [(0, 1), (1, 1), (2, 1), (3, 1), (4, 1), (5, 1), (6, 1), (7, 1), (8, 2), (9, 1), (10, 1), (11, 1), (12, 1), (13, 1), (14, 1), (15, 1)] [] 5 (by kernel_rfl) (by decide +kernel) ?_
                    simp only [pickO, List.append_eq, List.cons_append, List.nil_append, List.getElem?_cons_succ, List.getElem?_cons_zero]
                    intro w0 hG
                    (repeat ((first | (with_reducible refine ord_q1 ?_) | (with_reducible refine ord_q0 ?_)); intro K hK; first | (refine Or.inr ⟨?_, ?_⟩; (focus (go_simp; first | done | (simp [undef]; done))); go_simp; (with_reducible refine hK _ ?_); clear hK K) | (refine Or.inl ⟨?_, ?_⟩; (focus (go_simp; done)); apply Exists.intro; refine And.intro ?_ ?_; (focus (first | (intro wq hq; obtain ⟨hcq, hfq⟩ := G.old hq; go_simp; (first | done | exact rfl); done) | (intro wq; go_simp; (first | done | exact rfl); done))); go_simp; (with_reducible refine hK _ ?_); clear hK K) | fail))
                    (with_reducible refine ord_run ?_ hG)
                    intro K hK
                    go_simp
                    go_at_call 81; (with_reducible refine (DE.out _ (HE2.out.grow hG.b)).mono ?_); rintro e1 w2 ⟨rfl, hb⟩
                    replace hG := Grew.trans hG hb
                    (try dsimp only)
                    (with_reducible refine hK _ _ hG ?_)
                    clear hK K
                    (repeat ((first | (with_reducible refine ord_q1 ?_) | (with_reducible refine ord_q0 ?_)); intro K hK; first | (refine Or.inr ⟨?_, ?_⟩; (focus (go_simp; first | done | (simp [undef]; done))); go_simp; (with_reducible refine hK _ ?_); clear hK K) | (refine Or.inl ⟨?_, ?_⟩; (focus (go_simp; done)); apply Exists.intro; refine And.intro ?_ ?_; (focus (first | (intro wq hq; obtain ⟨hcq, hfq⟩ := G.old hq; go_simp; (first | done | exact rfl); done) | (intro wq; go_simp; (first | done | exact rfl); done))); go_simp; (with_reducible refine hK _ ?_); clear hK K) | fail))
                    (with_reducible refine ord_nil ?_)
                    have hbx := hG.b; replace HB := Lib.hid (HB.out.grow hbx); replace HI := Lib.hid (isB_grow HI.out hbx); replace HT := Lib.hid (HT.out.grow hbx); replace HC := Lib.hid (HC.out.grow hbx); clear hG hbx c0 c1 c2 c3 f0 f1 f2 f3 lt; (obtain ⟨c0, c1, c2, c3⟩ := HB.out.c4; obtain ⟨f0, f1, f2, f3⟩ := HB.out.f4; have lt := HB.out.lt)
                    go_wp2_with fail
                    go_at_call 49
                    (with_reducible refine (fail_ok HB.out _ _).mono ?_)
                    rintro e1 w4 ⟨rfl, hb4, hc4⟩
                    go_wp2_with fail
                    go_roundw
                    case rel => exact ⟨Lib.hid (HT.out.chg hc4 hbr hbr), Lib.hid (HC.out.trans (hc4.wider r)), Lib.hid (.inr ⟨q, 16, _, by decide, hst4.out, by rw [hp.out]; exact hb4⟩)⟩
                    case measure =>
                      rw [hm0.out, msr_bad hb4 (by decide)]
                      omega
                  · have hst4 := hst3.out
                    rw [if_neg hdb] at hst4
                    have DE := Lib.hid (fun wx he => (decode_any (w := wx) he s p (by omega)).mono fun e w' h => (⟨h.1.2 hdb, h.2⟩ : e = .returned (.tuple #[.int .i64 (dec (s.data.toList.drop p)).1, .int .i64 (dec (s.data.toList.drop p)).2, .int .i64 0]) ∧ Below wx.heap.size wx w'))
                    obtain ⟨⟨pt, k⟩, hpk⟩ : ∃ x, dec (s.data.toList.drop p) = x := ⟨_, rfl⟩
                    rw [hpk] at DE hst4 hbdd
                    dsimp only at DE hst4 hbdd
                    obtain ⟨hk1, hk2⟩ := hbdd
                    have hxk : IntKind.i64.wrap ((p : Int) + (k : Int)) = ((p + k : Nat) : Int) := add_nat rfl (by omega)
                    have hxt := ext_take s p k
                    rw [← B_list ((s.data.toList.drop p).take k), ← hxt] at hst4
                    have hXs := ext_size s (i := p) (n := k) (by omega)
                    obtain ⟨pk, hpkd⟩ : ∃ z, p + k = z := ⟨_, rfl⟩
                    rw [hpkd] at hxk hst4 hXs
                    have hs1 : (p : Int) ≤ (pk : Int) := by omega
                    have hs2 : (pk : Int) ≤ (s.size : Int) := by omega
                    obtain ⟨X, hX⟩ : ∃ X, s.extract p pk = X := ⟨_, rfl⟩
                    rw [hX] at hst4 hXs
                    replace hst4 := Lib.hid hst4
                    replace hpkd := Lib.hid hpkd
                    clear hst3 hdb hpk hxt
                    go_wp2_with fail
                    refine wp_region_ord [(0, 1), (1, 1), (2, 1), (3, 1), (4, 1), (5, 1), (6, 1), (7, 1), (8, 1), (9, 1)] [] 5 (by kernel_rfl) (by decide +kernel) ?_
                    simp only [pickO, List.append_eq, List.cons_append, List.nil_append, List.getElem?_cons_succ, List.getElem?_cons_zero]
                    intro w0 hG
                    (repeat ((first | (with_reducible refine ord_q1 ?_) | (with_reducible refine ord_q0 ?_)); intro K hK; first | (refine Or.inr ⟨?_, ?_⟩; (focus (go_simp; first | done | (simp [undef]; done))); go_simp; (with_reducible refine hK _ ?_); clear hK K) | (refine Or.inl ⟨?_, ?_⟩; (focus (go_simp; done)); apply Exists.intro; refine And.intro ?_ ?_; (focus (first | (intro wq hq; obtain ⟨hcq, hfq⟩ := G.old hq; go_simp; (first | done | exact rfl); done) | (intro wq; go_simp; (first | done | exact rfl); done))); go_simp; (with_reducible refine hK _ ?_); clear hK K) | fail))
                    (with_reducible refine ord_nil ?_)
                    have hbx := hG.b; replace HB := Lib.hid (HB.out.grow hbx); replace HI := Lib.hid (isB_grow HI.out hbx); replace HT := Lib.hid (HT.out.grow hbx); replace HC := Lib.hid (HC.out.grow hbx); clear hG hbx c0 c1 c2 c3 f0 f1 f2 f3 lt; (obtain ⟨c0, c1, c2, c3⟩ := HB.out.c4; obtain ⟨f0, f1, f2, f3⟩ := HB.out.f4; have lt := HB.out.lt)
                    go_wp2_with fail
                    refine wp_region_ord [(0, 1), (1, 1), (2, 1), (3, 1), (4, 1), (5, 1), (6, 1), (7, 1), (8, 1), (9, 1)] [] 5 (by kernel_rfl) (by decide +kernel) ?_
                    simp only [pickO, List.append_eq, List.cons_append, List.nil_append, List.getElem?_cons_succ, List.getElem?_cons_zero]
                    intro w0 hG
                    (repeat ((first | (with_reducible refine ord_q1 ?_) | (with_reducible refine ord_q0 ?_)); intro K hK; first | (refine Or.inr ⟨?_, ?_⟩; (focus (go_simp; first | done | (simp [undef]; done))); go_simp; (with_reducible refine hK _ ?_); clear hK K) | (refine Or.inl ⟨?_, ?_⟩; (focus (go_simp; done)); apply Exists.intro; refine And.intro ?_ ?_; (focus (first | (intro wq hq; obtain ⟨hcq, hfq⟩ := G.old hq; go_simp; (first | done | exact rfl); done) | (intro wq; go_simp; (first | done | exact rfl); done))); go_simp; (with_reducible refine hK _ ?_); clear hK K) | fail))
                    (with_reducible refine ord_nil ?_)
                    have hbx := hG.b; replace HB := Lib.hid (HB.out.grow hbx); replace HI := Lib.hid (isB_grow HI.out hbx); replace HT := Lib.hid (HT.out.grow hbx); replace HC := Lib.hid (HC.out.grow hbx); clear hG hbx c0 c1 c2 c3 f0 f1 f2 f3 lt; (obtain ⟨c0, c1, c2, c3⟩ := HB.out.c4; obtain ⟨f0, f1, f2, f3⟩ := HB.out.f4; have lt := HB.out.lt)
                    go_wp2_with fail
                    have HE2 := Lib.hid (HE.out.chg HC.out hgb hgr)
                    refine wp_region_ord [(0, 1), (1, 1), (2, 1), (3, 1), (4, 1), (5, 1), (6, 1), (7, 1), (8, 2), (9, 1), (10, 1), (11, 1), (12, 1), (13, 1), (14, 1), (15, 1)] [] 5 (by kernel_rfl) (by decide +kernel) ?_
                    simp only [pickO, List.append_eq, List.cons_append, List.nil_append, List.getElem?_cons_succ, List.getElem?_cons_zero]
                    intro w0 hG
                    (repeat ((first | (with_reducible refine ord_q1 ?_) | (with_reducible refine ord_q0 ?_)); intro K hK; first | (refine Or.inr ⟨?_, ?_⟩; (focus (go_simp; first | done | (simp [undef]; done))); go_simp; (with_reducible refine hK _ ?_); clear hK K) | (refine Or.inl ⟨?_, ?_⟩; (focus (go_simp; done)); apply Exists.intro; refine And.intro ?_ ?_; (focus (first | (intro wq hq; obtain ⟨hcq, hfq⟩ := G.old hq; go_simp; (first | done | exact rfl); done) | (intro wq; go_simp; (first | done | exact rfl); done))); go_simp; (with_reducible refine hK _ ?_); clear hK K) | fail))
                    (with_reducible refine ord_run ?_ hG)
                    intro K hK
                    go_simp
                    go_at_call 81; (with_reducible refine (DE.out _ (HE2.out.grow hG.b)).mono ?_); rintro e1 w2 ⟨rfl, hb⟩
                    replace hG := Grew.trans hG hb
                    (try dsimp only)
                    (with_reducible refine hK _ _ hG ?_)
                    clear hK K
                    (repeat ((first | (with_reducible refine ord_q1 ?_) | (with_reducible refine ord_q0 ?_)); intro K hK; first | (refine Or.inr ⟨?_, ?_⟩; (focus (go_simp; first | done | (simp [undef]; done))); go_simp; (with_reducible refine hK _ ?_); clear hK K) | (refine Or.inl ⟨?_, ?_⟩; (focus (go_simp; done)); apply Exists.intro; refine And.intro ?_ ?_; (focus (first | (intro wq hq; obtain ⟨hcq, hfq⟩ := G.old hq; go_simp; (first | done | exact rfl); done) | (intro wq; go_simp; (first | done | exact rfl); done))); go_simp; (with_reducible refine hK _ ?_); clear hK K) | fail))
                    (with_reducible refine ord_nil ?_)
                    have hbx := hG.b; replace HB := Lib.hid (HB.out.grow hbx); replace HI := Lib.hid (isB_grow HI.out hbx); replace HT := Lib.hid (HT.out.grow hbx); replace HC := Lib.hid (HC.out.grow hbx); clear hG hbx c0 c1 c2 c3 f0 f1 f2 f3 lt; (obtain ⟨c0, c1, c2, c3⟩ := HB.out.c4; obtain ⟨f0, f1, f2, f3⟩ := HB.out.f4; have lt := HB.out.lt)
                    go_wp2_with fail
                    refine wp_region_ord [(0, 1), (1, 1), (2, 1), (3, 1), (4, 1), (5, 1), (6, 1), (7, 1), (8, 1), (9, 1), (10, 1), (11, 1), (12, 1), (13, 1), (14, 1), (15, 3)] [15] 5 (by kernel_rfl) (by decide +kernel) ?_
                    simp only [pickO, List.append_eq, List.cons_append, List.nil_append, List.getElem?_cons_succ, List.getElem?_cons_zero]
                    intro w0 hG
                    (repeat ((first | (with_reducible refine ord_q1 ?_) | (with_reducible refine ord_q0 ?_)); intro K hK; first | (refine Or.inr ⟨?_, ?_⟩; (focus (go_simp; first | done | (simp [undef]; done))); go_simp; (with_reducible refine hK _ ?_); clear hK K) | (refine Or.inl ⟨?_, ?_⟩; (focus (go_simp; done)); apply Exists.intro; refine And.intro ?_ ?_; (focus (first | (intro wq hq; obtain ⟨hcq, hfq⟩ := G.old hq; go_simp; (first | done | exact rfl); done) | (intro wq; go_simp; (first | done | exact rfl); done))); go_simp; (with_reducible refine hK _ ?_); clear hK K) | fail))
                    (with_reducible refine ord_tail ?_)
                    intro K hK
                    go_simp
                    have hbx := hG.b; replace HB := Lib.hid (HB.out.grow hbx); replace HI := Lib.hid (isB_grow HI.out hbx); replace HT := Lib.hid (HT.out.grow hbx); replace HC := Lib.hid (HC.out.grow hbx); clear hG hbx c0 c1 c2 c3 f0 f1 f2 f3 lt; (obtain ⟨c0, c1, c2, c3⟩ := HB.out.c4; obtain ⟨f0, f1, f2, f3⟩ := HB.out.f4; have lt := HB.out.lt)
                    go_at_call 63
                    have hNx := Nat.le_of_lt (isB_lt HI.out)
                    (with_reducible refine (wstring_any HI.out _ (by rw [byteCells_len, hXs]; have := hal.out; omega) hNx).mono ?_)
                    rintro e1 w4 ⟨rfl, hi4, hb4⟩
                    rw [← bytes_app] at hi4
                    replace HB := Lib.hid (HB.out.below hb4 hbN)
                    replace HT := Lib.hid (HT.out.below hb4 hrN)
                    replace HC := Lib.hid (HC.out.under hwN.out hNx hb4)
                    replace HI := Lib.hid hi4
                    clear hb4 hi4 hNx c0 c1 c2 c3 f0 f1 f2 f3 lt
                    (obtain ⟨c0, c1, c2, c3⟩ := HB.out.c4; obtain ⟨f0, f1, f2, f3⟩ := HB.out.f4; have lt := HB.out.lt)
                    (try dsimp only)
                    (with_reducible refine hK _ _ ?_)
                    clear hK K
                    (with_reducible refine ord_nil ?_)
                    go_wp2_with fail
                    go_roundw
                    case rel => exact ⟨Lib.hid (HT.out.other hbr _), Lib.hid (HC.out.set1 _ _), Lib.hid (.inl ⟨q + k, f, acc ++ X.data.toList, by omega, by have := hp.out; have := hpkd.out; omega, by rw [List.length_append, show X.data.toList.length = X.size from rfl]; have := hal.out; omega, by omega, hst4.out, by rw [← Nat.add_assoc, hp.out, hpkd.out]; exact HB.out.put (i := 1) (v := .int .i64 (pk : Int)) rfl, isB_set HI.out hbN _⟩)⟩
                    case measure =>
                      have h1 : Bx _ b (scC s (pk : Int) wg 0) := HB.out.put (i := 1) (v := .int .i64 (pk : Int)) rfl
                      have hpkd2 := hpkd.out
                      rw [hm0.out, msr_go h1]
                      omega
                · replace hst2 : Hid (strB ((s.data.toList.drop i).length + 1) (s.data.toList.drop i) 1 [] = Bd.bad q 6) := by
                    unfold Hid
                    rw [hst2]
                    simp 
                  go_wp2_with fail
                  refine wp_region_ord [(0, 1), (1, 1), (2, 1), (3, 1), (4, 1), (5, 1), (6, 1), (7, 1), (8, 1), (9, 1)] [] 5 (by kernel_rfl) (by decide +kernel) ?_
                  simp only [pickO, List.append_eq, List.cons_append, List.nil_append, List.getElem?_cons_succ, List.getElem?_cons_zero]
                  intro w0 hG
                  (repeat ((first | (with_reducible refine ord_q1 ?_) | (with_reducible refine ord_q0 ?_)); intro K hK; first | (refine Or.inr ⟨?_, ?_⟩; (focus (go_simp; first | done | (simp [undef]; done))); go_simp; (with_reducible refine hK _ ?_); clear hK K) | (refine Or.inl ⟨?_, ?_⟩; (focus (go_simp; done)); apply Exists.intro; refine And.intro ?_ ?_; (focus (first | (intro wq hq; obtain ⟨hcq, hfq⟩ := G.old hq; go_simp; (first | done | exact rfl); done) | (intro wq; go_simp; (first | done | exact rfl); done))); go_simp; (with_reducible refine hK _ ?_); clear hK K) | fail))
                  (with_reducible refine ord_nil ?_)
                  have hbx := hG.b; replace HB := Lib.hid (HB.out.grow hbx); replace HI := Lib.hid (isB_grow HI.out hbx); replace HT := Lib.hid (HT.out.grow hbx); replace HC := Lib.hid (HC.out.grow hbx); clear hG hbx c0 c1 c2 c3 f0 f1 f2 f3 lt; (obtain ⟨c0, c1, c2, c3⟩ := HB.out.c4; obtain ⟨f0, f1, f2, f3⟩ := HB.out.f4; have lt := HB.out.lt)
                  go_wp2_with fail
                  refine wp_region_ord [(0, 1), (1, 1), (2, 1), (3, 1), (4, 1), (5, 1), (6, 1), (7, 1), (8, 1), (9, 1)] [] 5 (by kernel_rfl) (by decide +kernel) ?_
                  simp only [pickO, List.append_eq, List.cons_append, List.nil_append, List.getElem?_cons_succ, List.getElem?_cons_zero]
                  intro w0 hG
                  (repeat ((first | (with_reducible refine ord_q1 ?_) | (with_reducible refine ord_q0 ?_)); intro K hK; first | (refine Or.inr ⟨?_, ?_⟩; (focus (go_simp; first | done | (simp [undef]; done))); go_simp; (with_reducible refine hK _ ?_); clear hK K) | (refine Or.inl ⟨?_, ?_⟩; (focus (go_simp; done)); apply Exists.intro; refine And.intro ?_ ?_; (focus (first | (intro wq hq; obtain ⟨hcq, hfq⟩ := G.old hq; go_simp; (first | done | exact rfl); done) | (intro wq; go_simp; (first | done | exact rfl); done))); go_simp; (with_reducible refine hK _ ?_); clear hK K) | fail))
                  (with_reducible refine ord_nil ?_)
                  have hbx := hG.b; replace HB := Lib.hid (HB.out.grow hbx); replace HI := Lib.hid (isB_grow HI.out hbx); replace HT := Lib.hid (HT.out.grow hbx); replace HC := Lib.hid (HC.out.grow hbx); clear hG hbx c0 c1 c2 c3 f0 f1 f2 f3 lt; (obtain ⟨c0, c1, c2, c3⟩ := HB.out.c4; obtain ⟨f0, f1, f2, f3⟩ := HB.out.f4; have lt := HB.out.lt)
                  go_wp2_with fail
                  go_at_call 49
                  (with_reducible refine (fail_ok HB.out _ _).mono ?_)
                  rintro e1 w4 ⟨rfl, hb4, hc4⟩
                  go_wp2_with fail
                  go_roundw
                  case rel => exact ⟨Lib.hid (HT.out.chg hc4 hbr hbr), Lib.hid (HC.out.trans (hc4.wider r)), Lib.hid (.inr ⟨q, 6, _, by decide, hst2.out, by rw [hp.out]; exact hb4⟩)⟩
                  case measure =>
                    rw [hm0.out, msr_bad hb4 (by decide)]
                    omega
            · have hst3 := hst2
              simp only [Bool.false_eq_true, if_false, if_true] at hst3
              have hin := esc_bd (q := s.data.toList.drop p) (by rw [List.length_drop]; have : s.data.toList.length = s.size := rfl; omega)
              replace hst3 := Lib.hid hst3
              clear hst2
              go_wp2_with fail
              refine wp_region_ord [(0, 1), (1, 1), (2, 1), (3, 1), (4, 1), (5, 1), (6, 1), (7, 1), (8, 1), (9, 1)] [] 5 (by kernel_rfl) (by decide +kernel) ?_
              simp only [pickO, List.append_eq, List.cons_append, List.nil_append, List.getElem?_cons_succ, List.getElem?_cons_zero]
              intro w0 hG
              (repeat ((first | (with_reducible refine ord_q1 ?_) | (with_reducible refine ord_q0 ?_)); intro K hK; first | (refine Or.inr ⟨?_, ?_⟩; (focus (go_simp; first | done | (simp [undef]; done))); go_simp; (with_reducible refine hK _ ?_); clear hK K) | (refine Or.inl ⟨?_, ?_⟩; (focus (go_simp; done)); apply Exists.intro; refine And.intro ?_ ?_; (focus (first | (intro wq hq; obtain ⟨hcq, hfq⟩ := G.old hq; go_simp; (first | done | exact rfl); done) | (intro wq; go_simp; (first | done | exact rfl); done))); go_simp; (with_reducible refine hK _ ?_); clear hK K) | fail))
              (with_reducible refine ord_nil ?_)
              have hbx := hG.b; replace HB := Lib.hid (HB.out.grow hbx); replace HI := Lib.hid (isB_grow HI.out hbx); replace HT := Lib.hid (HT.out.grow hbx); replace HC := Lib.hid (HC.out.grow hbx); clear hG hbx c0 c1 c2 c3 f0 f1 f2 f3 lt; (obtain ⟨c0, c1, c2, c3⟩ := HB.out.c4; obtain ⟨f0, f1, f2, f3⟩ := HB.out.f4; have lt := HB.out.lt)
              go_wp2_with fail
              refine wp_region_ord [(0, 1), (1, 1), (2, 1), (3, 1), (4, 1), (5, 1), (6, 1), (7, 1), (8, 1), (9, 1)] [] 5 (by kernel_rfl) (by decide +kernel) ?_
              simp only [pickO, List.append_eq, List.cons_append, List.nil_append, List.getElem?_cons_succ, List.getElem?_cons_zero]
              intro w0 hG
              (repeat ((first | (with_reducible refine ord_q1 ?_) | (with_reducible refine ord_q0 ?_)); intro K hK; first | (refine Or.inr ⟨?_, ?_⟩; (focus (go_simp; first | done | (simp [undef]; done))); go_simp; (with_reducible refine hK _ ?_); clear hK K) | (refine Or.inl ⟨?_, ?_⟩; (focus (go_simp; done)); apply Exists.intro; refine And.intro ?_ ?_; (focus (first | (intro wq hq; obtain ⟨hcq, hfq⟩ := G.old hq; go_simp; (first | done | exact rfl); done) | (intro wq; go_simp; (first | done | exact rfl); done))); go_simp; (with_reducible refine hK _ ?_); clear hK K) | fail))
              (with_reducible refine ord_nil ?_)
              have hbx := hG.b; replace HB := Lib.hid (HB.out.grow hbx); replace HI := Lib.hid (isB_grow HI.out hbx); replace HT := Lib.hid (HT.out.grow hbx); replace HC := Lib.hid (HC.out.grow hbx); clear hG hbx c0 c1 c2 c3 f0 f1 f2 f3 lt; (obtain ⟨c0, c1, c2, c3⟩ := HB.out.c4; obtain ⟨f0, f1, f2, f3⟩ := HB.out.f4; have lt := HB.out.lt)
              go_wp2_with fail
              go_at_call 80
              (with_reducible refine (escape_any HB.out HI.out hbN (by rw [byteCells_len]; have := hal.out; omega) hs (by omega)).mono ?_)
              rintro e1 w4 ⟨rfl, hf4, hx4⟩
              rcases hes : esc (s.data.toList.drop p) with ⟨n, l⟩ | ⟨ec⟩ <;> rw [hes] at hx4 hin
              · obtain ⟨hb4, hi4⟩ := hx4
                have hll := esc_len hes
                have hin' : 2 ≤ n ∧ n ≤ (s.data.toList.drop p).length := hin
                rw [List.length_drop, show s.data.toList.length = s.size from rfl] at hin'
                have hst4 := hst3.out
                rw [hes] at hst4
                dsimp only at hst4
                rw [← bytes_app] at hi4
                replace hst4 := Lib.hid hst4
                go_wp2_with fail
                go_roundw
                case rel => exact ⟨Lib.hid (HT.out.fr hf4 hbr hrN), Lib.hid (HC.out.fr hwN.out hf4), Lib.hid (.inl ⟨q + n, f, acc ++ l, by omega, by have := hp.out; omega, by rw [List.length_append]; have := hal.out; omega, by omega, hst4.out, by rw [← Nat.add_assoc, hp.out]; exact hb4, hi4⟩)⟩
                case measure =>
                  rw [hm0.out, msr_go hb4]
                  omega
              · obtain ⟨pp, hb4⟩ := hx4
                have hin' : ec ≠ 0 := hin
                have hst4 := hst3.out
                rw [hes] at hst4
                dsimp only at hst4
                replace hst4 := Lib.hid hst4
                go_wp2_with fail
                go_roundw
                case rel => exact ⟨Lib.hid (HT.out.fr hf4 hbr hrN), Lib.hid (HC.out.fr hwN.out hf4), Lib.hid (.inr ⟨q, ec, pp, hin', hst4.out, by rw [hp.out]; exact hb4⟩)⟩
                case measure =>
                  rw [hm0.out, msr_bad hb4 hin']
                  omega
          · have hul : acc.length ≤ 100000 := by have := hal.out; omega
            replace hst2 : Hid (strB ((s.data.toList.drop i).length + 1) (s.data.toList.drop i) 1 [] = Bd.ok (q + 1) acc) := by
              unfold Hid
              rw [hst2]
              simp
            go_wp2_with fail
            refine wp_region_ord [(0, 1), (1, 1), (2, 1), (3, 1), (4, 1), (5, 1), (6, 1), (7, 1), (8, 1), (9, 1)] [] 5 (by kernel_rfl) (by decide +kernel) ?_
            simp only [pickO, List.append_eq, List.cons_append, List.nil_append, List.getElem?_cons_succ, List.getElem?_cons_zero]
            intro w0 hG
            (repeat ((first | (with_reducible refine ord_q1 ?_) | (with_reducible refine ord_q0 ?_)); intro K hK; first | (refine Or.inr ⟨?_, ?_⟩; (focus (go_simp; first | done | (simp [undef]; done))); go_simp; (with_reducible refine hK _ ?_); clear hK K) | (refine Or.inl ⟨?_, ?_⟩; (focus (go_simp; done)); apply Exists.intro; refine And.intro ?_ ?_; (focus (first | (intro wq hq; obtain ⟨hcq, hfq⟩ := G.old hq; go_simp; (first | done | exact rfl); done) | (intro wq; go_simp; (first | done | exact rfl); done))); go_simp; (with_reducible refine hK _ ?_); clear hK K) | fail))
            (with_reducible refine ord_nil ?_)
            have hbx := hG.b; replace HB := Lib.hid (HB.out.grow hbx); replace HI := Lib.hid (isB_grow HI.out hbx); replace HT := Lib.hid (HT.out.grow hbx); replace HC := Lib.hid (HC.out.grow hbx); clear hG hbx c0 c1 c2 c3 f0 f1 f2 f3 lt; (obtain ⟨c0, c1, c2, c3⟩ := HB.out.c4; obtain ⟨f0, f1, f2, f3⟩ := HB.out.f4; have lt := HB.out.lt)
            go_wp2_with fail
            refine wp_region_ord [(0, 1), (1, 1), (2, 1), (3, 1), (4, 1), (5, 1), (6, 1), (7, 1), (8, 1), (9, 1)] [] 5 (by kernel_rfl) (by decide +kernel) ?_
            simp only [pickO, List.append_eq, List.cons_append, List.nil_append, List.getElem?_cons_succ, List.getElem?_cons_zero]
            intro w0 hG
            (repeat ((first | (with_reducible refine ord_q1 ?_) | (with_reducible refine ord_q0 ?_)); intro K hK; first | (refine Or.inr ⟨?_, ?_⟩; (focus (go_simp; first | done | (simp [undef]; done))); go_simp; (with_reducible refine hK _ ?_); clear hK K) | (refine Or.inl ⟨?_, ?_⟩; (focus (go_simp; done)); apply Exists.intro; refine And.intro ?_ ?_; (focus (first | (intro wq hq; obtain ⟨hcq, hfq⟩ := G.old hq; go_simp; (first | done | exact rfl); done) | (intro wq; go_simp; (first | done | exact rfl); done))); go_simp; (with_reducible refine hK _ ?_); clear hK K) | fail))
            (with_reducible refine ord_nil ?_)
            have hbx := hG.b; replace HB := Lib.hid (HB.out.grow hbx); replace HI := Lib.hid (isB_grow HI.out hbx); replace HT := Lib.hid (HT.out.grow hbx); replace HC := Lib.hid (HC.out.grow hbx); clear hG hbx c0 c1 c2 c3 f0 f1 f2 f3 lt; (obtain ⟨c0, c1, c2, c3⟩ := HB.out.c4; obtain ⟨f0, f1, f2, f3⟩ := HB.out.f4; have lt := HB.out.lt)
            go_wp2_with fail
            have hNx : NB ≤ w0.heap.size := Nat.le_of_lt (isB_lt HI.out)
            go_at_call 64
            (with_reducible refine (bstring_any acc (isB_set HI.out hbN _) (by simpa using hNx)).mono ?_)
            rintro e1 w4 ⟨rfl, hb4⟩
            replace HB := Lib.hid ((HB.out.put (i := 1) (v := .int .i64 ((p + 1 : Nat) : Int)) rfl).below hb4 hbN)
            replace HT := Lib.hid ((HT.out.other hbr _).below hb4 hrN)
            replace HC := Lib.hid ((HC.out.set1 _ _).under hwN.out (by simpa using hNx) hb4)
            have hVs : (⟨acc.toArray⟩ : ByteArray).size = acc.length := B_size _
            obtain ⟨V, hV⟩ : ∃ V : ByteArray, ⟨acc.toArray⟩ = V := ⟨_, rfl⟩
            rw [hV] at hVs ⊢
            have t4 := (HT.out.2 4 _ rfl).1
            have z4 := (HT.out.2 4 _ rfl).2
            have ltr := HT.out.lt
            replace hV := Lib.hid hV
            clear hb4 HI hNx c0 c1 c2 c3 f0 f1 f2 f3 lt
            go_wp2_with fail
            go_at_call 77
            (with_reducible refine (long_any (HB.out.other (Ne.symm hbr) _) V (by omega) _).mono ?_)
            rintro e1 w5 ⟨rfl, hb5, hc5⟩
            go_wp2_with fail
            go_ret
            refine fin.out _ _ rfl ?_
            rw [hlx.out, hst2.out]
            dsimp only
            rw [hVs] at hb5
            by_cases hlong : 1024 < acc.length
            · rw [if_pos hlong] at hb5 ⊢
              exact ⟨⟨_, by rw [Nat.add_zero]; exact hb5⟩, ⟨_, (HT.out.put (i := 4) rfl).chg hc5 hbr hbr⟩, (HC.out.set2 _ _).trans (hc5.wider r)⟩
            · rw [if_neg hlong] at hb5 ⊢
              refine ⟨by rw [← Nat.add_assoc, hp.out]; exact hb5, ?_, (HC.out.set2 _ _).trans (hc5.wider r)⟩
              refine Bx.chg ?_ hc5 hbr hbr
              show Bx _ r (tkC 3 ln cl ⟨#[]⟩ ⟨acc.toArray⟩ 0 0 j)
              rw [hV.out]
              exact HT.out.put (i := 4) (v := .string V) rfl
      · obtain ⟨o, e, p, he, hst, hbx⟩ := hbd
        have he' : (e == 0) = false := by simpa using he
        have HB := Lib.hid hbx
        (obtain ⟨c0, c1, c2, c3⟩ := HB.out.c4; obtain ⟨f0, f1, f2, f3⟩ := HB.out.f4; have lt := HB.out.lt)
        clear hbx HH
        replace hst := Lib.hid hst
        go_wp2_with fail
        go_ret
        refine fin.out _ _ rfl ?_
        rw [hlx.out, hst.out]
        exact ⟨⟨_, HB.out⟩, ⟨_, HT.out⟩, HC.out⟩
  · have hno2 : Hid (way (s.data.toList.drop i) ≠ 3) := fun k => by have := hw.1 k; cases this
    clear hw
    go_enter Tryz.func46, Tryz.ntmps46
    go_wp2_with fail
    (go_at_call 73; (with_reducible refine (BA0.out _ HB.out).mono ?_); rintro e1 wn ⟨rfl, hb⟩; replace HB := Lib.hid (HB.out.grow hb); replace HT := Lib.hid (HT.out.grow hb); replace HG := Lib.hid (G.trans HG.out hb); clear hb)
    go_wp2_with fail
    go_ret
    exact ⟨fun k => absurd k hno2.out, fun _ => ⟨rfl, HG.out⟩⟩
end
end Go.Proofs.YtmchiibbodllaaaGreatDoor
