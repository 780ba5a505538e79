/- The law's model: escape, not a simple one. -/
import Derived.Test.YtmchiibbodllaaaGreatDoorMd
namespace Go.Proofs.YtmchiibbodllaaaGreatDoor
set_option linter.unusedVariables false
set_option linter.unnecessarySimpa false
set_option linter.unusedSimpArgs false
open Go.RowKit

section
variable {w : World} {b p : Nat} {s : ByteArray} {lv : Value} {tb : Int}
set_option maxRecDepth 20000 in set_option maxHeartbeats 16000000 in
theorem escape_n (h : Bx w b (mC s (p : Int) lv 0 tb)) (hs : s.size ≤ 100000) (hp : p < s.size) (hlt : p + 1 < s.size) (hsm : simple (nth s.data.toList (p + 1)) = none) :
    Calls Tryz.prog 114 #[.pointer (some ⟨b, 0, none⟩)] w (RetEs w b s p lv tb (esc (s.data.toList.drop p))) := by
  have hem := esc_model (s.data.toList.drop p)
  have hes := esc.eq_1 (s.data.toList.drop p)
  rw [nth_drop] at hem hes
  rw [nth_drop, nth_drop, List.drop_drop] at hem
  obtain ⟨X, hX⟩ : ∃ X, esc (s.data.toList.drop p) = X := ⟨_, rfl⟩
  rw [hX] at hem hes ⊢
  clear hX
  obtain ⟨d, hd⟩ : ∃ d, nth s.data.toList (p + 1) = d := ⟨_, rfl⟩
  obtain ⟨g, hg⟩ : ∃ g, nth s.data.toList (p + 2) = g := ⟨_, rfl⟩
  rw [hd] at hem hes hsm
  rw [hg] at hem
  have HD := Lib.hid hd
  have HGg := Lib.hid hg
  have H := Lib.hid h
  have FL := Lib.hid (fun (wx : World) (i k e : Int) (hb : Bx wx b (mC s i lv 0 tb)) => fail_m hb k e)
  have HM := Lib.hid hex_m
  have HH := Lib.hid (fun (wx : World) (i e : Int) (a : Int) (k : Nat) (ha : a = (k : Int)) (hk : k ≤ 1000000) (hb : Bx wx b (mC s i lv e tb)) => here_a hb hs a k ha hk)
  have i0 : ∀ wx : World, (Instr.index 9 (.string ⟨#[34, 92, 110, 114, 116]⟩) (.int .i64 0)).run Tryz.prog wx = .ok (.int .u8 34) wx := fun wx => by kernel_rfl
  have i1 : ∀ wx : World, (Instr.index 9 (.string ⟨#[34, 92, 110, 114, 116]⟩) (.int .i64 1)).run Tryz.prog wx = .ok (.int .u8 92) wx := fun wx => by kernel_rfl
  have i2 : ∀ wx : World, (Instr.index 9 (.string ⟨#[34, 92, 110, 114, 116]⟩) (.int .i64 2)).run Tryz.prog wx = .ok (.int .u8 110) wx := fun wx => by kernel_rfl
  have i3 : ∀ wx : World, (Instr.index 9 (.string ⟨#[34, 92, 110, 114, 116]⟩) (.int .i64 3)).run Tryz.prog wx = .ok (.int .u8 114) wx := fun wx => by kernel_rfl
  have i4 : ∀ wx : World, (Instr.index 9 (.string ⟨#[34, 92, 110, 114, 116]⟩) (.int .i64 4)).run Tryz.prog wx = .ok (.int .u8 116) wx := fun wx => by kernel_rfl
  have hx1 : IntKind.i64.wrap ((p : Int) + 1) = (p : Int) + 1 := IntWalk.i64_in _ (by omega)
  have hx2 : IntKind.i64.wrap ((p : Int) + 2) = (p : Int) + 2 := IntWalk.i64_in _ (by omega)
  have hx3 : IntKind.i64.wrap ((p : Int) + 3) = (p : Int) + 3 := IntWalk.i64_in _ (by omega)
  have hx9 : IntKind.i64.wrap ((p : Int) + 9) = (p : Int) + 9 := IntWalk.i64_in _ (by omega)
  clear h hd hg
  have hlt1 : (p : Int) + 1 < (s.size : Int) := by omega
  have hdi : s[p + 1] = d := by rw [← nth_idx s hlt]; exact HD.out
  have hdt := d.toNat_lt
  have hn : d.toNat ≠ 34 ∧ d.toNat ≠ 92 ∧ d.toNat ≠ 110 ∧ d.toNat ≠ 114 ∧ d.toNat ≠ 116 := by
    unfold simple at hsm
    refine ⟨?_, ?_, ?_, ?_, ?_⟩ <;> (intro h; simp [h] at hsm)
  obtain ⟨n0, n1, n2, n3, n4⟩ := hn
  have k0 : ((d.toNat : Int) == 34) = false := by simp; omega
  have k1 : ((d.toNat : Int) == 92) = false := by simp; omega
  have k2 : ((d.toNat : Int) == 110) = false := by simp; omega
  have k3 : ((d.toNat : Int) == 114) = false := by simp; omega
  have k4 : ((d.toNat : Int) == 116) = false := by simp; omega
  have hem' := hem hsm
  clear hem hes hsm n0 n1 n2 n3 n4
  have HEM := Lib.hid hem'
  clear hem'
  have HB := H
  have HC := Lib.hid (Chg.refl b b w)
  clear H
  (obtain ⟨c0, c1, c2, c3, c4⟩ := HB.out.c5; obtain ⟨f0, f1, f2, f3, f4⟩ := HB.out.f5; have lt := HB.out.lt)
  go_enter Tryz.func114, Tryz.ntmps114
  go_wp2_with fail
  refine wp_loop_rounds 6 ?_
  rw [rounds_succ]
  go_wp2_with fail
  refine wp_region_ord [(0, 1), (1, 1), (2, 1), (3, 1), (4, 1), (5, 1), (6, 1), (7, 1), (8, 1), (9, 1), (10, 1), (11, 1), (12, 1), (13, 1), (14, 1), (15, 1), (16, 1), (17, 1), (18, 1), (19, 1), (20, 1)] [] 5 (by kernel_rfl) (by decide +kernel) ?_
  simp only [pickO, List.append_eq, List.cons_append, List.nil_append, List.getElem?_cons_succ, List.getElem?_cons_zero]
  intro w0 hG
  (repeat ((first | (with_reducible refine ord_q1 ?_) | (with_reducible refine ord_q0 ?_)); intro K hK; first | (refine Or.inr ⟨?_, ?_⟩; (focus (go_simp; first | done | (simp [undef]; done))); go_simp; (with_reducible refine hK _ ?_); clear hK K) | (refine Or.inl ⟨?_, ?_⟩; (focus (go_simp; done)); apply Exists.intro; refine And.intro ?_ ?_; (focus (first | (intro wq hq; obtain ⟨hcq, hfq⟩ := G.old hq; go_simp; (first | done | exact rfl); done) | (intro wq; go_simp; (first | done | exact rfl); done))); go_simp; (with_reducible refine hK _ ?_); clear hK K) | fail))
  (with_reducible refine ord_nil ?_)
  have hbx := hG.b; replace HB := Lib.hid (HB.out.grow hbx); replace HC := Lib.hid (HC.out.grow hbx); clear hG hbx; clear c0 c1 c2 c3 c4 f0 f1 f2 f3 f4 lt; (obtain ⟨c0, c1, c2, c3, c4⟩ := HB.out.c5; obtain ⟨f0, f1, f2, f3, f4⟩ := HB.out.f5; have lt := HB.out.lt)
  go_wp2_with fail
  rw [rounds_succ]
  go_wp2_with fail
  refine wp_region_ord [(0, 1), (1, 1), (2, 1), (3, 1), (4, 1), (5, 1), (6, 1), (7, 1), (8, 1), (9, 1), (10, 1), (11, 1), (12, 1), (13, 1), (14, 1), (15, 1), (16, 1), (17, 1), (18, 1), (19, 1), (20, 1)] [] 5 (by kernel_rfl) (by decide +kernel) ?_
  simp only [pickO, List.append_eq, List.cons_append, List.nil_append, List.getElem?_cons_succ, List.getElem?_cons_zero]
  intro w0 hG
  (repeat ((first | (with_reducible refine ord_q1 ?_) | (with_reducible refine ord_q0 ?_)); intro K hK; first | (refine Or.inr ⟨?_, ?_⟩; (focus (go_simp; first | done | (simp [undef]; done))); go_simp; (with_reducible refine hK _ ?_); clear hK K) | (refine Or.inl ⟨?_, ?_⟩; (focus (go_simp; done)); apply Exists.intro; refine And.intro ?_ ?_; (focus (first | (intro wq hq; obtain ⟨hcq, hfq⟩ := G.old hq; go_simp; (first | done | exact rfl); done) | (intro wq; go_simp; (first | done | exact rfl); done))); go_simp; (with_reducible refine hK _ ?_); clear hK K) | fail))
  (with_reducible refine ord_nil ?_)
  have hbx := hG.b; replace HB := Lib.hid (HB.out.grow hbx); replace HC := Lib.hid (HC.out.grow hbx); clear hG hbx; clear c0 c1 c2 c3 c4 f0 f1 f2 f3 f4 lt; (obtain ⟨c0, c1, c2, c3, c4⟩ := HB.out.c5; obtain ⟨f0, f1, f2, f3, f4⟩ := HB.out.f5; have lt := HB.out.lt)
  go_wp2_with fail
  rw [rounds_succ]
  go_wp2_with fail
  refine wp_region_ord [(0, 1), (1, 1), (2, 1), (3, 1), (4, 1), (5, 1), (6, 1), (7, 1), (8, 1), (9, 1), (10, 1), (11, 1), (12, 1), (13, 1), (14, 1), (15, 1), (16, 1), (17, 1), (18, 1), (19, 1), (20, 1)] [] 5 (by kernel_rfl) (by decide +kernel) ?_
  simp only [pickO, List.append_eq, List.cons_append, List.nil_append, List.getElem?_cons_succ, List.getElem?_cons_zero]
  intro w0 hG
  (repeat ((first | (with_reducible refine ord_q1 ?_) | (with_reducible refine ord_q0 ?_)); intro K hK; first | (refine Or.inr ⟨?_, ?_⟩; (focus (go_simp; first | done | (simp [undef]; done))); go_simp; (with_reducible refine hK _ ?_); clear hK K) | (refine Or.inl ⟨?_, ?_⟩; (focus (go_simp; done)); apply Exists.intro; refine And.intro ?_ ?_; (focus (first | (intro wq hq; obtain ⟨hcq, hfq⟩ := G.old hq; go_simp; (first | done | exact rfl); done) | (intro wq; go_simp; (first | done | exact rfl); done))); go_simp; (with_reducible refine hK _ ?_); clear hK K) | fail))
  (with_reducible refine ord_nil ?_)
  have hbx := hG.b; replace HB := Lib.hid (HB.out.grow hbx); replace HC := Lib.hid (HC.out.grow hbx); clear hG hbx; clear c0 c1 c2 c3 c4 f0 f1 f2 f3 f4 lt; (obtain ⟨c0, c1, c2, c3, c4⟩ := HB.out.c5; obtain ⟨f0, f1, f2, f3, f4⟩ := HB.out.f5; have lt := HB.out.lt)
  go_wp2_with fail
  rw [rounds_succ]
  go_wp2_with fail
  refine wp_region_ord [(0, 1), (1, 1), (2, 1), (3, 1), (4, 1), (5, 1), (6, 1), (7, 1), (8, 1), (9, 1), (10, 1), (11, 1), (12, 1), (13, 1), (14, 1), (15, 1), (16, 1), (17, 1), (18, 1), (19, 1), (20, 1)] [] 5 (by kernel_rfl) (by decide +kernel) ?_
  simp only [pickO, List.append_eq, List.cons_append, List.nil_append, List.getElem?_cons_succ, List.getElem?_cons_zero]
  intro w0 hG
  (repeat ((first | (with_reducible refine ord_q1 ?_) | (with_reducible refine ord_q0 ?_)); intro K hK; first | (refine Or.inr ⟨?_, ?_⟩; (focus (go_simp; first | done | (simp [undef]; done))); go_simp; (with_reducible refine hK _ ?_); clear hK K) | (refine Or.inl ⟨?_, ?_⟩; (focus (go_simp; done)); apply Exists.intro; refine And.intro ?_ ?_; (focus (first | (intro wq hq; obtain ⟨hcq, hfq⟩ := G.old hq; go_simp; (first | done | exact rfl); done) | (intro wq; go_simp; (first | done | exact rfl); done))); go_simp; (with_reducible refine hK _ ?_); clear hK K) | fail))
  (with_reducible refine ord_nil ?_)
  have hbx := hG.b; replace HB := Lib.hid (HB.out.grow hbx); replace HC := Lib.hid (HC.out.grow hbx); clear hG hbx; clear c0 c1 c2 c3 c4 f0 f1 f2 f3 f4 lt; (obtain ⟨c0, c1, c2, c3, c4⟩ := HB.out.c5; obtain ⟨f0, f1, f2, f3, f4⟩ := HB.out.f5; have lt := HB.out.lt)
  go_wp2_with fail
  rw [rounds_succ]
  go_wp2_with fail
  refine wp_region_ord [(0, 1), (1, 1), (2, 1), (3, 1), (4, 1), (5, 1), (6, 1), (7, 1), (8, 1), (9, 1), (10, 1), (11, 1), (12, 1), (13, 1), (14, 1), (15, 1), (16, 1), (17, 1), (18, 1), (19, 1), (20, 1)] [] 5 (by kernel_rfl) (by decide +kernel) ?_
  simp only [pickO, List.append_eq, List.cons_append, List.nil_append, List.getElem?_cons_succ, List.getElem?_cons_zero]
  intro w0 hG
  (repeat ((first | (with_reducible refine ord_q1 ?_) | (with_reducible refine ord_q0 ?_)); intro K hK; first | (refine Or.inr ⟨?_, ?_⟩; (focus (go_simp; first | done | (simp [undef]; done))); go_simp; (with_reducible refine hK _ ?_); clear hK K) | (refine Or.inl ⟨?_, ?_⟩; (focus (go_simp; done)); apply Exists.intro; refine And.intro ?_ ?_; (focus (first | (intro wq hq; obtain ⟨hcq, hfq⟩ := G.old hq; go_simp; (first | done | exact rfl); done) | (intro wq; go_simp; (first | done | exact rfl); done))); go_simp; (with_reducible refine hK _ ?_); clear hK K) | fail))
  (with_reducible refine ord_nil ?_)
  have hbx := hG.b; replace HB := Lib.hid (HB.out.grow hbx); replace HC := Lib.hid (HC.out.grow hbx); clear hG hbx; clear c0 c1 c2 c3 c4 f0 f1 f2 f3 f4 lt; (obtain ⟨c0, c1, c2, c3, c4⟩ := HB.out.c5; obtain ⟨f0, f1, f2, f3, f4⟩ := HB.out.f5; have lt := HB.out.lt)
  go_wp2_with fail
  rw [rounds_succ]
  go_wp2_with fail
  obtain ⟨m6, hm6⟩ : ∃ m6, min 6 (spn isHex (s.data.toList.drop (p + 3))) = m6 := ⟨_, rfl⟩
  obtain ⟨L, hL⟩ : ∃ L, s.data.toList.drop (p + 3) = L := ⟨_, rfl⟩
  have hem2 := HEM.out
  rw [hm6, hL] at hem2
  rw [hL] at hm6
  have hLl : L.length = s.size - (p + 3) := by rw [← hL, List.length_drop]; rfl
  have hLn : ∀ k, nth L k = nth s.data.toList (p + 3 + k) := fun k => by rw [← hL, nth_drop]
  have hm7 : m6 ≤ 6 ∧ m6 ≤ L.length := by have := spn_le isHex L; omega
  have hall : ∀ c ∈ L.take m6, isHex c = true := fun c hc => by
    obtain ⟨k, hk⟩ := List.getElem?_of_mem hc
    rw [List.getElem?_take] at hk
    split at hk
    · have := spn_all (p := isHex) (r := L) (k := k) (by omega)
      rw [nth_get (by have := (List.getElem?_eq_some_iff.1 hk).1; exact this)] at this
      rw [(List.getElem?_eq_some_iff.1 hk).2] at this
      exact this
    · cases hk
  have HPB := Lib.hid (hexN_bd 6 (L.take m6) (by rw [List.length_take]; omega) hall)
  have HM6 := Lib.hid hm6
  have HL := Lib.hid hL
  have HLl := Lib.hid hLl
  have HLn := Lib.hid hLn
  have HE2 := Lib.hid hem2
  clear hm6 hL hLl hLn hem2 HEM hall
  have hm60 := hm7.1
  have hm7L := Lib.hid hm7.2
  clear hm7
  clear c0 c1 c2 c3 c4 f0 f1 f2 f3 f4 lt
  go_loopw [7, 8] (fun av pv wx => ∃ (t q : Nat) (P : Int), t ≤ m6 ∧ Hid (p + 3 + t = q) ∧ q ≤ p + 9 ∧ av = .int .i64 (q : Int) ∧ pv = .int .i64 P ∧ Hid (hexN (L.take t) = P) ∧ Hid (Bx wx b (mC s (p : Int) lv 0 tb)) ∧ Hid (Chg b b w wx)) (fun av _ _ => p + 10 - (intOf av).toNat)
  case atStart => exact ⟨0, p + 3, 0, Nat.zero_le _, rfl, by omega, by go_num, rfl, rfl, HB, HC⟩
  case round =>
    clear HB HC
    obtain ⟨t, q, P, ht, HQ, hq9, rfl, rfl, HPV, HB, HC⟩ := hrel
    have hx1q : IntKind.i64.wrap ((q : Int) + 1) = (q : Int) + 1 := IntWalk.i64_in _ (by omega)
    (obtain ⟨c0, c1, c2, c3, c4⟩ := HB.out.c5; obtain ⟨f0, f1, f2, f3, f4⟩ := HB.out.f5; have lt := HB.out.lt)
    by_cases hq : q < s.size
    · have hq1 : (q : Int) < (s.size : Int) := by omega
      by_cases h9 : q < p + 9
      · have h91 : (q : Int) < (p : Int) + 9 := by omega
        obtain ⟨x, hx⟩ : ∃ c, s[q] = c := ⟨_, rfl⟩
        have hxl : nth L t = x := by rw [HLn.out, HQ.out, nth_idx s hq, hx]
        have HX1 := Lib.hid (HM.out x)
        have hab := hex_bd x
        by_cases hv : hexV x < 0
        · have ht6 : t = m6 := by
            have h1 : isHex (nth L t) = false := by rw [hxl]; unfold isHex; simp; omega
            have h2 : spn isHex L ≤ t := by
              rcases Nat.lt_or_ge t (spn isHex L) with h | h
              · have := spn_all h; rw [h1] at this; cases this
              · exact h
            have := HM6.out
            omega
          have HV := Lib.hid ht6
          obtain ⟨va, hva⟩ : ∃ v, hexV x = v := ⟨_, rfl⟩
          rw [hva] at HX1 hv hab
          clear hva hxl ht6
          go_wp2_with fail
          go_at_call 113
          (with_reducible refine (HX1.out _).mono ?_)
          rintro e1 w3 ⟨rfl, rfl⟩
          go_wp2_with fail
          clear HX1 hv hab h91
          have hE3 := HE2.out
          have hz : p + (3 + m6) = q := by have := HV.out; have := HQ.out; omega
          rw [hz] at hE3
          obtain ⟨y, hy⟩ : ∃ c, nth s.data.toList q = c := ⟨_, rfl⟩
          rw [hy] at hE3
          have HY := Lib.hid hy
          have HPE : Hid (hexN (L.take m6) = P) := by have := HV.out; unfold Hid; rw [← this]; exact HPV.out
          rw [HPE.out] at hE3
          have hpb := HPB.out
          rw [HPE.out] at hpb
          have hpb2 : P < 2147483648 := by omega
          have hmq : (m6 = 0) ↔ q = p + 3 := by omega
          by_cases h117 : d.toNat = 117
          · have kd : ((d.toNat : Int) != 117) = false := by simp [h117]
            by_cases h123 : g.toNat = 123
            · have kg : ((g.toNat : Int) != 123) = false := by simp [h123]
              by_cases h0 : m6 = 0
              · have ka : ((q : Int) == (p : Int) + 3) = true := by simp; omega
                rw [if_pos (.inr (.inr (.inl h0)))] at hE3
                have hXX := Lib.hid hE3
                clear hE3 h0 hmq h117 h123 hy hz
                go_at_call 86
                (with_reducible refine (HH.out _ _ _ _ (p + 1) (by omega) (by omega) HB.out).mono ?_)
                rw [HD.out]
                rintro e1 w6 ⟨rfl, rfl⟩
                go_wp2_with fail
                go_at_call 86
                (with_reducible refine (HH.out _ _ _ _ (p + 2) (by omega) (by omega) HB.out).mono ?_)
                rw [HGg.out]
                rintro e1 w6 ⟨rfl, rfl⟩
                go_wp2_with fail
                go_at_call 55
                (with_reducible refine (FL.out _ _ _ _ HB.out).mono ?_)
                rintro e1 w7 ⟨rfl, hb7, hc7⟩
                go_wp2_with fail
                go_ret
                exact RetEs.bad' hXX.out (HC.out.trans hc7) hb7
              · have ka : ((q : Int) == (p : Int) + 3) = false := by simp; omega
                by_cases h125 : y.toNat = 125
                · have ky : ((y.toNat : Int) != 125) = false := by simp [h125]
                  rw [if_neg (by rintro (h | h | h | h); exact h h117; exact h h123; exact h0 h; exact h h125)] at hE3
                  have EN := Lib.hid (fun wx => encode_any P wx ⟨hpb.1, hpb2⟩)
                  rcases hpt : isPt P with _ | _
                  · rw [hpt, if_neg (by simp)] at hE3
                    rw [hpt, if_neg (by simp)] at EN
                    have hXX := Lib.hid hE3
                    clear hE3 h0 hmq h117 h123 h125 hy hz hpt
                    go_at_call 86
                    (with_reducible refine (HH.out _ _ _ _ (p + 1) (by omega) (by omega) HB.out).mono ?_)
                    rw [HD.out]
                    rintro e1 w6 ⟨rfl, rfl⟩
                    go_wp2_with fail
                    go_at_call 86
                    (with_reducible refine (HH.out _ _ _ _ (p + 2) (by omega) (by omega) HB.out).mono ?_)
                    rw [HGg.out]
                    rintro e1 w6 ⟨rfl, rfl⟩
                    go_wp2_with fail
                    go_at_call 86
                    (with_reducible refine (HH.out _ _ _ _ (q) (by omega) (by omega) HB.out).mono ?_)
                    rw [HY.out]
                    rintro e1 w6 ⟨rfl, rfl⟩
                    go_wp2_with fail
                    go_at_call 107
                    (with_reducible refine (EN.out _).mono ?_)
                    rintro e1 w6 ⟨rfl, rfl⟩
                    go_wp2_with fail
                    go_at_call 55
                    (with_reducible refine (FL.out _ _ _ _ HB.out).mono ?_)
                    rintro e1 w7 ⟨rfl, hb7, hc7⟩
                    go_wp2_with fail
                    go_ret
                    exact RetEs.bad' hXX.out (HC.out.trans hc7) hb7
                  · rw [hpt, if_pos rfl] at hE3
                    rw [hpt, if_pos rfl] at EN
                    have hXX := Lib.hid hE3
                    have hz2 := Lib.hid hz
                    clear hE3 h0 hmq h117 h123 h125 hy hz hpt
                    go_at_call 86
                    (with_reducible refine (HH.out _ _ _ _ (p + 1) (by omega) (by omega) HB.out).mono ?_)
                    rw [HD.out]
                    rintro e1 w6 ⟨rfl, rfl⟩
                    go_wp2_with fail
                    go_at_call 86
                    (with_reducible refine (HH.out _ _ _ _ (p + 2) (by omega) (by omega) HB.out).mono ?_)
                    rw [HGg.out]
                    rintro e1 w6 ⟨rfl, rfl⟩
                    go_wp2_with fail
                    go_at_call 86
                    (with_reducible refine (HH.out _ _ _ _ (q) (by omega) (by omega) HB.out).mono ?_)
                    rw [HY.out]
                    rintro e1 w6 ⟨rfl, rfl⟩
                    go_wp2_with fail
                    go_at_call 107
                    (with_reducible refine (EN.out _).mono ?_)
                    rintro e1 w6 ⟨rfl, rfl⟩
                    go_wp2_with fail
                    go_ret
                    exact RetEs.ok' hXX.out rfl (by have := hz2.out; omega) (HC.out.set1 _ _) (HB.out.put rfl)
                · have ky : ((y.toNat : Int) != 125) = true := by simp; omega
                  rw [if_pos (.inr (.inr (.inr h125)))] at hE3
                  have hXX := Lib.hid hE3
                  clear hE3 h0 hmq h117 h123 h125 hy hz
                  go_at_call 86
                  (with_reducible refine (HH.out _ _ _ _ (p + 1) (by omega) (by omega) HB.out).mono ?_)
                  rw [HD.out]
                  rintro e1 w6 ⟨rfl, rfl⟩
                  go_wp2_with fail
                  go_at_call 86
                  (with_reducible refine (HH.out _ _ _ _ (p + 2) (by omega) (by omega) HB.out).mono ?_)
                  rw [HGg.out]
                  rintro e1 w6 ⟨rfl, rfl⟩
                  go_wp2_with fail
                  go_at_call 86
                  (with_reducible refine (HH.out _ _ _ _ (q) (by omega) (by omega) HB.out).mono ?_)
                  rw [HY.out]
                  rintro e1 w6 ⟨rfl, rfl⟩
                  go_wp2_with fail
                  go_at_call 55
                  (with_reducible refine (FL.out _ _ _ _ HB.out).mono ?_)
                  rintro e1 w7 ⟨rfl, hb7, hc7⟩
                  go_wp2_with fail
                  go_ret
                  exact RetEs.bad' hXX.out (HC.out.trans hc7) hb7
            · have kg : ((g.toNat : Int) != 123) = true := by simp; omega
              rw [if_pos (.inr (.inl h123))] at hE3
              have hXX := Lib.hid hE3
              clear hE3 hmq h117 h123 hy hz
              go_at_call 86
              (with_reducible refine (HH.out _ _ _ _ (p + 1) (by omega) (by omega) HB.out).mono ?_)
              rw [HD.out]
              rintro e1 w6 ⟨rfl, rfl⟩
              go_wp2_with fail
              go_at_call 86
              (with_reducible refine (HH.out _ _ _ _ (p + 2) (by omega) (by omega) HB.out).mono ?_)
              rw [HGg.out]
              rintro e1 w6 ⟨rfl, rfl⟩
              go_wp2_with fail
              go_at_call 55
              (with_reducible refine (FL.out _ _ _ _ HB.out).mono ?_)
              rintro e1 w7 ⟨rfl, hb7, hc7⟩
              go_wp2_with fail
              go_ret
              exact RetEs.bad' hXX.out (HC.out.trans hc7) hb7
          · have kd : ((d.toNat : Int) != 117) = true := by simp; omega
            rw [if_pos (.inl h117)] at hE3
            have hXX := Lib.hid hE3
            clear hE3 hmq h117 hy hz
            go_at_call 86
            (with_reducible refine (HH.out _ _ _ _ (p + 1) (by omega) (by omega) HB.out).mono ?_)
            rw [HD.out]
            rintro e1 w6 ⟨rfl, rfl⟩
            go_wp2_with fail
            go_at_call 55
            (with_reducible refine (FL.out _ _ _ _ HB.out).mono ?_)
            rintro e1 w7 ⟨rfl, hb7, hc7⟩
            go_wp2_with fail
            go_ret
            exact RetEs.bad' hXX.out (HC.out.trans hc7) hb7
        · have ht6 : t + 1 ≤ m6 := by
            have h3 : t < spn isHex L := by
              have hsp : ∀ (k : Nat) (r : List UInt8), k < r.length → (∀ j, j ≤ k → isHex (nth r j) = true) → k < spn isHex r := by
                intro k
                induction k with
                | zero =>
                  intro r hr hj
                  match r, hr with
                  | c :: r, _ =>
                    have := hj 0 (Nat.le_refl 0)
                    unfold spn
                    rw [if_pos (by exact this)]
                    omega
                | succ k ih =>
                  intro r hr hj
                  match r, hr with
                  | c :: r, hr =>
                    have h0 := hj 0 (Nat.zero_le _)
                    unfold spn
                    rw [if_pos (by exact h0)]
                    have := ih r (by simpa using hr) (fun j hjk => by have := hj (j + 1) (by omega); exact this)
                    omega
              refine hsp t L (by have := HLl.out; have := HQ.out; omega) fun j hj => ?_
              rcases Nat.lt_or_ge j t with h | h
              · exact spn_all (by have := HM6.out; omega)
              · have : j = t := by omega
                subst this
                rw [hxl]
                unfold isHex
                simp
                omega
            have := HM6.out
            have := HQ.out
            omega
          have hPb : 0 ≤ P ∧ P < 16777216 := by
            rw [← HPV.out]
            exact hexN_bd 6 (L.take t) (by rw [List.length_take]; omega) (fun c hc => by
              obtain ⟨k, hk⟩ := List.getElem?_of_mem hc
              rw [List.getElem?_take] at hk
              split at hk
              · have := spn_all (p := isHex) (r := L) (k := k) (by have := HM6.out; omega)
                rw [nth_get (by have := (List.getElem?_eq_some_iff.1 hk).1; exact this)] at this
                rw [(List.getElem?_eq_some_iff.1 hk).2] at this
                exact this
              · cases hk)
          have hPN : Hid (hexN (L.take (t + 1)) = 16 * P + hexV x) := by
            have hl := hm7L.out
            unfold Hid
            rw [List.take_succ_eq_append_getElem (by omega), hexN_app, HPV.out, ← nth_get (by omega), hxl]
          obtain ⟨va, hva⟩ : ∃ v, hexV x = v := ⟨_, rfl⟩
          rw [hva] at HX1 hv hab hPN
          have w1 : IntKind.i64.wrap (16 * P) = 16 * P := IntWalk.i64_in _ (by omega)
          have w2 : IntKind.i64.wrap (16 * P + va) = 16 * P + va := IntWalk.i64_in _ (by omega)
          have hv2 : 0 ≤ va := by omega
          clear hva hxl hab hPb
          go_wp2_with fail
          go_at_call 113
          (with_reducible refine (HX1.out _).mono ?_)
          rintro e1 w3 ⟨rfl, rfl⟩
          go_wp2_with fail
          go_at_call 113
          (with_reducible refine (HX1.out _).mono ?_)
          rintro e1 w4 ⟨rfl, rfl⟩
          go_wp2_with fail
          go_roundw
          case rel => exact ⟨t + 1, q + 1, 16 * P + va, ht6, by have := HQ.out; unfold Hid; omega, by omega, by go_num, rfl, hPN, HB, HC⟩
          case measure => simp [intOf]; omega
      · have h91 : ¬ (q : Int) < (p : Int) + 9 := by omega
        have HV : Hid (t = m6) := by unfold Hid; have := HQ.out; omega
        go_wp2_with fail
        clear h91
        have hE3 := HE2.out
        have hz : p + (3 + m6) = q := by have := HV.out; have := HQ.out; omega
        rw [hz] at hE3
        obtain ⟨y, hy⟩ : ∃ c, nth s.data.toList q = c := ⟨_, rfl⟩
        rw [hy] at hE3
        have HY := Lib.hid hy
        have HPE : Hid (hexN (L.take m6) = P) := by have := HV.out; unfold Hid; rw [← this]; exact HPV.out
        rw [HPE.out] at hE3
        have hpb := HPB.out
        rw [HPE.out] at hpb
        have hpb2 : P < 2147483648 := by omega
        have hmq : (m6 = 0) ↔ q = p + 3 := by omega
        by_cases h117 : d.toNat = 117
        · have kd : ((d.toNat : Int) != 117) = false := by simp [h117]
          by_cases h123 : g.toNat = 123
          · have kg : ((g.toNat : Int) != 123) = false := by simp [h123]
            by_cases h0 : m6 = 0
            · have ka : ((q : Int) == (p : Int) + 3) = true := by simp; omega
              rw [if_pos (.inr (.inr (.inl h0)))] at hE3
              have hXX := Lib.hid hE3
              clear hE3 h0 hmq h117 h123 hy hz
              go_at_call 86
              (with_reducible refine (HH.out _ _ _ _ (p + 1) (by omega) (by omega) HB.out).mono ?_)
              rw [HD.out]
              rintro e1 w6 ⟨rfl, rfl⟩
              go_wp2_with fail
              go_at_call 86
              (with_reducible refine (HH.out _ _ _ _ (p + 2) (by omega) (by omega) HB.out).mono ?_)
              rw [HGg.out]
              rintro e1 w6 ⟨rfl, rfl⟩
              go_wp2_with fail
              go_at_call 55
              (with_reducible refine (FL.out _ _ _ _ HB.out).mono ?_)
              rintro e1 w7 ⟨rfl, hb7, hc7⟩
              go_wp2_with fail
              go_ret
              exact RetEs.bad' hXX.out (HC.out.trans hc7) hb7
            · have ka : ((q : Int) == (p : Int) + 3) = false := by simp; omega
              by_cases h125 : y.toNat = 125
              · have ky : ((y.toNat : Int) != 125) = false := by simp [h125]
                rw [if_neg (by rintro (h | h | h | h); exact h h117; exact h h123; exact h0 h; exact h h125)] at hE3
                have EN := Lib.hid (fun wx => encode_any P wx ⟨hpb.1, hpb2⟩)
                rcases hpt : isPt P with _ | _
                · rw [hpt, if_neg (by simp)] at hE3
                  rw [hpt, if_neg (by simp)] at EN
                  have hXX := Lib.hid hE3
                  clear hE3 h0 hmq h117 h123 h125 hy hz hpt
                  go_at_call 86
                  (with_reducible refine (HH.out _ _ _ _ (p + 1) (by omega) (by omega) HB.out).mono ?_)
                  rw [HD.out]
                  rintro e1 w6 ⟨rfl, rfl⟩
                  go_wp2_with fail
                  go_at_call 86
                  (with_reducible refine (HH.out _ _ _ _ (p + 2) (by omega) (by omega) HB.out).mono ?_)
                  rw [HGg.out]
                  rintro e1 w6 ⟨rfl, rfl⟩
                  go_wp2_with fail
                  go_at_call 86
                  (with_reducible refine (HH.out _ _ _ _ (q) (by omega) (by omega) HB.out).mono ?_)
                  rw [HY.out]
                  rintro e1 w6 ⟨rfl, rfl⟩
                  go_wp2_with fail
                  go_at_call 107
                  (with_reducible refine (EN.out _).mono ?_)
                  rintro e1 w6 ⟨rfl, rfl⟩
                  go_wp2_with fail
                  go_at_call 55
                  (with_reducible refine (FL.out _ _ _ _ HB.out).mono ?_)
                  rintro e1 w7 ⟨rfl, hb7, hc7⟩
                  go_wp2_with fail
                  go_ret
                  exact RetEs.bad' hXX.out (HC.out.trans hc7) hb7
                · rw [hpt, if_pos rfl] at hE3
                  rw [hpt, if_pos rfl] at EN
                  have hXX := Lib.hid hE3
                  have hz2 := Lib.hid hz
                  clear hE3 h0 hmq h117 h123 h125 hy hz hpt
                  go_at_call 86
                  (with_reducible refine (HH.out _ _ _ _ (p + 1) (by omega) (by omega) HB.out).mono ?_)
                  rw [HD.out]
                  rintro e1 w6 ⟨rfl, rfl⟩
                  go_wp2_with fail
                  go_at_call 86
                  (with_reducible refine (HH.out _ _ _ _ (p + 2) (by omega) (by omega) HB.out).mono ?_)
                  rw [HGg.out]
                  rintro e1 w6 ⟨rfl, rfl⟩
                  go_wp2_with fail
                  go_at_call 86
                  (with_reducible refine (HH.out _ _ _ _ (q) (by omega) (by omega) HB.out).mono ?_)
                  rw [HY.out]
                  rintro e1 w6 ⟨rfl, rfl⟩
                  go_wp2_with fail
                  go_at_call 107
                  (with_reducible refine (EN.out _).mono ?_)
                  rintro e1 w6 ⟨rfl, rfl⟩
                  go_wp2_with fail
                  go_ret
                  exact RetEs.ok' hXX.out rfl (by have := hz2.out; omega) (HC.out.set1 _ _) (HB.out.put rfl)
              · have ky : ((y.toNat : Int) != 125) = true := by simp; omega
                rw [if_pos (.inr (.inr (.inr h125)))] at hE3
                have hXX := Lib.hid hE3
                clear hE3 h0 hmq h117 h123 h125 hy hz
                go_at_call 86
                (with_reducible refine (HH.out _ _ _ _ (p + 1) (by omega) (by omega) HB.out).mono ?_)
                rw [HD.out]
                rintro e1 w6 ⟨rfl, rfl⟩
                go_wp2_with fail
                go_at_call 86
                (with_reducible refine (HH.out _ _ _ _ (p + 2) (by omega) (by omega) HB.out).mono ?_)
                rw [HGg.out]
                rintro e1 w6 ⟨rfl, rfl⟩
                go_wp2_with fail
                go_at_call 86
                (with_reducible refine (HH.out _ _ _ _ (q) (by omega) (by omega) HB.out).mono ?_)
                rw [HY.out]
                rintro e1 w6 ⟨rfl, rfl⟩
                go_wp2_with fail
                go_at_call 55
                (with_reducible refine (FL.out _ _ _ _ HB.out).mono ?_)
                rintro e1 w7 ⟨rfl, hb7, hc7⟩
                go_wp2_with fail
                go_ret
                exact RetEs.bad' hXX.out (HC.out.trans hc7) hb7
          · have kg : ((g.toNat : Int) != 123) = true := by simp; omega
            rw [if_pos (.inr (.inl h123))] at hE3
            have hXX := Lib.hid hE3
            clear hE3 hmq h117 h123 hy hz
            go_at_call 86
            (with_reducible refine (HH.out _ _ _ _ (p + 1) (by omega) (by omega) HB.out).mono ?_)
            rw [HD.out]
            rintro e1 w6 ⟨rfl, rfl⟩
            go_wp2_with fail
            go_at_call 86
            (with_reducible refine (HH.out _ _ _ _ (p + 2) (by omega) (by omega) HB.out).mono ?_)
            rw [HGg.out]
            rintro e1 w6 ⟨rfl, rfl⟩
            go_wp2_with fail
            go_at_call 55
            (with_reducible refine (FL.out _ _ _ _ HB.out).mono ?_)
            rintro e1 w7 ⟨rfl, hb7, hc7⟩
            go_wp2_with fail
            go_ret
            exact RetEs.bad' hXX.out (HC.out.trans hc7) hb7
        · have kd : ((d.toNat : Int) != 117) = true := by simp; omega
          rw [if_pos (.inl h117)] at hE3
          have hXX := Lib.hid hE3
          clear hE3 hmq h117 hy hz
          go_at_call 86
          (with_reducible refine (HH.out _ _ _ _ (p + 1) (by omega) (by omega) HB.out).mono ?_)
          rw [HD.out]
          rintro e1 w6 ⟨rfl, rfl⟩
          go_wp2_with fail
          go_at_call 55
          (with_reducible refine (FL.out _ _ _ _ HB.out).mono ?_)
          rintro e1 w7 ⟨rfl, hb7, hc7⟩
          go_wp2_with fail
          go_ret
          exact RetEs.bad' hXX.out (HC.out.trans hc7) hb7
    · have hq1 : ¬ (q : Int) < (s.size : Int) := by omega
      have HV : Hid (t = m6) := by unfold Hid; have := HQ.out; have := HLl.out; have := hm7L.out; omega
      go_wp2_with fail
      have hE3 := HE2.out
      have hz : p + (3 + m6) = q := by have := HV.out; have := HQ.out; omega
      rw [hz] at hE3
      obtain ⟨y, hy⟩ : ∃ c, nth s.data.toList q = c := ⟨_, rfl⟩
      rw [hy] at hE3
      have HY := Lib.hid hy
      have HPE : Hid (hexN (L.take m6) = P) := by have := HV.out; unfold Hid; rw [← this]; exact HPV.out
      rw [HPE.out] at hE3
      have hpb := HPB.out
      rw [HPE.out] at hpb
      have hpb2 : P < 2147483648 := by omega
      have hmq : (m6 = 0) ↔ q = p + 3 := by omega
      by_cases h117 : d.toNat = 117
      · have kd : ((d.toNat : Int) != 117) = false := by simp [h117]
        by_cases h123 : g.toNat = 123
        · have kg : ((g.toNat : Int) != 123) = false := by simp [h123]
          by_cases h0 : m6 = 0
          · have ka : ((q : Int) == (p : Int) + 3) = true := by simp; omega
            rw [if_pos (.inr (.inr (.inl h0)))] at hE3
            have hXX := Lib.hid hE3
            clear hE3 h0 hmq h117 h123 hy hz
            go_at_call 86
            (with_reducible refine (HH.out _ _ _ _ (p + 1) (by omega) (by omega) HB.out).mono ?_)
            rw [HD.out]
            rintro e1 w6 ⟨rfl, rfl⟩
            go_wp2_with fail
            go_at_call 86
            (with_reducible refine (HH.out _ _ _ _ (p + 2) (by omega) (by omega) HB.out).mono ?_)
            rw [HGg.out]
            rintro e1 w6 ⟨rfl, rfl⟩
            go_wp2_with fail
            go_at_call 55
            (with_reducible refine (FL.out _ _ _ _ HB.out).mono ?_)
            rintro e1 w7 ⟨rfl, hb7, hc7⟩
            go_wp2_with fail
            go_ret
            exact RetEs.bad' hXX.out (HC.out.trans hc7) hb7
          · have ka : ((q : Int) == (p : Int) + 3) = false := by simp; omega
            by_cases h125 : y.toNat = 125
            · have ky : ((y.toNat : Int) != 125) = false := by simp [h125]
              rw [if_neg (by rintro (h | h | h | h); exact h h117; exact h h123; exact h0 h; exact h h125)] at hE3
              have EN := Lib.hid (fun wx => encode_any P wx ⟨hpb.1, hpb2⟩)
              rcases hpt : isPt P with _ | _
              · rw [hpt, if_neg (by simp)] at hE3
                rw [hpt, if_neg (by simp)] at EN
                have hXX := Lib.hid hE3
                clear hE3 h0 hmq h117 h123 h125 hy hz hpt
                go_at_call 86
                (with_reducible refine (HH.out _ _ _ _ (p + 1) (by omega) (by omega) HB.out).mono ?_)
                rw [HD.out]
                rintro e1 w6 ⟨rfl, rfl⟩
                go_wp2_with fail
                go_at_call 86
                (with_reducible refine (HH.out _ _ _ _ (p + 2) (by omega) (by omega) HB.out).mono ?_)
                rw [HGg.out]
                rintro e1 w6 ⟨rfl, rfl⟩
                go_wp2_with fail
                go_at_call 86
                (with_reducible refine (HH.out _ _ _ _ (q) (by omega) (by omega) HB.out).mono ?_)
                rw [HY.out]
                rintro e1 w6 ⟨rfl, rfl⟩
                go_wp2_with fail
                go_at_call 107
                (with_reducible refine (EN.out _).mono ?_)
                rintro e1 w6 ⟨rfl, rfl⟩
                go_wp2_with fail
                go_at_call 55
                (with_reducible refine (FL.out _ _ _ _ HB.out).mono ?_)
                rintro e1 w7 ⟨rfl, hb7, hc7⟩
                go_wp2_with fail
                go_ret
                exact RetEs.bad' hXX.out (HC.out.trans hc7) hb7
              · rw [hpt, if_pos rfl] at hE3
                rw [hpt, if_pos rfl] at EN
                have hXX := Lib.hid hE3
                have hz2 := Lib.hid hz
                clear hE3 h0 hmq h117 h123 h125 hy hz hpt
                go_at_call 86
                (with_reducible refine (HH.out _ _ _ _ (p + 1) (by omega) (by omega) HB.out).mono ?_)
                rw [HD.out]
                rintro e1 w6 ⟨rfl, rfl⟩
                go_wp2_with fail
                go_at_call 86
                (with_reducible refine (HH.out _ _ _ _ (p + 2) (by omega) (by omega) HB.out).mono ?_)
                rw [HGg.out]
                rintro e1 w6 ⟨rfl, rfl⟩
                go_wp2_with fail
                go_at_call 86
                (with_reducible refine (HH.out _ _ _ _ (q) (by omega) (by omega) HB.out).mono ?_)
                rw [HY.out]
                rintro e1 w6 ⟨rfl, rfl⟩
                go_wp2_with fail
                go_at_call 107
                (with_reducible refine (EN.out _).mono ?_)
                rintro e1 w6 ⟨rfl, rfl⟩
                go_wp2_with fail
                go_ret
                exact RetEs.ok' hXX.out rfl (by have := hz2.out; omega) (HC.out.set1 _ _) (HB.out.put rfl)
            · have ky : ((y.toNat : Int) != 125) = true := by simp; omega
              rw [if_pos (.inr (.inr (.inr h125)))] at hE3
              have hXX := Lib.hid hE3
              clear hE3 h0 hmq h117 h123 h125 hy hz
              go_at_call 86
              (with_reducible refine (HH.out _ _ _ _ (p + 1) (by omega) (by omega) HB.out).mono ?_)
              rw [HD.out]
              rintro e1 w6 ⟨rfl, rfl⟩
              go_wp2_with fail
              go_at_call 86
              (with_reducible refine (HH.out _ _ _ _ (p + 2) (by omega) (by omega) HB.out).mono ?_)
              rw [HGg.out]
              rintro e1 w6 ⟨rfl, rfl⟩
              go_wp2_with fail
              go_at_call 86
              (with_reducible refine (HH.out _ _ _ _ (q) (by omega) (by omega) HB.out).mono ?_)
              rw [HY.out]
              rintro e1 w6 ⟨rfl, rfl⟩
              go_wp2_with fail
              go_at_call 55
              (with_reducible refine (FL.out _ _ _ _ HB.out).mono ?_)
              rintro e1 w7 ⟨rfl, hb7, hc7⟩
              go_wp2_with fail
              go_ret
              exact RetEs.bad' hXX.out (HC.out.trans hc7) hb7
        · have kg : ((g.toNat : Int) != 123) = true := by simp; omega
          rw [if_pos (.inr (.inl h123))] at hE3
          have hXX := Lib.hid hE3
          clear hE3 hmq h117 h123 hy hz
          go_at_call 86
          (with_reducible refine (HH.out _ _ _ _ (p + 1) (by omega) (by omega) HB.out).mono ?_)
          rw [HD.out]
          rintro e1 w6 ⟨rfl, rfl⟩
          go_wp2_with fail
          go_at_call 86
          (with_reducible refine (HH.out _ _ _ _ (p + 2) (by omega) (by omega) HB.out).mono ?_)
          rw [HGg.out]
          rintro e1 w6 ⟨rfl, rfl⟩
          go_wp2_with fail
          go_at_call 55
          (with_reducible refine (FL.out _ _ _ _ HB.out).mono ?_)
          rintro e1 w7 ⟨rfl, hb7, hc7⟩
          go_wp2_with fail
          go_ret
          exact RetEs.bad' hXX.out (HC.out.trans hc7) hb7
      · have kd : ((d.toNat : Int) != 117) = true := by simp; omega
        rw [if_pos (.inl h117)] at hE3
        have hXX := Lib.hid hE3
        clear hE3 hmq h117 hy hz
        go_at_call 86
        (with_reducible refine (HH.out _ _ _ _ (p + 1) (by omega) (by omega) HB.out).mono ?_)
        rw [HD.out]
        rintro e1 w6 ⟨rfl, rfl⟩
        go_wp2_with fail
        go_at_call 55
        (with_reducible refine (FL.out _ _ _ _ HB.out).mono ?_)
        rintro e1 w7 ⟨rfl, hb7, hc7⟩
        go_wp2_with fail
        go_ret
        exact RetEs.bad' hXX.out (HC.out.trans hc7) hb7
end
end Go.Proofs.YtmchiibbodllaaaGreatDoor
