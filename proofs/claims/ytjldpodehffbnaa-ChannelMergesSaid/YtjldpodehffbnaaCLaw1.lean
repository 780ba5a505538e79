/- The law's of, empty, check, small: what each computes. -/
import Derived.Test.YtjldpodehffbnaaCKnown
namespace Go.Proofs.Ytjldpodehffbnaa
set_option linter.unusedVariables false
set_option linter.unnecessarySimpa false
set_option linter.unusedSimpArgs false
open Go.RowKit

/-- The item's own stamp has come back. -/
def RetO (ok : Nat → Prop) (it : It) (w : World) (end_ : Ending) (w' : World) : Prop :=
  ∃ A n c, end_ = .returned (.agg #[.int .i64 it.e, .slice A n c]) ∧ PathIs ok w' A n c it.p ∧ Below w.heap.size w w'
set_option maxRecDepth 20000 in set_option maxHeartbeats 400000 in
theorem of_any {ok : Nat → Prop} {w : World} {cs : List Value} {it : It} (h : ItemV ok w cs it) :
    Calls Try.prog 17 #[.agg cs.toArray] w (RetO ok it w) := by
  have H := h
  obtain ⟨me, A, n, c, mp, O, l, lc, os, k, i, s, t, BA, bn, bc, BB, bm, bd, R, q, rs, d, rfl, h1, h2, h3, h4, h5, h6, h7⟩ := h
  by_cases h0 : 0 < it.r
  · obtain ⟨b, off, A1, n1, c1, rfl, hbl, c0, c1', hp⟩ := H.stamp0 h0 rfl
    clear H h6 h7 h3
    have HP := Lib.hid hp
    go_enter Try.func17, Try.ntmps17
    go_wp2_with fail
    exact bodyPost_ret (v := .agg #[.int .i64 it.e, .slice A1 n1 c1]) (by simp only [results, Try.results17]; go_simp) rfl ⟨A1, n1, c1, rfl, HP.out.grow (by repeat (first | with_reducible assumption | with_reducible exact G.refl _ | with_reducible refine G.drew ?_ | with_reducible refine G.drewN ?_ _ | with_reducible refine G.alloc ?_ _ | with_reducible refine Below.setCell ?_ (by first | (simp; done) | (simp; omega)) _ | with_reducible refine G.trans ?_ hb12 | with_reducible refine G.trans ?_ hb11 | with_reducible refine G.trans ?_ hb10 | with_reducible refine G.trans ?_ hb9 | with_reducible refine G.trans ?_ hb8 | with_reducible refine G.trans ?_ hb7 | with_reducible refine G.trans ?_ hb6 | with_reducible refine G.trans ?_ hb5 | with_reducible refine G.trans ?_ hb4 | with_reducible refine G.trans ?_ hb3 | with_reducible refine G.trans ?_ hb2 | with_reducible refine G.trans ?_ hb1 | with_reducible refine G.trans ?_ hb | assumption)), by repeat (first | with_reducible assumption | with_reducible exact G.refl _ | with_reducible refine G.drew ?_ | with_reducible refine G.drewN ?_ _ | with_reducible refine G.alloc ?_ _ | with_reducible refine Below.setCell ?_ (by first | (simp; done) | (simp; omega)) _ | with_reducible refine G.trans ?_ hb12 | with_reducible refine G.trans ?_ hb11 | with_reducible refine G.trans ?_ hb10 | with_reducible refine G.trans ?_ hb9 | with_reducible refine G.trans ?_ hb8 | with_reducible refine G.trans ?_ hb7 | with_reducible refine G.trans ?_ hb6 | with_reducible refine G.trans ?_ hb5 | with_reducible refine G.trans ?_ hb4 | with_reducible refine G.trans ?_ hb3 | with_reducible refine G.trans ?_ hb2 | with_reducible refine G.trans ?_ hb1 | with_reducible refine G.trans ?_ hb | assumption)⟩
  · obtain ⟨he, hp⟩ := h7 (by omega)
    have HP := Lib.hid h1
    have hr0 : it.r = 0 := by omega
    have HE := Lib.hid he
    have HQ := Lib.hid hp
    rw [hr0]
    clear H h6 h7 h3 he hp h1 h2 h4 h5 h0
    go_enter Try.func17, Try.ntmps17
    go_wp2_with fail
    exact bodyPost_ret (v := .agg #[.int .i64 me, .slice A n c]) (by simp only [results, Try.results17]; go_simp) rfl ⟨A, n, c, by rw [HE.out], by rw [HQ.out]; exact HP.out.grow (by repeat (first | with_reducible assumption | with_reducible exact G.refl _ | with_reducible refine G.drew ?_ | with_reducible refine G.drewN ?_ _ | with_reducible refine G.alloc ?_ _ | with_reducible refine Below.setCell ?_ (by first | (simp; done) | (simp; omega)) _ | with_reducible refine G.trans ?_ hb12 | with_reducible refine G.trans ?_ hb11 | with_reducible refine G.trans ?_ hb10 | with_reducible refine G.trans ?_ hb9 | with_reducible refine G.trans ?_ hb8 | with_reducible refine G.trans ?_ hb7 | with_reducible refine G.trans ?_ hb6 | with_reducible refine G.trans ?_ hb5 | with_reducible refine G.trans ?_ hb4 | with_reducible refine G.trans ?_ hb3 | with_reducible refine G.trans ?_ hb2 | with_reducible refine G.trans ?_ hb1 | with_reducible refine G.trans ?_ hb | assumption)), by repeat (first | with_reducible assumption | with_reducible exact G.refl _ | with_reducible refine G.drew ?_ | with_reducible refine G.drewN ?_ _ | with_reducible refine G.alloc ?_ _ | with_reducible refine Below.setCell ?_ (by first | (simp; done) | (simp; omega)) _ | with_reducible refine G.trans ?_ hb12 | with_reducible refine G.trans ?_ hb11 | with_reducible refine G.trans ?_ hb10 | with_reducible refine G.trans ?_ hb9 | with_reducible refine G.trans ?_ hb8 | with_reducible refine G.trans ?_ hb7 | with_reducible refine G.trans ?_ hb6 | with_reducible refine G.trans ?_ hb5 | with_reducible refine G.trans ?_ hb4 | with_reducible refine G.trans ?_ hb3 | with_reducible refine G.trans ?_ hb2 | with_reducible refine G.trans ?_ hb1 | with_reducible refine G.trans ?_ hb | assumption)⟩
theorem ofc_any {ok : Nat → Prop} {w w' : World} {cs : List Value} {it : It} (h : ItemV ok w cs it) (hb : Below w.heap.size w w') :
    Calls Try.prog 17 #[.agg cs.toArray] w' (RetO ok it w') := of_any (h.grow hb)
set_option maxRecDepth 20000 in set_option maxHeartbeats 400000 in
theorem empty_any (e mass k i s : Int) (t : ByteArray) (P O A B : Option Addr) (p pc l lc n c m d : Nat) (w : World) :
    Calls Try.prog 38 #[.agg #[.int .i64 e, .slice P p pc, .int .i64 mass, .slice O l lc, .int .i64 k, .int .i64 i, .int .i64 s, .string t, .slice A n c, .slice B m d]] w fun e' w' => e' = .returned (.bool (zeroP e p mass l (nullP k i s t n m))) ∧ Below w.heap.size w w' := by
  obtain ⟨r, hr⟩ : ∃ r, zeroP e p mass l (nullP k i s t n m) = r := ⟨_, rfl⟩
  rw [hr]
  replace hr := Lib.hid hr
  go_enter Try.func38, Try.ntmps38
  go_wp2_with fail
  all_goals (go_ret; exact ⟨ret_b (by rw [← hr.out]; simp [zeroP, nullP, natBeq0, *]), by repeat (first | with_reducible assumption | with_reducible exact G.refl _ | with_reducible refine G.drew ?_ | with_reducible refine G.drewN ?_ _ | with_reducible refine G.alloc ?_ _ | with_reducible refine Below.setCell ?_ (by first | (simp; done) | (simp; omega)) _ | with_reducible refine G.trans ?_ hb12 | with_reducible refine G.trans ?_ hb11 | with_reducible refine G.trans ?_ hb10 | with_reducible refine G.trans ?_ hb9 | with_reducible refine G.trans ?_ hb8 | with_reducible refine G.trans ?_ hb7 | with_reducible refine G.trans ?_ hb6 | with_reducible refine G.trans ?_ hb5 | with_reducible refine G.trans ?_ hb4 | with_reducible refine G.trans ?_ hb3 | with_reducible refine G.trans ?_ hb2 | with_reducible refine G.trans ?_ hb1 | with_reducible refine G.trans ?_ hb | assumption)⟩)
set_option maxRecDepth 20000 in set_option maxHeartbeats 400000 in
theorem lcheck_any {ok : Nat → Prop} {w : World} {cs : List Value} {it : It} (h : ItemV ok w cs it) :
    Calls Try.prog 14 #[.agg cs.toArray] w fun e w' => e = .returned (.int .i64 (chkI (zeroC cs) it)) ∧ Below w.heap.size w w' := by
  have H := Lib.hid h
  obtain ⟨v, hv⟩ : ∃ v, chkI (zeroC cs) it = v := ⟨_, rfl⟩
  rw [hv]
  unfold chkI at hv
  obtain ⟨me, A, n, c, mp, O, l, lc, os, k, i, s, t, BA, bn, bc, BB, bm, bd, R, q, rs, d, rfl, h1, h2, h3, h4, h5, h6, h7⟩ := h
  have h8 : zeroC [.int .i64 me, .slice A n c, .int .i64 it.mass, .slice O l lc, .int .i64 k, .int .i64 i, .int .i64 s, .string t, .slice BA bn bc, .slice BB bm bd, .slice R it.r q] = zeroP me n it.mass l (nullP k i s t bn bm) := rfl
  rw [h8] at hv
  by_cases h0 : 1 < it.r
  · rw [if_pos (.inl h0)] at hv
    subst hv
    have h0' : (1 : Int) < (it.r : Int) := by omega
    clear h1 h2 h3 h4 h5 h6 h7 h8 h0
    go_enter Try.func14, Try.ntmps14
    go_wp2_with fail
    go_ret
    exact ⟨rfl, by repeat (first | with_reducible assumption | with_reducible exact G.refl _ | with_reducible refine G.drew ?_ | with_reducible refine G.drewN ?_ _ | with_reducible refine G.alloc ?_ _ | with_reducible refine Below.setCell ?_ (by first | (simp; done) | (simp; omega)) _ | with_reducible refine G.trans ?_ hb12 | with_reducible refine G.trans ?_ hb11 | with_reducible refine G.trans ?_ hb10 | with_reducible refine G.trans ?_ hb9 | with_reducible refine G.trans ?_ hb8 | with_reducible refine G.trans ?_ hb7 | with_reducible refine G.trans ?_ hb6 | with_reducible refine G.trans ?_ hb5 | with_reducible refine G.trans ?_ hb4 | with_reducible refine G.trans ?_ hb3 | with_reducible refine G.trans ?_ hb2 | with_reducible refine G.trans ?_ hb1 | with_reducible refine G.trans ?_ hb | assumption)⟩
  · have h0' : ¬ (1 : Int) < (it.r : Int) := by omega
    by_cases h9 : it.r = 1
    · have hr1 := Lib.hid h9
      rcases hzz : zeroP me n it.mass l (nullP k i s t bn bm) with _ | _
      · rw [if_pos (.inr ⟨h9, hzz⟩)] at hv
        subst hv
        rw [h9] at H ⊢
        have hz' := Lib.hid hzz
        clear h1 h2 h3 h4 h5 h6 h7 h8 h0 h0' hzz h9
        go_enter Try.func14, Try.ntmps14
        go_wp2_with (go_at_call 38; (with_reducible refine (empty_any me it.mass k i s t A O BA BB n c l lc bn bc bm bd _).mono ?_); rintro e' w2 ⟨rfl, hb2⟩; rw [hz'.out])
        go_ret
        exact ⟨rfl, by repeat (first | with_reducible assumption | with_reducible exact G.refl _ | with_reducible refine G.drew ?_ | with_reducible refine G.drewN ?_ _ | with_reducible refine G.alloc ?_ _ | with_reducible refine Below.setCell ?_ (by first | (simp; done) | (simp; omega)) _ | with_reducible refine G.trans ?_ hb12 | with_reducible refine G.trans ?_ hb11 | with_reducible refine G.trans ?_ hb10 | with_reducible refine G.trans ?_ hb9 | with_reducible refine G.trans ?_ hb8 | with_reducible refine G.trans ?_ hb7 | with_reducible refine G.trans ?_ hb6 | with_reducible refine G.trans ?_ hb5 | with_reducible refine G.trans ?_ hb4 | with_reducible refine G.trans ?_ hb3 | with_reducible refine G.trans ?_ hb2 | with_reducible refine G.trans ?_ hb1 | with_reducible refine G.trans ?_ hb | assumption)⟩
      · rw [if_neg (by rw [hzz]; simp; omega)] at hv
        rw [h9] at H ⊢
        have hz' := Lib.hid hzz
        clear h1 h2 h3 h4 h5 h6 h7 h8 h0 h0' hzz h9
        go_enter Try.func14, Try.ntmps14
        go_wp2_with (first
          | (go_at_call 38; (with_reducible refine (empty_any me it.mass k i s t A O BA BB n c l lc bn bc bm bd _).mono ?_); rintro e' w2 ⟨rfl, hb2⟩; rw [hz'.out]; have hbw : Below w.heap.size w w2 := G.trans (by repeat (first | with_reducible assumption | with_reducible exact G.refl _ | with_reducible refine G.drew ?_ | with_reducible refine G.drewN ?_ _ | with_reducible refine G.alloc ?_ _ | with_reducible refine Below.setCell ?_ (by first | (simp; done) | (simp; omega)) _ | with_reducible refine G.trans ?_ hb12 | with_reducible refine G.trans ?_ hb11 | with_reducible refine G.trans ?_ hb10 | with_reducible refine G.trans ?_ hb9 | with_reducible refine G.trans ?_ hb8 | with_reducible refine G.trans ?_ hb7 | with_reducible refine G.trans ?_ hb6 | with_reducible refine G.trans ?_ hb5 | with_reducible refine G.trans ?_ hb4 | with_reducible refine G.trans ?_ hb3 | with_reducible refine G.trans ?_ hb2 | with_reducible refine G.trans ?_ hb1 | with_reducible refine G.trans ?_ hb | assumption)) hb2; obtain ⟨c0, c1, c2, c3, c4, c5, c6, c7, c8, c9, c10⟩ := Bx.c11 (Bx.grow (Bx.new rfl rfl) hb2))
          | (go_at_call 17; (with_reducible refine (ofc_any H.out hbw).mono ?_); rintro e' w3 ⟨A', n', c', rfl, hp, hb3⟩)
          | (go_at_call 44; (with_reducible refine (check_any it.e A' _ c' it.p _ hp.sl hp.max).mono ?_); rintro e' w4 ⟨rfl, hb4⟩)
          | fail)
        go_ret
        exact ⟨rfl, G.trans (G.trans hbw hb3) hb4⟩
    · rw [if_neg (by omega)] at hv
      have hr0 : it.r = 0 := by omega
      rw [hr0] at H ⊢
      clear h1 h2 h3 h4 h5 h6 h7 h8 h0 h0' h9 hr0
      go_enter Try.func14, Try.ntmps14
      go_wp2_with (first
        | (go_at_call 17; (with_reducible refine (ofc_any H.out (by repeat (first | with_reducible assumption | with_reducible exact G.refl _ | with_reducible refine G.drew ?_ | with_reducible refine G.drewN ?_ _ | with_reducible refine G.alloc ?_ _ | with_reducible refine Below.setCell ?_ (by first | (simp; done) | (simp; omega)) _ | with_reducible refine G.trans ?_ hb12 | with_reducible refine G.trans ?_ hb11 | with_reducible refine G.trans ?_ hb10 | with_reducible refine G.trans ?_ hb9 | with_reducible refine G.trans ?_ hb8 | with_reducible refine G.trans ?_ hb7 | with_reducible refine G.trans ?_ hb6 | with_reducible refine G.trans ?_ hb5 | with_reducible refine G.trans ?_ hb4 | with_reducible refine G.trans ?_ hb3 | with_reducible refine G.trans ?_ hb2 | with_reducible refine G.trans ?_ hb1 | with_reducible refine G.trans ?_ hb | assumption))).mono ?_); rintro e' w3 ⟨A', n', c', rfl, hp, hb3⟩)
        | (go_at_call 44; (with_reducible refine (check_any it.e A' _ c' it.p _ hp.sl hp.max).mono ?_); rintro e' w4 ⟨rfl, hb4⟩)
        | fail)
      go_ret
      exact ⟨rfl, G.trans (G.trans (by repeat (first | with_reducible assumption | with_reducible exact G.refl _ | with_reducible refine G.drew ?_ | with_reducible refine G.drewN ?_ _ | with_reducible refine G.alloc ?_ _ | with_reducible refine Below.setCell ?_ (by first | (simp; done) | (simp; omega)) _ | with_reducible refine G.trans ?_ hb12 | with_reducible refine G.trans ?_ hb11 | with_reducible refine G.trans ?_ hb10 | with_reducible refine G.trans ?_ hb9 | with_reducible refine G.trans ?_ hb8 | with_reducible refine G.trans ?_ hb7 | with_reducible refine G.trans ?_ hb6 | with_reducible refine G.trans ?_ hb5 | with_reducible refine G.trans ?_ hb4 | with_reducible refine G.trans ?_ hb3 | with_reducible refine G.trans ?_ hb2 | with_reducible refine G.trans ?_ hb1 | with_reducible refine G.trans ?_ hb | assumption)) hb3) hb4⟩

/-- Are the operations few, and their stamps short? -/
def smallI (it : It) : Bool := decide (it.p.length ≤ 600) && decide (it.r ≤ 4)
/-- A list of operations: their kinds and items. -/
def OpsV (ok : Nat → Prop) (w : World) (A : Option Addr) (n c : Nat) (xs : List Value) (ops : List (Int × It)) : Prop :=
  Rw ok w 12 A n c xs ∧ ops.length = n ∧ ∀ j k it, ops[j]? = some (k, it) → ∃ cs, (xs.drop (j * 12)).take 12 = .int .u8 k :: cs ∧ ItemV ok w cs it
theorem OpsV.grow {ok : Nat → Prop} {w w' : World} {A : Option Addr} {n c : Nat} {xs : List Value} {ops : List (Int × It)} (h : OpsV ok w A n c xs ops) (hb : Below w.heap.size w w') : OpsV ok w' A n c xs ops :=
  ⟨h.1.grow hb, h.2.1, fun j k it hj => let ⟨cs, h1, h2⟩ := h.2.2 j k it hj; ⟨cs, h1, h2.grow hb⟩⟩
def smallL (ops : List (Int × It)) : Bool := decide (ops.length ≤ 40) && ops.all fun o => smallI o.2
set_option maxRecDepth 20000 in set_option maxHeartbeats 1000000 in
theorem small_any {ok : Nat → Prop} {w : World} {A : Option Addr} {n c : Nat} {xs : List Value} {ops : List (Int × It)} (h : OpsV ok w A n c xs ops) :
    Calls Try.prog 12 #[.slice A n c] w fun e w' => e = .returned (.bool (smallL ops)) ∧ Below w.heap.size w w' := by
  have hn := Nat.le_trans h.1.1 h.1.2.1
  unfold maxLen at hn
  have H := Lib.hid h
  have hlen := Lib.hid h.2.1
  by_cases h40 : 40 < n
  · have hs : Hid (smallL ops = false) := by unfold Hid smallL; rw [h.2.1]; simp; omega
    have h40' : (40 : Int) < (n : Int) := by omega
    clear h
    go_enter Try.func12, Try.ntmps12
    go_wp2
    go_ret
    exact ⟨ret_b hs.out.symm, G.refl _⟩
  · have hs0 : Hid (smallL ops = ops.all fun o => smallI o.2) := by unfold Hid smallL; rw [h.2.1]; simp; omega
    have h40' : ¬ (40 : Int) < (n : Int) := by omega
    clear h
    go_enter Try.func12, Try.ntmps12
    go_wp2
    go_loopw [3] (fun iv wr => ∃ k : Nat, k ≤ n ∧ iv = .int .i64 k ∧ Hid ((ops.take k).all (fun o => smallI o.2) = true) ∧ Below w.heap.size w wr) (fun iv _ => n - (intOf iv).toNat)
    case atStart => exact ⟨0, Nat.zero_le _, rfl, rfl, G.refl _⟩
    case round =>
      obtain ⟨k, hk, rfl, hall, hbr⟩ := hrel
      by_cases hlt : k < n
      · have hko : k < ops.length := by rw [hlen.out]; exact hlt
        obtain ⟨⟨kd, it⟩, hop⟩ : ∃ o, ops[k]? = some o := ⟨_, List.getElem?_eq_getElem hko⟩
        obtain ⟨cs, hch, hiv⟩ := (H.out.grow hbr).2.2 k kd it hop
        obtain ⟨b, off, rfl, hbl, _, _, hcell⟩ := (H.out.grow hbr).1.at_ (by decide) hlt
        rw [hch] at hcell
        obtain ⟨z0, A5, n5, c5', z1, A6, n6, c6', z2, z3, z4, z5, A7, n7, c7', A8, n8, c8', A9, n9, c9', rfl⟩ := item_cells hiv
        have hr9 : n9 = it.r := by
          obtain ⟨me, A, n, c, mp, O, l, lc, os, k, i, s, t, BA, bn, bc, BB, bm, bd, R, q, rs, d, h0, _⟩ := hiv
          simp only [List.cons.injEq, Value.slice.injEq, and_true, true_and] at h0
          exact h0.2.2.2.2.2.2.2.2.2.2.2.1
        have e1 := hcell 1 _ rfl
        have e2 := hcell 2 _ rfl
        have e3 := hcell 3 _ rfl
        have e4 := hcell 4 _ rfl
        have e5 := hcell 5 _ rfl
        have e6 := hcell 6 _ rfl
        have e7 := hcell 7 _ rfl
        have e8 := hcell 8 _ rfl
        have e9 := hcell 9 _ rfl
        have e10 := hcell 10 _ rfl
        have e11 := hcell 11 _ rfl
        replace hiv := Lib.hid hiv
        have hst : Hid ((ops.take (k + 1)).all (fun o => smallI o.2) = smallI it) := by
          unfold Hid
          rw [List.take_add_one, hop, List.all_append, hall.out]
          simp
        replace hop := Lib.hid hop
        clear hcell hch
        subst hr9
        have hfal : Hid (smallI it = false → smallL ops = false) := by
          intro hf
          rw [hs0.out, List.all_eq_false]
          exact ⟨(kd, it), List.mem_of_getElem? hop.out, by rw [hf]; simp⟩
        go_wp2_with fail
        refine (of_any hiv.out).mono ?_
        rintro e' w2 ⟨A', n', c', rfl, hp, hb2⟩
        obtain rfl : n' = it.p.length := hp.len.symm
        have hbw2 := G.trans hbr hb2
        replace e11 := G.cell e11 hb2
        clear e1 e2 e3 e4 e5 e6 e7 e8 e9 e10 hp
        by_cases h6 : 600 < it.p.length
        · have hs : Hid (smallL ops = false) := hfal.out (by unfold smallI; simp; omega)
          have h6' : (600 : Int) < (it.p.length : Int) := by omega
          go_wp2_with fail
          refine id (?_ : (_ : Act → World → Prop) (Act.put _ _ (Value.slice A' it.p.length c')) w2)
          go_wp2_with fail
          go_ret
          exact ⟨ret_b hs.out.symm, hbw2⟩
        · have h6' : ¬ (600 : Int) < (it.p.length : Int) := by omega
          by_cases h4 : 4 < it.r
          · have hs : Hid (smallL ops = false) := hfal.out (by unfold smallI; simp; omega)
            have h4' : (4 : Int) < (it.r : Int) := by omega
            go_wp2_with fail
            refine id (?_ : (_ : Act → World → Prop) (Act.put _ _ (Value.slice A' it.p.length c')) w2)
            go_wp2_with fail
            go_ret
            exact ⟨ret_b hs.out.symm, hbw2⟩
          · have hs : Hid ((ops.take (k + 1)).all (fun o => smallI o.2) = true) := by unfold Hid; rw [hst.out]; unfold smallI; simp; omega
            have h4' : ¬ (4 : Int) < (it.r : Int) := by omega
            go_wp2_with fail
            refine id (?_ : (_ : Act → World → Prop) (Act.put _ _ (Value.slice A' it.p.length c')) w2)
            go_wp2_with fail
            go_roundw
            case rel => exact ⟨k + 1, by omega, by go_num, hs, hbw2⟩
            case measure => simp [intOf]; omega
      · have hs : Hid (smallL ops = true) := by
          unfold Hid
          have := hall.out
          rw [List.take_of_length_le (by rw [hlen.out]; omega)] at this
          rw [hs0.out, this]
        go_wp2
        go_ret
        exact ⟨ret_b hs.out.symm, hbr⟩
end Go.Proofs.Ytjldpodehffbnaa
