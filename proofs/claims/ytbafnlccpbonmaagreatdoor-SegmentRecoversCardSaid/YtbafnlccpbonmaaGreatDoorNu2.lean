/- The law's file and number. -/
import Derived.Test.YtbafnlccpbonmaaGreatDoorGMk
import Derived.Test.YtbafnlccpbonmaaGreatDoorSl2
namespace Go.Proofs.YtbafnlccpbonmaaGreatDoor
set_option linter.unusedVariables false
set_option linter.unnecessarySimpa false
set_option linter.unusedSimpArgs false
open Go.RowKit

theorem digL_cons (n : Nat) : ∀ j, digL n (j + 1) = UInt8.ofNat (48 + n / 10 ^ j % 10) :: digL n j := by
  intro j
  induction j generalizing n with
  | zero => simp [digL]
  | succ j ih =>
    rw [digL, ih (n / 10), List.cons_append, Nat.div_div_eq_div_mul, show 10 * 10 ^ j = 10 ^ (j + 1) by rw [Nat.pow_succ, Nat.mul_comm]]
    rfl
theorem conv_new1 (w : World) (c : UInt8) : (convert 34 9 (.slice (some ⟨w.heap.size, 0, none⟩) 1 1)).run Tryz.prog (w.alloc (.cells #[.int .u8 (c.toNat : Int)] 5)) = .ok (.string (B [c])) (w.alloc (.cells #[.int .u8 (c.toNat : Int)] 5)) :=
  conv_back (l := [c]) (Bx.new rfl rfl) 1
set_option maxRecDepth 20000 in set_option maxHeartbeats 4000000 in
theorem lawfile_any (nm : List UInt8) (hnl : nm.length ≤ 100000) (n : Nat) (hn : n < 1000000000000) (w : World) : Calls Tryz.prog 23 #[.string (B nm), .int .i64 (n : Int)] w fun e w' => e = .returned (.string (B (fileL nm n))) ∧ Below w.heap.size w w' := by
  go_enter Tryz.func23, Tryz.ntmps23
  go_wp2_with fail
  go_loopw [1, 5, 6] (fun nv sv iv wr => ∃ k q : Nat, k ≤ 8 ∧ Hid (n / 10 ^ k = q) ∧ nv = .int .i64 (q : Int) ∧ sv = .string (B (digL n k)) ∧ iv = .int .i64 (k : Int) ∧ Hid (Below w.heap.size w wr)) (fun _ _ iv _ => 9 - (intOf iv).toNat)
  case atStart => exact ⟨0, n, by omega, by unfold Hid; simp, rfl, rfl, rfl, Lib.hid (G.refl w)⟩
  case round =>
    obtain ⟨k, q, hk, hq, rfl, rfl, rfl, HG⟩ := hrel
    have hds := B_size (digL n k)
    rw [digL_len] at hds
    by_cases hlt : k < 8
    · have hlt' : (k : Int) < 8 := by omega
      have hql : q ≤ n := by rw [← hq.out]; exact Nat.div_le_self _ _
      have hq1 : n / 10 ^ (k + 1) = q / 10 := by rw [Nat.pow_succ, ← Nat.div_div_eq_div_mul, hq.out]
      have hdc := digL_cons n k
      rw [hq.out] at hdc
      obtain ⟨c, hc⟩ : ∃ c, UInt8.ofNat (48 + q % 10) = c := ⟨_, rfl⟩
      have hcn : c.toNat = 48 + q % 10 := by rw [← hc]; exact UInt8.toNat_ofNat_of_lt' (show 48 + q % 10 < 256 by omega)
      rw [hc] at hdc
      obtain ⟨r, hr⟩ : ∃ r, q % 10 = r := ⟨_, rfl⟩
      obtain ⟨q2, hq2⟩ : ∃ r, q / 10 = r := ⟨_, rfl⟩
      have hr10 : r < 10 := by omega
      rw [hr] at hcn
      rw [hq2] at hq1
      have w0' : (q : Int) % 10 = (r : Int) := by rw [← hr]; rfl
      have w1' : (q : Int).tmod 10 = (r : Int) := by rw [Int.tmod_eq_emod_of_nonneg (by omega)]; exact w0'
      have w2' : IntKind.i64.wrap (r : Int) = (r : Int) := IntWalk.i64_in _ (by omega)
      have w3' : IntKind.i64.wrap (48 + (r : Int)) = (c.toNat : Int) := by rw [IntWalk.i64_in _ (by omega)]; omega
      have w4' : IntKind.u8.wrap (c.toNat : Int) = (c.toNat : Int) := IntWalk.u8_in _ (by have := c.toNat_lt; omega)
      have w5' : (q : Int) / 10 = (q2 : Int) := by rw [← hq2]; rfl
      have w6' : (q : Int).tdiv 10 = (q2 : Int) := by rw [Int.tdiv_eq_ediv_of_nonneg (by omega)]; exact w5'
      have w7' : IntKind.i64.wrap (q2 : Int) = (q2 : Int) := IntWalk.i64_in _ (by omega)
      have w8' : IntKind.i64.wrap ((k : Int) + 1) = ((k + 1 : Nat) : Int) := by rw [IntWalk.i64_in _ (by omega)]; omega
      have hcv := conv_new1 wr c
      have hap := B_app [c] (digL n k)
      have hs1 := B_size [c]
      rw [show [c].length = 1 from rfl] at hs1
      rw [show [c] ++ digL n k = digL n (k + 1) from hdc.symm] at hap
      have v1 : ¬ (9223372036854775807 < 1 + k) := by omega
      replace hq1 := Lib.hid hq1
      clear hq hc hr hq2 hcn hdc
      go_wp2_with fail
      refine ⟨⟨k + 1, q2, by omega, hq1, rfl, rfl, rfl, Lib.hid (G.alloc HG.out _)⟩, by simp [intOf]; omega⟩
    · obtain rfl : k = 8 := by omega
      have hs0 := B_size nm
      obtain ⟨N, hN⟩ : ∃ N, nm.length = N := ⟨_, rfl⟩
      rw [hN] at hs0 hnl
      have e1 : B nm ++ ⟨#[45]⟩ = B (nm ++ [45]) := B_app nm [45]
      have hs1 : (B (nm ++ [45])).size = N + 1 := by rw [B_size, List.length_append, hN]; rfl
      have e2 : B (nm ++ [45]) ++ B (digL n 8) = B (fileL nm n) := by rw [B_app]; unfold fileL; rw [List.append_assoc]; rfl
      have v1 : ¬ (9223372036854775807 < N + 1) := by omega
      have v2 : ¬ (9223372036854775807 < N + 1 + 8) := by omega
      clear hq hN
      go_wp2_with fail
      go_ret
      exact ⟨rfl, HG.out⟩
theorem numM_bad {nm f : List UInt8} (h : ¬ (nameC nm = true ∧ f.length = nm.length + 9 ∧ f.take (nm.length + 1) = nm ++ [45])) : numM nm f = none := by
  unfold numM
  rw [if_neg (fun hh => h ⟨hh.1, hh.2.1, hh.2.2.1⟩)]
theorem numM_digit {nm f : List UInt8} {k : Nat} {c : UInt8} (h : (f.drop (nm.length + 1))[k]? = some c) (hc : isD c = false) : numM nm f = none := by
  unfold numM
  rw [if_neg]
  rintro ⟨_, _, _, h4, _⟩
  have := List.all_eq_true.1 h4 c (List.mem_of_getElem? h)
  rw [hc] at this
  cases this
theorem numM_end {nm f : List UInt8} (h1 : nameC nm = true) (h2 : f.length = nm.length + 9) (h3 : f.take (nm.length + 1) = nm ++ [45]) (h4 : (f.drop (nm.length + 1)).all isD = true) {n : Nat} (hn : undN (f.drop (nm.length + 1)) = n) :
    numV (numM nm f) = #[.int .i64 (n : Int), .bool (decide (0 < n))] := by
  unfold numM
  by_cases h : 0 < n
  · rw [if_pos ⟨h1, h2, h3, h4, by rw [hn]; exact h⟩, hn, decide_eq_true h]
    rfl
  · rw [if_neg (fun hh => h (by rw [← hn]; exact hh.2.2.2.2)), decide_eq_false h]
    obtain rfl : n = 0 := by omega
    rfl
theorem numV_none : numV none = #[.int .i64 0, .bool false] := rfl
theorem undN_take {l : List UInt8} {k : Nat} {c : UInt8} (h : l[k]? = some c) : undN (l.take (k + 1)) = undN (l.take k) * 10 + (c.toNat - 48) := by
  rw [List.take_add_one, h, Option.toList_some, undN_app]
theorem undN_lt : ∀ l : List UInt8, l.all isD = true → undN l < 10 ^ l.length := fun l h => (dig_und l.length l rfl h).2
set_option maxRecDepth 20000 in set_option maxHeartbeats 4000000 in
theorem lawnumber_any (nm f : List UInt8) (hnl : nm.length ≤ 100000) (hfl : f.length ≤ 100000) (w : World) : Calls Tryz.prog 21 #[.string (B nm), .string (B f)] w fun e w' => e = .returned (.tuple (numV (numM nm f))) ∧ w' = w := by
  have IS := Lib.hid (isname_any (B nm) w)
  rw [B_list] at IS
  obtain ⟨nl, hnn⟩ : ∃ k, nm.length = k := ⟨_, rfl⟩
  obtain ⟨fl, hff⟩ : ∃ k, f.length = k := ⟨_, rfl⟩
  have z1 := B_size nm
  have z2 := B_size f
  rw [hnn] at z1 hnl
  rw [hff] at z2 hfl
  have w1 : IntKind.i64.wrap ((nl : Int) + 9) = ((nl + 9 : Nat) : Int) := by rw [IntWalk.i64_in _ (by omega)]; omega
  have w2 : IntKind.i64.wrap ((nl : Int) + 1) = ((nl + 1 : Nat) : Int) := by rw [IntWalk.i64_in _ (by omega)]; omega
  obtain ⟨N9, h9⟩ : ∃ k, nl + 9 = k := ⟨_, rfl⟩
  obtain ⟨N1, h1⟩ : ∃ k, nl + 1 = k := ⟨_, rfl⟩
  rw [h9] at w1
  rw [h1] at w2
  by_cases hn : nameC nm = true
  · rw [hn] at IS
    by_cases hl : fl = N9
    · have hl' : ((fl : Int) != (N9 : Int)) = false := by rw [bne_eq_false_iff_eq]; omega
      have p1 : (0 : Int) ≤ (N1 : Int) := by omega
      have p2 : (N1 : Int) ≤ (fl : Int) := by omega
      have p3 : N1 ≤ fl := by omega
      have e1 : (B f).extract 0 N1 = B (f.take N1) := B_take f N1
      have e2 : B nm ++ ⟨#[45]⟩ = B (nm ++ [45]) := B_app nm [45]
      have v1 : ¬ (9223372036854775807 < nl + 1) := by omega
      by_cases hp : f.take N1 = nm ++ [45]
      · rw [hp] at e1
        obtain ⟨D, hD⟩ : ∃ D, f.drop N1 = D := ⟨_, rfl⟩
        have hDl : D.length = 8 := by rw [← hD, List.length_drop, hff]; omega
        obtain ⟨t, ht⟩ : ∃ t, B f = t := ⟨_, rfl⟩
        have hat : Hid (∀ k (h : k < 8) (h2 : N1 + k < t.size), D[k]? = some t[N1 + k]) := Lib.hid (fun k h h2 => by
          subst ht
          rw [← hD, List.getElem?_drop]
          have : N1 + k < f.length := by omega
          rw [List.getElem?_eq_getElem this]
          rfl)
        rw [ht] at z2 e1 ⊢
        have HN := Lib.hid (fun n => numM_end (n := n) hn (show f.length = nm.length + 9 by omega) (by rw [hnn, h1]; exact hp))
        have HB := Lib.hid (fun k c => numM_digit (nm := nm) (f := f) (k := k) (c := c))
        rw [hnn, h1, hD] at HN HB
        clear hD ht hn hff hp
        go_enter Tryz.func21, Tryz.ntmps21
        go_wp2_with fail
        go_at_call 22
        (with_reducible refine IS.out.mono ?_)
        rintro e1 w1 ⟨rfl, hw⟩
        subst hw
        go_wp2_with fail
        have hf8 : fl = N1 + 8 := by omega
        replace hf8 := Lib.hid hf8
        clear p1 p2 p3 e1 e2 v1 hl hl' w2 h1 h9 hnn
        go_loopw [6, 7] (fun nv iv wr => ∃ k i v : Nat, k ≤ 8 ∧ Hid (i = N1 + k) ∧ nv = .int .i64 (v : Int) ∧ iv = .int .i64 (i : Int) ∧ Hid (undN (D.take k) = v) ∧ Hid ((D.take k).all isD = true) ∧ wr = w1) (fun _ iv _ => fl + 1 - (intOf iv).toNat)
        case atStart => exact ⟨0, N1, 0, by omega, rfl, rfl, rfl, rfl, rfl, rfl⟩
        case round =>
          obtain ⟨k, i, v, hk, hi, rfl, rfl, hv, ha, rfl⟩ := hrel
          by_cases hlt : i < fl
          · have hlt' : (i : Int) < (fl : Int) := by omega
            have hk8 : k < 8 := by have := hi.out; have := hf8.out; omega
            have hiz : i < t.size := by omega
            have hdc := hat.out k hk8 (by rw [← hi.out]; exact hiz)
            obtain ⟨c, hc⟩ : ∃ c, t[i] = c := ⟨_, rfl⟩
            have hdc2 : D[k]? = some c := by
              rw [hdc, ← hc]
              congr 1
              congr 1
              exact hi.out.symm
            clear hdc
            have hvl : v < 10 ^ 8 := by
              rw [← hv.out]
              have h9 := undN_lt (D.take k) ha.out
              have h10 : 10 ^ (D.take k).length ≤ 10 ^ 8 := Nat.pow_le_pow_right (by decide) (by rw [List.length_take]; omega)
              omega
            have hvl2 : v < 100000000 := hvl
            have hun := undN_take hdc2
            rw [hv.out] at hun
            have hcl := c.toNat_lt
            by_cases h48 : (c.toNat : Int) < 48
            · have hr := Lib.hid (HB.out k c hdc2 (by unfold isD; rw [decide_eq_false (show ¬ 48 ≤ c.toNat by omega)]; rfl))
              clear hun hdc2 HN HB hat
              go_wp2_with fail
              refine bodyPost_ret (v := .tuple #[.int .i64 0, .bool false]) (by simp only [results, Tryz.results21]; go_simp) rfl ⟨by rw [hr.out, numV_none], rfl⟩
            · by_cases h57 : (57 : Int) < (c.toNat : Int)
              · have hr := Lib.hid (HB.out k c hdc2 (by unfold isD; rw [decide_eq_false (show ¬ c.toNat ≤ 57 by omega), Bool.and_false]))
                clear hun hdc2 HN HB hat
                go_wp2_with fail
                refine bodyPost_ret (v := .tuple #[.int .i64 0, .bool false]) (by simp only [results, Tryz.results21]; go_simp) rfl ⟨by rw [hr.out, numV_none], rfl⟩
              · obtain ⟨e, he⟩ : ∃ e, c.toNat - 48 = e := ⟨_, rfl⟩
                have ha2 : Hid ((D.take (k + 1)).all isD = true) := by
                  unfold Hid
                  rw [List.take_add_one, hdc2, Option.toList_some, List.all_append, ha.out]
                  simp only [List.all_cons, List.all_nil, Bool.and_true, Bool.true_and]
                  unfold isD
                  rw [decide_eq_true (show 48 ≤ c.toNat by omega), decide_eq_true (show c.toNat ≤ 57 by omega)]
                  rfl
                have q1 : IntKind.i64.wrap (10 * (v : Int)) = 10 * (v : Int) := IntWalk.i64_in _ (by omega)
                have q2 : IntKind.u8.wrap ((c.toNat : Int) - 48) = (e : Int) := by rw [IntWalk.u8_in _ (by omega)]; omega
                have q3 : IntKind.i64.wrap (e : Int) = (e : Int) := IntWalk.i64_in _ (by omega)
                have q4 : IntKind.i64.wrap (10 * (v : Int) + (e : Int)) = ((v * 10 + e : Nat) : Int) := by rw [IntWalk.i64_in _ (by omega)]; omega
                have q5 : IntKind.i64.wrap ((i : Int) + 1) = ((i + 1 : Nat) : Int) := by rw [IntWalk.i64_in _ (by omega)]; omega
                obtain ⟨v2, hv2⟩ : ∃ v2, v * 10 + e = v2 := ⟨_, rfl⟩
                rw [he, hv2] at hun
                rw [hv2] at q4
                replace hun := Lib.hid hun
                have hi2 : Hid (i + 1 = N1 + (k + 1)) := by have := hi.out; unfold Hid; omega
                clear hv2 he hdc2 HN HB hat hvl
                go_wp2_with fail
                refine ⟨⟨k + 1, i + 1, v2, by omega, hi2, rfl, rfl, hun, ha2, trivial⟩, by simp [intOf]; omega⟩
          · have hk8 : k = 8 := by have := hi.out; have := hf8.out; omega
            subst hk8
            have hDt : D.take 8 = D := List.take_of_length_le (by omega)
            rw [hDt] at hv ha
            have hr := Lib.hid (HN.out v ha.out hv.out)
            have hlt' : ¬ (i : Int) < (fl : Int) := by omega
            have hd : decide ((0 : Int) < (v : Int)) = decide (0 < v) := decide_eq_decide.2 (by omega)
            clear hDt hv ha HN HB hat
            go_wp2_with fail
            refine bodyPost_ret (v := .tuple #[.int .i64 (v : Int), .bool (decide (0 < v))]) (by simp only [results, Tryz.results21]; go_simp) ?_ ⟨by rw [hr.out], rfl⟩
            rw [← hd]
      · have hb := B_neq hp
        have hr := Lib.hid (numM_bad (nm := nm) (f := f) (fun hh => hp (by rw [hnn, h1] at hh; exact hh.2.2)))
        go_enter Tryz.func21, Tryz.ntmps21
        go_wp2_with fail
        go_at_call 22
        (with_reducible refine IS.out.mono ?_)
        rintro e1 w1 ⟨rfl, hw⟩
        subst hw
        go_wp2_with fail
        refine bodyPost_ret (v := .tuple #[.int .i64 0, .bool false]) (by simp only [results, Tryz.results21]; go_simp) rfl ⟨by rw [hr.out, numV_none], rfl⟩
    · have hl' : ((fl : Int) != (N9 : Int)) = true := by rw [bne_iff_ne]; omega
      have hr := Lib.hid (numM_bad (nm := nm) (f := f) (fun hh => hl (by omega)))
      go_enter Tryz.func21, Tryz.ntmps21
      go_wp2_with fail
      go_at_call 22
      (with_reducible refine IS.out.mono ?_)
      rintro e1 w1 ⟨rfl, hw⟩
      subst hw
      go_wp2_with fail
      refine bodyPost_ret (v := .tuple #[.int .i64 0, .bool false]) (by simp only [results, Tryz.results21]; go_simp) rfl ⟨by rw [hr.out, numV_none], rfl⟩
  · have hn' : nameC nm = false := by simpa using hn
    rw [hn'] at IS
    have hr := Lib.hid (numM_bad (nm := nm) (f := f) (fun hh => hn hh.1))
    clear hn
    go_enter Tryz.func21, Tryz.ntmps21
    go_wp2_with fail
    go_at_call 22
    (with_reducible refine IS.out.mono ?_)
    rintro e1 w1 ⟨rfl, hw⟩
    subst hw
    go_wp2_with fail
    refine bodyPost_ret (v := .tuple #[.int .i64 0, .bool false]) (by simp only [results, Tryz.results21]; go_simp) rfl ⟨by rw [hr.out, numV_none], rfl⟩
end Go.Proofs.YtbafnlccpbonmaaGreatDoor
