/- The law DeviceRoom returns true: the walk. -/
import Derived.Test.YtphjgembpcikdaaVRun
namespace Go.Proofs.Ytphjgembpcikdaa
set_option linter.unusedVariables false
set_option linter.unnecessarySimpa false
set_option linter.unusedSimpArgs false
open Go.RowKit

theorem used_take {l : List Fl} {i : Nat} {f : Fl} (h : l[i]? = some f) : usedC (l.take (i + 1)) = usedC (l.take i) + f.data.length := by
  unfold usedC
  rw [List.take_add_one, h]
  simp
theorem used_take_le (l : List Fl) (i : Nat) : usedC (l.take i) ≤ usedC l := by
  have h := congrArg usedC (List.take_append_drop i l)
  have e : usedC (l.take i ++ l.drop i) = usedC (l.take i) + usedC (l.drop i) := by unfold usedC; rw [List.map_append, List.sum_append]
  omega
theorem lk_at {l : List Fl} (hu : Uq l) {i : Nat} {f : Fl} (h : l[i]? = some f) : lkC l f.name = some f := by
  rcases hl : lkC l f.name with _ | y
  · exact absurd rfl (lkC_none hl f (List.mem_of_getElem? h))
  · obtain ⟨hy, hyn⟩ := lkC_some hl
    obtain ⟨j, hj⟩ := List.getElem?_of_mem hy
    obtain ⟨hi', ei⟩ := List.getElem?_eq_some_iff.1 h
    obtain ⟨hj', ej⟩ := List.getElem?_eq_some_iff.1 hj
    rcases Nat.lt_trichotomy i j with hij | rfl | hij
    · exact absurd (by rw [ei, ej]; exact hyn.symm) (List.pairwise_iff_getElem.1 hu i j hi' hj' hij)
    · rw [← ei, ← ej]
    · exact absurd (by rw [ei, ej]; exact hyn) (List.pairwise_iff_getElem.1 hu j i hj' hi' hij)
theorem DevW.names {w : World} {d : Nat} {S : Nat → Prop} {s : Ds} (h : DevW w d S s) : ∀ f ∈ s.fs, f.name.length ≤ maxLen := by
  obtain ⟨mb, fs, h1, _⟩ := h
  intro f hf
  rw [h1.eq] at hf
  obtain ⟨r, hr, rfl⟩ := List.mem_map.1 hf
  exact own_names h1.map Try.underlying9 r hr
theorem strs_get {l : List Fl} {i : Nat} {f : Fl} (h : l[i]? = some f) : (strs (namesC l))[i]? = some (.string (BA f.name)) := by
  unfold strs namesC
  rw [List.getElem?_map, List.getElem?_map, h]
  rfl
theorem size_at {s : Ds} (hu : Uq s.fs) (hd : s.down = false) {i : Nat} {f : Fl} (h : s.fs[i]? = some f) : sizeD s f.name = ((f.data.length : Int), 0) := by
  unfold sizeD
  rw [hd, if_neg (by simp), lk_at hu h]
theorem less_at {l : List Fl} (hs : Srt l) {i : Nat} {f g : Fl} (hf : l[i]? = some f) (hg : l[i + 1]? = some g) : Op.bytesLess (BA f.name).toList (BA g.name).toList = true := by
  rw [ByteArray.toList_eq, ByteArray.toList_eq, less_before]
  obtain ⟨h1, rfl⟩ := List.getElem?_eq_some_iff.1 hf
  obtain ⟨h2, rfl⟩ := List.getElem?_eq_some_iff.1 hg
  exact List.pairwise_iff_getElem.1 hs i (i + 1) h1 h2 (by omega)
section
variable {w0 w w' : World} {d : Nat} {s s' : Ds} {S : Nat → Prop}
set_option maxRecDepth 20000 in set_option maxHeartbeats 2000000 in
theorem deviceRoom_any (r : Int) {A : Option Addr} {n c : Nat} {l : List LOp} (hr : (Lit.int .u16 r).wf = true) (hl : OpsW w A n c l) :
    Calls Try.prog 7 #[.int .u16 r, .slice A n c] w fun e w' => e = .returned (.bool true) ∧ Below w.heap.size w w' := by
  have hr0 : 0 ≤ r ∧ r ≤ 65535 := by
    have e2 : IntKind.u16.min = 0 := rfl
    have e3 : IntKind.u16.max = 65535 := rfl
    simp [Lit.wf, e2, e3] at hr
    exact hr
  obtain ⟨m, hm⟩ : ∃ m : Nat, min n 40 = m := ⟨_, rfl⟩
  have hmn : m ≤ n := by omega
  have hm40 : m ≤ 40 := by omega
  obtain ⟨hln, hnc, hcm⟩ := hl.len
  have hmi : min (n : Int) 40 = (m : Int) := by omega
  have hmc : m ≤ c := by omega
  unfold maxLen at hcm
  have HL := Lib.hid (hl.take hmn)
  obtain ⟨q, hq⟩ : ∃ q, l.take m = q := ⟨_, rfl⟩
  rw [hq] at HL
  have hql : Hid (q.length = m) := HL.out.len.1
  have hwr : IntKind.i64.wrap r = r := by rw [IntWalk.i64_in _ (by omega)]
  clear hr hl hq hm hln
  go_enter Try.func7, Try.ntmps7
  go_wp2_with fail
  refine (new_any r hr0.1 (by omega)).mono ?_
  intro e w1 hr
  obtain ⟨d, rfl, F0⟩ := FD.new (w0 := w) (by repeat (first | with_reducible assumption | with_reducible exact G.refl _ | with_reducible refine G.drew ?_ | with_reducible refine G.drewN ?_ _ | with_reducible refine G.alloc ?_ _ | with_reducible refine Below.setCell ?_ (by first | (simp; done) | (simp; omega)) _ | with_reducible refine G.trans ?_ hb12 | with_reducible refine G.trans ?_ hb11 | with_reducible refine G.trans ?_ hb10 | with_reducible refine G.trans ?_ hb9 | with_reducible refine G.trans ?_ hb8 | with_reducible refine G.trans ?_ hb7 | with_reducible refine G.trans ?_ hb6 | with_reducible refine G.trans ?_ hb5 | with_reducible refine G.trans ?_ hb4 | with_reducible refine G.trans ?_ hb3 | with_reducible refine G.trans ?_ hb2 | with_reducible refine G.trans ?_ hb1 | with_reducible refine G.trans ?_ hb | assumption)) hr
  replace F0 := Lib.hid F0
  clear hr
  go_wp2_with fail
  refine (known_any _).mono ?_
  rintro e w2 ⟨rfl, hb2⟩
  replace F0 := Lib.hid (F0.out.grow hb2)
  clear hb2
  go_wp2_with fail
  go_loopw [7] (fun iv wr => ∃ i : Nat, i ≤ m ∧ iv = .int .i64 i ∧ FD w wr d (runN (newD r) q i)) (fun iv _ => m - (intOf iv).toNat)
  case atStart => exact ⟨0, Nat.zero_le _, rfl, F0.out⟩
  case round =>
    obtain ⟨i, hi, rfl, hF⟩ := hrel
    have hF := Lib.hid hF
    by_cases hlt : i < m
    · obtain ⟨o, ho⟩ : ∃ o, q[i]? = some o := ⟨_, List.getElem?_eq_getElem (by rw [hql.out]; exact hlt)⟩
      obtain ⟨b, off, rfl, hbl, e0, e1, e2, e3, e4, hfit⟩ := (HL.out.grow hF.out.below).at_ ho
      replace ho := Lib.hid ho
      go_wp2_with fail
      refine (FD.oper hF.out (runN_good q (new_good hr0.1 (by omega)) i) o hfit i (by omega)).mono ?_
      rintro e w3 ⟨rfl, hF'⟩
      replace hF' := Lib.hid hF'
      go_wp2_with fail
      go_roundw
      case rel => exact ⟨i + 1, by omega, by go_num, by rw [runN_step ho.out]; exact hF'.out⟩
      case measure => simp [intOf]; omega
    · obtain rfl : i = m := by omega
      have hG := runN_good q (new_good hr0.1 (show r ≤ 1099511627776 by omega)) i
      have hU := runN_up q (s := newD r) ⟨rfl, rfl⟩ i
      have hR : (runN (newD r) q i).room = r := runN_room q i
      have hSr := hF.out.rise
      obtain ⟨t, ht⟩ : ∃ t, runN (newD r) q i = t := ⟨_, rfl⟩
      rw [ht] at hG hU hR hSr hF
      clear ht
      obtain ⟨S, D, hS⟩ := hF.out.dev
      replace D := Lib.hid D
      replace hS := Lib.hid hS
      replace hG := Lib.hid hG
      replace hSr := Lib.hid hSr
      replace hU := Lib.hid hU
      go_wp2_with fail
      refine (list_any D.out hG.out.ok).mono ?_
      rintro e w3 hlist
      obtain ⟨L, hL⟩ : ∃ L, (namesC t.fs).length = L := ⟨_, rfl⟩
      unfold RetL at hlist
      rw [hL] at hlist
      rcases hlist with ⟨hd, _⟩ | ⟨_, A2, c2, rfl, hrow, hb3⟩
      · rw [hU.out.1] at hd; cases hd
      replace D := Lib.hid (D.out.grow hb3)
      replace hF := Lib.hid (hF.out.grow hb3)
      have hrow := Lib.hid hrow
      clear hb3
      have hLt : Hid (t.fs.length = L) := by unfold Hid; rw [← hL]; unfold namesC; rw [List.length_map]
      have hL4 : L ≤ 4096 := by have := hG.out.ok.cnt; have := hLt.out; omega
      replace hL := Lib.hid hL
      go_wp2_with fail
      refine (free_any D.out hG.out.ok).mono ?_
      rintro e w4 ⟨rfl, hb4⟩
      have hfr : freeD t = r - usedC t.fs := by unfold freeD; rw [hU.out.1, hR]; rfl
      rw [hfr]
      clear hfr
      have hrow4 := Lib.hid (own_grow hrow.out hb4)
      replace D := Lib.hid (D.out.grow hb4)
      replace hF := Lib.hid (hF.out.grow hb4)
      clear hb4 hrow
      have hus := hG.out.ok.us
      rw [hR] at hus
      obtain ⟨U, hU0⟩ : ∃ U : Nat, usedC t.fs = U := ⟨_, rfl⟩
      rw [hU0] at hus ⊢
      replace hU0 := Lib.hid hU0
      go_wp2_with fail
      go_loopw [10, 11] (fun sv iv wr => ∃ i : Nat, i ≤ L ∧ iv = .int .i64 i ∧ sv = .int .i64 (r - U + usedC (t.fs.take i)) ∧ Below w4.heap.size w4 wr) (fun _ iv _ => L - (intOf iv).toNat)
      case atStart => exact ⟨0, Nat.zero_le _, rfl, by simp [usedC], G.refl _⟩
      case round =>
        obtain ⟨j, hj, rfl, rfl, hbr⟩ := hrel
        by_cases hjl : j < L
        · obtain ⟨f, hf⟩ : ∃ f, t.fs[j]? = some f := ⟨_, List.getElem?_eq_getElem (by rw [hLt.out]; exact hjl)⟩
          have hcl := Sl.of_own1 (own_grow hrow4.out hbr)
          obtain ⟨b, off, rfl, hbl, hcell⟩ := hcl.2 (by omega)
          have k1 := hcell j _ (strs_get hf)
          have hle := used_take hf
          have hle2 := used_take_le t.fs (j + 1)
          rw [hU0.out] at hle2
          have Dr := D.out.grow hbr
          have hSz := size_any Dr (BA f.name) (Dr.names f (List.mem_of_getElem? hf))
          rw [show sizeD t (BA f.name).data.toList = ((f.data.length : Int), 0) from size_at hG.out.uq hU.out.1 hf] at hSz
          replace hSz := Lib.hid hSz
          clear Dr hcl
          obtain ⟨z, hz⟩ : ∃ z, f.data.length = z := ⟨_, rfl⟩
          obtain ⟨y, hy⟩ : ∃ y, usedC (t.fs.take j) = y := ⟨_, rfl⟩
          rw [hz] at hle hSz
          rw [hy] at hle ⊢
          obtain ⟨x, hx⟩ : ∃ x, usedC (t.fs.take (j + 1)) = x := ⟨_, rfl⟩
          rw [hx] at hle hle2
          have z0 : ¬ (z : Int) < 0 := by omega
          have z1 : ¬ r < (z : Int) := by omega
          have hsum : r - (U : Int) + (y : Int) + (z : Int) = r - (U : Int) + (x : Int) := by omega
          have hws : IntKind.i64.wrap (r - (U : Int) + (y : Int) + (z : Int)) = r - (U : Int) + (x : Int) := by rw [hsum, IntWalk.i64_in _ (by omega)]
          have hwx : Hid (-9223372036854775808 ≤ r - (U : Int) + (x : Int) ∧ r - (U : Int) + (x : Int) ≤ 9223372036854775807) := by unfold Hid; omega
          replace hx := Lib.hid hx
          replace hf := Lib.hid hf
          clear hle hle2 hz hy
          rcases j with _ | p
          · clear hcell
            rw [Nat.add_zero] at k1
            go_wp2_with fail
            refine hSz.out.mono ?_
            rintro e w5 ⟨rfl, hw⟩
            subst hw
            go_wp2_with fail
            refine wp_region_ord [(0, 1), (1, 1), (2, 1), (3, 1), (4, 1), (5, 1), (6, 1), (7, 1), (8, 1), (9, 1), (10, 1), (11, 1), (12, 1), (13, 1), (14, 1), (15, 1), (16, 1), (17, 1), (18, 1), (19, 1), (20, 1), (21, 1), (22, 1), (23, 1), (24, 1), (25, 1), (26, 1), (27, 1)] [] 5 (by kernel_rfl) (by decide +kernel) ?_
            simp only [pickO, List.append_eq, List.cons_append, List.nil_append, List.getElem?_cons_succ, List.getElem?_cons_zero]
            intro w0 hG
            (repeat ((first | (with_reducible refine ord_q1 ?_) | (with_reducible refine ord_q0 ?_)); intro K hK; first | (refine Or.inr ⟨?_, ?_⟩; (focus (go_simp; first | done | (simp [undef]; done))); go_simp; (with_reducible refine hK _ ?_); clear hK K) | (refine Or.inl ⟨?_, ?_⟩; (focus (go_simp; done)); apply Exists.intro; refine And.intro ?_ ?_; (focus (first | (intro wq hq; obtain ⟨hcq, hfq⟩ := G.old hq; go_simp; (first | done | exact rfl); done) | (intro wq; go_simp; (first | done | exact rfl); done))); go_simp; (with_reducible refine hK _ ?_); clear hK K) | fail))
            (with_reducible refine ord_nil ?_)
            go_wp2_with fail
            go_roundw
            case rel => exact ⟨0 + 1, by omega, by go_num, by rw [hx.out]; rw [IntWalk.wrap64_in _ hwx.out], G.trans hbr hG.b⟩
            case measure => simp [intOf]; omega
          · obtain ⟨g, hg⟩ : ∃ g, t.fs[p]? = some g := ⟨_, List.getElem?_eq_getElem (by rw [hLt.out]; omega)⟩
            have k2 := hcell p _ (strs_get hg)
            have hls := less_at hSr.out hg hf.out
            have hp : IntKind.i64.wrap (((p + 1 : Nat) : Int) - 1) = (p : Int) := by rw [show ((p + 1 : Nat) : Int) - 1 = (p : Int) by omega, IntWalk.i64_in _ (by omega)]
            have hp2 : IntKind.i64.wrap ((p : Int) + 1 - 1) = (p : Int) := by rw [show (p : Int) + 1 - 1 = (p : Int) by omega, IntWalk.i64_in _ (by omega)]
            have hp3 : IntKind.i64.wrap (p : Int) = (p : Int) := by rw [IntWalk.i64_in _ (by omega)]
            have hpl : p < L := by omega
            have hpl2 : (p : Int) < (L : Int) := by omega
            have hpl3 : ¬ (p : Int) < 0 := by omega
            clear hcell hg
            go_wp2_with fail
            refine hSz.out.mono ?_
            rintro e w5 ⟨rfl, hw⟩
            subst hw
            go_wp2_with fail
            refine wp_region_ord [(0, 1), (1, 1), (2, 1), (3, 1), (4, 1), (5, 1), (6, 1), (7, 1), (8, 1), (9, 1), (10, 1), (11, 1), (12, 1), (13, 1), (14, 1), (15, 1), (16, 1), (17, 1), (18, 1), (19, 1), (20, 1), (21, 1), (22, 1), (23, 1), (24, 1), (25, 1), (26, 1), (27, 1)] [] 5 (by kernel_rfl) (by decide +kernel) ?_
            simp only [pickO, List.append_eq, List.cons_append, List.nil_append, List.getElem?_cons_succ, List.getElem?_cons_zero]
            intro w0 hG
            (repeat ((first | (with_reducible refine ord_q1 ?_) | (with_reducible refine ord_q0 ?_)); intro K hK; first | (refine Or.inr ⟨?_, ?_⟩; (focus (go_simp; first | done | (simp [undef]; done))); go_simp; (with_reducible refine hK _ ?_); clear hK K) | (refine Or.inl ⟨?_, ?_⟩; (focus (go_simp; done)); apply Exists.intro; refine And.intro ?_ ?_; (focus (first | (intro wq hq; obtain ⟨hcq, hfq⟩ := G.old hq; go_simp; (first | done | exact rfl); done) | (intro wq; go_simp; (first | done | exact rfl); done))); go_simp; (with_reducible refine hK _ ?_); clear hK K) | fail))
            (with_reducible refine ord_nil ?_)
            go_wp2_with fail
            go_roundw
            case rel => exact ⟨p + 1 + 1, by omega, by go_num, by rw [hx.out]; rw [IntWalk.wrap64_in _ hwx.out], G.trans hbr hG.b⟩
            case measure => simp [intOf]; omega
        · obtain rfl : j = L := by omega
          rw [show usedC (t.fs.take j) = U by rw [List.take_of_length_le (by rw [hLt.out]; exact Nat.le_refl _)]; exact hU0.out]
          rw [show r - (U : Int) + (U : Int) = r by omega]
          replace D := Lib.hid (D.out.grow hbr)
          replace hF := Lib.hid (hF.out.grow hbr)
          have hfr : freeD t = r - U := by unfold freeD; rw [hU.out.1, hR, hU0.out]; rfl
          have h0 : (0 : Int) ≤ r - U := by omega
          replace hfr := Lib.hid hfr
          go_wp2_with fail
          refine (free_any D.out hG.out.ok).mono ?_
          rintro e w5 ⟨rfl, hb5⟩
          rw [hfr.out]
          replace hF := Lib.hid (hF.out.grow hb5)
          go_wp2_with fail
          go_ret
          exact ⟨rfl, hF.out.below⟩
end
end Go.Proofs.Ytphjgembpcikdaa
