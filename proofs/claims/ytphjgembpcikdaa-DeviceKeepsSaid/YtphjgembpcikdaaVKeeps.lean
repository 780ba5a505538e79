/- The law DeviceKeeps returns true: the walk. -/
import Derived.Test.YtphjgembpcikdaaVKp0
namespace Go.Proofs.Ytphjgembpcikdaa
set_option linter.unusedVariables false
set_option linter.unnecessarySimpa false
set_option linter.unusedSimpArgs false
open Go.RowKit

section
variable {w : World}
set_option maxRecDepth 20000 in set_option maxHeartbeats 2000000 in
theorem deviceKeeps_any {A : Option Addr} {n c : Nat} {l : List LOp} (hl : OpsW w A n c l) {B1 : Option Addr} {n1 c1 : Nat} {ch : List UInt8} (hch : BytesW w B1 n1 c1 ch) :
    Calls Try.prog 8 #[.slice A n c, .slice B1 n1 c1] w fun e w' => e = .returned (.bool true) ∧ Below w.heap.size w w' := by
  obtain ⟨m, hm⟩ : ∃ m : Nat, min n 40 = m := ⟨_, rfl⟩
  have hmn : m ≤ n := by omega
  have hm40 : m ≤ 40 := by omega
  obtain ⟨hln, hnc, hcm⟩ := hl.len
  have hmi : min (n : Int) 40 = (m : Int) := by omega
  have hmc : m ≤ c := by omega
  unfold maxLen at hcm
  have HL := Lib.hid (hl.take hmn)
  obtain ⟨q, hq⟩ : ∃ q, l.take m = q := ⟨_, rfl⟩
  rw [hq] at HL
  have hql : Hid (q.length = m) := HL.out.len.1
  clear hl hq hm hln
  have HC := Lib.hid hch
  obtain ⟨_, hbc1, hbm1, _⟩ := hch
  go_enter Try.func8, Try.ntmps8
  go_wp2_with fail
  refine (new_any 1000 (by decide) (by decide)).mono ?_
  intro e w2 hr
  obtain ⟨d, rfl, F0⟩ := (FDs.nil (w0 := w) (G.refl w)).new hr
  replace F0 := Lib.hid F0
  clear hr
  go_wp2_with fail
  refine (known_any _).mono ?_
  rintro e w3 ⟨rfl, hb3⟩
  replace F0 := Lib.hid (F0.out.grow hb3)
  clear hb3
  go_wp2_with fail
  go_loopw [7] (fun iv wr => ∃ i : Nat, i ≤ m ∧ iv = .int .i64 i ∧ FDs w wr [(d, runN (newD 1000) q i)]) (fun iv _ => m - (intOf iv).toNat)
  case atStart => exact ⟨0, Nat.zero_le _, rfl, F0.out⟩
  case round =>
    obtain ⟨i, hi, rfl, hF⟩ := hrel
    replace hF := Lib.hid hF
    have hG := runN_good q (new_good (n := 1000) (by decide) (by decide)) i
    by_cases hlt : i < m
    · obtain ⟨o, ho⟩ : ∃ o, q[i]? = some o := ⟨_, List.getElem?_eq_getElem (by rw [hql.out]; exact hlt)⟩
      obtain ⟨b, off, rfl, hbl, e0, e1, e2, e3, e4, hfit⟩ := (HL.out.grow (hF.out.below)).at_ ho
      replace ho := Lib.hid ho
      replace hG := Lib.hid hG
      go_wp2_with fail
      refine (hF.out.oper (i := 0) rfl hG.out o hfit i (by omega)).mono ?_
      rintro e w4 ⟨rfl, hF'⟩
      replace hF' := Lib.hid hF'
      go_wp2_with fail
      go_roundw
      case rel => exact ⟨i + 1, by omega, by go_num, by rw [runN_step ho.out]; exact hF'.out⟩
      case measure => simp [intOf]; omega
    · obtain rfl : i = m := by omega
      have hU := runN_up q (s := newD 1000) ⟨rfl, rfl⟩ i
      obtain ⟨t, ht⟩ : ∃ t, runN (newD 1000) q i = t := ⟨_, rfl⟩
      rw [ht] at hG hU hF
      clear ht
      replace hG := Lib.hid hG
      replace hU := Lib.hid hU
      have hGl := Lib.hid (limit_good hG.out 1048576)
      have hls : Hid ((limitD t 1048576).fs = t.fs) := rfl
      have hld : Hid ((limitD t 1048576).down = false) := hU.out.1
      obtain ⟨t1, ht1⟩ : ∃ t1, limitD t 1048576 = t1 := ⟨_, rfl⟩
      go_wp2_with fail
      refine (hF.out.runV (i := 0) rfl fun S hS => limit_any hS 1048576).mono ?_
      rintro e w5 ⟨rfl, hF5⟩
      rw [show limitD ((d, t) : Nat × Ds).2 1048576 = t1 from ht1] at hF5
      rw [ht1] at hGl hls hld
      replace hF : Hid (FDs w w5 [(d, t1)]) := hF5
      clear hF5 ht1
      go_wp2_with fail
      refine (hF.out.start (i := 0) rfl hGl.out.ok (ch := []) (A := none) (n := 0) (c := 0) ⟨Sl.nil _ _, Nat.le_refl _, Nat.zero_le _, fun ad e => by cases e⟩).mono ?_
      rintro e w6 ⟨rfl, hF6⟩
      rw [start_up hld.out] at hF6
      replace hF : Hid (FDs w w6 [(d, t1)]) := hF6
      clear hF6
      go_wp2_with fail
      refine (hF.out.clone (i := 0) rfl hGl.out.ok).mono ?_
      rintro e w7 ⟨c', rfl, hF7⟩
      replace hF : Hid (FDs w w7 [(c', t1), (d, t1)]) := hF7
      clear hF7
      go_wp2_with fail
      refine (hF.out.crash (i := 1) rfl).mono ?_
      rintro e w8 ⟨rfl, hF8⟩
      replace hF : Hid (FDs w w8 [(c', t1), (d, { t1 with down := true })]) := hF8
      clear hF8
      have hGv := start_good (crash_good hGl.out) ch
      have hdv : (startD { t1 with down := true } ch).down = false := rfl
      have hlv : (startD { t1 with down := true } ch).fs = startL t1.fs ch := rfl
      obtain ⟨v, hv⟩ : ∃ v, startD { t1 with down := true } ch = v := ⟨_, rfl⟩
      go_wp2_with fail
      refine (hF.out.start (i := 1) rfl (crash_good hGl.out).ok HC.out).mono ?_
      rintro e w9 ⟨rfl, hF9⟩
      rw [show startD ((d, ({ t1 with down := true } : Ds)) : Nat × Ds).2 ch = v from hv] at hF9
      replace hF : Hid (FDs w w9 [(c', t1), (d, v)]) := hF9
      rw [hv] at hGv hdv hlv
      clear hF9 hv
      replace hGv := Lib.hid hGv
      replace hdv := Lib.hid hdv
      replace hlv := Lib.hid hlv
      have hnn : namesC v.fs = namesC t1.fs := by rw [hlv.out]; exact start_names _ _
      obtain ⟨L, hL⟩ : ∃ L, (namesC t1.fs).length = L := ⟨_, rfl⟩
      have hLt : Hid (t1.fs.length = L) := by unfold Hid; rw [← hL]; unfold namesC; rw [List.length_map]
      have hL4 : L ≤ 4096 := by have := hGl.out.ok.cnt; have := hLt.out; omega
      go_wp2_with fail
      obtain ⟨S, D, hS⟩ := hF.out.at_ (i := 0) rfl
      refine (list_any D hGl.out.ok).mono ?_
      rintro e wA hlist
      unfold RetL at hlist
      rw [hL] at hlist
      rcases hlist with ⟨hd, _⟩ | ⟨_, A2, k2, rfl, hrow, hbA⟩
      · rw [hld.out] at hd; cases hd
      replace hrow := Lib.hid hrow
      replace hF := Lib.hid (hF.out.grow hbA)
      clear hbA D hS
      go_wp2_with fail
      obtain ⟨S, D, hS⟩ := hF.out.at_ (i := 1) rfl
      refine (list_any D hGv.out.ok).mono ?_
      rintro e wB hlist
      unfold RetL at hlist
      rw [hnn, hL] at hlist
      rcases hlist with ⟨hd, _⟩ | ⟨_, A3, k3, rfl, hrow3, hbB⟩
      · rw [hdv.out] at hd; cases hd
      replace hrow3 := Lib.hid hrow3
      replace hrow := Lib.hid (own_grow hrow.out hbB)
      replace hF := Lib.hid (hF.out.grow hbB)
      replace hL := Lib.hid hL
      replace hnn := Lib.hid hnn
      clear hbB D hS
      go_wp2_with fail
      go_loopw [13] (fun iv wr => ∃ i : Nat, i ≤ L ∧ iv = .int .i64 i ∧ Below wB.heap.size wB wr) (fun iv _ => L - (intOf iv).toNat)
      case atStart => exact ⟨0, Nat.zero_le _, rfl, G.refl _⟩
      case round =>
        obtain ⟨j, hj, rfl, hbr⟩ := hrel
        by_cases hjl : j < L
        · obtain ⟨f, hf⟩ : ∃ f, t1.fs[j]? = some f := ⟨_, List.getElem?_eq_getElem (by rw [hLt.out]; exact hjl)⟩
          obtain ⟨g, z, hg, hLf⟩ := start_left t1.fs ch hGl.out.ok.du j f hf
          rw [← hlv.out] at hg
          have hgn := hLf.name
          obtain ⟨b, off, rfl, hbl, hcell⟩ := (Sl.of_own1 (own_grow hrow.out hbr)).2 (by omega)
          have k1 := hcell j _ (strs_get hf)
          obtain ⟨b', off', rfl, hbl', hcell'⟩ := (Sl.of_own1 (own_grow hrow3.out hbr)).2 (by omega)
          have hg' := strs_get hg
          rw [hnn.out, hgn] at hg'
          have k1' := hcell' j _ hg'
          clear hcell hcell' hg'
          have hszf := hGl.out.ok.sz f (List.mem_of_getElem? hf)
          obtain ⟨S, D, hS⟩ := (hF.out.grow hbr).at_ (i := 0) rfl
          have hnl := D.names f (List.mem_of_getElem? hf)
          have h1 := dur_any D (BA f.name) hnl
          rw [show durD ((c', t1) : Nat × Ds).2 (BA f.name).data.toList = ((f.dur : Int), 0) from dur_at hGl.out.uq hld.out hf] at h1
          have h2 := size_any D (BA f.name) hnl
          rw [show sizeD ((c', t1) : Nat × Ds).2 (BA f.name).data.toList = ((f.data.length : Int), 0) from size_at hGl.out.uq hld.out hf] at h2
          obtain ⟨T, E, hT⟩ := (hF.out.grow hbr).at_ (i := 1) rfl
          have h3 := size_any E (BA f.name) hnl
          rw [show sizeD ((d, v) : Nat × Ds).2 (BA f.name).data.toList = ((g.data.length : Int), 0) from hgn ▸ size_at hGv.out.uq hdv.out hg] at h3
          have h4 := dur_any E (BA f.name) hnl
          rw [show durD ((d, v) : Nat × Ds).2 (BA f.name).data.toList = ((g.dur : Int), 0) from hgn ▸ dur_at hGv.out.uq hdv.out hg, hLf.dur] at h4
          have h5 := fun (wx : World) (hb : Below wr.heap.size wr wx) => read_any (D.grow hb) hGl.out.ok (BA f.name) hnl 0 z (by decide)
          rw [show readD ((c', t1) : Nat × Ds).2 (BA f.name).data.toList 0 z = (f.data.take z, 0) from read_at hGl.out.uq hld.out hf (Nat.le_trans hLf.le hLf.hi)] at h5
          have hRD := fun (wx : World) (hb : Below wr.heap.size wr wx) => read_any (E.grow hb) hGv.out.ok (BA f.name) hnl 0 z (by decide)
          rw [show readD ((d, v) : Nat × Ds).2 (BA f.name).data.toList 0 z = (f.data.take z, 0) from by rw [← hLf.same]; exact hgn ▸ read_at hGv.out.uq hdv.out hg hLf.le] at hRD
          have htl : (BA (f.data.take z)).size = z := by
            show (f.data.take z).toArray.size = z
            rw [List.size_toArray, List.length_take]
            have := hLf.le
            have := hLf.hi
            omega
          obtain ⟨x1, hx1⟩ : ∃ x, f.dur = x := ⟨_, rfl⟩
          obtain ⟨x2, hx2⟩ : ∃ x, f.data.length = x := ⟨_, rfl⟩
          obtain ⟨x3, hx3⟩ : ∃ x, g.data.length = x := ⟨_, rfl⟩
          have q1 := hLf.lo
          have q2 := hLf.hi
          have q3 := hLf.sure
          rw [hx1] at h1 q1 q3
          rw [hx2] at h2 q2 hszf
          rw [hx3] at h3 h4 q1 q2 q3
          obtain ⟨X, hX⟩ : ∃ X, BA (f.data.take z) = X := ⟨_, rfl⟩
          have h5' : ∀ wx, Below wr.heap.size wr wx → Calls Try.prog 17 #[.pointer (some ⟨c', 0, none⟩), .string (BA f.name), .int .i64 0, .int .i64 z] wx fun e w' => e = .returned (.tuple #[.string X, .int .i64 0]) ∧ Below wx.heap.size wx w' := fun wx hb => (h5 wx hb).mono fun e w' hh => by rw [← hX]; exact hh
          have h6' : ∀ wx, Below wr.heap.size wr wx → Calls Try.prog 17 #[.pointer (some ⟨d, 0, none⟩), .string (BA f.name), .int .i64 0, .int .i64 z] wx fun e w' => e = .returned (.tuple #[.string X, .int .i64 0]) ∧ Below wx.heap.size wx w' := fun wx hb => (hRD wx hb).mono fun e w' hh => by rw [← hX]; exact hh
          rw [hX] at htl
          obtain ⟨nm, hnm⟩ : ∃ nm, BA f.name = nm := ⟨_, rfl⟩
          rw [hnm] at k1 k1' h1 h2 h3 h4 h5' h6'
          replace h1 := Lib.hid h1
          replace h2 := Lib.hid h2
          replace h3 := Lib.hid h3
          replace h4 := Lib.hid h4
          replace h5' := Lib.hid h5'
          replace h6' := Lib.hid h6'
          clear h5 hRD D hS E hT hLf hf hg hgn hX hnm hx1 hx2 hx3 hnl
          have t1' : ¬ (x3 : Int) < (x1 : Int) := by omega
          have t2' : ¬ (x2 : Int) < (x3 : Int) := by omega
          have t3' : ¬ x3 < x1 := by omega
          have t4' : ¬ x2 < x3 := by omega
          have t5' : x1 ≤ x3 := by omega
          have t6' : x3 ≤ x2 := by omega
          have hw1 : IntKind.i64.wrap ((x3 : Int) - 1) = (x3 : Int) - 1 := by rw [IntWalk.i64_in _ (by omega)]
          have hmx : max (x1 : Int) ((x3 : Int) - 1) = (z : Int) := q3.symm
          clear q1 q2 q3 hszf
          go_wp2_with fail
          refine h1.out.mono ?_
          rintro e wC ⟨rfl, hw⟩
          subst hw
          clear h1
          go_wp2_with fail
          refine h2.out.mono ?_
          rintro e wC ⟨rfl, hw⟩
          subst hw
          clear h2
          go_wp2_with fail
          refine h3.out.mono ?_
          rintro e wC ⟨rfl, hw⟩
          subst hw
          clear h3
          go_wp2_with fail
          refine h4.out.mono ?_
          rintro e wC ⟨rfl, hw⟩
          subst hw
          clear h4
          go_wp2_with fail
          refine wp_region_ord [(0, 1), (1, 1), (2, 1), (3, 1), (4, 1), (5, 1), (6, 1), (7, 1), (8, 1), (9, 1), (10, 1), (11, 1), (12, 1), (13, 1), (14, 1), (15, 1), (16, 1), (17, 1), (18, 1), (19, 1), (20, 1), (21, 1), (22, 1), (23, 1)] [] 5 (by kernel_rfl) (by decide +kernel) ?_
          simp only [pickO, List.append_eq, List.cons_append, List.nil_append, List.getElem?_cons_succ, List.getElem?_cons_zero]
          intro w0 hG
          (repeat ((first | (with_reducible refine ord_q1 ?_) | (with_reducible refine ord_q0 ?_)); intro K hK; first | (refine Or.inr ⟨?_, ?_⟩; (focus (go_simp; first | done | (simp [undef]; done))); go_simp; (with_reducible refine hK _ ?_); clear hK K) | (refine Or.inl ⟨?_, ?_⟩; (focus (go_simp; done)); apply Exists.intro; refine And.intro ?_ ?_; (focus (first | (intro wq hq; obtain ⟨hcq, hfq⟩ := G.old hq; go_simp; (first | done | exact rfl); done) | (intro wq; go_simp; (first | done | exact rfl); done))); go_simp; (with_reducible refine hK _ ?_); clear hK K) | fail))
          (with_reducible refine ord_nil ?_)
          have hb0 := hG.b
          replace k1 := G.cell k1 hb0
          replace k1' := G.cell k1' hb0
          replace hbl := cell_lt k1
          replace hbl' := cell_lt k1'
          dsimp only at hbl hbl'
          clear hG
          go_wp2_with fail
          refine (h5'.out _ hb0).mono ?_
          rintro e wC ⟨rfl, hbC⟩
          replace k1 := G.cell k1 hbC
          replace hbl := cell_lt k1
          dsimp only at hbl
          clear k1' hbl'
          replace hb0 := G.trans hb0 hbC
          go_wp2_with fail
          refine (h6'.out _ hb0).mono ?_
          rintro e wD ⟨rfl, hbD⟩
          replace hb0 := G.trans hb0 hbD
          clear hbC hbD k1 hbl
          go_wp2_with fail
          go_roundw
          case rel => exact ⟨j + 1, by omega, by go_num, G.trans hbr hb0⟩
          case measure => simp [intOf]; omega
        · obtain rfl : j = L := by omega
          go_wp2_with fail
          refine ((hF.out.grow hbr).down (i := 1) rfl).mono ?_
          rintro e wC ⟨he, hw⟩
          subst hw
          rw [show ((d, v) : Nat × Ds).2.down = false from hdv.out] at he
          subst he
          go_wp2_with fail
          go_ret
          exact ⟨rfl, (hF.out.grow hbr).below⟩
end
end Go.Proofs.Ytphjgembpcikdaa
