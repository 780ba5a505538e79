/- The law's agrees. -/
import Derived.Test.YtbafnlccpbonmaaGreatDoorMd4
namespace Go.Proofs.YtbafnlccpbonmaaGreatDoor
set_option linter.unusedVariables false
set_option linter.unnecessarySimpa false
set_option linter.unusedSimpArgs false
open Go.RowKit

/-- The model has the log's records and segments. -/
structure Agr (l : Lg) (R : List (List UInt8)) (n : Nat) (g : List (List (List UInt8))) (sh : Sh) : Prop where
  recs : sh.recs = R
  segs : sh.segs = nums n g
  first : sh.first = n
  dur : l.dur = (sh.dur : Int)
section
variable {w : World} {L d p n : Nat} {l : Lg} {s : Ds} {P : Option Addr} {c : Nat} {rs : List PR} {S : Nat → Prop} {R : List (List UInt8)} {g : List (List (List UInt8))} {nm : List UInt8} {sh : Sh} {A1 A2 : Option Addr} {c1 c2 : Nat}
theorem strB_get {l : List (List UInt8)} {j : Nat} {d : List UInt8} (h : l[j]? = some d) : (strB l)[j]? = some (.string (B d)) := by unfold strB; rw [List.getElem?_map, h]; rfl
set_option maxRecDepth 20000 in set_option maxHeartbeats 8000000 in
theorem agrees_any (hL : LogR w L d l P c rs) (hD : DevW w d S s) (hI : Inv nm s l R n g) (hg : s.Good) (hu : s.down = false) (hp : Pow10 w) (hS : ShR w p sh A1 c1 A2 c2) (hA : Agr l R n g sh) :
    Calls Tryz.prog 37 #[.pointer (some ⟨L, 0, none⟩), .pointer (some ⟨p, 0, none⟩)] w fun e w' => e = .returned (.bool true) ∧ Below w.heap.size w w' := by
  have FI := Lib.hid (fun (wx : World) (hb : Below w.heap.size w wx) => (hL.grow hb).First)
  have LA := Lib.hid (fun (wx : World) (hb : Below w.heap.size w wx) => (hL.grow hb).Last hI.ok)
  have DU := Lib.hid (fun (wx : World) (hb : Below w.heap.size w wx) => (hL.grow hb).Durable)
  have hcnt : rs.length ≤ 1000000 := by
    have h5 := hI.fls.shp.cnt
    have h6 := congrArg List.length hL.eq
    have h7 := hI.fls.shp.small.1
    rw [hI.parts, ptsG_len, List.length_map] at h6
    omega
  have SG := Lib.hid (fun (wx : World) (hb : Below w.heap.size w wx) => (hL.grow hb).Segments hcnt)
  have RD := Lib.hid (fun (wx : World) (hb : Below w.heap.size w wx) (k : Int) => (hL.grow hb).Read (hD.grow hb) hg.ok hI.parts hI.fls.shp hI.ok (hp.grow hb) hI.frst hI.last k)
  rw [hI.frst] at FI
  rw [hI.last] at LA
  rw [hA.dur] at DU
  rw [hL.firsts hI.parts, ← hA.segs] at SG
  have RK := Lib.hid (fun (k : Nat) (h1 : n ≤ k) (d : List UInt8) (h2 : sh.recs[k - 1]? = some d) => hI.read hu h1 (by rw [← hA.recs]; exact h2))
  have RN := Lib.hid (fun (k : Int) (h : k < (n : Int) ∨ (R.length : Int) < k) => hI.noread h)
  have hn1 := hI.fls.shp.n1
  have hnR := hI.fls.shp.nR
  have hRs := hI.fls.shp.small.1
  have hsl : sh.segs.length ≤ 1000000 := by
    rw [hA.segs, nums_len]
    have h5 := hI.fls.shp.cnt
    omega
  have hf := hA.first
  have hrc := hA.recs
  have HS := Lib.hid hS
  clear hL hD hI hg hp hS hA hcnt
  obtain ⟨lm, R2, Gs, z, fi, du⟩ := sh
  dsimp only at *
  subst hf hrc
  obtain ⟨nr, hnr⟩ : ∃ k, R2.length = k := ⟨_, rfl⟩
  obtain ⟨ng, hng⟩ : ∃ k, Gs.length = k := ⟨_, rfl⟩
  rw [hnr] at LA hnR hRs RN
  rw [hng] at hsl
  replace hnr := Lib.hid hnr
  replace hng := Lib.hid hng
  have HB := HS.out.box
  unfold Sh.cells at HB
  dsimp only at HB
  rw [hnr.out, hng.out] at HB
  obtain ⟨k0, k1, k2, k3, k4, k5⟩ := HB.c6
  have lt := HB.lt
  clear HB
  go_enter Tryz.func37, Tryz.ntmps37
  go_wp2_with fail
  refine wp_region_ord [(0, 1), (2, 1), (3, 1), (4, 1), (5, 1), (1, 2), (6, 1), (7, 1), (8, 1), (10, 1), (11, 1), (12, 1), (13, 1), (14, 1), (9, 2), (15, 1), (16, 1), (17, 1), (18, 1), (20, 1), (21, 1), (22, 1), (23, 1), (19, 2), (24, 1), (25, 1)] [] 5 (by kernel_rfl) (by decide +kernel) ?_
  simp only [pickO, List.append_eq, List.cons_append, List.nil_append, List.getElem?_cons_succ, List.getElem?_cons_zero]
  intro w0 hG
  (repeat ((first | (with_reducible refine ord_q1 ?_) | (with_reducible refine ord_q0 ?_)); intro K hK; first | (refine Or.inr ⟨?_, ?_⟩; (focus (go_simp; first | done | (simp [undef]; done))); go_simp; (with_reducible refine hK _ ?_); clear hK K) | (refine Or.inl ⟨?_, ?_⟩; (focus (go_simp; done)); apply Exists.intro; refine And.intro ?_ ?_; (focus (first | (intro wq hq; obtain ⟨hcq, hfq⟩ := G.old hq; go_simp; (first | done | exact rfl); done) | (intro wq; go_simp; (first | done | exact rfl); done))); go_simp; (with_reducible refine hK _ ?_); clear hK K) | fail))
  (with_reducible refine ord_run ?_ hG)
  intro K hK
  go_simp
  go_at_call 40; (with_reducible refine (FI.out _ hG.b).mono ?_); rintro e w2 ⟨rfl, hb1⟩
  replace hG := Grew.trans hG hb1
  (try dsimp only)
  (with_reducible refine hK _ _ hG ?_)
  clear hK K
  (repeat ((first | (with_reducible refine ord_q1 ?_) | (with_reducible refine ord_q0 ?_)); intro K hK; first | (refine Or.inr ⟨?_, ?_⟩; (focus (go_simp; first | done | (simp [undef]; done))); go_simp; (with_reducible refine hK _ ?_); clear hK K) | (refine Or.inl ⟨?_, ?_⟩; (focus (go_simp; done)); apply Exists.intro; refine And.intro ?_ ?_; (focus (first | (intro wq hq; obtain ⟨hcq, hfq⟩ := G.old hq; go_simp; (first | done | exact rfl); done) | (intro wq; go_simp; (first | done | exact rfl); done))); go_simp; (with_reducible refine hK _ ?_); clear hK K) | fail))
  (with_reducible refine ord_run ?_ hG)
  intro K hK
  go_simp
  go_at_call 33; (with_reducible refine (LA.out _ hG.b).mono ?_); rintro e w2 ⟨rfl, hb1⟩
  replace hG := Grew.trans hG hb1
  (try dsimp only)
  (with_reducible refine hK _ _ hG ?_)
  clear hK K
  (repeat ((first | (with_reducible refine ord_q1 ?_) | (with_reducible refine ord_q0 ?_)); intro K hK; first | (refine Or.inr ⟨?_, ?_⟩; (focus (go_simp; first | done | (simp [undef]; done))); go_simp; (with_reducible refine hK _ ?_); clear hK K) | (refine Or.inl ⟨?_, ?_⟩; (focus (go_simp; done)); apply Exists.intro; refine And.intro ?_ ?_; (focus (first | (intro wq hq; obtain ⟨hcq, hfq⟩ := G.old hq; go_simp; (first | done | exact rfl); done) | (intro wq; go_simp; (first | done | exact rfl); done))); go_simp; (with_reducible refine hK _ ?_); clear hK K) | fail))
  (with_reducible refine ord_run ?_ hG)
  intro K hK
  go_simp
  go_at_call 41; (with_reducible refine (szB (DU.out _ hG.b)).mono ?_); rintro e w2 ⟨rfl, hb1⟩
  replace hG := Grew.trans hG hb1
  (try dsimp only)
  (with_reducible refine hK _ _ hG ?_)
  clear hK K
  (repeat ((first | (with_reducible refine ord_q1 ?_) | (with_reducible refine ord_q0 ?_)); intro K hK; first | (refine Or.inr ⟨?_, ?_⟩; (focus (go_simp; first | done | (simp [undef]; done))); go_simp; (with_reducible refine hK _ ?_); clear hK K) | (refine Or.inl ⟨?_, ?_⟩; (focus (go_simp; done)); apply Exists.intro; refine And.intro ?_ ?_; (focus (first | (intro wq hq; obtain ⟨hcq, hfq⟩ := G.old hq; go_simp; (first | done | exact rfl); done) | (intro wq; go_simp; (first | done | exact rfl); done))); go_simp; (with_reducible refine hK _ ?_); clear hK K) | fail))
  (with_reducible refine ord_nil ?_)
  have hb1 := hG.b
  clear hG FI LA DU
  replace k1 := G.cell k1 hb1
  replace k2 := G.cell k2 hb1
  replace k4 := G.cell k4 hb1
  replace lt := cell_lt k1
  clear k0 k3 k5
  go_wp2_with fail
  go_at_call 42
  (with_reducible refine (SG.out _ hb1).mono ?_)
  unfold RetNs
  rintro e w3 ⟨A, ca, rfl, ho, hb2⟩
  rw [hng.out] at ho ⊢
  have HO := Lib.hid ho
  have HSB := Lib.hid (fun (wx : World) (hb : Below w3.heap.size w3 wx) => HS.out.grow (G.trans (G.trans hb1 hb2) hb))
  have HW3 := Lib.hid (G.trans hb1 hb2)
  replace k1 := G.cell k1 hb2
  replace k2 := G.cell k2 hb2
  replace k4 := G.cell k4 hb2
  replace lt := cell_lt k1
  clear ho hb1 hb2 SG
  go_wp2_with fail
  clear k1 k2 k4 lt
  go_loopw [6] (fun iv wr => ∃ i : Nat, i ≤ ng ∧ iv = .int .i64 (i : Int) ∧ Hid (Below w3.heap.size w3 wr)) (fun iv _ => ng - (intOf iv).toNat)
  case atStart => exact ⟨0, Nat.zero_le _, rfl, Lib.hid (G.refl _)⟩
  case round =>
    obtain ⟨i, hi, rfl, HG⟩ := hrel
    have HB := (HSB.out _ HG.out).box
    unfold Sh.cells at HB
    dsimp only at HB
    rw [hnr.out, hng.out] at HB
    obtain ⟨k0, k1, k2, k3, k4, k5⟩ := HB.c6
    have lt := HB.lt
    clear HB
    by_cases hlt : i < ng
    · have hlt' : (i : Int) < (ng : Int) := by omega
      obtain ⟨f, hf⟩ : ∃ f, Gs[i]? = some f := ⟨_, List.getElem?_eq_getElem (by rw [hng.out]; exact hlt)⟩
      obtain ⟨g1, o1, hA, hl1, hc1⟩ := (HO.out.grow HG.out).ptr (by omega)
      subst hA
      obtain ⟨g2, o2, hA2, hl2, hc2⟩ := (HSB.out _ HG.out).segs.ptr (by dsimp only; rw [hng.out]; omega)
      subst hA2
      have q1 := hc1 i _ (natsC_get hf)
      have q2 := hc2 i _ (natsC_get hf)
      have lt1 := cell_lt q1
      have lt2 := cell_lt q2
      dsimp only at lt1 lt2
      have hw : IntKind.i64.wrap ((i : Int) + 1) = ((i + 1 : Nat) : Int) := by rw [IntWalk.i64_in _ (by omega)]; omega
      clear hc1 hc2 hf k0 k3 k4 k5
      go_wp2_with fail
      refine wp_region_ord [(0, 1), (1, 1), (2, 1), (3, 1), (4, 1), (5, 1), (6, 1), (7, 1), (8, 1), (9, 1), (10, 1), (11, 1)] [] 5 (by kernel_rfl) (by decide +kernel) ?_
      simp only [pickO, List.append_eq, List.cons_append, List.nil_append, List.getElem?_cons_succ, List.getElem?_cons_zero]
      intro w0 hG
      (repeat ((first | (with_reducible refine ord_q1 ?_) | (with_reducible refine ord_q0 ?_)); intro K hK; first | (refine Or.inr ⟨?_, ?_⟩; (focus (go_simp; first | done | (simp [undef]; done))); go_simp; (with_reducible refine hK _ ?_); clear hK K) | (refine Or.inl ⟨?_, ?_⟩; (focus (go_simp; done)); apply Exists.intro; refine And.intro ?_ ?_; (focus (first | (intro wq hq; obtain ⟨hcq, hfq⟩ := G.old hq; go_simp; (first | done | exact rfl); done) | (intro wq; go_simp; (first | done | exact rfl); done))); go_simp; (with_reducible refine hK _ ?_); clear hK K) | fail))
      (with_reducible refine ord_nil ?_)
      have hb9 := hG.b
      clear hG
      go_wp2_with fail
      refine ⟨⟨i + 1, by omega, rfl, Lib.hid (G.trans HG.out hb9)⟩, by simp [intOf]; omega⟩
    · obtain rfl : i = ng := by omega
      have hlt' : ¬ (i : Int) < (i : Int) := by omega
      go_wp2_with fail
      clear k0 k1 k2 k3 k4 k5 lt
      go_loopw [7] (fun iv wr => ∃ i : Nat, fi ≤ i ∧ i ≤ nr + 1 ∧ iv = .int .i64 (i : Int) ∧ Hid (Below w3.heap.size w3 wr)) (fun iv _ => nr + 2 - (intOf iv).toNat)
      case atStart => exact ⟨fi, Nat.le_refl _, by omega, rfl, HG⟩
      case round =>
        obtain ⟨i, hfi, hi, rfl, HG⟩ := hrel
        have HB := (HSB.out _ HG.out).box
        unfold Sh.cells at HB
        dsimp only at HB
        rw [hnr.out, hng.out] at HB
        obtain ⟨k0, k1, k2, k3, k4, k5⟩ := HB.c6
        have lt := HB.lt
        clear HB
        by_cases hlt : i ≤ nr
        · have hlt' : (i : Int) ≤ (nr : Int) := by omega
          obtain ⟨j, hj⟩ : ∃ j, i - 1 = j := ⟨_, rfl⟩
          obtain ⟨x, hx⟩ : ∃ x, R2[j]? = some x := ⟨_, List.getElem?_eq_getElem (by rw [hnr.out]; omega)⟩
          have R1 := Lib.hid (RD.out _ (G.trans HW3.out HG.out) (i : Int))
          rw [RK.out i hfi x (by rw [hj]; exact hx)] at R1
          unfold RetR at R1
          dsimp only at R1
          rw [show BA x = B x from rfl] at R1
          have hw1 : IntKind.i64.wrap ((i : Int) - 1) = (j : Int) := by rw [IntWalk.i64_in _ (by omega)]; omega
          have hw : IntKind.i64.wrap ((i : Int) + 1) = ((i + 1 : Nat) : Int) := by rw [IntWalk.i64_in _ (by omega)]; omega
          have hjn : j < nr := by omega
          have hjn' : (j : Int) < (nr : Int) := by omega
          obtain ⟨g1, o1, hA, hl1, hc1⟩ := (HSB.out _ HG.out).recs.ptr (by dsimp only; rw [hnr.out]; omega)
          subst hA
          have q1 := hc1 j _ (strB_get hx)
          have lt1 := cell_lt q1
          dsimp only at lt1
          clear hc1 hj hx
          go_wp2_with fail
          go_at_call 32
          (with_reducible refine R1.out.mono ?_)
          clear R1
          rintro e w6 ⟨rfl, hb6⟩
          replace k1 := G.cell k1 hb6
          replace q1 := G.cell q1 hb6
          replace lt := cell_lt k1
          replace lt1 := cell_lt q1
          dsimp only at lt lt1
          clear k0 k2 k3 k4 k5
          go_wp2_with fail
          refine ⟨⟨i + 1, by omega, by omega, rfl, Lib.hid (G.trans HG.out hb6)⟩, by simp [intOf]; omega⟩
        · obtain rfl : i = nr + 1 := by omega
          have hlt' : ¬ ((nr + 1 : Nat) : Int) ≤ (nr : Int) := by omega
          have hw1 : IntKind.i64.wrap ((fi : Int) - 1) = (fi : Int) - 1 := IntWalk.i64_in _ (by omega)
          have hw2 : IntKind.i64.wrap ((nr : Int) + 1) = (nr : Int) + 1 := IntWalk.i64_in _ (by omega)
          have R1 := Lib.hid (RD.out _ (G.trans HW3.out HG.out) ((fi : Int) - 1))
          rw [RN.out _ (.inl (by omega))] at R1
          have R2' := Lib.hid (fun (wx : World) (hb : Below w3.heap.size w3 wx) => RD.out _ (G.trans HW3.out hb) ((nr : Int) + 1))
          rw [RN.out _ (.inr (by omega))] at R2'
          unfold RetR at R1 R2'
          dsimp only at R1 R2'
          rw [show BA [] = (⟨#[]⟩ : ByteArray) from rfl] at R1 R2'
          go_wp2_with fail
          go_at_call 32
          (with_reducible refine R1.out.mono ?_)
          rintro e w6 ⟨rfl, hb6⟩
          replace k1 := G.cell k1 hb6
          replace lt := cell_lt k1
          dsimp only at lt
          clear k0 k2 k3 k4 k5 R1
          have hb7 := G.trans HG.out hb6
          go_wp2_with fail
          go_at_call 32
          (with_reducible refine (R2'.out _ hb7).mono ?_)
          rintro e w8 ⟨rfl, hb8⟩
          have hb9 := G.trans HW3.out (G.trans hb7 hb8)
          clear R2' hb6 hb7 hb8 k1 lt
          go_wp2_with fail
          go_ret
          exact ⟨rfl, hb9⟩
end
end Go.Proofs.YtbafnlccpbonmaaGreatDoor
