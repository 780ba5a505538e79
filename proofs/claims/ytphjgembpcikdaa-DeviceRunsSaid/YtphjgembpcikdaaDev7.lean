/- device: Create, Remove, Sync. -/
import Derived.Test.YtphjgembpcikdaaDev6
namespace Go.Proofs.Ytphjgembpcikdaa
set_option linter.unusedVariables false
set_option linter.unnecessarySimpa false
set_option linter.unusedSimpArgs false
open Go.RowKit

def createD (s : Ds) (nm : List UInt8) : Int × Ds :=
  if s.down = true then (31, s) else if okName nm = false then (12, s) else if (lkC s.fs nm).isSome = true then (7, s) else if 4096 ≤ s.fs.length then (9, s)
  else perfD s id fun s => { s with fs := putFl s.fs ⟨nm, [], 0⟩ }
theorem okName_len {n : List UInt8} (h : okName n = true) : n.length ≤ 64 := by
  unfold okName at h
  simp only [Bool.and_eq_true, decide_eq_true_eq] at h
  exact h.2.1
section
variable {w w' w1 : World} {d mb : Nat} {s s' : Ds} {fs : List FR} {r q x : FR} {S : Nat → Prop} {n : List UInt8}
theorem RetE.mk {R : Int × Ds} {v : Int} {e : Ending} (hR : R = (v, s')) (he : e = .returned (.int .i64 v)) (h : RetD d S s' w w') : RetE d S R w e w' := by
  subst hR
  exact ⟨he, h⟩
theorem RetE.after {R : Int × Ds} {e : Ending} (hb : Below w.heap.size w w1) (h : RetE d S R w1 e w') : RetE d S R w e w' := ⟨h.1, h.2.after (DChg.of_below hb)⟩
set_option maxRecDepth 20000 in set_option maxHeartbeats 2000000 in
theorem create_any (h : DevW w d S s) (nm : ByteArray) (hm : nm.size ≤ maxLen) : Calls Try.prog 15 #[.pointer (some ⟨d, 0, none⟩), .string nm] w (RetE d S (createD s nm.data.toList) w) := by
  have H := Lib.hid h
  obtain ⟨R, hr⟩ : ∃ R, createD s nm.data.toList = R := ⟨_, rfl⟩
  rw [hr]
  unfold createD at hr
  replace hr := Lib.hid hr
  have EC := Lib.hid (fun c w => Try.call40 c w : ∀ c, Ent 40 c)
  go_enter Try.func15, Try.ntmps15
  go_wp2_with fail
  refine calls_name (fun wx => Below w.heap.size w wx ∧ Bx wx w.heap.size [.pointer (some ⟨d, 0, none⟩)] ∧ Bx wx (w.heap.size + 1) [.string nm]) ⟨by repeat (first | with_reducible assumption | with_reducible exact G.refl _ | with_reducible refine G.drew ?_ | with_reducible refine G.drewN ?_ _ | with_reducible refine G.alloc ?_ _ | with_reducible refine Below.setCell ?_ (by first | (simp; done) | (simp; omega)) _ | with_reducible refine G.trans ?_ hb12 | with_reducible refine G.trans ?_ hb11 | with_reducible refine G.trans ?_ hb10 | with_reducible refine G.trans ?_ hb9 | with_reducible refine G.trans ?_ hb8 | with_reducible refine G.trans ?_ hb7 | with_reducible refine G.trans ?_ hb6 | with_reducible refine G.trans ?_ hb5 | with_reducible refine G.trans ?_ hb4 | with_reducible refine G.trans ?_ hb3 | with_reducible refine G.trans ?_ hb2 | with_reducible refine G.trans ?_ hb1 | with_reducible refine G.trans ?_ hb | assumption), by repeat (first | with_reducible assumption | (with_reducible exact Bx.new (by simp; done) (by rfl)) | (with_reducible refine Bx.alloc ?_ _) | (with_reducible refine Bx.drewN ?_ _) | ((with_reducible apply Bx.put); rotate_right; (first | rfl | skip)) | (with_reducible refine Bx.other ?_ (by first | (simp; done) | (simp; omega)) _)), by repeat (first | with_reducible assumption | (with_reducible exact Bx.new (by simp; done) (by rfl)) | (with_reducible refine Bx.alloc ?_ _) | (with_reducible refine Bx.drewN ?_ _) | ((with_reducible apply Bx.put); rotate_right; (first | rfl | skip)) | (with_reducible refine Bx.other ?_ (by first | (simp; done) | (simp; omega)) _))⟩ ?_
  rintro w2 ⟨hb2, x2, x3⟩
  have H2 := Lib.hid (H.out.grow hb2)
  have hdl : Hid (d < w.heap.size) := by obtain ⟨_, _, hR, _⟩ := H.out; exact hR.box.lt
  refine (check_any H2.out).mono ?_
  rintro e w3 ⟨rfl, hw⟩
  subst hw
  have c2 := (x2.2 0 _ rfl).1
  have c3 := (x3.2 0 _ rfl).1
  have lt2 := x2.lt
  have lt3 := x3.lt
  unfold chkD
  rcases hd : s.down with _ | _
  · replace hr := hr.out
    rw [hd, if_neg (by simp)] at hr
    replace hr := Lib.hid hr
    replace hd := Lib.hid hd
    go_wp2_with fail
    refine (named_any _ nm).mono ?_
    rintro e w4 ⟨rfl, hb4⟩
    have hb24 := G.trans hb2 hb4
    have H4 := Lib.hid (H2.out.grow hb4)
    replace x2 := x2.grow hb4
    replace x3 := x3.grow hb4
    replace c2 := G.cell c2 hb4
    replace c3 := G.cell c3 hb4
    replace lt2 := cell_lt c2
    replace lt3 := cell_lt c3
    dsimp only at lt2 lt3
    rcases hok : okName nm.data.toList with _ | _
    · replace hr := hr.out
      rw [if_pos hok] at hr
      replace hr := Lib.hid hr
      replace hok := Lib.hid hok
      go_wp2_with fail
      go_ret
      exact RetE.mk hr.out.symm rfl (RetD.of_below H.out hb24)
    · have h64 := okName_len hok
      have h64' : nm.size ≤ 64 := h64
      replace hr := hr.out
      rw [hok, if_neg (by simp)] at hr
      replace hok := Lib.hid hok
      obtain ⟨mb, fs, hR, hS⟩ := H4.out
      have k1 := (hR.box.2 1 _ rfl).1
      have lt := hR.box.lt
      have hlc : lkC s.fs nm.data.toList = (lk fs nm.data.toList).map FR.fl := by rw [hR.eq, lk_fl]
      have hfl : s.fs.length = fs.length := by rw [hR.eq, List.length_map]
      rw [hlc, hfl] at hr
      have HR := Lib.hid hR
      have HS := Lib.hid hS
      replace x2 := Lib.hid x2
      replace x3 := Lib.hid x3
      have LK := fun (wx : World) (hb : Below w4.heap.size w4 wx) => look_fs (HR.out.grow hb).map Try.underlying9 Try.underlying67 (zeroP _) hm
      clear hR hS hlc hfl
      rcases hl : lk fs nm.data.toList with _ | r
      · rw [hl] at hr LK
        rw [Option.map_none, Option.isSome_none, if_neg (by simp)] at hr
        have hpv : ptrV none = .pointer none := rfl
        rw [hpv] at LK
        replace hl := Lib.hid hl
        replace hr := Lib.hid hr
        go_wp2_with fail
        refine wp_region_ord [(0, 1), (1, 1), (2, 1), (3, 1), (4, 1), (5, 1), (6, 1), (7, 1)] [] 5 (by kernel_rfl) (by decide +kernel) ?_
        simp only [pickO, List.append_eq, List.cons_append, List.nil_append, List.getElem?_cons_succ, List.getElem?_cons_zero]
        intro w0 hG
        (repeat ((first | (with_reducible refine ord_q1 ?_) | (with_reducible refine ord_q0 ?_)); intro K hK; first | (refine Or.inr ⟨?_, ?_⟩; (focus (go_simp; first | done | (simp [undef]; done))); go_simp; (with_reducible refine hK _ ?_); clear hK K) | (refine Or.inl ⟨?_, ?_⟩; (focus (go_simp; done)); apply Exists.intro; refine And.intro ?_ ?_; (focus (first | (intro wq hq; obtain ⟨hcq, hfq⟩ := G.old hq; go_simp; (first | done | exact rfl); done) | (intro wq; go_simp; (first | done | exact rfl); done))); go_simp; (with_reducible refine hK _ ?_); clear hK K) | fail))
        (with_reducible refine ord_q1 ?_); intro K hK; refine Or.inl ⟨?_, ?_⟩; (focus (go_simp; done)); apply Exists.intro; refine And.intro ?_ ?_; (focus (intro wq hq; obtain ⟨hcq, hfq⟩ := G.old hq; have hLKq := LK wq hq.b; go_simp; (first | done | exact rfl); done)); go_simp; (with_reducible refine hK _ ?_); clear hK K; (repeat ((first | (with_reducible refine ord_q1 ?_) | (with_reducible refine ord_q0 ?_)); intro K hK; first | (refine Or.inr ⟨?_, ?_⟩; (focus (go_simp; first | done | (simp [undef]; done))); go_simp; (with_reducible refine hK _ ?_); clear hK K) | (refine Or.inl ⟨?_, ?_⟩; (focus (go_simp; done)); apply Exists.intro; refine And.intro ?_ ?_; (focus (first | (intro wq hq; obtain ⟨hcq, hfq⟩ := G.old hq; go_simp; (first | done | exact rfl); done) | (intro wq; go_simp; (first | done | exact rfl); done))); go_simp; (with_reducible refine hK _ ?_); clear hK K) | fail))
        (with_reducible refine ord_nil ?_)
        have hbg := hG.b
        have hb40 := G.trans hb24 hbg
        replace c2 := G.cell c2 hbg
        replace c3 := G.cell c3 hbg
        replace k1 := G.cell k1 hbg
        replace lt := cell_lt k1
        replace lt2 := cell_lt c2
        replace lt3 := cell_lt c3
        dsimp only at lt lt2 lt3
        have HR0 := Lib.hid (HR.out.grow hbg)
        have hlen := fun ty => len_fs HR0.out.map Try.underlying67 ty
        have X2 := Lib.hid (x2.out.grow hbg)
        have X3 := Lib.hid (x3.out.grow hbg)
        clear LK hG
        by_cases hc : 4096 ≤ fs.length
        · have hc' : (4096 : Int) ≤ (fs.length : Int) := by omega
          replace hr := hr.out
          rw [if_pos hc] at hr
          replace hr := Lib.hid hr
          go_wp2_with fail
          go_ret
          exact RetE.mk hr.out.symm rfl (RetD.of_below H.out hb40)
        · have hc' : ¬ (4096 : Int) ≤ (fs.length : Int) := by omega
          replace hr := hr.out
          rw [if_neg hc] at hr
          replace hr := Lib.hid hr
          go_wp2_with fail
          refine (perform_op (g := fun s => { s with fs := putFl s.fs ⟨nm.data.toList, [], 0⟩ }) HR0.out HS.out (EC.out _) (fun w1 hw1 hbx hsz => create1_any hw1 HS.out (hbx _ _ X2.out (by have := hdl.out; omega)) (hbx _ _ X3.out (by have := hdl.out; omega)) h64' (by omega))).mono ?_
          rintro e w5 ⟨rfl, hr5⟩
          go_wp2_with fail
          go_ret
          exact RetE.mk (by rw [← hr.out]) rfl (hr5.after (DChg.of_below hb40))
      · rw [hl] at hr LK
        have hpv : ptrV (some r) = .pointer (some ⟨r.fb, 0, none⟩) := rfl
        rw [hpv] at LK
        rw [Option.map_some, Option.isSome_some, if_pos rfl] at hr
        replace hl := Lib.hid hl
        replace hr := Lib.hid hr
        go_wp2_with fail
        refine wp_region_ord [(0, 1), (1, 1), (2, 1), (3, 1), (4, 1), (5, 1), (6, 1), (7, 1)] [] 5 (by kernel_rfl) (by decide +kernel) ?_
        simp only [pickO, List.append_eq, List.cons_append, List.nil_append, List.getElem?_cons_succ, List.getElem?_cons_zero]
        intro w0 hG
        (repeat ((first | (with_reducible refine ord_q1 ?_) | (with_reducible refine ord_q0 ?_)); intro K hK; first | (refine Or.inr ⟨?_, ?_⟩; (focus (go_simp; first | done | (simp [undef]; done))); go_simp; (with_reducible refine hK _ ?_); clear hK K) | (refine Or.inl ⟨?_, ?_⟩; (focus (go_simp; done)); apply Exists.intro; refine And.intro ?_ ?_; (focus (first | (intro wq hq; obtain ⟨hcq, hfq⟩ := G.old hq; go_simp; (first | done | exact rfl); done) | (intro wq; go_simp; (first | done | exact rfl); done))); go_simp; (with_reducible refine hK _ ?_); clear hK K) | fail))
        (with_reducible refine ord_q1 ?_); intro K hK; refine Or.inl ⟨?_, ?_⟩; (focus (go_simp; done)); apply Exists.intro; refine And.intro ?_ ?_; (focus (intro wq hq; obtain ⟨hcq, hfq⟩ := G.old hq; have hLKq := LK wq hq.b; go_simp; (first | done | exact rfl); done)); go_simp; (with_reducible refine hK _ ?_); clear hK K; (repeat ((first | (with_reducible refine ord_q1 ?_) | (with_reducible refine ord_q0 ?_)); intro K hK; first | (refine Or.inr ⟨?_, ?_⟩; (focus (go_simp; first | done | (simp [undef]; done))); go_simp; (with_reducible refine hK _ ?_); clear hK K) | (refine Or.inl ⟨?_, ?_⟩; (focus (go_simp; done)); apply Exists.intro; refine And.intro ?_ ?_; (focus (first | (intro wq hq; obtain ⟨hcq, hfq⟩ := G.old hq; go_simp; (first | done | exact rfl); done) | (intro wq; go_simp; (first | done | exact rfl); done))); go_simp; (with_reducible refine hK _ ?_); clear hK K) | fail))
        (with_reducible refine ord_nil ?_)
        go_wp2_with fail
        go_ret
        exact RetE.mk hr.out.symm rfl (RetD.of_below H.out (G.trans hb24 hG.b))
  · replace hr := hr.out
    rw [hd, if_pos rfl] at hr
    replace hr := Lib.hid hr
    replace hd := Lib.hid hd
    go_wp2_with fail
    go_ret
    exact RetE.mk hr.out.symm rfl (RetD.of_below H.out hb2)
end
end Go.Proofs.Ytphjgembpcikdaa
