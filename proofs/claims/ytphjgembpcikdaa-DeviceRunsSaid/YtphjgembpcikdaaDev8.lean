/- device: Remove, Sync. -/
import Derived.Test.YtphjgembpcikdaaDev7
namespace Go.Proofs.Ytphjgembpcikdaa
set_option linter.unusedVariables false
set_option linter.unnecessarySimpa false
set_option linter.unusedSimpArgs false
open Go.RowKit

def removeD (s : Ds) (nm : List UInt8) : Int × Ds := if s.down = true then (31, s) else match lkC s.fs nm with
  | none => (8, s)
  | some _ => perfD s id fun s => { s with fs := delC s.fs nm }
def syncD (s : Ds) (nm : List UInt8) : Int × Ds := if s.down = true then (31, s) else match lkC s.fs nm with
  | none => (8, s)
  | some f => perfD s id fun s => { s with fs := updC s.fs nm { f with dur := f.data.length } }
theorem del_has {d mb : Nat} {fs : List FR} {n : List UInt8} : ∀ z, hasD d mb (delF fs n) z → hasD d mb fs z := fun z hz => by
  rcases hz with h | h | ⟨y, hy, hz⟩
  · exact .inl h
  · exact .inr (.inl h)
  · exact .inr (.inr ⟨y, (delF_mem.1 hy).1, hz⟩)
section
variable {w w' w1 : World} {d mb : Nat} {s s' : Ds} {fs : List FR} {r q x : FR} {S : Nat → Prop} {n : List UInt8}
set_option maxRecDepth 20000 in set_option maxHeartbeats 1000000 in
theorem remove1_any {B2 B3 : Nat} {nm : ByteArray} (hR : DevR w d mb s fs) (hS : ∀ z, S z ↔ hasD d mb fs z) (hb2 : Bx w B2 [.pointer (some ⟨d, 0, none⟩)]) (hb3 : Bx w B3 [.string nm]) (hm : nm.size ≤ maxLen) :
    Calls Try.prog 44 #[.pointer (some ⟨B2, 0, none⟩), .pointer (some ⟨B3, 0, none⟩)] w fun e w' => e = .returned (.tuple #[]) ∧ RetD d S { s with fs := delC s.fs nm.data.toList } w w' := by
  have k1 := (hR.box.2 1 _ rfl).1
  have lt := hR.box.lt
  have c2 := (hb2.2 0 _ rfl).1
  have c3 := (hb3.2 0 _ rfl).1
  have lt2 := hb2.lt
  have lt3 := hb3.lt
  have H := Lib.hid hR
  clear hR hb2 hb3
  go_enter Try.func44, Try.ntmps44
  go_wp2_with fail
  refine wp_region_ord [(0, 1), (1, 1), (2, 1), (3, 1), (4, 1), (5, 3)] [5] 5 (by kernel_rfl) (by decide +kernel) ?_
  simp only [pickO, List.append_eq, List.cons_append, List.nil_append, List.getElem?_cons_succ, List.getElem?_cons_zero]
  intro w0 hG
  (repeat ((first | (with_reducible refine ord_q1 ?_) | (with_reducible refine ord_q0 ?_)); intro K hK; first | (refine Or.inr ⟨?_, ?_⟩; (focus (go_simp; first | done | (simp [undef]; done))); go_simp; (with_reducible refine hK _ ?_); clear hK K) | (refine Or.inl ⟨?_, ?_⟩; (focus (go_simp; done)); apply Exists.intro; refine And.intro ?_ ?_; (focus (first | (intro wq hq; obtain ⟨hcq, hfq⟩ := G.old hq; go_simp; (first | done | exact rfl); done) | (intro wq; go_simp; (first | done | exact rfl); done))); go_simp; (with_reducible refine hK _ ?_); clear hK K) | fail))
  have hH := (H.out.grow hG.b)
  obtain ⟨w', hrun, hmm, ht⟩ := drop_fs hH.map Try.underlying9 Try.underlying67 hm 0
  have hfin : RetD d S { s with fs := delC s.fs nm.data.toList } w w' :=
    ⟨_, ⟨mb, _, hH.del ht hmm, fun z => Iff.rfl⟩, fun z hz => .inl ((hS _).2 (del_has z hz)), (DChg.of_below (S := S) hG.b).trans (DChg.turned (S := S) ht ((hS _).2 (.inr (.inl rfl)))) fun z hz => .inl hz⟩
  replace hfin := Lib.hid hfin
  clear hmm ht hH
  ((with_reducible refine ord_tail ?_); intro K hK; go_simp; (with_reducible refine hK _ _ ?_); clear hK K)
  (with_reducible refine ord_nil ?_)
  go_end0
  exact ⟨rfl, hfin.out⟩
set_option maxRecDepth 20000 in set_option maxHeartbeats 2000000 in
theorem remove_any (h : DevW w d S s) (nm : ByteArray) (hm : nm.size ≤ maxLen) : Calls Try.prog 22 #[.pointer (some ⟨d, 0, none⟩), .string nm] w (RetE d S (removeD s nm.data.toList) w) := by
  have H := Lib.hid h
  obtain ⟨R, hr⟩ : ∃ R, removeD s nm.data.toList = R := ⟨_, rfl⟩
  rw [hr]
  unfold removeD at hr
  replace hr := Lib.hid hr
  have EC := Lib.hid (fun c w => Try.call44 c w : ∀ c, Ent 44 c)
  go_enter Try.func22, Try.ntmps22
  go_wp2_with fail
  refine calls_name (fun wx => Below w.heap.size w wx ∧ Bx wx w.heap.size [.pointer (some ⟨d, 0, none⟩)] ∧ Bx wx (w.heap.size + 1) [.string nm]) ⟨by repeat (first | with_reducible assumption | with_reducible exact G.refl _ | with_reducible refine G.drew ?_ | with_reducible refine G.drewN ?_ _ | with_reducible refine G.alloc ?_ _ | with_reducible refine Below.setCell ?_ (by first | (simp; done) | (simp; omega)) _ | with_reducible refine G.trans ?_ hb12 | with_reducible refine G.trans ?_ hb11 | with_reducible refine G.trans ?_ hb10 | with_reducible refine G.trans ?_ hb9 | with_reducible refine G.trans ?_ hb8 | with_reducible refine G.trans ?_ hb7 | with_reducible refine G.trans ?_ hb6 | with_reducible refine G.trans ?_ hb5 | with_reducible refine G.trans ?_ hb4 | with_reducible refine G.trans ?_ hb3 | with_reducible refine G.trans ?_ hb2 | with_reducible refine G.trans ?_ hb1 | with_reducible refine G.trans ?_ hb | assumption), by repeat (first | with_reducible assumption | (with_reducible exact Bx.new (by simp; done) (by rfl)) | (with_reducible refine Bx.alloc ?_ _) | (with_reducible refine Bx.drewN ?_ _) | ((with_reducible apply Bx.put); rotate_right; (first | rfl | skip)) | (with_reducible refine Bx.other ?_ (by first | (simp; done) | (simp; omega)) _)), by repeat (first | with_reducible assumption | (with_reducible exact Bx.new (by simp; done) (by rfl)) | (with_reducible refine Bx.alloc ?_ _) | (with_reducible refine Bx.drewN ?_ _) | ((with_reducible apply Bx.put); rotate_right; (first | rfl | skip)) | (with_reducible refine Bx.other ?_ (by first | (simp; done) | (simp; omega)) _))⟩ ?_
  rintro w2 ⟨hb2, x2, x3⟩
  have H2 := Lib.hid (H.out.grow hb2)
  have hdl : Hid (d < w.heap.size) := by obtain ⟨_, _, hR, _⟩ := H.out; exact hR.box.lt
  refine (check_any H2.out).mono ?_
  rintro e w3 ⟨rfl, hw⟩
  subst hw
  have c2 := (x2.2 0 _ rfl).1
  have c3 := (x3.2 0 _ rfl).1
  have lt2 := x2.lt
  have lt3 := x3.lt
  unfold chkD
  rcases hd : s.down with _ | _
  · replace hr := hr.out
    rw [hd, if_neg (by simp)] at hr
    replace hd := Lib.hid hd
    obtain ⟨mb, fs, hR, hS⟩ := H2.out
    have k1 := (hR.box.2 1 _ rfl).1
    have lt := hR.box.lt
    have hlc : lkC s.fs nm.data.toList = (lk fs nm.data.toList).map FR.fl := by rw [hR.eq, lk_fl]
    rw [hlc] at hr
    have HR := Lib.hid hR
    have HS := Lib.hid hS
    replace x2 := Lib.hid x2
    replace x3 := Lib.hid x3
    have LK := fun (wx : World) (hb : Below w3.heap.size w3 wx) => look_fs (HR.out.grow hb).map Try.underlying9 Try.underlying67 (zeroP _) hm
    clear hR hS hlc
    rcases hl : lk fs nm.data.toList with _ | r
    · rw [hl] at hr LK
      rw [Option.map_none] at hr
      have hpv : ptrV none = .pointer none := rfl
      rw [hpv] at LK
      replace hl := Lib.hid hl
      replace hr := Lib.hid hr
      go_wp2_with fail
      refine wp_region_ord [(0, 1), (1, 1), (2, 1), (3, 1), (4, 1), (5, 1), (6, 1)] [] 5 (by kernel_rfl) (by decide +kernel) ?_
      simp only [pickO, List.append_eq, List.cons_append, List.nil_append, List.getElem?_cons_succ, List.getElem?_cons_zero]
      intro w0 hG
      (repeat ((first | (with_reducible refine ord_q1 ?_) | (with_reducible refine ord_q0 ?_)); intro K hK; first | (refine Or.inr ⟨?_, ?_⟩; (focus (go_simp; first | done | (simp [undef]; done))); go_simp; (with_reducible refine hK _ ?_); clear hK K) | (refine Or.inl ⟨?_, ?_⟩; (focus (go_simp; done)); apply Exists.intro; refine And.intro ?_ ?_; (focus (first | (intro wq hq; obtain ⟨hcq, hfq⟩ := G.old hq; go_simp; (first | done | exact rfl); done) | (intro wq; go_simp; (first | done | exact rfl); done))); go_simp; (with_reducible refine hK _ ?_); clear hK K) | fail))
      (with_reducible refine ord_q1 ?_); intro K hK; refine Or.inl ⟨?_, ?_⟩; (focus (go_simp; done)); apply Exists.intro; refine And.intro ?_ ?_; (focus (intro wq hq; obtain ⟨hcq, hfq⟩ := G.old hq; have hLKq := LK wq hq.b; go_simp; (first | done | exact rfl); done)); go_simp; (with_reducible refine hK _ ?_); clear hK K; (repeat ((first | (with_reducible refine ord_q1 ?_) | (with_reducible refine ord_q0 ?_)); intro K hK; first | (refine Or.inr ⟨?_, ?_⟩; (focus (go_simp; first | done | (simp [undef]; done))); go_simp; (with_reducible refine hK _ ?_); clear hK K) | (refine Or.inl ⟨?_, ?_⟩; (focus (go_simp; done)); apply Exists.intro; refine And.intro ?_ ?_; (focus (first | (intro wq hq; obtain ⟨hcq, hfq⟩ := G.old hq; go_simp; (first | done | exact rfl); done) | (intro wq; go_simp; (first | done | exact rfl); done))); go_simp; (with_reducible refine hK _ ?_); clear hK K) | fail))
      (with_reducible refine ord_nil ?_)
      go_wp2_with fail
      go_ret
      exact RetE.mk hr.out.symm rfl (RetD.of_below H.out (G.trans hb2 hG.b))
    · rw [hl] at hr LK
      have hpv : ptrV (some r) = .pointer (some ⟨r.fb, 0, none⟩) := rfl
      rw [hpv] at LK
      rw [Option.map_some] at hr
      replace hl := Lib.hid hl
      replace hr := Lib.hid hr
      go_wp2_with fail
      refine wp_region_ord [(0, 1), (1, 1), (2, 1), (3, 1), (4, 1), (5, 1), (6, 1)] [] 5 (by kernel_rfl) (by decide +kernel) ?_
      simp only [pickO, List.append_eq, List.cons_append, List.nil_append, List.getElem?_cons_succ, List.getElem?_cons_zero]
      intro w0 hG
      (repeat ((first | (with_reducible refine ord_q1 ?_) | (with_reducible refine ord_q0 ?_)); intro K hK; first | (refine Or.inr ⟨?_, ?_⟩; (focus (go_simp; first | done | (simp [undef]; done))); go_simp; (with_reducible refine hK _ ?_); clear hK K) | (refine Or.inl ⟨?_, ?_⟩; (focus (go_simp; done)); apply Exists.intro; refine And.intro ?_ ?_; (focus (first | (intro wq hq; obtain ⟨hcq, hfq⟩ := G.old hq; go_simp; (first | done | exact rfl); done) | (intro wq; go_simp; (first | done | exact rfl); done))); go_simp; (with_reducible refine hK _ ?_); clear hK K) | fail))
      (with_reducible refine ord_q1 ?_); intro K hK; refine Or.inl ⟨?_, ?_⟩; (focus (go_simp; done)); apply Exists.intro; refine And.intro ?_ ?_; (focus (intro wq hq; obtain ⟨hcq, hfq⟩ := G.old hq; have hLKq := LK wq hq.b; go_simp; (first | done | exact rfl); done)); go_simp; (with_reducible refine hK _ ?_); clear hK K; (repeat ((first | (with_reducible refine ord_q1 ?_) | (with_reducible refine ord_q0 ?_)); intro K hK; first | (refine Or.inr ⟨?_, ?_⟩; (focus (go_simp; first | done | (simp [undef]; done))); go_simp; (with_reducible refine hK _ ?_); clear hK K) | (refine Or.inl ⟨?_, ?_⟩; (focus (go_simp; done)); apply Exists.intro; refine And.intro ?_ ?_; (focus (first | (intro wq hq; obtain ⟨hcq, hfq⟩ := G.old hq; go_simp; (first | done | exact rfl); done) | (intro wq; go_simp; (first | done | exact rfl); done))); go_simp; (with_reducible refine hK _ ?_); clear hK K) | fail))
      (with_reducible refine ord_nil ?_)
      have hbg := hG.b
      have hb40 := G.trans hb2 hbg
      replace c2 := G.cell c2 hbg
      replace c3 := G.cell c3 hbg
      replace lt2 := cell_lt c2
      replace lt3 := cell_lt c3
      dsimp only at lt2 lt3
      have HR0 := Lib.hid (HR.out.grow hbg)
      have X2 := Lib.hid (x2.out.grow hbg)
      have X3 := Lib.hid (x3.out.grow hbg)
      clear LK hG
      go_wp2_with fail
      refine (perform_op (g := fun s => { s with fs := delC s.fs nm.data.toList }) HR0.out HS.out (EC.out _) (fun w1 hw1 hbx hsz => remove1_any hw1 HS.out (hbx _ _ X2.out (by have := hdl.out; omega)) (hbx _ _ X3.out (by have := hdl.out; omega)) hm)).mono ?_
      rintro e w5 ⟨rfl, hr5⟩
      go_wp2_with fail
      go_ret
      exact RetE.mk (by rw [← hr.out]) rfl (hr5.after (DChg.of_below hb40))
  · replace hr := hr.out
    rw [hd, if_pos rfl] at hr
    replace hr := Lib.hid hr
    replace hd := Lib.hid hd
    go_wp2_with fail
    go_ret
    exact RetE.mk hr.out.symm rfl (RetD.of_below H.out hb2)
set_option maxRecDepth 20000 in set_option maxHeartbeats 1000000 in
theorem sync1_any {B2 : Nat} {nm : List UInt8} (hR : DevR w d mb s fs) (hS : ∀ z, S z ↔ hasD d mb fs z) (hl : lk fs nm = some r) (hb2 : Bx w B2 [.pointer (some ⟨r.fb, 0, none⟩)]) :
    Calls Try.prog 45 #[.pointer (some ⟨B2, 0, none⟩)] w fun e w' => e = .returned (.tuple #[]) ∧ RetD d S { s with fs := updC s.fs nm { r.fl with dur := r.data.length } } w w' := by
  obtain ⟨hF, hrm, hrn⟩ := lk_rec hR hl
  have k0 := (hF.box.2 0 _ rfl).1
  have hv : r.val = .slice r.A r.data.length r.cap := rfl
  rw [hv] at k0
  have lt := hF.box.lt
  have c2 := (hb2.2 0 _ rfl).1
  have lt2 := hb2.lt
  have H := Lib.hid hR
  replace hl := Lib.hid hl
  clear hR hb2 hF hv
  go_enter Try.func45, Try.ntmps45
  go_wp2_with fail
  refine wp_region_ord [(0, 1), (1, 1), (2, 1), (3, 1), (4, 1), (5, 1), (6, 1), (7, 1), (8, 3)] [8] 5 (by kernel_rfl) (by decide +kernel) ?_
  simp only [pickO, List.append_eq, List.cons_append, List.nil_append, List.getElem?_cons_succ, List.getElem?_cons_zero]
  intro w0 hG
  (repeat ((first | (with_reducible refine ord_q1 ?_) | (with_reducible refine ord_q0 ?_)); intro K hK; first | (refine Or.inr ⟨?_, ?_⟩; (focus (go_simp; first | done | (simp [undef]; done))); go_simp; (with_reducible refine hK _ ?_); clear hK K) | (refine Or.inl ⟨?_, ?_⟩; (focus (go_simp; done)); apply Exists.intro; refine And.intro ?_ ?_; (focus (first | (intro wq hq; obtain ⟨hcq, hfq⟩ := G.old hq; go_simp; (first | done | exact rfl); done) | (intro wq; go_simp; (first | done | exact rfl); done))); go_simp; (with_reducible refine hK _ ?_); clear hK K) | fail))
  have hF0 := (H.out.grow hG.b).files r hrm
  have hfin : RetD d S { s with fs := updC s.fs nm { r.fl with dur := r.data.length } } w (w0.setCell ⟨r.fb, 1, none⟩ (.int .i64 r.data.length)) := by
    have h1 := RetD.file (x := { r with dur := r.data.length }) (H.out.grow hG.b) hS hl.out hrn rfl (w' := w0.setCell ⟨r.fb, 1, none⟩ (.int .i64 r.data.length)) ((DChg.refl _ _).setCell (.inl rfl) _ _) ⟨hF0.box.put rfl, own_blk hF0.row fun g hg => Below.heap_setCell _ _ _ g fun e => hF0.ne (by rw [← (show g = r.fb from e)]; exact hg), hF0.ne⟩ (fun y hy => .inl hy)
    exact h1.after (DChg.of_below hG.b)
  have f0 := (hF0.box.2 1 _ rfl).2
  obtain ⟨u1, g1⟩ := hF0.box.2 1 _ rfl
  replace hfin := Lib.hid hfin
  clear hF0
  ((with_reducible refine ord_tail ?_); intro K hK; go_simp; (with_reducible refine hK _ _ ?_); clear hK K)
  (with_reducible refine ord_nil ?_)
  go_end0
  exact ⟨rfl, hfin.out⟩
set_option maxRecDepth 20000 in set_option maxHeartbeats 2000000 in
theorem sync_any (h : DevW w d S s) (nm : ByteArray) (hm : nm.size ≤ maxLen) : Calls Try.prog 23 #[.pointer (some ⟨d, 0, none⟩), .string nm] w (RetE d S (syncD s nm.data.toList) w) := by
  have H := Lib.hid h
  obtain ⟨R, hr⟩ : ∃ R, syncD s nm.data.toList = R := ⟨_, rfl⟩
  rw [hr]
  unfold syncD at hr
  have EC := Lib.hid (fun c w => Try.call45 c w : ∀ c, Ent 45 c)
  have CK := Lib.hid (check_any h)
  unfold chkD at CK
  obtain ⟨mb, fs, hR, hS⟩ := h
  have k1 := (hR.box.2 1 _ rfl).1
  have lt := hR.box.lt
  have hlc : lkC s.fs nm.data.toList = (lk fs nm.data.toList).map FR.fl := by rw [hR.eq, lk_fl]
  rw [hlc] at hr
  have LK := look_fs hR.map Try.underlying9 Try.underlying67 (zeroP _) hm
  have HR := Lib.hid hR
  have HS := Lib.hid hS
  clear hR hS hlc
  rcases hd : s.down with _ | _
  · rw [hd, if_neg (by simp)] at hr
    rw [hd] at CK
    replace hd := Lib.hid hd
    rcases hl : lk fs nm.data.toList with _ | r
    · rw [hl] at hr LK
      rw [Option.map_none] at hr
      have hpv : ptrV none = .pointer none := rfl
      rw [hpv] at LK
      replace hl := Lib.hid hl
      replace hr := Lib.hid hr
      go_enter Try.func23, Try.ntmps23
      go_wp2_with fail
      refine CK.out.mono ?_
      rintro e w3 ⟨rfl, hw⟩
      subst hw
      go_wp2_with fail
      go_ret
      exact RetE.mk hr.out.symm rfl (RetD.of_below H.out (by repeat (first | with_reducible assumption | with_reducible exact G.refl _ | with_reducible refine G.drew ?_ | with_reducible refine G.drewN ?_ _ | with_reducible refine G.alloc ?_ _ | with_reducible refine Below.setCell ?_ (by first | (simp; done) | (simp; omega)) _ | with_reducible refine G.trans ?_ hb12 | with_reducible refine G.trans ?_ hb11 | with_reducible refine G.trans ?_ hb10 | with_reducible refine G.trans ?_ hb9 | with_reducible refine G.trans ?_ hb8 | with_reducible refine G.trans ?_ hb7 | with_reducible refine G.trans ?_ hb6 | with_reducible refine G.trans ?_ hb5 | with_reducible refine G.trans ?_ hb4 | with_reducible refine G.trans ?_ hb3 | with_reducible refine G.trans ?_ hb2 | with_reducible refine G.trans ?_ hb1 | with_reducible refine G.trans ?_ hb | assumption)))
    · rw [hl] at hr LK
      have hpv : ptrV (some r) = .pointer (some ⟨r.fb, 0, none⟩) := rfl
      rw [hpv] at LK
      rw [Option.map_some] at hr
      replace hl := Lib.hid hl
      replace hr := Lib.hid hr
      go_enter Try.func23, Try.ntmps23
      go_wp2_with fail
      refine CK.out.mono ?_
      rintro e w3 ⟨rfl, hw⟩
      subst hw
      go_wp2_with fail
      refine calls_name (fun wx => Below w3.heap.size w3 wx ∧ Bx wx w3.heap.size [.pointer (some ⟨r.fb, 0, none⟩)]) ⟨by repeat (first | with_reducible assumption | with_reducible exact G.refl _ | with_reducible refine G.drew ?_ | with_reducible refine G.drewN ?_ _ | with_reducible refine G.alloc ?_ _ | with_reducible refine Below.setCell ?_ (by first | (simp; done) | (simp; omega)) _ | with_reducible refine G.trans ?_ hb12 | with_reducible refine G.trans ?_ hb11 | with_reducible refine G.trans ?_ hb10 | with_reducible refine G.trans ?_ hb9 | with_reducible refine G.trans ?_ hb8 | with_reducible refine G.trans ?_ hb7 | with_reducible refine G.trans ?_ hb6 | with_reducible refine G.trans ?_ hb5 | with_reducible refine G.trans ?_ hb4 | with_reducible refine G.trans ?_ hb3 | with_reducible refine G.trans ?_ hb2 | with_reducible refine G.trans ?_ hb1 | with_reducible refine G.trans ?_ hb | assumption), by repeat (first | with_reducible assumption | (with_reducible exact Bx.new (by simp; done) (by rfl)) | (with_reducible refine Bx.alloc ?_ _) | (with_reducible refine Bx.drewN ?_ _) | ((with_reducible apply Bx.put); rotate_right; (first | rfl | skip)) | (with_reducible refine Bx.other ?_ (by first | (simp; done) | (simp; omega)) _))⟩ ?_
      rintro w4 ⟨hb4, x4⟩
      have HR0 := Lib.hid (HR.out.grow hb4)
      have X4 := Lib.hid x4
      have hne : w3.heap.size ≠ d := by have := HR.out.box.lt; omega
      clear LK x4
      refine (perform_op (g := fun s => { s with fs := updC s.fs nm.data.toList { r.fl with dur := r.data.length } }) HR0.out HS.out (EC.out _) (fun w1 hw1 hbx hsz => sync1_any hw1 HS.out hl.out (hbx _ _ X4.out hne))).mono ?_
      rintro e w5 ⟨rfl, hr5⟩
      go_wp2_with fail
      go_ret
      exact RetE.mk (by rw [← hr.out]; rfl) rfl (hr5.after (DChg.of_below hb4))
  · rw [hd, if_pos rfl] at hr
    rw [hd] at CK
    replace hr := Lib.hid hr
    replace hd := Lib.hid hd
    go_enter Try.func23, Try.ntmps23
    go_wp2_with fail
    refine CK.out.mono ?_
    rintro e w3 ⟨rfl, hw⟩
    subst hw
    go_wp2_with fail
    go_ret
    exact RetE.mk hr.out.symm rfl (RetD.of_below H.out (G.refl _))
end
end Go.Proofs.Ytphjgembpcikdaa
