/- device: Rename. -/
import Derived.Test.YtphjgembpcikdaaDevA
namespace Go.Proofs.Ytphjgembpcikdaa
set_option linter.unusedVariables false
set_option linter.unnecessarySimpa false
set_option linter.unusedSimpArgs false
open Go.RowKit

def renameD (s : Ds) (a b : List UInt8) : Int × Ds := if s.down = true then (31, s) else match lkC s.fs a with
  | none => (8, s)
  | some f => if okName b = false then (12, s) else perfD s id fun s => { s with fs := putFl (delC s.fs a) ⟨b, f.data, f.dur⟩ }
section
variable {w w' w1 : World} {d mb : Nat} {s s' : Ds} {fs : List FR} {r q x : FR} {S : Nat → Prop} {n : List UInt8}
set_option maxRecDepth 20000 in set_option maxHeartbeats 1000000 in
theorem rename1_any {B0 B1 B2 B3 : Nat} {a b : ByteArray} (hR : DevR w d mb s fs) (hS : ∀ z, S z ↔ hasD d mb fs z) (hl : lk fs a.data.toList = some r) (hb0 : Bx w B0 [.pointer (some ⟨d, 0, none⟩)]) (hb1 : Bx w B1 [.string a])
    (hb2 : Bx w B2 [.pointer (some ⟨r.fb, 0, none⟩)]) (hb3 : Bx w B3 [.string b]) (ha : a.size ≤ maxLen) (hb : b.size ≤ maxLen) (hn0 : B0 ≠ mb) (hn2 : B2 ≠ mb) (hn3 : B3 ≠ mb) (hcn : fs.length ≤ 4096) :
    Calls Try.prog 42 #[.pointer (some ⟨B0, 0, none⟩), .pointer (some ⟨B1, 0, none⟩), .pointer (some ⟨B2, 0, none⟩), .pointer (some ⟨B3, 0, none⟩)] w fun e w' => e = .returned (.tuple #[]) ∧ RetD d S { s with fs := putFl (delC s.fs a.data.toList) ⟨b.data.toList, r.data, r.dur⟩ } w w' := by
  obtain ⟨hF, hrm, hrn⟩ := lk_rec hR hl
  have k1 := (hR.box.2 1 _ rfl).1
  have lt := hR.box.lt
  have c0 := (hb0.2 0 _ rfl).1
  have c1 := (hb1.2 0 _ rfl).1
  have lt0 := hb0.lt
  have lt1 := hb1.lt
  have H := Lib.hid hR
  have X0 := Lib.hid hb0
  have X2 := Lib.hid hb2
  have X3 := Lib.hid hb3
  clear hR hb0 hb1 hb2 hb3 hF
  go_enter Try.func42, Try.ntmps42
  go_wp2_with fail
  refine wp_region_ord [(0, 1), (1, 1), (2, 1), (3, 1), (4, 1), (5, 3)] [5] 5 (by kernel_rfl) (by decide +kernel) ?_
  simp only [pickO, List.append_eq, List.cons_append, List.nil_append, List.getElem?_cons_succ, List.getElem?_cons_zero]
  intro w0 hG
  (repeat ((first | (with_reducible refine ord_q1 ?_) | (with_reducible refine ord_q0 ?_)); intro K hK; first | (refine Or.inr ⟨?_, ?_⟩; (focus (go_simp; first | done | (simp [undef]; done))); go_simp; (with_reducible refine hK _ ?_); clear hK K) | (refine Or.inl ⟨?_, ?_⟩; (focus (go_simp; done)); apply Exists.intro; refine And.intro ?_ ?_; (focus (first | (intro wq hq; obtain ⟨hcq, hfq⟩ := G.old hq; go_simp; (first | done | exact rfl); done) | (intro wq; go_simp; (first | done | exact rfl); done))); go_simp; (with_reducible refine hK _ ?_); clear hK K) | fail))
  have hH := (H.out.grow hG.b)
  obtain ⟨w5, hrun, hmm, ht⟩ := drop_fs hH.map Try.underlying9 Try.underlying67 ha 0
  have hD5 := hH.del ht hmm
  have hg := ht.grown
  have hkb : ∀ (B : Nat) (l : List Value), B ≠ mb → Bx w B l → Bx w5 B l := fun B l hne hx => (hx.grow hG.b).block hg.size (hg.block B (hx.grow hG.b).lt fun e => hne (by cases e; rfl))
  have y0 := hkb _ _ hn0 X0.out
  have y2 := hkb _ _ hn2 X2.out
  have y3 := hkb _ _ hn3 X3.out
  have hFr := hH.files r hrm
  have hF5 : FileAt w5 r := hFr.keep hg.size fun z hz => hg.block z (hFr.lt hz) fun e => (hH.out r hrm).2 (by cases e; exact hz)
  have hch5 : DChg S w w5 := (DChg.of_below (S := S) hG.b).trans (DChg.turned (S := S) ht ((hS _).2 (.inr (.inl rfl)))) fun z hz => .inl hz
  replace y0 := Lib.hid y0
  replace y2 := Lib.hid y2
  replace y3 := Lib.hid y3
  replace hF5 := Lib.hid hF5
  replace hD5 := Lib.hid hD5
  replace hch5 := Lib.hid hch5
  clear hmm hg hkb hFr hH
  ((with_reducible refine ord_tail ?_); intro K hK; go_simp; (with_reducible refine hK _ _ ?_); clear hK K)
  (with_reducible refine ord_nil ?_)
  clear hrun ht hG c0 c1 lt0 lt1 k1 lt
  have c0 := (y0.out.2 0 _ rfl).1
  have c2 := (y2.out.2 0 _ rfl).1
  have c3 := (y3.out.2 0 _ rfl).1
  have lt0 := y0.out.lt
  have lt2 := y2.out.lt
  have lt3 := y3.out.lt
  have k1 := (hD5.out.box.2 1 _ rfl).1
  have lt := hD5.out.box.lt
  go_wp2_with fail
  refine wp_region_ord [(0, 1), (1, 1), (2, 1), (3, 1), (4, 1), (5, 1), (6, 3)] [6] 5 (by kernel_rfl) (by decide +kernel) ?_
  simp only [pickO, List.append_eq, List.cons_append, List.nil_append, List.getElem?_cons_succ, List.getElem?_cons_zero]
  intro w0 hG
  (repeat ((first | (with_reducible refine ord_q1 ?_) | (with_reducible refine ord_q0 ?_)); intro K hK; first | (refine Or.inr ⟨?_, ?_⟩; (focus (go_simp; first | done | (simp [undef]; done))); go_simp; (with_reducible refine hK _ ?_); clear hK K) | (refine Or.inl ⟨?_, ?_⟩; (focus (go_simp; done)); apply Exists.intro; refine And.intro ?_ ?_; (focus (first | (intro wq hq; obtain ⟨hcq, hfq⟩ := G.old hq; go_simp; (first | done | exact rfl); done) | (intro wq; go_simp; (first | done | exact rfl); done))); go_simp; (with_reducible refine hK _ ?_); clear hK K) | fail))
  have hH := (hD5.out.grow hG.b)
  have hF0 := hF5.out.keep hG.b.size fun z hz => hG.b.block z (hF5.out.lt hz)
  have hFx : FileAt w0 (⟨b.data.toList, r.fb, r.A, r.cap, r.data, r.dur⟩ : FR) := ⟨hF0.box, hF0.row, hF0.ne⟩
  have hdl : (delF fs a.data.toList).length ≤ 4096 := Nat.le_trans (List.length_filter_le _ _) hcn
  obtain ⟨w6, hrun, hmm, ht⟩ := store_fs hH.map Try.underlying9 Try.underlying67 (by unfold maxLen; omega) (s := b) hb (⟨b.data.toList, r.fb, r.A, r.cap, r.data, r.dur⟩ : FR) rfl
  have hput := hH.put hFx (fun z hz hh => by
    have hz' : r.has z := hz
    rcases hh with rfl | rfl | ⟨y, hy, hyz⟩
    · exact (H.out.out r hrm).1 hz'
    · exact (H.out.out r hrm).2 hz'
    · obtain ⟨hy1, hy2⟩ := delF_mem.1 hy
      exact H.out.apartM hrm hy1 (by rw [hrn]; exact fun e => hy2 e.symm) z hz' hyz) ht hmm
  have hfin : RetD d S { s with fs := putFl (delC s.fs a.data.toList) ⟨b.data.toList, r.data, r.dur⟩ } w w6 := by
    refine ⟨_, ⟨mb, _, hput, fun z => Iff.rfl⟩, fun z hz => .inl ((hS z).2 ?_), (hch5.out.trans (DChg.of_below (S := S) hG.b) fun z hz => .inl hz).trans (DChg.turned (S := S) ht ((hS _).2 (.inr (.inl rfl)))) fun z hz => .inl hz⟩
    rcases hz with rfl | rfl | ⟨y, hy, hz⟩
    · exact .inl rfl
    · exact .inr (.inl rfl)
    · rcases putF_mem.1 hy with rfl | ⟨hy, _⟩
      · exact .inr (.inr ⟨r, hrm, hz⟩)
      · exact .inr (.inr ⟨y, (delF_mem.1 hy).1, hz⟩)
  replace hfin := Lib.hid hfin
  clear hput hFx hmm ht hH hF0
  ((with_reducible refine ord_tail ?_); intro K hK; go_simp; (with_reducible refine hK _ _ ?_); clear hK K)
  (with_reducible refine ord_nil ?_)
  go_end0
  exact ⟨rfl, hfin.out⟩
set_option maxRecDepth 20000 in set_option maxHeartbeats 2000000 in
theorem rename_any (h : DevW w d S s) (ho : s.Ok) (a b : ByteArray) (ha : a.size ≤ maxLen) (hb : b.size ≤ maxLen) : Calls Try.prog 19 #[.pointer (some ⟨d, 0, none⟩), .string a, .string b] w (RetE d S (renameD s a.data.toList b.data.toList) w) := by
  have H := Lib.hid h
  have hcn0 := ho.cnt
  obtain ⟨R, hr⟩ : ∃ R, renameD s a.data.toList b.data.toList = R := ⟨_, rfl⟩
  rw [hr]
  unfold renameD at hr
  have EC := Lib.hid (fun c w => Try.call42 c w : ∀ c, Ent 42 c)
  replace hr := Lib.hid hr
  go_enter Try.func19, Try.ntmps19
  go_wp2_with fail
  refine calls_name (fun wx => Below w.heap.size w wx ∧ Bx wx w.heap.size [.pointer (some ⟨d, 0, none⟩)] ∧ Bx wx (w.heap.size + 1) [.string a] ∧ Bx wx (w.heap.size + 1 + 1) [.string b]) ⟨by repeat (first | with_reducible assumption | with_reducible exact G.refl _ | with_reducible refine G.drew ?_ | with_reducible refine G.drewN ?_ _ | with_reducible refine G.alloc ?_ _ | with_reducible refine Below.setCell ?_ (by first | (simp; done) | (simp; omega)) _ | with_reducible refine G.trans ?_ hb12 | with_reducible refine G.trans ?_ hb11 | with_reducible refine G.trans ?_ hb10 | with_reducible refine G.trans ?_ hb9 | with_reducible refine G.trans ?_ hb8 | with_reducible refine G.trans ?_ hb7 | with_reducible refine G.trans ?_ hb6 | with_reducible refine G.trans ?_ hb5 | with_reducible refine G.trans ?_ hb4 | with_reducible refine G.trans ?_ hb3 | with_reducible refine G.trans ?_ hb2 | with_reducible refine G.trans ?_ hb1 | with_reducible refine G.trans ?_ hb | assumption), by repeat (first | with_reducible assumption | (with_reducible exact Bx.new (by simp; done) (by rfl)) | (with_reducible refine Bx.alloc ?_ _) | (with_reducible refine Bx.drewN ?_ _) | ((with_reducible apply Bx.put); rotate_right; (first | rfl | skip)) | (with_reducible refine Bx.other ?_ (by first | (simp; done) | (simp; omega)) _)), by repeat (first | with_reducible assumption | (with_reducible exact Bx.new (by simp; done) (by rfl)) | (with_reducible refine Bx.alloc ?_ _) | (with_reducible refine Bx.drewN ?_ _) | ((with_reducible apply Bx.put); rotate_right; (first | rfl | skip)) | (with_reducible refine Bx.other ?_ (by first | (simp; done) | (simp; omega)) _)), by repeat (first | with_reducible assumption | (with_reducible exact Bx.new (by simp; done) (by rfl)) | (with_reducible refine Bx.alloc ?_ _) | (with_reducible refine Bx.drewN ?_ _) | ((with_reducible apply Bx.put); rotate_right; (first | rfl | skip)) | (with_reducible refine Bx.other ?_ (by first | (simp; done) | (simp; omega)) _))⟩ ?_
  rintro w2 ⟨hb2, x0, x1, x3⟩
  have H2 := Lib.hid (H.out.grow hb2)
  refine (check_any H2.out).mono ?_
  rintro e w3 ⟨rfl, hw⟩
  subst hw
  have c0 := (x0.2 0 _ rfl).1
  have c1 := (x1.2 0 _ rfl).1
  have c3 := (x3.2 0 _ rfl).1
  have lt0 := x0.lt
  have lt1 := x1.lt
  have lt3 := x3.lt
  unfold chkD
  rcases hd : s.down with _ | _
  · replace hr := hr.out
    rw [hd, if_neg (by simp)] at hr
    replace hd := Lib.hid hd
    obtain ⟨mb, fs, hR, hS⟩ := H2.out
    have k1 := (hR.box.2 1 _ rfl).1
    have lt := hR.box.lt
    have hlc : lkC s.fs a.data.toList = (lk fs a.data.toList).map FR.fl := by rw [hR.eq, lk_fl]
    have hcn : fs.length ≤ 4096 := by have := hR.eq; rw [this, List.length_map] at hcn0; exact hcn0
    rw [hlc] at hr
    have HR := Lib.hid hR
    have HS := Lib.hid hS
    have hSlt : Hid (∀ z, S z → z < w.heap.size) := fun z hz => H.out.lt hz
    have LK := fun (wx : World) (hb : Below w3.heap.size w3 wx) => look_fs (HR.out.grow hb).map Try.underlying9 Try.underlying67 (zeroP _) ha
    replace x0 := Lib.hid x0
    replace x1 := Lib.hid x1
    replace x3 := Lib.hid x3
    clear hR hS hlc
    rcases hl : lk fs a.data.toList with _ | r
    · rw [hl] at hr LK
      rw [Option.map_none] at hr
      have hpv : ptrV none = .pointer none := rfl
      rw [hpv] at LK
      replace hl := Lib.hid hl
      replace hr := Lib.hid hr
      go_wp2_with fail
      refine wp_region_ord [(0, 1), (1, 1), (2, 1), (3, 1), (4, 1), (5, 1), (6, 2), (7, 3)] [7] 5 (by kernel_rfl) (by decide +kernel) ?_
      simp only [pickO, List.append_eq, List.cons_append, List.nil_append, List.getElem?_cons_succ, List.getElem?_cons_zero]
      intro w0 hG
      (repeat ((first | (with_reducible refine ord_q1 ?_) | (with_reducible refine ord_q0 ?_)); intro K hK; first | (refine Or.inr ⟨?_, ?_⟩; (focus (go_simp; first | done | (simp [undef]; done))); go_simp; (with_reducible refine hK _ ?_); clear hK K) | (refine Or.inl ⟨?_, ?_⟩; (focus (go_simp; done)); apply Exists.intro; refine And.intro ?_ ?_; (focus (first | (intro wq hq; obtain ⟨hcq, hfq⟩ := G.old hq; go_simp; (first | done | exact rfl); done) | (intro wq; go_simp; (first | done | exact rfl); done))); go_simp; (with_reducible refine hK _ ?_); clear hK K) | fail))
      (with_reducible refine ord_q1 ?_); intro K hK; refine Or.inl ⟨?_, ?_⟩; (focus (go_simp; done)); apply Exists.intro; refine And.intro ?_ ?_; (focus (intro wq hq; obtain ⟨hcq, hfq⟩ := G.old hq; have hLKq := LK wq hq.b; go_simp; (first | done | exact rfl); done)); go_simp; (with_reducible refine hK _ ?_); clear hK K; (repeat ((first | (with_reducible refine ord_q1 ?_) | (with_reducible refine ord_q0 ?_)); intro K hK; first | (refine Or.inr ⟨?_, ?_⟩; (focus (go_simp; first | done | (simp [undef]; done))); go_simp; (with_reducible refine hK _ ?_); clear hK K) | (refine Or.inl ⟨?_, ?_⟩; (focus (go_simp; done)); apply Exists.intro; refine And.intro ?_ ?_; (focus (first | (intro wq hq; obtain ⟨hcq, hfq⟩ := G.old hq; go_simp; (first | done | exact rfl); done) | (intro wq; go_simp; (first | done | exact rfl); done))); go_simp; (with_reducible refine hK _ ?_); clear hK K) | fail))
      have hsz0 := hG.b.size
      have hb30 := hG.b
      (with_reducible refine ord_run ?_ hG)
      intro K hK
      go_simp
      replace hG := Grew.alloc hG (.cells #[.pointer none] 71)
      (with_reducible refine hK _ _ hG ?_)
      clear hK K
      (repeat ((first | (with_reducible refine ord_q1 ?_) | (with_reducible refine ord_q0 ?_)); intro K hK; first | (refine Or.inr ⟨?_, ?_⟩; (focus (go_simp; first | done | (simp [undef]; done))); go_simp; (with_reducible refine hK _ ?_); clear hK K) | (refine Or.inl ⟨?_, ?_⟩; (focus (go_simp; done)); apply Exists.intro; refine And.intro ?_ ?_; (focus (first | (intro wq hq; obtain ⟨hcq, hfq⟩ := G.old hq; go_simp; (first | done | exact rfl); done) | (intro wq; go_simp; (first | done | exact rfl); done))); go_simp; (with_reducible refine hK _ ?_); clear hK K) | fail))
      ((with_reducible refine ord_tail ?_); intro K hK; go_simp; (with_reducible refine hK _ _ ?_); clear hK K)
      (with_reducible refine ord_nil ?_)
      have hb3W : Below w3.heap.size w3 ((w0.alloc (.cells #[.pointer none] 71)).setCell ⟨w0.heap.size, 0, none⟩ (.pointer none)) := by repeat (first | with_reducible assumption | with_reducible exact G.refl _ | with_reducible refine G.drew ?_ | with_reducible refine G.drewN ?_ _ | with_reducible refine G.alloc ?_ _ | with_reducible refine Below.setCell ?_ (by first | (simp; done) | (simp; omega)) _ | with_reducible refine G.trans ?_ hb12 | with_reducible refine G.trans ?_ hb11 | with_reducible refine G.trans ?_ hb10 | with_reducible refine G.trans ?_ hb9 | with_reducible refine G.trans ?_ hb8 | with_reducible refine G.trans ?_ hb7 | with_reducible refine G.trans ?_ hb6 | with_reducible refine G.trans ?_ hb5 | with_reducible refine G.trans ?_ hb4 | with_reducible refine G.trans ?_ hb3 | with_reducible refine G.trans ?_ hb2 | with_reducible refine G.trans ?_ hb1 | with_reducible refine G.trans ?_ hb | assumption)
      go_wp2_with fail
      go_ret
      exact RetE.mk hr.out.symm rfl (RetD.of_below H.out (G.trans hb2 (by repeat (first | with_reducible assumption | with_reducible exact G.refl _ | with_reducible refine G.drew ?_ | with_reducible refine G.drewN ?_ _ | with_reducible refine G.alloc ?_ _ | with_reducible refine Below.setCell ?_ (by first | (simp; done) | (simp; omega)) _ | with_reducible refine G.trans ?_ hb12 | with_reducible refine G.trans ?_ hb11 | with_reducible refine G.trans ?_ hb10 | with_reducible refine G.trans ?_ hb9 | with_reducible refine G.trans ?_ hb8 | with_reducible refine G.trans ?_ hb7 | with_reducible refine G.trans ?_ hb6 | with_reducible refine G.trans ?_ hb5 | with_reducible refine G.trans ?_ hb4 | with_reducible refine G.trans ?_ hb3 | with_reducible refine G.trans ?_ hb2 | with_reducible refine G.trans ?_ hb1 | with_reducible refine G.trans ?_ hb | assumption))))
    · rw [hl] at hr LK
      have hpv : ptrV (some r) = .pointer (some ⟨r.fb, 0, none⟩) := rfl
      rw [hpv] at LK
      rw [Option.map_some] at hr
      replace hl := Lib.hid hl
      dsimp only at hr
      replace hr := Lib.hid hr
      go_wp2_with fail
      refine wp_region_ord [(0, 1), (1, 1), (2, 1), (3, 1), (4, 1), (5, 1), (6, 2), (7, 3)] [7] 5 (by kernel_rfl) (by decide +kernel) ?_
      simp only [pickO, List.append_eq, List.cons_append, List.nil_append, List.getElem?_cons_succ, List.getElem?_cons_zero]
      intro w0 hG
      (repeat ((first | (with_reducible refine ord_q1 ?_) | (with_reducible refine ord_q0 ?_)); intro K hK; first | (refine Or.inr ⟨?_, ?_⟩; (focus (go_simp; first | done | (simp [undef]; done))); go_simp; (with_reducible refine hK _ ?_); clear hK K) | (refine Or.inl ⟨?_, ?_⟩; (focus (go_simp; done)); apply Exists.intro; refine And.intro ?_ ?_; (focus (first | (intro wq hq; obtain ⟨hcq, hfq⟩ := G.old hq; go_simp; (first | done | exact rfl); done) | (intro wq; go_simp; (first | done | exact rfl); done))); go_simp; (with_reducible refine hK _ ?_); clear hK K) | fail))
      (with_reducible refine ord_q1 ?_); intro K hK; refine Or.inl ⟨?_, ?_⟩; (focus (go_simp; done)); apply Exists.intro; refine And.intro ?_ ?_; (focus (intro wq hq; obtain ⟨hcq, hfq⟩ := G.old hq; have hLKq := LK wq hq.b; go_simp; (first | done | exact rfl); done)); go_simp; (with_reducible refine hK _ ?_); clear hK K; (repeat ((first | (with_reducible refine ord_q1 ?_) | (with_reducible refine ord_q0 ?_)); intro K hK; first | (refine Or.inr ⟨?_, ?_⟩; (focus (go_simp; first | done | (simp [undef]; done))); go_simp; (with_reducible refine hK _ ?_); clear hK K) | (refine Or.inl ⟨?_, ?_⟩; (focus (go_simp; done)); apply Exists.intro; refine And.intro ?_ ?_; (focus (first | (intro wq hq; obtain ⟨hcq, hfq⟩ := G.old hq; go_simp; (first | done | exact rfl); done) | (intro wq; go_simp; (first | done | exact rfl); done))); go_simp; (with_reducible refine hK _ ?_); clear hK K) | fail))
      have hsz0 := hG.b.size
      have hb30 := hG.b
      (with_reducible refine ord_run ?_ hG)
      intro K hK
      go_simp
      replace hG := Grew.alloc hG (.cells #[.pointer none] 71)
      (with_reducible refine hK _ _ hG ?_)
      clear hK K
      (repeat ((first | (with_reducible refine ord_q1 ?_) | (with_reducible refine ord_q0 ?_)); intro K hK; first | (refine Or.inr ⟨?_, ?_⟩; (focus (go_simp; first | done | (simp [undef]; done))); go_simp; (with_reducible refine hK _ ?_); clear hK K) | (refine Or.inl ⟨?_, ?_⟩; (focus (go_simp; done)); apply Exists.intro; refine And.intro ?_ ?_; (focus (first | (intro wq hq; obtain ⟨hcq, hfq⟩ := G.old hq; go_simp; (first | done | exact rfl); done) | (intro wq; go_simp; (first | done | exact rfl); done))); go_simp; (with_reducible refine hK _ ?_); clear hK K) | fail))
      ((with_reducible refine ord_tail ?_); intro K hK; go_simp; (with_reducible refine hK _ _ ?_); clear hK K)
      (with_reducible refine ord_nil ?_)
      have hb3W : Below w3.heap.size w3 (w0.alloc (.cells #[.pointer (some ⟨r.fb, 0, none⟩)] 71)) := by repeat (first | with_reducible assumption | with_reducible exact G.refl _ | with_reducible refine G.drew ?_ | with_reducible refine G.drewN ?_ _ | with_reducible refine G.alloc ?_ _ | with_reducible refine Below.setCell ?_ (by first | (simp; done) | (simp; omega)) _ | with_reducible refine G.trans ?_ hb12 | with_reducible refine G.trans ?_ hb11 | with_reducible refine G.trans ?_ hb10 | with_reducible refine G.trans ?_ hb9 | with_reducible refine G.trans ?_ hb8 | with_reducible refine G.trans ?_ hb7 | with_reducible refine G.trans ?_ hb6 | with_reducible refine G.trans ?_ hb5 | with_reducible refine G.trans ?_ hb4 | with_reducible refine G.trans ?_ hb3 | with_reducible refine G.trans ?_ hb2 | with_reducible refine G.trans ?_ hb1 | with_reducible refine G.trans ?_ hb | assumption)
      have x6 : Bx (w0.alloc (.cells #[.pointer (some ⟨r.fb, 0, none⟩)] 71)) w0.heap.size [.pointer (some ⟨r.fb, 0, none⟩)] := Bx.new rfl rfl
      clear hG LK
      generalize (w0.alloc (.cells #[.pointer (some ⟨r.fb, 0, none⟩)] 71)) = w6 at hb3W x6 ⊢
      have hb26 := G.trans hb2 hb3W
      replace c0 := G.cell c0 hb3W
      replace c3 := G.cell c3 hb3W
      replace lt0 := cell_lt c0
      replace lt3 := cell_lt c3
      dsimp only at lt0 lt3
      have c6 := (x6.2 0 _ rfl).1
      have lt6 := x6.lt
      have X6 := Lib.hid x6
      clear hb30 x6
      go_wp2_with fail
      refine (named_any _ b).mono ?_
      rintro e w7 ⟨rfl, hb7⟩
      have hb37 := G.trans hb3W hb7
      replace c0 := G.cell c0 hb7
      replace lt0 := cell_lt c0
      dsimp only at lt0
      rcases hok : okName b.data.toList with _ | _
      · replace hr := hr.out
        rw [if_pos hok] at hr
        replace hr := Lib.hid hr
        replace hok := Lib.hid hok
        go_wp2_with fail
        go_ret
        exact RetE.mk hr.out.symm rfl (RetD.of_below H.out (G.trans hb2 hb37))
      · replace hr := hr.out
        rw [hok, if_neg (by simp)] at hr
        replace hr := Lib.hid hr
        replace hok := Lib.hid hok
        have HR0 := Lib.hid (HR.out.grow hb37)
        have Y0 := Lib.hid (x0.out.grow hb37)
        have Y1 := Lib.hid (x1.out.grow hb37)
        have Y3 := Lib.hid (x3.out.grow hb37)
        have Y6 := Lib.hid (X6.out.grow hb7)
        have hdl := hSlt.out d ((HS.out d).2 (.inl rfl))
        have hml := hSlt.out mb ((HS.out mb).2 (.inr (.inl rfl)))
        have hrb := Lib.hid (lk_some hl.out).2
        clear lt3 lt6 hb26
        go_wp2_with fail
        refine (perform_op (g := fun s => { s with fs := putFl (delC s.fs a.data.toList) ⟨b.data.toList, r.data, r.dur⟩ }) HR0.out HS.out (EC.out _) (fun w1 hw1 hbx hsz => rename1_any hw1 HS.out hl.out (hbx _ _ Y0.out (by omega)) (hbx _ _ Y1.out (by omega)) (hbx _ _ Y6.out (by omega)) (hbx _ _ Y3.out (by omega)) ha hb (by omega) (by omega) (by omega) hcn)).mono ?_
        rintro e w8 ⟨rfl, hr8⟩
        go_wp2_with fail
        go_ret
        exact RetE.mk (by rw [← hr.out]; rfl) rfl (hr8.after (DChg.of_below (G.trans hb2 hb37)))
  · replace hr := hr.out
    rw [hd, if_pos rfl] at hr
    replace hr := Lib.hid hr
    replace hd := Lib.hid hd
    go_wp2_with fail
    go_ret
    exact RetE.mk hr.out.symm rfl (RetD.of_below H.out hb2)
end
end Go.Proofs.Ytphjgembpcikdaa
