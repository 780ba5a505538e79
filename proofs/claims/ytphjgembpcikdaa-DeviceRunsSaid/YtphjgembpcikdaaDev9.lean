/- device: Truncate, Append. -/
import Derived.Test.YtphjgembpcikdaaDev8
import Derived.Test.YtphjgembpcikdaaAppS
namespace Go.Proofs.Ytphjgembpcikdaa
set_option linter.unusedVariables false
set_option linter.unnecessarySimpa false
set_option linter.unusedSimpArgs false
open Go.RowKit

def truncD (s : Ds) (nm : List UInt8) (sz : Int) : Int × Ds := if s.down = true then (31, s) else match lkC s.fs nm with
  | none => (8, s)
  | some f => if sz < 0 ∨ (f.data.length : Int) < sz then (2, s) else perfD s id fun s => { s with fs := updC s.fs nm ⟨f.name, f.data.take sz.toNat, min f.dur sz.toNat⟩ }
def appendC (s : Ds) (nm : List UInt8) (f : Fl) (l : List UInt8) : Ds := { s with fs := updC s.fs nm ⟨f.name, f.data ++ l, f.dur⟩ }
def appendD (s : Ds) (nm l : List UInt8) : Int × Ds := if s.down = true then (31, s) else match lkC s.fs nm with
  | none => (8, s)
  | some f => if 16777216 < f.data.length + l.length then (5, s) else if freeD s < (l.length : Int) then (32, s) else perfD s (fun s => appendC s nm f l) id
theorem own_take {w : World} {base : Nat} {e : TypeId} {A : Option Addr} {n c k : Nat} {xs : List Value} (h : w.ownsRow base e 1 (.slice A n c) n xs) (hk : k ≤ n) : w.ownsRow base e 1 (.slice A k c) k (xs.take k) := by
  have hl := h.1
  refine ⟨by rw [List.length_take]; omega, ?_⟩
  rcases h.2 with ⟨h0, h1⟩ | ⟨g, cap, cur, hv, hg, hh, hnc, hcm, hcs, ht⟩
  · subst h1
    have : k = 0 := by omega
    subst this
    cases h0
    exact .inl ⟨rfl, rfl⟩
  · cases hv
    refine .inr ⟨g, c, cur, rfl, hg, hh, by omega, hcm, hcs, ?_⟩
    rw [← ht, List.take_take]
    congr 1
    omega
theorem own_A (A : Option Addr) (n c m e : Nat) : (Value.slice A n c).ownBlock = (Value.slice A m e).ownBlock := by cases A <;> rfl
section
variable {w w' w1 : World} {d mb : Nat} {s s' : Ds} {fs : List FR} {r q x : FR} {S : Nat → Prop} {n : List UInt8}
/-- A file's struct is written; its bytes' row is as it was. -/
theorem RetD.box (h : DevR w d mb s fs) (hS : ∀ z, S z ↔ hasD d mb fs z) (hl : lk fs n = some r) (hn : x.name = n) (hb : x.fb = r.fb) (hc : DChg (fun z => z = r.fb) w w') (hx : Bx w' r.fb [x.val, .int .i64 x.dur])
    (hrow : w.ownsRow 0 5 1 x.val x.data.length (u8s x.data)) (hob : ∀ y, x.val.ownBlock = some y → r.val.ownBlock = some y) : RetD d S { s with fs := updC s.fs n x.fl } w w' := by
  obtain ⟨hF, hrm, hrn⟩ := lk_rec h hl
  have hne : ∀ y, x.val.ownBlock = some y → y ≠ r.fb := fun y hy e => hF.ne (by rw [← e]; exact hob y hy)
  refine RetD.file h hS hl hn hb (hc.mono fun z hz => .inl hz) ⟨by rw [hb]; exact hx, own_blk hrow fun g hg => hc.2.2 g (hne g hg) (hrow.lt g hg).2, fun e => ?_⟩ (fun y hy => .inl (hob y hy))
  rw [hb] at e
  exact hne _ e rfl
set_option maxRecDepth 20000 in set_option maxHeartbeats 1000000 in
theorem trunc1_any {B2 B3 k : Nat} {nm : List UInt8} (hR : DevR w d mb s fs) (hS : ∀ z, S z ↔ hasD d mb fs z) (hl : lk fs nm = some r) (hb2 : Bx w B2 [.pointer (some ⟨r.fb, 0, none⟩)]) (hb3 : Bx w B3 [.int .i64 k]) (hk : k ≤ r.data.length) (hd : r.dur ≤ r.data.length)
    (h2 : B2 ≠ r.fb) (h3 : B3 ≠ r.fb) :
    Calls Try.prog 58 #[.pointer (some ⟨B2, 0, none⟩), .pointer (some ⟨B3, 0, none⟩)] w fun e w' => e = .returned (.tuple #[]) ∧ RetD d S { s with fs := updC s.fs nm ⟨r.name, r.data.take k, min r.dur k⟩ } w w' := by
  obtain ⟨hF, hrm, hrn⟩ := lk_rec hR hl
  have k0 := (hF.box.2 0 _ rfl).1
  have hv : r.val = .slice r.A r.data.length r.cap := rfl
  rw [hv] at k0
  have hcap := own_cap hF.row
  have lt := hF.box.lt
  have c2 := (hb2.2 0 _ rfl).1
  have c3 := (hb3.2 0 _ rfl).1
  have lt2 := hb2.lt
  have lt3 := hb3.lt
  obtain ⟨hc1, hc2⟩ := hcap
  unfold maxLen at hc2
  have hk1 : (k : Int) ≤ (r.cap : Int) := by omega
  have hk2 : (0 : Int) ≤ (k : Int) := by omega
  have hk3 : k ≤ r.cap := by omega
  have HF := Lib.hid hF
  have H := Lib.hid hR
  replace hl := Lib.hid hl
  have X2 := Lib.hid hb2
  have X3 := Lib.hid hb3
  clear hR hb2 hb3 hF hv
  go_enter Try.func58, Try.ntmps58
  go_wp2_with fail
  refine wp_region_ord [(0, 1), (1, 1), (2, 1), (3, 1), (4, 1), (5, 1), (6, 1), (7, 1), (8, 1), (9, 3)] [9] 5 (by kernel_rfl) (by decide +kernel) ?_
  simp only [pickO, List.append_eq, List.cons_append, List.nil_append, List.getElem?_cons_succ, List.getElem?_cons_zero]
  intro w0 hG
  (repeat ((first | (with_reducible refine ord_q1 ?_) | (with_reducible refine ord_q0 ?_)); intro K hK; first | (refine Or.inr ⟨?_, ?_⟩; (focus (go_simp; first | done | (simp [undef]; done))); go_simp; (with_reducible refine hK _ ?_); clear hK K) | (refine Or.inl ⟨?_, ?_⟩; (focus (go_simp; done)); apply Exists.intro; refine And.intro ?_ ?_; (focus (first | (intro wq hq; obtain ⟨hcq, hfq⟩ := G.old hq; go_simp; (first | done | exact rfl); done) | (intro wq; go_simp; (first | done | exact rfl); done))); go_simp; (with_reducible refine hK _ ?_); clear hK K) | fail))
  have hF0 := HF.out.box.grow hG.b
  obtain ⟨u0, g0⟩ := hF0.2 0 _ rfl
  ((with_reducible refine ord_tail ?_); intro K hK; go_simp; (with_reducible refine hK _ _ ?_); clear hK K)
  (with_reducible refine ord_nil ?_)
  have x1 := hF0.put (i := 0) (v := .slice r.A k r.cap) (l' := [.slice r.A k r.cap, .int .i64 r.dur]) rfl
  have y2 := (X2.out.grow hG.b).other (p := ⟨r.fb, 0, none⟩) h2 (.slice r.A k r.cap)
  have y3 := (X3.out.grow hG.b).other (p := ⟨r.fb, 0, none⟩) h3 (.slice r.A k r.cap)
  have hch : DChg (fun z => z = r.fb) w (w0.setCell ⟨r.fb, 0, none⟩ (.slice r.A k r.cap)) := DChg.setCell (S := fun z => z = r.fb) (DChg.of_below hG.b) (b := r.fb) rfl _ _
  generalize (w0.setCell ⟨r.fb, 0, none⟩ (.slice r.A k r.cap)) = wx at x1 y2 y3 hch ⊢
  clear hF0 u0 g0 hG k0 c2 c3 lt lt2 lt3
  have k1 := (x1.2 1 _ rfl).1
  have lt := x1.lt
  have c2 := (y2.2 0 _ rfl).1
  have c3 := (y3.2 0 _ rfl).1
  have lt2 := y2.lt
  have lt3 := y3.lt
  have fin : Hid (∀ (wy : World) (m : Nat), m = min r.dur k → Bx wy r.fb [.slice r.A k r.cap, .int .i64 m] → DChg (fun z => z = r.fb) w wy → RetD d S { s with fs := updC s.fs nm ⟨r.name, r.data.take k, min r.dur k⟩ } w wy) := fun wy m hm hx hc => by
    subst hm
    have hl0 : (r.data.take k).length = k := by rw [List.length_take]; omega
    have hv : (⟨r.name, r.fb, r.A, r.cap, r.data.take k, min r.dur k⟩ : FR).val = .slice r.A k r.cap := by show Value.slice r.A (r.data.take k).length r.cap = _; rw [hl0]
    refine RetD.box (x := ⟨r.name, r.fb, r.A, r.cap, r.data.take k, min r.dur k⟩) H.out hS hl.out hrn rfl hc (by rw [hv]; exact hx) ?_ (fun y hy => by rw [hv] at hy; rw [← hy]; exact own_A _ _ _ _ _)
    rw [hv, show (⟨r.name, r.fb, r.A, r.cap, r.data.take k, min r.dur k⟩ : FR).data.length = k from hl0]
    have h5 := own_take HF.out.row hk
    rw [show u8s (r.data.take k) = (u8s r.data).take k from List.map_take]
    exact h5
  replace x1 := Lib.hid x1
  replace y2 := Lib.hid y2
  replace y3 := Lib.hid y3
  by_cases hkd : k < r.dur
  · have hkd' : (k : Int) < (r.dur : Int) := by omega
    have hmin : min r.dur k = k := by omega
    go_wp2_with fail
    refine wp_region_ord [(0, 1), (1, 1), (2, 1), (3, 1), (4, 1), (5, 1), (6, 1), (7, 1), (8, 1), (9, 3)] [9] 5 (by kernel_rfl) (by decide +kernel) ?_
    simp only [pickO, List.append_eq, List.cons_append, List.nil_append, List.getElem?_cons_succ, List.getElem?_cons_zero]
    intro w0 hG
    (repeat ((first | (with_reducible refine ord_q1 ?_) | (with_reducible refine ord_q0 ?_)); intro K hK; first | (refine Or.inr ⟨?_, ?_⟩; (focus (go_simp; first | done | (simp [undef]; done))); go_simp; (with_reducible refine hK _ ?_); clear hK K) | (refine Or.inl ⟨?_, ?_⟩; (focus (go_simp; done)); apply Exists.intro; refine And.intro ?_ ?_; (focus (first | (intro wq hq; obtain ⟨hcq, hfq⟩ := G.old hq; go_simp; (first | done | exact rfl); done) | (intro wq; go_simp; (first | done | exact rfl); done))); go_simp; (with_reducible refine hK _ ?_); clear hK K) | fail))
    have hF0 := x1.out.grow hG.b
    obtain ⟨u0, g0⟩ := hF0.2 1 _ rfl
    have fin2 := fin.out _ k hmin.symm (hF0.put (i := 1) (v := .int .i64 k) rfl) (DChg.setCell (S := fun z => z = r.fb) (hch.trans (DChg.of_below (S := fun z => z = r.fb) hG.b) fun z hz => .inl hz) (b := r.fb) rfl _ _)
    ((with_reducible refine ord_tail ?_); intro K hK; go_simp; (with_reducible refine hK _ _ ?_); clear hK K)
    (with_reducible refine ord_nil ?_)
    go_end0
    exact ⟨rfl, fin2⟩
  · have hkd' : ¬ (k : Int) < (r.dur : Int) := by omega
    have hmin : min r.dur k = r.dur := by omega
    go_wp2_with fail
    refine wp_region_ord [(0, 1), (1, 1), (2, 1), (3, 1), (4, 1), (5, 1), (6, 1), (7, 1), (8, 1), (9, 3)] [9] 5 (by kernel_rfl) (by decide +kernel) ?_
    simp only [pickO, List.append_eq, List.cons_append, List.nil_append, List.getElem?_cons_succ, List.getElem?_cons_zero]
    intro w0 hG
    (repeat ((first | (with_reducible refine ord_q1 ?_) | (with_reducible refine ord_q0 ?_)); intro K hK; first | (refine Or.inr ⟨?_, ?_⟩; (focus (go_simp; first | done | (simp [undef]; done))); go_simp; (with_reducible refine hK _ ?_); clear hK K) | (refine Or.inl ⟨?_, ?_⟩; (focus (go_simp; done)); apply Exists.intro; refine And.intro ?_ ?_; (focus (first | (intro wq hq; obtain ⟨hcq, hfq⟩ := G.old hq; go_simp; (first | done | exact rfl); done) | (intro wq; go_simp; (first | done | exact rfl); done))); go_simp; (with_reducible refine hK _ ?_); clear hK K) | fail))
    have hF0 := x1.out.grow hG.b
    obtain ⟨u0, g0⟩ := hF0.2 1 _ rfl
    have fin2 := fin.out _ r.dur hmin.symm (hF0.put (i := 1) (v := .int .i64 r.dur) rfl) (DChg.setCell (S := fun z => z = r.fb) (hch.trans (DChg.of_below (S := fun z => z = r.fb) hG.b) fun z hz => .inl hz) (b := r.fb) rfl _ _)
    ((with_reducible refine ord_tail ?_); intro K hK; go_simp; (with_reducible refine hK _ _ ?_); clear hK K)
    (with_reducible refine ord_nil ?_)
    go_end0
    exact ⟨rfl, fin2⟩
set_option maxRecDepth 20000 in set_option maxHeartbeats 2000000 in
theorem trunc_any (h : DevW w d S s) (ho : s.Ok) (nm : ByteArray) (hm : nm.size ≤ maxLen) (sz : Int) : Calls Try.prog 35 #[.pointer (some ⟨d, 0, none⟩), .string nm, .int .i64 sz] w (RetE d S (truncD s nm.data.toList sz) w) := by
  have H := Lib.hid h
  obtain ⟨R, hr⟩ : ∃ R, truncD s nm.data.toList sz = R := ⟨_, rfl⟩
  rw [hr]
  unfold truncD at hr
  have EC := Lib.hid (fun c w => Try.call58 c w : ∀ c, Ent 58 c)
  replace hr := Lib.hid hr
  go_enter Try.func35, Try.ntmps35
  go_wp2_with fail
  refine calls_name (fun wx => Below w.heap.size w wx ∧ Bx wx w.heap.size [.int .i64 sz]) ⟨by repeat (first | with_reducible assumption | with_reducible exact G.refl _ | with_reducible refine G.drew ?_ | with_reducible refine G.drewN ?_ _ | with_reducible refine G.alloc ?_ _ | with_reducible refine Below.setCell ?_ (by first | (simp; done) | (simp; omega)) _ | with_reducible refine G.trans ?_ hb12 | with_reducible refine G.trans ?_ hb11 | with_reducible refine G.trans ?_ hb10 | with_reducible refine G.trans ?_ hb9 | with_reducible refine G.trans ?_ hb8 | with_reducible refine G.trans ?_ hb7 | with_reducible refine G.trans ?_ hb6 | with_reducible refine G.trans ?_ hb5 | with_reducible refine G.trans ?_ hb4 | with_reducible refine G.trans ?_ hb3 | with_reducible refine G.trans ?_ hb2 | with_reducible refine G.trans ?_ hb1 | with_reducible refine G.trans ?_ hb | assumption), by repeat (first | with_reducible assumption | (with_reducible exact Bx.new (by simp; done) (by rfl)) | (with_reducible refine Bx.alloc ?_ _) | (with_reducible refine Bx.drewN ?_ _) | ((with_reducible apply Bx.put); rotate_right; (first | rfl | skip)) | (with_reducible refine Bx.other ?_ (by first | (simp; done) | (simp; omega)) _))⟩ ?_
  rintro w2 ⟨hb2, x2⟩
  have H2 := Lib.hid (H.out.grow hb2)
  refine (check_any H2.out).mono ?_
  rintro e w3 ⟨rfl, hw⟩
  subst hw
  have c2 := (x2.2 0 _ rfl).1
  have lt2 := x2.lt
  unfold chkD
  rcases hd : s.down with _ | _
  · replace hr := hr.out
    rw [hd, if_neg (by simp)] at hr
    replace hd := Lib.hid hd
    obtain ⟨mb, fs, hR, hS⟩ := H2.out
    have k1 := (hR.box.2 1 _ rfl).1
    have lt := hR.box.lt
    have hlc : lkC s.fs nm.data.toList = (lk fs nm.data.toList).map FR.fl := by rw [hR.eq, lk_fl]
    rw [hlc] at hr
    have HR := Lib.hid hR
    have HS := Lib.hid hS
    have LK := look_fs hR.map Try.underlying9 Try.underlying67 (zeroP _) hm
    rcases hl : lk fs nm.data.toList with _ | r
    · rw [hl] at hr LK
      rw [Option.map_none] at hr
      have hpv : ptrV none = .pointer none := rfl
      rw [hpv] at LK
      replace hl := Lib.hid hl
      replace hr := Lib.hid hr
      clear hR hS hlc
      go_wp2_with fail
      go_ret
      exact RetE.mk hr.out.symm rfl (RetD.of_below H.out (by repeat (first | with_reducible assumption | with_reducible exact G.refl _ | with_reducible refine G.drew ?_ | with_reducible refine G.drewN ?_ _ | with_reducible refine G.alloc ?_ _ | with_reducible refine Below.setCell ?_ (by first | (simp; done) | (simp; omega)) _ | with_reducible refine G.trans ?_ hb12 | with_reducible refine G.trans ?_ hb11 | with_reducible refine G.trans ?_ hb10 | with_reducible refine G.trans ?_ hb9 | with_reducible refine G.trans ?_ hb8 | with_reducible refine G.trans ?_ hb7 | with_reducible refine G.trans ?_ hb6 | with_reducible refine G.trans ?_ hb5 | with_reducible refine G.trans ?_ hb4 | with_reducible refine G.trans ?_ hb3 | with_reducible refine G.trans ?_ hb2 | with_reducible refine G.trans ?_ hb1 | with_reducible refine G.trans ?_ hb | assumption)))
    · rw [hl] at hr LK
      have hpv : ptrV (some r) = .pointer (some ⟨r.fb, 0, none⟩) := rfl
      rw [hpv] at LK
      rw [Option.map_some] at hr
      obtain ⟨hF, hrm, hrn⟩ := lk_rec hR hl
      have hrfl : r.fl ∈ s.fs := by rw [hR.eq]; exact List.mem_map_of_mem hrm
      have hd1 : r.dur ≤ r.data.length := ho.du _ hrfl
      have hs1 : r.data.length ≤ 16777216 := ho.sz _ hrfl
      have k0 := (hF.box.2 0 _ rfl).1
      have hv : r.val = .slice r.A r.data.length r.cap := rfl
      rw [hv] at k0
      have ltf := hF.box.lt
      have hneB : w.heap.size ≠ r.fb := by
        obtain ⟨mb', fs', hR', hS'⟩ := H.out
        have := (hS r.fb).2 (.inr (.inr ⟨r, hrm, .inl rfl⟩))
        have := H.out.lt this
        omega
      have hdl : d ≠ w.heap.size := by
        have := (hS d).2 (.inl rfl)
        have := H.out.lt this
        omega
      replace hl := Lib.hid hl
      have hdat : r.fl.data.length = r.data.length := rfl
      dsimp only at hr
      rw [hdat] at hr
      clear hR hS hlc hF hv
      by_cases hn : sz < 0
      · rw [if_pos (.inl hn)] at hr
        replace hr := Lib.hid hr
        go_wp2_with fail
        refine wp_name (fun wx => Below w3.heap.size w3 wx ∧ Bx wx w3.heap.size [.pointer (some ⟨r.fb, 0, none⟩)]) ⟨by repeat (first | with_reducible assumption | with_reducible exact G.refl _ | with_reducible refine G.drew ?_ | with_reducible refine G.drewN ?_ _ | with_reducible refine G.alloc ?_ _ | with_reducible refine Below.setCell ?_ (by first | (simp; done) | (simp; omega)) _ | with_reducible refine G.trans ?_ hb12 | with_reducible refine G.trans ?_ hb11 | with_reducible refine G.trans ?_ hb10 | with_reducible refine G.trans ?_ hb9 | with_reducible refine G.trans ?_ hb8 | with_reducible refine G.trans ?_ hb7 | with_reducible refine G.trans ?_ hb6 | with_reducible refine G.trans ?_ hb5 | with_reducible refine G.trans ?_ hb4 | with_reducible refine G.trans ?_ hb3 | with_reducible refine G.trans ?_ hb2 | with_reducible refine G.trans ?_ hb1 | with_reducible refine G.trans ?_ hb | assumption), by repeat (first | with_reducible assumption | (with_reducible exact Bx.new (by simp; done) (by rfl)) | (with_reducible refine Bx.alloc ?_ _) | (with_reducible refine Bx.drewN ?_ _) | ((with_reducible apply Bx.put); rotate_right; (first | rfl | skip)) | (with_reducible refine Bx.other ?_ (by first | (simp; done) | (simp; omega)) _))⟩ ?_
        rintro w4 ⟨hb4, x4⟩
        replace c2 := G.cell c2 hb4
        replace k0 := G.cell k0 hb4
        have c4 := (x4.2 0 _ rfl).1
        replace lt2 := cell_lt c2
        replace ltf := cell_lt k0
        have lt4 := x4.lt
        dsimp only at lt2 ltf
        go_wp2_with fail
        refine wp_region_ord [(0, 1), (1, 1), (2, 1), (3, 1), (4, 1), (5, 1), (6, 1), (7, 1), (8, 1), (9, 1), (10, 1), (11, 1)] [] 5 (by kernel_rfl) (by decide +kernel) ?_
        simp only [pickO, List.append_eq, List.cons_append, List.nil_append, List.getElem?_cons_succ, List.getElem?_cons_zero]
        intro w0 hG
        (repeat ((first | (with_reducible refine ord_q1 ?_) | (with_reducible refine ord_q0 ?_)); intro K hK; first | (refine Or.inr ⟨?_, ?_⟩; (focus (go_simp; first | done | (simp [undef]; done))); go_simp; (with_reducible refine hK _ ?_); clear hK K) | (refine Or.inl ⟨?_, ?_⟩; (focus (go_simp; done)); apply Exists.intro; refine And.intro ?_ ?_; (focus (first | (intro wq hq; obtain ⟨hcq, hfq⟩ := G.old hq; go_simp; (first | done | exact rfl); done) | (intro wq; go_simp; (first | done | exact rfl); done))); go_simp; (with_reducible refine hK _ ?_); clear hK K) | fail))
        (with_reducible refine ord_nil ?_)
        go_wp2_with fail
        go_ret
        exact RetE.mk hr.out.symm rfl (RetD.of_below H.out (G.trans hb2 (G.trans hb4 hG.b)))
      · by_cases hgt : (r.data.length : Int) < sz
        · rw [if_pos (.inr hgt)] at hr
          replace hr := Lib.hid hr
          go_wp2_with fail
          refine wp_name (fun wx => Below w3.heap.size w3 wx ∧ Bx wx w3.heap.size [.pointer (some ⟨r.fb, 0, none⟩)]) ⟨by repeat (first | with_reducible assumption | with_reducible exact G.refl _ | with_reducible refine G.drew ?_ | with_reducible refine G.drewN ?_ _ | with_reducible refine G.alloc ?_ _ | with_reducible refine Below.setCell ?_ (by first | (simp; done) | (simp; omega)) _ | with_reducible refine G.trans ?_ hb12 | with_reducible refine G.trans ?_ hb11 | with_reducible refine G.trans ?_ hb10 | with_reducible refine G.trans ?_ hb9 | with_reducible refine G.trans ?_ hb8 | with_reducible refine G.trans ?_ hb7 | with_reducible refine G.trans ?_ hb6 | with_reducible refine G.trans ?_ hb5 | with_reducible refine G.trans ?_ hb4 | with_reducible refine G.trans ?_ hb3 | with_reducible refine G.trans ?_ hb2 | with_reducible refine G.trans ?_ hb1 | with_reducible refine G.trans ?_ hb | assumption), by repeat (first | with_reducible assumption | (with_reducible exact Bx.new (by simp; done) (by rfl)) | (with_reducible refine Bx.alloc ?_ _) | (with_reducible refine Bx.drewN ?_ _) | ((with_reducible apply Bx.put); rotate_right; (first | rfl | skip)) | (with_reducible refine Bx.other ?_ (by first | (simp; done) | (simp; omega)) _))⟩ ?_
          rintro w4 ⟨hb4, x4⟩
          replace c2 := G.cell c2 hb4
          replace k0 := G.cell k0 hb4
          have c4 := (x4.2 0 _ rfl).1
          replace lt2 := cell_lt c2
          replace ltf := cell_lt k0
          have lt4 := x4.lt
          dsimp only at lt2 ltf
          go_wp2_with fail
          refine wp_region_ord [(0, 1), (1, 1), (2, 1), (3, 1), (4, 1), (5, 1), (6, 1), (7, 1), (8, 1), (9, 1), (10, 1), (11, 1)] [] 5 (by kernel_rfl) (by decide +kernel) ?_
          simp only [pickO, List.append_eq, List.cons_append, List.nil_append, List.getElem?_cons_succ, List.getElem?_cons_zero]
          intro w0 hG
          (repeat ((first | (with_reducible refine ord_q1 ?_) | (with_reducible refine ord_q0 ?_)); intro K hK; first | (refine Or.inr ⟨?_, ?_⟩; (focus (go_simp; first | done | (simp [undef]; done))); go_simp; (with_reducible refine hK _ ?_); clear hK K) | (refine Or.inl ⟨?_, ?_⟩; (focus (go_simp; done)); apply Exists.intro; refine And.intro ?_ ?_; (focus (first | (intro wq hq; obtain ⟨hcq, hfq⟩ := G.old hq; go_simp; (first | done | exact rfl); done) | (intro wq; go_simp; (first | done | exact rfl); done))); go_simp; (with_reducible refine hK _ ?_); clear hK K) | fail))
          (with_reducible refine ord_nil ?_)
          go_wp2_with fail
          go_ret
          exact RetE.mk hr.out.symm rfl (RetD.of_below H.out (G.trans hb2 (G.trans hb4 hG.b)))
        · rw [if_neg (fun hh => by rcases hh with hh | hh; exact hn hh; exact hgt hh)] at hr
          replace hr := Lib.hid hr
          obtain ⟨k, rfl⟩ : ∃ k : Nat, sz = (k : Int) := ⟨sz.toNat, by omega⟩
          have hkl : k ≤ r.data.length := by omega
          go_wp2_with fail
          refine wp_name (fun wx => Below w3.heap.size w3 wx ∧ Bx wx w3.heap.size [.pointer (some ⟨r.fb, 0, none⟩)]) ⟨by repeat (first | with_reducible assumption | with_reducible exact G.refl _ | with_reducible refine G.drew ?_ | with_reducible refine G.drewN ?_ _ | with_reducible refine G.alloc ?_ _ | with_reducible refine Below.setCell ?_ (by first | (simp; done) | (simp; omega)) _ | with_reducible refine G.trans ?_ hb12 | with_reducible refine G.trans ?_ hb11 | with_reducible refine G.trans ?_ hb10 | with_reducible refine G.trans ?_ hb9 | with_reducible refine G.trans ?_ hb8 | with_reducible refine G.trans ?_ hb7 | with_reducible refine G.trans ?_ hb6 | with_reducible refine G.trans ?_ hb5 | with_reducible refine G.trans ?_ hb4 | with_reducible refine G.trans ?_ hb3 | with_reducible refine G.trans ?_ hb2 | with_reducible refine G.trans ?_ hb1 | with_reducible refine G.trans ?_ hb | assumption), by repeat (first | with_reducible assumption | (with_reducible exact Bx.new (by simp; done) (by rfl)) | (with_reducible refine Bx.alloc ?_ _) | (with_reducible refine Bx.drewN ?_ _) | ((with_reducible apply Bx.put); rotate_right; (first | rfl | skip)) | (with_reducible refine Bx.other ?_ (by first | (simp; done) | (simp; omega)) _))⟩ ?_
          rintro w4 ⟨hb4, x4⟩
          replace c2 := G.cell c2 hb4
          replace k0 := G.cell k0 hb4
          have c4 := (x4.2 0 _ rfl).1
          replace lt2 := cell_lt c2
          replace ltf := cell_lt k0
          have lt4 := x4.lt
          dsimp only at lt2 ltf
          go_wp2_with fail
          refine wp_region_ord [(0, 1), (1, 1), (2, 1), (3, 1), (4, 1), (5, 1), (6, 1), (7, 1), (8, 1), (9, 1), (10, 1), (11, 1)] [] 5 (by kernel_rfl) (by decide +kernel) ?_
          simp only [pickO, List.append_eq, List.cons_append, List.nil_append, List.getElem?_cons_succ, List.getElem?_cons_zero]
          intro w0 hG
          (repeat ((first | (with_reducible refine ord_q1 ?_) | (with_reducible refine ord_q0 ?_)); intro K hK; first | (refine Or.inr ⟨?_, ?_⟩; (focus (go_simp; first | done | (simp [undef]; done))); go_simp; (with_reducible refine hK _ ?_); clear hK K) | (refine Or.inl ⟨?_, ?_⟩; (focus (go_simp; done)); apply Exists.intro; refine And.intro ?_ ?_; (focus (first | (intro wq hq; obtain ⟨hcq, hfq⟩ := G.old hq; go_simp; (first | done | exact rfl); done) | (intro wq; go_simp; (first | done | exact rfl); done))); go_simp; (with_reducible refine hK _ ?_); clear hK K) | fail))
          (with_reducible refine ord_nil ?_)
          have hb40 := G.trans hb4 hG.b
          have HR0 := Lib.hid (HR.out.grow hb40)
          have X4 := Lib.hid (x4.grow hG.b)
          have X2 := Lib.hid (x2.grow hb40)
          have hne1 : w3.heap.size ≠ d := by have := HR.out.box.lt; omega
          have hne2 : w3.heap.size ≠ r.fb := by have := (HR.out.files r hrm).box.lt; omega
          have hdl' : w.heap.size ≠ d := fun e => hdl e.symm
          go_wp2_with fail
          refine (perform_op (g := fun s => { s with fs := updC s.fs nm.data.toList ⟨r.name, r.data.take k, min r.dur k⟩ }) HR0.out HS.out (EC.out _) (fun w1 hw1 hbx hsz => trunc1_any hw1 HS.out hl.out (hbx _ _ X4.out hne1) (hbx _ _ X2.out hdl') hkl hd1 hne2 hneB)).mono ?_
          rintro e w5 ⟨rfl, hr5⟩
          go_wp2_with fail
          go_ret
          exact RetE.mk (by rw [← hr.out, Int.toNat_natCast]; simp only [FR.fl, hrn]) rfl (hr5.after (DChg.of_below (G.trans hb2 hb40)))
  · replace hr := hr.out
    rw [hd, if_pos rfl] at hr
    replace hr := Lib.hid hr
    replace hd := Lib.hid hd
    go_wp2_with fail
    go_ret
    exact RetE.mk hr.out.symm rfl (RetD.of_below H.out hb2)
end
end Go.Proofs.Ytphjgembpcikdaa
