/- device: the operations -/
import Derived.Test.YtbafnlccpbonmaaGreatDoorGMa
import Derived.Test.YtbafnlccpbonmaaGreatDoorData
import Derived.Lib.AppendStr
import Derived.Test.YtbafnlccpbonmaaGreatDoorOrdD
import Derived.Laws.IdiomStrings
namespace Go.Proofs.YtbafnlccpbonmaaGreatDoor
set_option linter.unusedVariables false
set_option linter.unnecessarySimpa false
set_option linter.unusedSimpArgs false
open Go.RowKit

def putFl (fs : List Fl) (x : Fl) : List Fl := insC x (delC fs x.name)
/-- An operation, unless the power fails; what lies ahead of it is done in both cases. -/
def perfD (s : Ds) (f g : Ds → Ds) : Int × Ds := if s.lim = true ∧ s.left ≤ 0 then (31, { f s with down := true }) else (0, g { f s with left := IntKind.i64.wrap (s.left - 1) })
/-- What an operation gives and leaves. -/
def RetE (d : Nat) (S : Nat → Prop) (r : Int × Ds) (w : World) (e : Ending) (w' : World) : Prop := e = .returned (.int .i64 r.1) ∧ RetD d S r.2 w w'
section
variable {w w' w1 : World} {d mb : Nat} {s s' : Ds} {fs : List FR} {r q x : FR} {S : Nat → Prop} {n : List UInt8}
theorem RetD.after (hc : DChg S w w1) (h : RetD d S s w1 w') : RetD d S s w w' := by
  obtain ⟨S', h1, h2, h3⟩ := h
  have hs := hc.size
  exact ⟨S', h1, fun z hz => by rcases h2 z hz with h4 | h4; exact .inl h4; exact .inr (by omega), hc.trans h3 fun z hz => .inl hz⟩
theorem RetD.then_below (h : RetD d S s w w1) (hb : Below w1.heap.size w1 w') : RetD d S s w w' := by
  obtain ⟨S', h1, h2, h3⟩ := h
  exact ⟨S', h1.grow hb, h2, h3.trans (DChg.of_below (S := S) hb) fun z hz => .inl hz⟩
theorem perform_op {n2 : Nat} {c2 : Array Value} {g : Ds → Ds} (hR : DevR w d mb s fs) (hS : ∀ z, S z ↔ hasD d mb fs z) (e2 : Ent n2 c2)
    (h2 : ∀ w1, DevR w1 d mb { s with left := IntKind.i64.wrap (s.left - 1) } fs → (∀ b l, Bx w b l → b ≠ d → Bx w1 b l) → w1.heap.size = w.heap.size →
      Calls Tryz.prog n2 c2 w1 fun e w' => e = .returned (.tuple #[]) ∧ RetD d S (g { s with left := IntKind.i64.wrap (s.left - 1) }) w1 w') :
    Calls Tryz.prog 68 #[.pointer (some ⟨d, 0, none⟩), .func (.func 69) #[] #[], .func (.func n2) #[] c2] w (RetE d S (perfD s id g) w) := by
  have hSd : S d := (hS d).2 (.inl rfl)
  unfold RetE perfD
  by_cases hf : s.lim = true ∧ s.left ≤ 0
  · rw [if_pos hf]
    have hbx := hR.box
    rw [hf.1] at hbx
    refine (perform_fail (D1 := fun w1 => w1 = w) (ent_nothing #[]) ((nothing_any w).mono fun e w' h => ⟨h.1, by rw [h.2]; exact hbx, h.2⟩) hf.2).mono ?_
    rintro e w' ⟨rfl, w0, rfl, rfl⟩
    exact ⟨rfl, hR.chg hS (hR.cell (s' := { s with down := true }) rfl rfl) ((DChg.refl _ _).setCell hSd _ _)⟩
  · rw [if_neg hf]
    refine (perform_go (D1 := fun w1 => w1 = w) (D2 := fun w' => RetD d S (g { s with left := IntKind.i64.wrap (s.left - 1) }) w w') (ent_nothing #[]) e2 ((nothing_any w).mono fun e w' h => ⟨h.1, by rw [h.2]; exact hR.box, h.2⟩) ?_ ?_).mono ?_
    · rcases hl : s.lim with _ | _
      · exact .inl rfl
      · refine .inr ?_
        rcases Int.lt_or_le 0 s.left with h3 | h3
        · exact h3
        · exact absurd ⟨hl, h3⟩ hf
    · rintro w0 rfl
      refine (h2 _ (hR.cell (s' := { s with left := IntKind.i64.wrap (s.left - 1) }) rfl rfl) (fun b l hb hne => hb.other (by simpa using hne) _) (by simp)).mono ?_
      rintro e w' ⟨rfl, hr⟩
      exact ⟨rfl, hr.after ((DChg.refl _ _).setCell hSd _ _)⟩
    · rintro e w' ⟨rfl, hr⟩
      exact ⟨rfl, hr⟩
theorem zeroP (w : World) : (zeroValue 111).run Tryz.prog w = .ok (.pointer none) w := by kernel_rfl
set_option maxRecDepth 20000 in set_option maxHeartbeats 1000000 in
theorem create1_any {B2 B3 : Nat} {nm : ByteArray} (hR : DevR w d mb s fs) (hS : ∀ z, S z ↔ hasD d mb fs z) (hb2 : Bx w B2 [.pointer (some ⟨d, 0, none⟩)]) (hb3 : Bx w B3 [.string nm]) (hn : nm.size ≤ 64) (hc : fs.length < 4096) :
    Calls Tryz.prog 78 #[.pointer (some ⟨B2, 0, none⟩), .pointer (some ⟨B3, 0, none⟩)] w fun e w' => e = .returned (.tuple #[]) ∧ RetD d S { s with fs := putFl s.fs ⟨nm.data.toList, [], 0⟩ } w w' := by
  have k1 := (hR.box.2 1 _ rfl).1
  have lt := hR.box.lt
  have c2 := (hb2.2 0 _ rfl).1
  have c3 := (hb3.2 0 _ rfl).1
  have lt2 := hb2.lt
  have lt3 := hb3.lt
  have H := Lib.hid hR
  clear hR hb2 hb3
  go_enter Tryz.func78, Tryz.ntmps78
  go_wp2_with fail
  refine wp_region_ord [(0, 1), (1, 1), (2, 1), (3, 1), (4, 1), (5, 1), (6, 2), (7, 3)] [7] 5 (by kernel_rfl) (by decide +kernel) ?_
  simp only [pickO, List.append_eq, List.cons_append, List.nil_append, List.getElem?_cons_succ, List.getElem?_cons_zero]
  intro w0 hG
  (repeat ((first | (with_reducible refine ord_q1 ?_) | (with_reducible refine ord_q0 ?_)); intro K hK; first | (refine Or.inr ⟨?_, ?_⟩; (focus (go_simp; first | done | (simp [undef]; done))); go_simp; (with_reducible refine hK _ ?_); clear hK K) | (refine Or.inl ⟨?_, ?_⟩; (focus (go_simp; done)); apply Exists.intro; refine And.intro ?_ ?_; (focus (first | (intro wq hq; obtain ⟨hcq, hfq⟩ := G.old hq; go_simp; (first | done | exact rfl); done) | (intro wq; go_simp; (first | done | exact rfl); done))); go_simp; (with_reducible refine hK _ ?_); clear hK K) | fail))
  have hs0 := hG.b.size
  (with_reducible refine ord_run ?_ hG)
  intro K hK
  go_simp
  replace hG := Grew.alloc hG (.cells #[.slice none 0 0, .int .i64 0] 113)
  (with_reducible refine hK _ _ hG ?_)
  clear hK K
  (repeat ((first | (with_reducible refine ord_q1 ?_) | (with_reducible refine ord_q0 ?_)); intro K hK; first | (refine Or.inr ⟨?_, ?_⟩; (focus (go_simp; first | done | (simp [undef]; done))); go_simp; (with_reducible refine hK _ ?_); clear hK K) | (refine Or.inl ⟨?_, ?_⟩; (focus (go_simp; done)); apply Exists.intro; refine And.intro ?_ ?_; (focus (first | (intro wq hq; obtain ⟨hcq, hfq⟩ := G.old hq; go_simp; (first | done | exact rfl); done) | (intro wq; go_simp; (first | done | exact rfl); done))); go_simp; (with_reducible refine hK _ ?_); clear hK K) | fail))
  have hH := (H.out.grow hG.b)
  obtain ⟨w', hrun, hm, ht⟩ := store_fs hH.map Tryz.underlying9 Tryz.underlying95 (by unfold maxLen; omega) (s := nm) (by unfold maxLen; omega) (⟨nm.data.toList, w0.heap.size, none, 0, [], 0⟩ : FR) rfl
  have hF : FileAt (w0.alloc (.cells #[.slice none 0 0, .int .i64 0] 113)) (⟨nm.data.toList, w0.heap.size, none, 0, [], 0⟩ : FR) := ⟨Bx.new rfl rfl, World.ownsRow_nil _ _ _ _, by simp [FR.val, Value.ownBlock]⟩
  have hput := hH.put hF (fun z hz hh => by
    have h1 := H.out.lt hh
    rcases hz with rfl | hz
    · have : (⟨nm.data.toList, w0.heap.size, none, 0, [], 0⟩ : FR).fb = w0.heap.size := rfl
      omega
    · cases hz) ht hm
  have hfin : RetD d S { s with fs := putFl s.fs ⟨nm.data.toList, [], 0⟩ } w w' := by
    refine ⟨_, ⟨mb, _, hput, fun z => Iff.rfl⟩, fun z hz => ?_, (DChg.of_below (S := S) hG.b).trans (DChg.turned (S := S) ht ((hS _).2 (.inr (.inl rfl)))) fun z hz => .inl hz⟩
    rcases hz with rfl | rfl | ⟨y, hy, hz⟩
    · exact .inl ((hS _).2 (.inl rfl))
    · exact .inl ((hS _).2 (.inr (.inl rfl)))
    · rcases putF_mem.1 hy with rfl | ⟨hy, _⟩
      · rcases hz with rfl | hz
        · exact .inr hs0
        · cases hz
      · exact .inl ((hS _).2 (.inr (.inr ⟨y, hy, hz⟩)))
  replace hfin := Lib.hid hfin
  clear hput hF hm ht hH
  ((with_reducible refine ord_tail ?_); intro K hK; go_simp; (with_reducible refine hK _ _ ?_); clear hK K)
  (with_reducible refine ord_nil ?_)
  go_end0
  exact ⟨rfl, hfin.out⟩
end
end Go.Proofs.YtbafnlccpbonmaaGreatDoor

namespace Go.Proofs.YtbafnlccpbonmaaGreatDoor
set_option linter.unusedVariables false
set_option linter.unnecessarySimpa false
set_option linter.unusedSimpArgs false
open Go.RowKit

def createD (s : Ds) (nm : List UInt8) : Int × Ds :=
  if s.down = true then (31, s) else if okName nm = false then (12, s) else if (lkC s.fs nm).isSome = true then (7, s) else if 4096 ≤ s.fs.length then (9, s)
  else perfD s id fun s => { s with fs := putFl s.fs ⟨nm, [], 0⟩ }
theorem okName_len {n : List UInt8} (h : okName n = true) : n.length ≤ 64 := by
  unfold okName at h
  simp only [Bool.and_eq_true, decide_eq_true_eq] at h
  exact h.2.1
section
variable {w w' w1 : World} {d mb : Nat} {s s' : Ds} {fs : List FR} {r q x : FR} {S : Nat → Prop} {n : List UInt8}
theorem RetE.mk {R : Int × Ds} {v : Int} {e : Ending} (hR : R = (v, s')) (he : e = .returned (.int .i64 v)) (h : RetD d S s' w w') : RetE d S R w e w' := by
  subst hR
  exact ⟨he, h⟩
theorem RetE.after {R : Int × Ds} {e : Ending} (hb : Below w.heap.size w w1) (h : RetE d S R w1 e w') : RetE d S R w e w' := ⟨h.1, h.2.after (DChg.of_below hb)⟩
set_option maxRecDepth 20000 in set_option maxHeartbeats 2000000 in
theorem create_any (h : DevW w d S s) (nm : ByteArray) (hm : nm.size ≤ maxLen) : Calls Tryz.prog 39 #[.pointer (some ⟨d, 0, none⟩), .string nm] w (RetE d S (createD s nm.data.toList) w) := by
  have H := Lib.hid h
  obtain ⟨R, hr⟩ : ∃ R, createD s nm.data.toList = R := ⟨_, rfl⟩
  rw [hr]
  unfold createD at hr
  replace hr := Lib.hid hr
  have EC := Lib.hid (fun c w => Tryz.call78 c w : ∀ c, Ent 78 c)
  go_enter Tryz.func39, Tryz.ntmps39
  go_wp2_with fail
  refine calls_name (fun wx => Below w.heap.size w wx ∧ Bx wx w.heap.size [.pointer (some ⟨d, 0, none⟩)] ∧ Bx wx (w.heap.size + 1) [.string nm]) ⟨by repeat (first | with_reducible assumption | with_reducible exact G.refl _ | with_reducible refine G.drew ?_ | with_reducible refine G.drewN ?_ _ | with_reducible refine G.alloc ?_ _ | with_reducible refine Below.setCell ?_ (by first | (simp; done) | (simp; omega)) _ | with_reducible refine G.trans ?_ hb12 | with_reducible refine G.trans ?_ hb11 | with_reducible refine G.trans ?_ hb10 | with_reducible refine G.trans ?_ hb9 | with_reducible refine G.trans ?_ hb8 | with_reducible refine G.trans ?_ hb7 | with_reducible refine G.trans ?_ hb6 | with_reducible refine G.trans ?_ hb5 | with_reducible refine G.trans ?_ hb4 | with_reducible refine G.trans ?_ hb3 | with_reducible refine G.trans ?_ hb2 | with_reducible refine G.trans ?_ hb1 | with_reducible refine G.trans ?_ hb | assumption), by repeat (first | with_reducible assumption | (with_reducible exact Bx.new (by simp; done) (by rfl)) | (with_reducible refine Bx.alloc ?_ _) | (with_reducible refine Bx.drewN ?_ _) | ((with_reducible apply Bx.put); rotate_right; (first | rfl | skip)) | (with_reducible refine Bx.other ?_ (by first | (simp; done) | (simp; omega)) _)), by repeat (first | with_reducible assumption | (with_reducible exact Bx.new (by simp; done) (by rfl)) | (with_reducible refine Bx.alloc ?_ _) | (with_reducible refine Bx.drewN ?_ _) | ((with_reducible apply Bx.put); rotate_right; (first | rfl | skip)) | (with_reducible refine Bx.other ?_ (by first | (simp; done) | (simp; omega)) _))⟩ ?_
  rintro w2 ⟨hb2, x2, x3⟩
  have H2 := Lib.hid (H.out.grow hb2)
  have hdl : Hid (d < w.heap.size) := by obtain ⟨_, _, hR, _⟩ := H.out; exact hR.box.lt
  refine (check_any H2.out).mono ?_
  rintro e w3 ⟨rfl, hw⟩
  subst hw
  have c2 := (x2.2 0 _ rfl).1
  have c3 := (x3.2 0 _ rfl).1
  have lt2 := x2.lt
  have lt3 := x3.lt
  unfold chkD
  rcases hd : s.down with _ | _
  · replace hr := hr.out
    rw [hd, if_neg (by simp)] at hr
    replace hr := Lib.hid hr
    replace hd := Lib.hid hd
    go_wp2_with fail
    refine (named_any _ nm).mono ?_
    rintro e w4 ⟨rfl, hb4⟩
    have hb24 := G.trans hb2 hb4
    have H4 := Lib.hid (H2.out.grow hb4)
    replace x2 := x2.grow hb4
    replace x3 := x3.grow hb4
    replace c2 := G.cell c2 hb4
    replace c3 := G.cell c3 hb4
    replace lt2 := cell_lt c2
    replace lt3 := cell_lt c3
    dsimp only at lt2 lt3
    rcases hok : okName nm.data.toList with _ | _
    · replace hr := hr.out
      rw [if_pos hok] at hr
      replace hr := Lib.hid hr
      replace hok := Lib.hid hok
      go_wp2_with fail
      go_ret
      exact RetE.mk hr.out.symm rfl (RetD.of_below H.out hb24)
    · have h64 := okName_len hok
      have h64' : nm.size ≤ 64 := h64
      replace hr := hr.out
      rw [hok, if_neg (by simp)] at hr
      replace hok := Lib.hid hok
      obtain ⟨mb, fs, hR, hS⟩ := H4.out
      have k1 := (hR.box.2 1 _ rfl).1
      have lt := hR.box.lt
      have hlc : lkC s.fs nm.data.toList = (lk fs nm.data.toList).map FR.fl := by rw [hR.eq, lk_fl]
      have hfl : s.fs.length = fs.length := by rw [hR.eq, List.length_map]
      rw [hlc, hfl] at hr
      have HR := Lib.hid hR
      have HS := Lib.hid hS
      replace x2 := Lib.hid x2
      replace x3 := Lib.hid x3
      have LK := fun (wx : World) (hb : Below w4.heap.size w4 wx) => look_fs (HR.out.grow hb).map Tryz.underlying9 Tryz.underlying95 (zeroP _) hm
      clear hR hS hlc hfl
      rcases hl : lk fs nm.data.toList with _ | r
      · rw [hl] at hr LK
        rw [Option.map_none, Option.isSome_none, if_neg (by simp)] at hr
        have hpv : ptrV none = .pointer none := rfl
        rw [hpv] at LK
        replace hl := Lib.hid hl
        replace hr := Lib.hid hr
        go_wp2_with fail
        refine wp_region_ord [(0, 1), (1, 1), (2, 1), (3, 1), (4, 1), (5, 1), (6, 1), (7, 1)] [] 5 (by kernel_rfl) (by decide +kernel) ?_
        simp only [pickO, List.append_eq, List.cons_append, List.nil_append, List.getElem?_cons_succ, List.getElem?_cons_zero]
        intro w0 hG
        (repeat ((first | (with_reducible refine ord_q1 ?_) | (with_reducible refine ord_q0 ?_)); intro K hK; first | (refine Or.inr ⟨?_, ?_⟩; (focus (go_simp; first | done | (simp [undef]; done))); go_simp; (with_reducible refine hK _ ?_); clear hK K) | (refine Or.inl ⟨?_, ?_⟩; (focus (go_simp; done)); apply Exists.intro; refine And.intro ?_ ?_; (focus (first | (intro wq hq; obtain ⟨hcq, hfq⟩ := G.old hq; go_simp; (first | done | exact rfl); done) | (intro wq; go_simp; (first | done | exact rfl); done))); go_simp; (with_reducible refine hK _ ?_); clear hK K) | fail))
        (with_reducible refine ord_q1 ?_); intro K hK; refine Or.inl ⟨?_, ?_⟩; (focus (go_simp; done)); apply Exists.intro; refine And.intro ?_ ?_; (focus (intro wq hq; obtain ⟨hcq, hfq⟩ := G.old hq; have hLKq := LK wq hq.b; go_simp; (first | done | exact rfl); done)); go_simp; (with_reducible refine hK _ ?_); clear hK K; (repeat ((first | (with_reducible refine ord_q1 ?_) | (with_reducible refine ord_q0 ?_)); intro K hK; first | (refine Or.inr ⟨?_, ?_⟩; (focus (go_simp; first | done | (simp [undef]; done))); go_simp; (with_reducible refine hK _ ?_); clear hK K) | (refine Or.inl ⟨?_, ?_⟩; (focus (go_simp; done)); apply Exists.intro; refine And.intro ?_ ?_; (focus (first | (intro wq hq; obtain ⟨hcq, hfq⟩ := G.old hq; go_simp; (first | done | exact rfl); done) | (intro wq; go_simp; (first | done | exact rfl); done))); go_simp; (with_reducible refine hK _ ?_); clear hK K) | fail))
        (with_reducible refine ord_nil ?_)
        have hbg := hG.b
        have hb40 := G.trans hb24 hbg
        replace c2 := G.cell c2 hbg
        replace c3 := G.cell c3 hbg
        replace k1 := G.cell k1 hbg
        replace lt := cell_lt k1
        replace lt2 := cell_lt c2
        replace lt3 := cell_lt c3
        dsimp only at lt lt2 lt3
        have HR0 := Lib.hid (HR.out.grow hbg)
        have hlen := fun ty => len_fs HR0.out.map Tryz.underlying95 ty
        have X2 := Lib.hid (x2.out.grow hbg)
        have X3 := Lib.hid (x3.out.grow hbg)
        clear LK hG
        by_cases hc : 4096 ≤ fs.length
        · have hc' : (4096 : Int) ≤ (fs.length : Int) := by omega
          replace hr := hr.out
          rw [if_pos hc] at hr
          replace hr := Lib.hid hr
          go_wp2_with fail
          go_ret
          exact RetE.mk hr.out.symm rfl (RetD.of_below H.out hb40)
        · have hc' : ¬ (4096 : Int) ≤ (fs.length : Int) := by omega
          replace hr := hr.out
          rw [if_neg hc] at hr
          replace hr := Lib.hid hr
          go_wp2_with fail
          refine (perform_op (g := fun s => { s with fs := putFl s.fs ⟨nm.data.toList, [], 0⟩ }) HR0.out HS.out (EC.out _) (fun w1 hw1 hbx hsz => create1_any hw1 HS.out (hbx _ _ X2.out (by have := hdl.out; omega)) (hbx _ _ X3.out (by have := hdl.out; omega)) h64' (by omega))).mono ?_
          rintro e w5 ⟨rfl, hr5⟩
          go_wp2_with fail
          go_ret
          exact RetE.mk (by rw [← hr.out]) rfl (hr5.after (DChg.of_below hb40))
      · rw [hl] at hr LK
        have hpv : ptrV (some r) = .pointer (some ⟨r.fb, 0, none⟩) := rfl
        rw [hpv] at LK
        rw [Option.map_some, Option.isSome_some, if_pos rfl] at hr
        replace hl := Lib.hid hl
        replace hr := Lib.hid hr
        go_wp2_with fail
        refine wp_region_ord [(0, 1), (1, 1), (2, 1), (3, 1), (4, 1), (5, 1), (6, 1), (7, 1)] [] 5 (by kernel_rfl) (by decide +kernel) ?_
        simp only [pickO, List.append_eq, List.cons_append, List.nil_append, List.getElem?_cons_succ, List.getElem?_cons_zero]
        intro w0 hG
        (repeat ((first | (with_reducible refine ord_q1 ?_) | (with_reducible refine ord_q0 ?_)); intro K hK; first | (refine Or.inr ⟨?_, ?_⟩; (focus (go_simp; first | done | (simp [undef]; done))); go_simp; (with_reducible refine hK _ ?_); clear hK K) | (refine Or.inl ⟨?_, ?_⟩; (focus (go_simp; done)); apply Exists.intro; refine And.intro ?_ ?_; (focus (first | (intro wq hq; obtain ⟨hcq, hfq⟩ := G.old hq; go_simp; (first | done | exact rfl); done) | (intro wq; go_simp; (first | done | exact rfl); done))); go_simp; (with_reducible refine hK _ ?_); clear hK K) | fail))
        (with_reducible refine ord_q1 ?_); intro K hK; refine Or.inl ⟨?_, ?_⟩; (focus (go_simp; done)); apply Exists.intro; refine And.intro ?_ ?_; (focus (intro wq hq; obtain ⟨hcq, hfq⟩ := G.old hq; have hLKq := LK wq hq.b; go_simp; (first | done | exact rfl); done)); go_simp; (with_reducible refine hK _ ?_); clear hK K; (repeat ((first | (with_reducible refine ord_q1 ?_) | (with_reducible refine ord_q0 ?_)); intro K hK; first | (refine Or.inr ⟨?_, ?_⟩; (focus (go_simp; first | done | (simp [undef]; done))); go_simp; (with_reducible refine hK _ ?_); clear hK K) | (refine Or.inl ⟨?_, ?_⟩; (focus (go_simp; done)); apply Exists.intro; refine And.intro ?_ ?_; (focus (first | (intro wq hq; obtain ⟨hcq, hfq⟩ := G.old hq; go_simp; (first | done | exact rfl); done) | (intro wq; go_simp; (first | done | exact rfl); done))); go_simp; (with_reducible refine hK _ ?_); clear hK K) | fail))
        (with_reducible refine ord_nil ?_)
        go_wp2_with fail
        go_ret
        exact RetE.mk hr.out.symm rfl (RetD.of_below H.out (G.trans hb24 hG.b))
  · replace hr := hr.out
    rw [hd, if_pos rfl] at hr
    replace hr := Lib.hid hr
    replace hd := Lib.hid hd
    go_wp2_with fail
    go_ret
    exact RetE.mk hr.out.symm rfl (RetD.of_below H.out hb2)
end
end Go.Proofs.YtbafnlccpbonmaaGreatDoor

namespace Go.Proofs.YtbafnlccpbonmaaGreatDoor
set_option linter.unusedVariables false
set_option linter.unnecessarySimpa false
set_option linter.unusedSimpArgs false
open Go.RowKit

def removeD (s : Ds) (nm : List UInt8) : Int × Ds := if s.down = true then (31, s) else match lkC s.fs nm with
  | none => (8, s)
  | some _ => perfD s id fun s => { s with fs := delC s.fs nm }
def syncD (s : Ds) (nm : List UInt8) : Int × Ds := if s.down = true then (31, s) else match lkC s.fs nm with
  | none => (8, s)
  | some f => perfD s id fun s => { s with fs := updC s.fs nm { f with dur := f.data.length } }
theorem del_has {d mb : Nat} {fs : List FR} {n : List UInt8} : ∀ z, hasD d mb (delF fs n) z → hasD d mb fs z := fun z hz => by
  rcases hz with h | h | ⟨y, hy, hz⟩
  · exact .inl h
  · exact .inr (.inl h)
  · exact .inr (.inr ⟨y, (delF_mem.1 hy).1, hz⟩)
section
variable {w w' w1 : World} {d mb : Nat} {s s' : Ds} {fs : List FR} {r q x : FR} {S : Nat → Prop} {n : List UInt8}
set_option maxRecDepth 20000 in set_option maxHeartbeats 1000000 in
theorem remove1_any {B2 B3 : Nat} {nm : ByteArray} (hR : DevR w d mb s fs) (hS : ∀ z, S z ↔ hasD d mb fs z) (hb2 : Bx w B2 [.pointer (some ⟨d, 0, none⟩)]) (hb3 : Bx w B3 [.string nm]) (hm : nm.size ≤ maxLen) :
    Calls Tryz.prog 96 #[.pointer (some ⟨B2, 0, none⟩), .pointer (some ⟨B3, 0, none⟩)] w fun e w' => e = .returned (.tuple #[]) ∧ RetD d S { s with fs := delC s.fs nm.data.toList } w w' := by
  have k1 := (hR.box.2 1 _ rfl).1
  have lt := hR.box.lt
  have c2 := (hb2.2 0 _ rfl).1
  have c3 := (hb3.2 0 _ rfl).1
  have lt2 := hb2.lt
  have lt3 := hb3.lt
  have H := Lib.hid hR
  clear hR hb2 hb3
  go_enter Tryz.func96, Tryz.ntmps96
  go_wp2_with fail
  refine wp_region_ord [(0, 1), (1, 1), (2, 1), (3, 1), (4, 1), (5, 3)] [5] 5 (by kernel_rfl) (by decide +kernel) ?_
  simp only [pickO, List.append_eq, List.cons_append, List.nil_append, List.getElem?_cons_succ, List.getElem?_cons_zero]
  intro w0 hG
  (repeat ((first | (with_reducible refine ord_q1 ?_) | (with_reducible refine ord_q0 ?_)); intro K hK; first | (refine Or.inr ⟨?_, ?_⟩; (focus (go_simp; first | done | (simp [undef]; done))); go_simp; (with_reducible refine hK _ ?_); clear hK K) | (refine Or.inl ⟨?_, ?_⟩; (focus (go_simp; done)); apply Exists.intro; refine And.intro ?_ ?_; (focus (first | (intro wq hq; obtain ⟨hcq, hfq⟩ := G.old hq; go_simp; (first | done | exact rfl); done) | (intro wq; go_simp; (first | done | exact rfl); done))); go_simp; (with_reducible refine hK _ ?_); clear hK K) | fail))
  have hH := (H.out.grow hG.b)
  obtain ⟨w', hrun, hmm, ht⟩ := drop_fs hH.map Tryz.underlying9 Tryz.underlying95 hm 0
  have hfin : RetD d S { s with fs := delC s.fs nm.data.toList } w w' :=
    ⟨_, ⟨mb, _, hH.del ht hmm, fun z => Iff.rfl⟩, fun z hz => .inl ((hS _).2 (del_has z hz)), (DChg.of_below (S := S) hG.b).trans (DChg.turned (S := S) ht ((hS _).2 (.inr (.inl rfl)))) fun z hz => .inl hz⟩
  replace hfin := Lib.hid hfin
  clear hmm ht hH
  ((with_reducible refine ord_tail ?_); intro K hK; go_simp; (with_reducible refine hK _ _ ?_); clear hK K)
  (with_reducible refine ord_nil ?_)
  go_end0
  exact ⟨rfl, hfin.out⟩
set_option maxRecDepth 20000 in set_option maxHeartbeats 2000000 in
theorem remove_any (h : DevW w d S s) (nm : ByteArray) (hm : nm.size ≤ maxLen) : Calls Tryz.prog 76 #[.pointer (some ⟨d, 0, none⟩), .string nm] w (RetE d S (removeD s nm.data.toList) w) := by
  have H := Lib.hid h
  obtain ⟨R, hr⟩ : ∃ R, removeD s nm.data.toList = R := ⟨_, rfl⟩
  rw [hr]
  unfold removeD at hr
  replace hr := Lib.hid hr
  have EC := Lib.hid (fun c w => Tryz.call96 c w : ∀ c, Ent 96 c)
  go_enter Tryz.func76, Tryz.ntmps76
  go_wp2_with fail
  refine calls_name (fun wx => Below w.heap.size w wx ∧ Bx wx w.heap.size [.pointer (some ⟨d, 0, none⟩)] ∧ Bx wx (w.heap.size + 1) [.string nm]) ⟨by repeat (first | with_reducible assumption | with_reducible exact G.refl _ | with_reducible refine G.drew ?_ | with_reducible refine G.drewN ?_ _ | with_reducible refine G.alloc ?_ _ | with_reducible refine Below.setCell ?_ (by first | (simp; done) | (simp; omega)) _ | with_reducible refine G.trans ?_ hb12 | with_reducible refine G.trans ?_ hb11 | with_reducible refine G.trans ?_ hb10 | with_reducible refine G.trans ?_ hb9 | with_reducible refine G.trans ?_ hb8 | with_reducible refine G.trans ?_ hb7 | with_reducible refine G.trans ?_ hb6 | with_reducible refine G.trans ?_ hb5 | with_reducible refine G.trans ?_ hb4 | with_reducible refine G.trans ?_ hb3 | with_reducible refine G.trans ?_ hb2 | with_reducible refine G.trans ?_ hb1 | with_reducible refine G.trans ?_ hb | assumption), by repeat (first | with_reducible assumption | (with_reducible exact Bx.new (by simp; done) (by rfl)) | (with_reducible refine Bx.alloc ?_ _) | (with_reducible refine Bx.drewN ?_ _) | ((with_reducible apply Bx.put); rotate_right; (first | rfl | skip)) | (with_reducible refine Bx.other ?_ (by first | (simp; done) | (simp; omega)) _)), by repeat (first | with_reducible assumption | (with_reducible exact Bx.new (by simp; done) (by rfl)) | (with_reducible refine Bx.alloc ?_ _) | (with_reducible refine Bx.drewN ?_ _) | ((with_reducible apply Bx.put); rotate_right; (first | rfl | skip)) | (with_reducible refine Bx.other ?_ (by first | (simp; done) | (simp; omega)) _))⟩ ?_
  rintro w2 ⟨hb2, x2, x3⟩
  have H2 := Lib.hid (H.out.grow hb2)
  have hdl : Hid (d < w.heap.size) := by obtain ⟨_, _, hR, _⟩ := H.out; exact hR.box.lt
  refine (check_any H2.out).mono ?_
  rintro e w3 ⟨rfl, hw⟩
  subst hw
  have c2 := (x2.2 0 _ rfl).1
  have c3 := (x3.2 0 _ rfl).1
  have lt2 := x2.lt
  have lt3 := x3.lt
  unfold chkD
  rcases hd : s.down with _ | _
  · replace hr := hr.out
    rw [hd, if_neg (by simp)] at hr
    replace hd := Lib.hid hd
    obtain ⟨mb, fs, hR, hS⟩ := H2.out
    have k1 := (hR.box.2 1 _ rfl).1
    have lt := hR.box.lt
    have hlc : lkC s.fs nm.data.toList = (lk fs nm.data.toList).map FR.fl := by rw [hR.eq, lk_fl]
    rw [hlc] at hr
    have HR := Lib.hid hR
    have HS := Lib.hid hS
    replace x2 := Lib.hid x2
    replace x3 := Lib.hid x3
    have LK := fun (wx : World) (hb : Below w3.heap.size w3 wx) => look_fs (HR.out.grow hb).map Tryz.underlying9 Tryz.underlying95 (zeroP _) hm
    clear hR hS hlc
    rcases hl : lk fs nm.data.toList with _ | r
    · rw [hl] at hr LK
      rw [Option.map_none] at hr
      have hpv : ptrV none = .pointer none := rfl
      rw [hpv] at LK
      replace hl := Lib.hid hl
      replace hr := Lib.hid hr
      go_wp2_with fail
      refine wp_region_ord [(0, 1), (1, 1), (2, 1), (3, 1), (4, 1), (5, 1), (6, 1)] [] 5 (by kernel_rfl) (by decide +kernel) ?_
      simp only [pickO, List.append_eq, List.cons_append, List.nil_append, List.getElem?_cons_succ, List.getElem?_cons_zero]
      intro w0 hG
      (repeat ((first | (with_reducible refine ord_q1 ?_) | (with_reducible refine ord_q0 ?_)); intro K hK; first | (refine Or.inr ⟨?_, ?_⟩; (focus (go_simp; first | done | (simp [undef]; done))); go_simp; (with_reducible refine hK _ ?_); clear hK K) | (refine Or.inl ⟨?_, ?_⟩; (focus (go_simp; done)); apply Exists.intro; refine And.intro ?_ ?_; (focus (first | (intro wq hq; obtain ⟨hcq, hfq⟩ := G.old hq; go_simp; (first | done | exact rfl); done) | (intro wq; go_simp; (first | done | exact rfl); done))); go_simp; (with_reducible refine hK _ ?_); clear hK K) | fail))
      (with_reducible refine ord_q1 ?_); intro K hK; refine Or.inl ⟨?_, ?_⟩; (focus (go_simp; done)); apply Exists.intro; refine And.intro ?_ ?_; (focus (intro wq hq; obtain ⟨hcq, hfq⟩ := G.old hq; have hLKq := LK wq hq.b; go_simp; (first | done | exact rfl); done)); go_simp; (with_reducible refine hK _ ?_); clear hK K; (repeat ((first | (with_reducible refine ord_q1 ?_) | (with_reducible refine ord_q0 ?_)); intro K hK; first | (refine Or.inr ⟨?_, ?_⟩; (focus (go_simp; first | done | (simp [undef]; done))); go_simp; (with_reducible refine hK _ ?_); clear hK K) | (refine Or.inl ⟨?_, ?_⟩; (focus (go_simp; done)); apply Exists.intro; refine And.intro ?_ ?_; (focus (first | (intro wq hq; obtain ⟨hcq, hfq⟩ := G.old hq; go_simp; (first | done | exact rfl); done) | (intro wq; go_simp; (first | done | exact rfl); done))); go_simp; (with_reducible refine hK _ ?_); clear hK K) | fail))
      (with_reducible refine ord_nil ?_)
      go_wp2_with fail
      go_ret
      exact RetE.mk hr.out.symm rfl (RetD.of_below H.out (G.trans hb2 hG.b))
    · rw [hl] at hr LK
      have hpv : ptrV (some r) = .pointer (some ⟨r.fb, 0, none⟩) := rfl
      rw [hpv] at LK
      rw [Option.map_some] at hr
      replace hl := Lib.hid hl
      replace hr := Lib.hid hr
      go_wp2_with fail
      refine wp_region_ord [(0, 1), (1, 1), (2, 1), (3, 1), (4, 1), (5, 1), (6, 1)] [] 5 (by kernel_rfl) (by decide +kernel) ?_
      simp only [pickO, List.append_eq, List.cons_append, List.nil_append, List.getElem?_cons_succ, List.getElem?_cons_zero]
      intro w0 hG
      (repeat ((first | (with_reducible refine ord_q1 ?_) | (with_reducible refine ord_q0 ?_)); intro K hK; first | (refine Or.inr ⟨?_, ?_⟩; (focus (go_simp; first | done | (simp [undef]; done))); go_simp; (with_reducible refine hK _ ?_); clear hK K) | (refine Or.inl ⟨?_, ?_⟩; (focus (go_simp; done)); apply Exists.intro; refine And.intro ?_ ?_; (focus (first | (intro wq hq; obtain ⟨hcq, hfq⟩ := G.old hq; go_simp; (first | done | exact rfl); done) | (intro wq; go_simp; (first | done | exact rfl); done))); go_simp; (with_reducible refine hK _ ?_); clear hK K) | fail))
      (with_reducible refine ord_q1 ?_); intro K hK; refine Or.inl ⟨?_, ?_⟩; (focus (go_simp; done)); apply Exists.intro; refine And.intro ?_ ?_; (focus (intro wq hq; obtain ⟨hcq, hfq⟩ := G.old hq; have hLKq := LK wq hq.b; go_simp; (first | done | exact rfl); done)); go_simp; (with_reducible refine hK _ ?_); clear hK K; (repeat ((first | (with_reducible refine ord_q1 ?_) | (with_reducible refine ord_q0 ?_)); intro K hK; first | (refine Or.inr ⟨?_, ?_⟩; (focus (go_simp; first | done | (simp [undef]; done))); go_simp; (with_reducible refine hK _ ?_); clear hK K) | (refine Or.inl ⟨?_, ?_⟩; (focus (go_simp; done)); apply Exists.intro; refine And.intro ?_ ?_; (focus (first | (intro wq hq; obtain ⟨hcq, hfq⟩ := G.old hq; go_simp; (first | done | exact rfl); done) | (intro wq; go_simp; (first | done | exact rfl); done))); go_simp; (with_reducible refine hK _ ?_); clear hK K) | fail))
      (with_reducible refine ord_nil ?_)
      have hbg := hG.b
      have hb40 := G.trans hb2 hbg
      replace c2 := G.cell c2 hbg
      replace c3 := G.cell c3 hbg
      replace lt2 := cell_lt c2
      replace lt3 := cell_lt c3
      dsimp only at lt2 lt3
      have HR0 := Lib.hid (HR.out.grow hbg)
      have X2 := Lib.hid (x2.out.grow hbg)
      have X3 := Lib.hid (x3.out.grow hbg)
      clear LK hG
      go_wp2_with fail
      refine (perform_op (g := fun s => { s with fs := delC s.fs nm.data.toList }) HR0.out HS.out (EC.out _) (fun w1 hw1 hbx hsz => remove1_any hw1 HS.out (hbx _ _ X2.out (by have := hdl.out; omega)) (hbx _ _ X3.out (by have := hdl.out; omega)) hm)).mono ?_
      rintro e w5 ⟨rfl, hr5⟩
      go_wp2_with fail
      go_ret
      exact RetE.mk (by rw [← hr.out]) rfl (hr5.after (DChg.of_below hb40))
  · replace hr := hr.out
    rw [hd, if_pos rfl] at hr
    replace hr := Lib.hid hr
    replace hd := Lib.hid hd
    go_wp2_with fail
    go_ret
    exact RetE.mk hr.out.symm rfl (RetD.of_below H.out hb2)
set_option maxRecDepth 20000 in set_option maxHeartbeats 1000000 in
theorem sync1_any {B2 : Nat} {nm : List UInt8} (hR : DevR w d mb s fs) (hS : ∀ z, S z ↔ hasD d mb fs z) (hl : lk fs nm = some r) (hb2 : Bx w B2 [.pointer (some ⟨r.fb, 0, none⟩)]) :
    Calls Tryz.prog 95 #[.pointer (some ⟨B2, 0, none⟩)] w fun e w' => e = .returned (.tuple #[]) ∧ RetD d S { s with fs := updC s.fs nm { r.fl with dur := r.data.length } } w w' := by
  obtain ⟨hF, hrm, hrn⟩ := lk_rec hR hl
  have k0 := (hF.box.2 0 _ rfl).1
  have hv : r.val = .slice r.A r.data.length r.cap := rfl
  rw [hv] at k0
  have lt := hF.box.lt
  have c2 := (hb2.2 0 _ rfl).1
  have lt2 := hb2.lt
  have H := Lib.hid hR
  replace hl := Lib.hid hl
  clear hR hb2 hF hv
  go_enter Tryz.func95, Tryz.ntmps95
  go_wp2_with fail
  refine wp_region_ord [(0, 1), (1, 1), (2, 1), (3, 1), (4, 1), (5, 1), (6, 1), (7, 1), (8, 3)] [8] 5 (by kernel_rfl) (by decide +kernel) ?_
  simp only [pickO, List.append_eq, List.cons_append, List.nil_append, List.getElem?_cons_succ, List.getElem?_cons_zero]
  intro w0 hG
  (repeat ((first | (with_reducible refine ord_q1 ?_) | (with_reducible refine ord_q0 ?_)); intro K hK; first | (refine Or.inr ⟨?_, ?_⟩; (focus (go_simp; first | done | (simp [undef]; done))); go_simp; (with_reducible refine hK _ ?_); clear hK K) | (refine Or.inl ⟨?_, ?_⟩; (focus (go_simp; done)); apply Exists.intro; refine And.intro ?_ ?_; (focus (first | (intro wq hq; obtain ⟨hcq, hfq⟩ := G.old hq; go_simp; (first | done | exact rfl); done) | (intro wq; go_simp; (first | done | exact rfl); done))); go_simp; (with_reducible refine hK _ ?_); clear hK K) | fail))
  have hF0 := (H.out.grow hG.b).files r hrm
  have hfin : RetD d S { s with fs := updC s.fs nm { r.fl with dur := r.data.length } } w (w0.setCell ⟨r.fb, 1, none⟩ (.int .i64 r.data.length)) := by
    have h1 := RetD.file (x := { r with dur := r.data.length }) (H.out.grow hG.b) hS hl.out hrn rfl (w' := w0.setCell ⟨r.fb, 1, none⟩ (.int .i64 r.data.length)) ((DChg.refl _ _).setCell (.inl rfl) _ _) ⟨hF0.box.put rfl, own_blk hF0.row fun g hg => Below.heap_setCell _ _ _ g fun e => hF0.ne (by rw [← (show g = r.fb from e)]; exact hg), hF0.ne⟩ (fun y hy => .inl hy)
    exact h1.after (DChg.of_below hG.b)
  have f0 := (hF0.box.2 1 _ rfl).2
  obtain ⟨u1, g1⟩ := hF0.box.2 1 _ rfl
  replace hfin := Lib.hid hfin
  clear hF0
  ((with_reducible refine ord_tail ?_); intro K hK; go_simp; (with_reducible refine hK _ _ ?_); clear hK K)
  (with_reducible refine ord_nil ?_)
  go_end0
  exact ⟨rfl, hfin.out⟩
set_option maxRecDepth 20000 in set_option maxHeartbeats 2000000 in
theorem sync_any (h : DevW w d S s) (nm : ByteArray) (hm : nm.size ≤ maxLen) : Calls Tryz.prog 75 #[.pointer (some ⟨d, 0, none⟩), .string nm] w (RetE d S (syncD s nm.data.toList) w) := by
  have H := Lib.hid h
  obtain ⟨R, hr⟩ : ∃ R, syncD s nm.data.toList = R := ⟨_, rfl⟩
  rw [hr]
  unfold syncD at hr
  have EC := Lib.hid (fun c w => Tryz.call95 c w : ∀ c, Ent 95 c)
  have CK := Lib.hid (check_any h)
  unfold chkD at CK
  obtain ⟨mb, fs, hR, hS⟩ := h
  have k1 := (hR.box.2 1 _ rfl).1
  have lt := hR.box.lt
  have hlc : lkC s.fs nm.data.toList = (lk fs nm.data.toList).map FR.fl := by rw [hR.eq, lk_fl]
  rw [hlc] at hr
  have LK := look_fs hR.map Tryz.underlying9 Tryz.underlying95 (zeroP _) hm
  have HR := Lib.hid hR
  have HS := Lib.hid hS
  clear hR hS hlc
  rcases hd : s.down with _ | _
  · rw [hd, if_neg (by simp)] at hr
    rw [hd] at CK
    replace hd := Lib.hid hd
    rcases hl : lk fs nm.data.toList with _ | r
    · rw [hl] at hr LK
      rw [Option.map_none] at hr
      have hpv : ptrV none = .pointer none := rfl
      rw [hpv] at LK
      replace hl := Lib.hid hl
      replace hr := Lib.hid hr
      go_enter Tryz.func75, Tryz.ntmps75
      go_wp2_with fail
      refine CK.out.mono ?_
      rintro e w3 ⟨rfl, hw⟩
      subst hw
      go_wp2_with fail
      go_ret
      exact RetE.mk hr.out.symm rfl (RetD.of_below H.out (by repeat (first | with_reducible assumption | with_reducible exact G.refl _ | with_reducible refine G.drew ?_ | with_reducible refine G.drewN ?_ _ | with_reducible refine G.alloc ?_ _ | with_reducible refine Below.setCell ?_ (by first | (simp; done) | (simp; omega)) _ | with_reducible refine G.trans ?_ hb12 | with_reducible refine G.trans ?_ hb11 | with_reducible refine G.trans ?_ hb10 | with_reducible refine G.trans ?_ hb9 | with_reducible refine G.trans ?_ hb8 | with_reducible refine G.trans ?_ hb7 | with_reducible refine G.trans ?_ hb6 | with_reducible refine G.trans ?_ hb5 | with_reducible refine G.trans ?_ hb4 | with_reducible refine G.trans ?_ hb3 | with_reducible refine G.trans ?_ hb2 | with_reducible refine G.trans ?_ hb1 | with_reducible refine G.trans ?_ hb | assumption)))
    · rw [hl] at hr LK
      have hpv : ptrV (some r) = .pointer (some ⟨r.fb, 0, none⟩) := rfl
      rw [hpv] at LK
      rw [Option.map_some] at hr
      replace hl := Lib.hid hl
      replace hr := Lib.hid hr
      go_enter Tryz.func75, Tryz.ntmps75
      go_wp2_with fail
      refine CK.out.mono ?_
      rintro e w3 ⟨rfl, hw⟩
      subst hw
      go_wp2_with fail
      refine calls_name (fun wx => Below w3.heap.size w3 wx ∧ Bx wx w3.heap.size [.pointer (some ⟨r.fb, 0, none⟩)]) ⟨by repeat (first | with_reducible assumption | with_reducible exact G.refl _ | with_reducible refine G.drew ?_ | with_reducible refine G.drewN ?_ _ | with_reducible refine G.alloc ?_ _ | with_reducible refine Below.setCell ?_ (by first | (simp; done) | (simp; omega)) _ | with_reducible refine G.trans ?_ hb12 | with_reducible refine G.trans ?_ hb11 | with_reducible refine G.trans ?_ hb10 | with_reducible refine G.trans ?_ hb9 | with_reducible refine G.trans ?_ hb8 | with_reducible refine G.trans ?_ hb7 | with_reducible refine G.trans ?_ hb6 | with_reducible refine G.trans ?_ hb5 | with_reducible refine G.trans ?_ hb4 | with_reducible refine G.trans ?_ hb3 | with_reducible refine G.trans ?_ hb2 | with_reducible refine G.trans ?_ hb1 | with_reducible refine G.trans ?_ hb | assumption), by repeat (first | with_reducible assumption | (with_reducible exact Bx.new (by simp; done) (by rfl)) | (with_reducible refine Bx.alloc ?_ _) | (with_reducible refine Bx.drewN ?_ _) | ((with_reducible apply Bx.put); rotate_right; (first | rfl | skip)) | (with_reducible refine Bx.other ?_ (by first | (simp; done) | (simp; omega)) _))⟩ ?_
      rintro w4 ⟨hb4, x4⟩
      have HR0 := Lib.hid (HR.out.grow hb4)
      have X4 := Lib.hid x4
      have hne : w3.heap.size ≠ d := by have := HR.out.box.lt; omega
      clear LK x4
      refine (perform_op (g := fun s => { s with fs := updC s.fs nm.data.toList { r.fl with dur := r.data.length } }) HR0.out HS.out (EC.out _) (fun w1 hw1 hbx hsz => sync1_any hw1 HS.out hl.out (hbx _ _ X4.out hne))).mono ?_
      rintro e w5 ⟨rfl, hr5⟩
      go_wp2_with fail
      go_ret
      exact RetE.mk (by rw [← hr.out]; rfl) rfl (hr5.after (DChg.of_below hb4))
  · rw [hd, if_pos rfl] at hr
    rw [hd] at CK
    replace hr := Lib.hid hr
    replace hd := Lib.hid hd
    go_enter Tryz.func75, Tryz.ntmps75
    go_wp2_with fail
    refine CK.out.mono ?_
    rintro e w3 ⟨rfl, hw⟩
    subst hw
    go_wp2_with fail
    go_ret
    exact RetE.mk hr.out.symm rfl (RetD.of_below H.out (G.refl _))
end
end Go.Proofs.YtbafnlccpbonmaaGreatDoor

namespace Go.Proofs.YtbafnlccpbonmaaGreatDoor
set_option linter.unusedVariables false
set_option linter.unnecessarySimpa false
set_option linter.unusedSimpArgs false
open Go.RowKit

section
variable {P : Program} {w : World}
theorem run_appStr (base : Nat) (t u ty e : TypeId) (i : TypeInfo) (ht : P.underlying t = some (.slice e)) (hu : P.underlying u = some .string) (hi : P.info? e = some i) (hz : i.zero = some (.int .u8 0))
    (hsize : i.size = 1) (hby : i.bytes = 1) (v : Value) (n : Nat) (xs : List Value) (hown : w.ownsRow base e 1 v n xs) (s : ByteArray)
    (h63 : n + s.size ≤ maxLen) (hbytes : n + s.size ≤ 140737488355328) (hbase : base ≤ w.heap.size) :
    ∃ v' w', (Builtin.append_ #[t, u] ty #[v, .string s]).run P w = .ok v' w' ∧ w'.ownsRow base e 1 v' (n + s.size) (xs ++ Lib.strCells s) ∧ w.grownBy w' v.ownBlock ∧
      (v'.ownBlock = v.ownBlock ∨ ∃ g, v'.ownBlock = some g ∧ w.heap.size ≤ g) := by
  obtain ⟨v', w', hrun, h1, h2, h3⟩ := Lib.run_append_own_string (P := P) w base t u ty e i ht hu hi hz hsize hby v n xs hown s h63 hbytes hbase
  refine ⟨v', w', hrun, h1, h2, ?_⟩
  have hxl : xs.length = n := by simpa using hown.1
  rcases hown.2 with ⟨rfl, rfl⟩ | ⟨g, cap, cur, rfl, hbg, hg, hnc, hcm, hcs, htake⟩
  · have hx : xs = [] := List.eq_nil_of_length_eq_zero hxl
    subst hx
    obtain ⟨v2, w2, hrun2, k1, _, _⟩ := Lib.run_append_own_string (P := P) w w.heap.size t u ty e i ht hu hi hz hsize hby (.slice none 0 0) 0 [] (World.ownsRow_nil _ _ _ _) s h63 hbytes (Nat.le_refl _)
    rw [hrun] at hrun2
    cases hrun2
    rcases hb : v'.ownBlock with _ | g
    · exact .inl rfl
    · exact .inr ⟨g, rfl, (k1.lt g hb).1⟩
  · by_cases hroom : n + s.size ≤ cap
    · have hcs' : cur.size = cap := by simpa using hcs
      have hr := Lib.run_append_room_string (P := P) w t u ty e i ht hu hi hsize g n cap cur hg s hroom (by omega)
      rw [hrun] at hr
      cases hr
      exact .inl rfl
    · have holds : ∀ j u, xs[j]? = some u → w.cell? ((⟨g, 0, none⟩ : Addr).add j) = some u := hown.cells (g := g) rfl
      have hr := Lib.run_append_grow_string (P := P) w t u ty e i (.int .u8 0) ht hu hi hz ⟨g, 0, none⟩ n cap xs (by rw [hsize]; simpa using hxl) holds s (by omega) (by simp only [maxLen] at h63; omega) (by rw [hby]; exact growslice_fits (by omega) (by omega))
      rw [hrun] at hr
      cases hr
      exact .inr ⟨_, rfl, Nat.le_refl _⟩
theorem step_appS {ops : Array Oper} {o : Oper} {a : Act} {K : Act → World → Prop} {Q : Exit → Act → World → Prop} {E : Prop} (hgd : o.guard = none) (sl x : Operand) (t u : TypeId)
    (ho : o.op = .call { callee := .builtin .append, args := #[sl, x], argTypes := #[t, u] })
    (base : Nat) (e : TypeId) (i : TypeInfo) (ht : P.underlying t = some (.slice e)) (hu : P.underlying u = some .string) (hi : P.info? e = some i) (hz : i.zero = some (.int .u8 0)) (hsize : i.size = 1) (hby : i.bytes = 1)
    (v : Value) (n : Nat) (xs : List Value) (hs : a.eval sl = v) (hown : w.ownsRow base e 1 v n xs) (s : ByteArray) (hx : a.eval x = .string s)
    (h63 : n + s.size ≤ maxLen) (hbytes : n + s.size ≤ 140737488355328) (hbase : base ≤ w.heap.size)
    (h : ∀ A' c' w', w'.ownsRow base e 1 (.slice A' (n + s.size) c') (n + s.size) (xs ++ Lib.strCells s) → n + s.size ≤ c' → c' ≤ maxLen → w.grownBy w' v.ownBlock →
      ((Value.slice A' (n + s.size) c').ownBlock = v.ownBlock ∨ ∃ g, (Value.slice A' (n + s.size) c').ownBlock = some g ∧ w.heap.size ≤ g) → K (a.put o.dst (.slice A' (n + s.size) c')) w') :
    if Region.wanted o (yielded ops a.tmps) = true then Oper.wp P o a w K Q else E := by
  have hw : Region.wanted o (yielded ops a.tmps) = true := by simp [Region.wanted, hgd]
  rw [if_pos hw]
  obtain ⟨v', w', hrun, h2, h3, h4⟩ := run_appStr (P := P) base t u o.type e i ht hu hi hz hsize hby v n xs hown s h63 hbytes hbase
  obtain ⟨A', c', rfl, h5, h6⟩ := own_shape h2
  unfold Oper.wp execOp
  simp only [ho, resolve, invoke, builtin, Sem.run_bind, Sem.run_pure, Result.andThen_ok, List.map_toArray, List.map_cons, List.map_nil, hs, hx, hrun]
  exact h A' c' w' h2 h5 h6 h3 h4
end
end Go.Proofs.YtbafnlccpbonmaaGreatDoor

namespace Go.Proofs.YtbafnlccpbonmaaGreatDoor
set_option linter.unusedVariables false
set_option linter.unnecessarySimpa false
set_option linter.unusedSimpArgs false
open Go.RowKit

def truncD (s : Ds) (nm : List UInt8) (sz : Int) : Int × Ds := if s.down = true then (31, s) else match lkC s.fs nm with
  | none => (8, s)
  | some f => if sz < 0 ∨ (f.data.length : Int) < sz then (2, s) else perfD s id fun s => { s with fs := updC s.fs nm ⟨f.name, f.data.take sz.toNat, min f.dur sz.toNat⟩ }
def appendC (s : Ds) (nm : List UInt8) (f : Fl) (l : List UInt8) : Ds := { s with fs := updC s.fs nm ⟨f.name, f.data ++ l, f.dur⟩ }
def appendD (s : Ds) (nm l : List UInt8) : Int × Ds := if s.down = true then (31, s) else match lkC s.fs nm with
  | none => (8, s)
  | some f => if 16777216 < f.data.length + l.length then (5, s) else if freeD s < (l.length : Int) then (32, s) else perfD s (fun s => appendC s nm f l) id
theorem own_take {w : World} {base : Nat} {e : TypeId} {A : Option Addr} {n c k : Nat} {xs : List Value} (h : w.ownsRow base e 1 (.slice A n c) n xs) (hk : k ≤ n) : w.ownsRow base e 1 (.slice A k c) k (xs.take k) := by
  have hl := h.1
  refine ⟨by rw [List.length_take]; omega, ?_⟩
  rcases h.2 with ⟨h0, h1⟩ | ⟨g, cap, cur, hv, hg, hh, hnc, hcm, hcs, ht⟩
  · subst h1
    have : k = 0 := by omega
    subst this
    cases h0
    exact .inl ⟨rfl, rfl⟩
  · cases hv
    refine .inr ⟨g, c, cur, rfl, hg, hh, by omega, hcm, hcs, ?_⟩
    rw [← ht, List.take_take]
    congr 1
    omega
theorem own_A (A : Option Addr) (n c m e : Nat) : (Value.slice A n c).ownBlock = (Value.slice A m e).ownBlock := by cases A <;> rfl
section
variable {w w' w1 : World} {d mb : Nat} {s s' : Ds} {fs : List FR} {r q x : FR} {S : Nat → Prop} {n : List UInt8}
/-- A file's struct is written; its bytes' row is as it was. -/
theorem RetD.box (h : DevR w d mb s fs) (hS : ∀ z, S z ↔ hasD d mb fs z) (hl : lk fs n = some r) (hn : x.name = n) (hb : x.fb = r.fb) (hc : DChg (fun z => z = r.fb) w w') (hx : Bx w' r.fb [x.val, .int .i64 x.dur])
    (hrow : w.ownsRow 0 5 1 x.val x.data.length (u8s x.data)) (hob : ∀ y, x.val.ownBlock = some y → r.val.ownBlock = some y) : RetD d S { s with fs := updC s.fs n x.fl } w w' := by
  obtain ⟨hF, hrm, hrn⟩ := lk_rec h hl
  have hne : ∀ y, x.val.ownBlock = some y → y ≠ r.fb := fun y hy e => hF.ne (by rw [← e]; exact hob y hy)
  refine RetD.file h hS hl hn hb (hc.mono fun z hz => .inl hz) ⟨by rw [hb]; exact hx, own_blk hrow fun g hg => hc.2.2 g (hne g hg) (hrow.lt g hg).2, fun e => ?_⟩ (fun y hy => .inl (hob y hy))
  rw [hb] at e
  exact hne _ e rfl
set_option maxRecDepth 20000 in set_option maxHeartbeats 1000000 in
theorem trunc1_any {B2 B3 k : Nat} {nm : List UInt8} (hR : DevR w d mb s fs) (hS : ∀ z, S z ↔ hasD d mb fs z) (hl : lk fs nm = some r) (hb2 : Bx w B2 [.pointer (some ⟨r.fb, 0, none⟩)]) (hb3 : Bx w B3 [.int .i64 k]) (hk : k ≤ r.data.length) (hd : r.dur ≤ r.data.length)
    (h2 : B2 ≠ r.fb) (h3 : B3 ≠ r.fb) :
    Calls Tryz.prog 70 #[.pointer (some ⟨B2, 0, none⟩), .pointer (some ⟨B3, 0, none⟩)] w fun e w' => e = .returned (.tuple #[]) ∧ RetD d S { s with fs := updC s.fs nm ⟨r.name, r.data.take k, min r.dur k⟩ } w w' := by
  obtain ⟨hF, hrm, hrn⟩ := lk_rec hR hl
  have k0 := (hF.box.2 0 _ rfl).1
  have hv : r.val = .slice r.A r.data.length r.cap := rfl
  rw [hv] at k0
  have hcap := own_cap hF.row
  have lt := hF.box.lt
  have c2 := (hb2.2 0 _ rfl).1
  have c3 := (hb3.2 0 _ rfl).1
  have lt2 := hb2.lt
  have lt3 := hb3.lt
  obtain ⟨hc1, hc2⟩ := hcap
  unfold maxLen at hc2
  have hk1 : (k : Int) ≤ (r.cap : Int) := by omega
  have hk2 : (0 : Int) ≤ (k : Int) := by omega
  have hk3 : k ≤ r.cap := by omega
  have HF := Lib.hid hF
  have H := Lib.hid hR
  replace hl := Lib.hid hl
  have X2 := Lib.hid hb2
  have X3 := Lib.hid hb3
  clear hR hb2 hb3 hF hv
  go_enter Tryz.func70, Tryz.ntmps70
  go_wp2_with fail
  refine wp_region_ord [(0, 1), (1, 1), (2, 1), (3, 1), (4, 1), (5, 1), (6, 1), (7, 1), (8, 1), (9, 3)] [9] 5 (by kernel_rfl) (by decide +kernel) ?_
  simp only [pickO, List.append_eq, List.cons_append, List.nil_append, List.getElem?_cons_succ, List.getElem?_cons_zero]
  intro w0 hG
  (repeat ((first | (with_reducible refine ord_q1 ?_) | (with_reducible refine ord_q0 ?_)); intro K hK; first | (refine Or.inr ⟨?_, ?_⟩; (focus (go_simp; first | done | (simp [undef]; done))); go_simp; (with_reducible refine hK _ ?_); clear hK K) | (refine Or.inl ⟨?_, ?_⟩; (focus (go_simp; done)); apply Exists.intro; refine And.intro ?_ ?_; (focus (first | (intro wq hq; obtain ⟨hcq, hfq⟩ := G.old hq; go_simp; (first | done | exact rfl); done) | (intro wq; go_simp; (first | done | exact rfl); done))); go_simp; (with_reducible refine hK _ ?_); clear hK K) | fail))
  have hF0 := HF.out.box.grow hG.b
  obtain ⟨u0, g0⟩ := hF0.2 0 _ rfl
  ((with_reducible refine ord_tail ?_); intro K hK; go_simp; (with_reducible refine hK _ _ ?_); clear hK K)
  (with_reducible refine ord_nil ?_)
  have x1 := hF0.put (i := 0) (v := .slice r.A k r.cap) (l' := [.slice r.A k r.cap, .int .i64 r.dur]) rfl
  have y2 := (X2.out.grow hG.b).other (p := ⟨r.fb, 0, none⟩) h2 (.slice r.A k r.cap)
  have y3 := (X3.out.grow hG.b).other (p := ⟨r.fb, 0, none⟩) h3 (.slice r.A k r.cap)
  have hch : DChg (fun z => z = r.fb) w (w0.setCell ⟨r.fb, 0, none⟩ (.slice r.A k r.cap)) := DChg.setCell (S := fun z => z = r.fb) (DChg.of_below hG.b) (b := r.fb) rfl _ _
  generalize (w0.setCell ⟨r.fb, 0, none⟩ (.slice r.A k r.cap)) = wx at x1 y2 y3 hch ⊢
  clear hF0 u0 g0 hG k0 c2 c3 lt lt2 lt3
  have k1 := (x1.2 1 _ rfl).1
  have lt := x1.lt
  have c2 := (y2.2 0 _ rfl).1
  have c3 := (y3.2 0 _ rfl).1
  have lt2 := y2.lt
  have lt3 := y3.lt
  have fin : Hid (∀ (wy : World) (m : Nat), m = min r.dur k → Bx wy r.fb [.slice r.A k r.cap, .int .i64 m] → DChg (fun z => z = r.fb) w wy → RetD d S { s with fs := updC s.fs nm ⟨r.name, r.data.take k, min r.dur k⟩ } w wy) := fun wy m hm hx hc => by
    subst hm
    have hl0 : (r.data.take k).length = k := by rw [List.length_take]; omega
    have hv : (⟨r.name, r.fb, r.A, r.cap, r.data.take k, min r.dur k⟩ : FR).val = .slice r.A k r.cap := by show Value.slice r.A (r.data.take k).length r.cap = _; rw [hl0]
    refine RetD.box (x := ⟨r.name, r.fb, r.A, r.cap, r.data.take k, min r.dur k⟩) H.out hS hl.out hrn rfl hc (by rw [hv]; exact hx) ?_ (fun y hy => by rw [hv] at hy; rw [← hy]; exact own_A _ _ _ _ _)
    rw [hv, show (⟨r.name, r.fb, r.A, r.cap, r.data.take k, min r.dur k⟩ : FR).data.length = k from hl0]
    have h5 := own_take HF.out.row hk
    rw [show u8s (r.data.take k) = (u8s r.data).take k from List.map_take]
    exact h5
  replace x1 := Lib.hid x1
  replace y2 := Lib.hid y2
  replace y3 := Lib.hid y3
  by_cases hkd : k < r.dur
  · have hkd' : (k : Int) < (r.dur : Int) := by omega
    have hmin : min r.dur k = k := by omega
    go_wp2_with fail
    refine wp_region_ord [(0, 1), (1, 1), (2, 1), (3, 1), (4, 1), (5, 1), (6, 1), (7, 1), (8, 1), (9, 3)] [9] 5 (by kernel_rfl) (by decide +kernel) ?_
    simp only [pickO, List.append_eq, List.cons_append, List.nil_append, List.getElem?_cons_succ, List.getElem?_cons_zero]
    intro w0 hG
    (repeat ((first | (with_reducible refine ord_q1 ?_) | (with_reducible refine ord_q0 ?_)); intro K hK; first | (refine Or.inr ⟨?_, ?_⟩; (focus (go_simp; first | done | (simp [undef]; done))); go_simp; (with_reducible refine hK _ ?_); clear hK K) | (refine Or.inl ⟨?_, ?_⟩; (focus (go_simp; done)); apply Exists.intro; refine And.intro ?_ ?_; (focus (first | (intro wq hq; obtain ⟨hcq, hfq⟩ := G.old hq; go_simp; (first | done | exact rfl); done) | (intro wq; go_simp; (first | done | exact rfl); done))); go_simp; (with_reducible refine hK _ ?_); clear hK K) | fail))
    have hF0 := x1.out.grow hG.b
    obtain ⟨u0, g0⟩ := hF0.2 1 _ rfl
    have fin2 := fin.out _ k hmin.symm (hF0.put (i := 1) (v := .int .i64 k) rfl) (DChg.setCell (S := fun z => z = r.fb) (hch.trans (DChg.of_below (S := fun z => z = r.fb) hG.b) fun z hz => .inl hz) (b := r.fb) rfl _ _)
    ((with_reducible refine ord_tail ?_); intro K hK; go_simp; (with_reducible refine hK _ _ ?_); clear hK K)
    (with_reducible refine ord_nil ?_)
    go_end0
    exact ⟨rfl, fin2⟩
  · have hkd' : ¬ (k : Int) < (r.dur : Int) := by omega
    have hmin : min r.dur k = r.dur := by omega
    go_wp2_with fail
    refine wp_region_ord [(0, 1), (1, 1), (2, 1), (3, 1), (4, 1), (5, 1), (6, 1), (7, 1), (8, 1), (9, 3)] [9] 5 (by kernel_rfl) (by decide +kernel) ?_
    simp only [pickO, List.append_eq, List.cons_append, List.nil_append, List.getElem?_cons_succ, List.getElem?_cons_zero]
    intro w0 hG
    (repeat ((first | (with_reducible refine ord_q1 ?_) | (with_reducible refine ord_q0 ?_)); intro K hK; first | (refine Or.inr ⟨?_, ?_⟩; (focus (go_simp; first | done | (simp [undef]; done))); go_simp; (with_reducible refine hK _ ?_); clear hK K) | (refine Or.inl ⟨?_, ?_⟩; (focus (go_simp; done)); apply Exists.intro; refine And.intro ?_ ?_; (focus (first | (intro wq hq; obtain ⟨hcq, hfq⟩ := G.old hq; go_simp; (first | done | exact rfl); done) | (intro wq; go_simp; (first | done | exact rfl); done))); go_simp; (with_reducible refine hK _ ?_); clear hK K) | fail))
    have hF0 := x1.out.grow hG.b
    obtain ⟨u0, g0⟩ := hF0.2 1 _ rfl
    have fin2 := fin.out _ r.dur hmin.symm (hF0.put (i := 1) (v := .int .i64 r.dur) rfl) (DChg.setCell (S := fun z => z = r.fb) (hch.trans (DChg.of_below (S := fun z => z = r.fb) hG.b) fun z hz => .inl hz) (b := r.fb) rfl _ _)
    ((with_reducible refine ord_tail ?_); intro K hK; go_simp; (with_reducible refine hK _ _ ?_); clear hK K)
    (with_reducible refine ord_nil ?_)
    go_end0
    exact ⟨rfl, fin2⟩
set_option maxRecDepth 20000 in set_option maxHeartbeats 2000000 in
theorem trunc_any (h : DevW w d S s) (ho : s.Ok) (nm : ByteArray) (hm : nm.size ≤ maxLen) (sz : Int) : Calls Tryz.prog 30 #[.pointer (some ⟨d, 0, none⟩), .string nm, .int .i64 sz] w (RetE d S (truncD s nm.data.toList sz) w) := by
  have H := Lib.hid h
  obtain ⟨R, hr⟩ : ∃ R, truncD s nm.data.toList sz = R := ⟨_, rfl⟩
  rw [hr]
  unfold truncD at hr
  have EC := Lib.hid (fun c w => Tryz.call70 c w : ∀ c, Ent 70 c)
  replace hr := Lib.hid hr
  go_enter Tryz.func30, Tryz.ntmps30
  go_wp2_with fail
  refine calls_name (fun wx => Below w.heap.size w wx ∧ Bx wx w.heap.size [.int .i64 sz]) ⟨by repeat (first | with_reducible assumption | with_reducible exact G.refl _ | with_reducible refine G.drew ?_ | with_reducible refine G.drewN ?_ _ | with_reducible refine G.alloc ?_ _ | with_reducible refine Below.setCell ?_ (by first | (simp; done) | (simp; omega)) _ | with_reducible refine G.trans ?_ hb12 | with_reducible refine G.trans ?_ hb11 | with_reducible refine G.trans ?_ hb10 | with_reducible refine G.trans ?_ hb9 | with_reducible refine G.trans ?_ hb8 | with_reducible refine G.trans ?_ hb7 | with_reducible refine G.trans ?_ hb6 | with_reducible refine G.trans ?_ hb5 | with_reducible refine G.trans ?_ hb4 | with_reducible refine G.trans ?_ hb3 | with_reducible refine G.trans ?_ hb2 | with_reducible refine G.trans ?_ hb1 | with_reducible refine G.trans ?_ hb | assumption), by repeat (first | with_reducible assumption | (with_reducible exact Bx.new (by simp; done) (by rfl)) | (with_reducible refine Bx.alloc ?_ _) | (with_reducible refine Bx.drewN ?_ _) | ((with_reducible apply Bx.put); rotate_right; (first | rfl | skip)) | (with_reducible refine Bx.other ?_ (by first | (simp; done) | (simp; omega)) _))⟩ ?_
  rintro w2 ⟨hb2, x2⟩
  have H2 := Lib.hid (H.out.grow hb2)
  refine (check_any H2.out).mono ?_
  rintro e w3 ⟨rfl, hw⟩
  subst hw
  have c2 := (x2.2 0 _ rfl).1
  have lt2 := x2.lt
  unfold chkD
  rcases hd : s.down with _ | _
  · replace hr := hr.out
    rw [hd, if_neg (by simp)] at hr
    replace hd := Lib.hid hd
    obtain ⟨mb, fs, hR, hS⟩ := H2.out
    have k1 := (hR.box.2 1 _ rfl).1
    have lt := hR.box.lt
    have hlc : lkC s.fs nm.data.toList = (lk fs nm.data.toList).map FR.fl := by rw [hR.eq, lk_fl]
    rw [hlc] at hr
    have HR := Lib.hid hR
    have HS := Lib.hid hS
    have LK := look_fs hR.map Tryz.underlying9 Tryz.underlying95 (zeroP _) hm
    rcases hl : lk fs nm.data.toList with _ | r
    · rw [hl] at hr LK
      rw [Option.map_none] at hr
      have hpv : ptrV none = .pointer none := rfl
      rw [hpv] at LK
      replace hl := Lib.hid hl
      replace hr := Lib.hid hr
      clear hR hS hlc
      go_wp2_with fail
      go_ret
      exact RetE.mk hr.out.symm rfl (RetD.of_below H.out (by repeat (first | with_reducible assumption | with_reducible exact G.refl _ | with_reducible refine G.drew ?_ | with_reducible refine G.drewN ?_ _ | with_reducible refine G.alloc ?_ _ | with_reducible refine Below.setCell ?_ (by first | (simp; done) | (simp; omega)) _ | with_reducible refine G.trans ?_ hb12 | with_reducible refine G.trans ?_ hb11 | with_reducible refine G.trans ?_ hb10 | with_reducible refine G.trans ?_ hb9 | with_reducible refine G.trans ?_ hb8 | with_reducible refine G.trans ?_ hb7 | with_reducible refine G.trans ?_ hb6 | with_reducible refine G.trans ?_ hb5 | with_reducible refine G.trans ?_ hb4 | with_reducible refine G.trans ?_ hb3 | with_reducible refine G.trans ?_ hb2 | with_reducible refine G.trans ?_ hb1 | with_reducible refine G.trans ?_ hb | assumption)))
    · rw [hl] at hr LK
      have hpv : ptrV (some r) = .pointer (some ⟨r.fb, 0, none⟩) := rfl
      rw [hpv] at LK
      rw [Option.map_some] at hr
      obtain ⟨hF, hrm, hrn⟩ := lk_rec hR hl
      have hrfl : r.fl ∈ s.fs := by rw [hR.eq]; exact List.mem_map_of_mem hrm
      have hd1 : r.dur ≤ r.data.length := ho.du _ hrfl
      have hs1 : r.data.length ≤ 16777216 := ho.sz _ hrfl
      have k0 := (hF.box.2 0 _ rfl).1
      have hv : r.val = .slice r.A r.data.length r.cap := rfl
      rw [hv] at k0
      have ltf := hF.box.lt
      have hneB : w.heap.size ≠ r.fb := by
        obtain ⟨mb', fs', hR', hS'⟩ := H.out
        have := (hS r.fb).2 (.inr (.inr ⟨r, hrm, .inl rfl⟩))
        have := H.out.lt this
        omega
      have hdl : d ≠ w.heap.size := by
        have := (hS d).2 (.inl rfl)
        have := H.out.lt this
        omega
      replace hl := Lib.hid hl
      have hdat : r.fl.data.length = r.data.length := rfl
      dsimp only at hr
      rw [hdat] at hr
      clear hR hS hlc hF hv
      by_cases hn : sz < 0
      · rw [if_pos (.inl hn)] at hr
        replace hr := Lib.hid hr
        go_wp2_with fail
        refine wp_name (fun wx => Below w3.heap.size w3 wx ∧ Bx wx w3.heap.size [.pointer (some ⟨r.fb, 0, none⟩)]) ⟨by repeat (first | with_reducible assumption | with_reducible exact G.refl _ | with_reducible refine G.drew ?_ | with_reducible refine G.drewN ?_ _ | with_reducible refine G.alloc ?_ _ | with_reducible refine Below.setCell ?_ (by first | (simp; done) | (simp; omega)) _ | with_reducible refine G.trans ?_ hb12 | with_reducible refine G.trans ?_ hb11 | with_reducible refine G.trans ?_ hb10 | with_reducible refine G.trans ?_ hb9 | with_reducible refine G.trans ?_ hb8 | with_reducible refine G.trans ?_ hb7 | with_reducible refine G.trans ?_ hb6 | with_reducible refine G.trans ?_ hb5 | with_reducible refine G.trans ?_ hb4 | with_reducible refine G.trans ?_ hb3 | with_reducible refine G.trans ?_ hb2 | with_reducible refine G.trans ?_ hb1 | with_reducible refine G.trans ?_ hb | assumption), by repeat (first | with_reducible assumption | (with_reducible exact Bx.new (by simp; done) (by rfl)) | (with_reducible refine Bx.alloc ?_ _) | (with_reducible refine Bx.drewN ?_ _) | ((with_reducible apply Bx.put); rotate_right; (first | rfl | skip)) | (with_reducible refine Bx.other ?_ (by first | (simp; done) | (simp; omega)) _))⟩ ?_
        rintro w4 ⟨hb4, x4⟩
        replace c2 := G.cell c2 hb4
        replace k0 := G.cell k0 hb4
        have c4 := (x4.2 0 _ rfl).1
        replace lt2 := cell_lt c2
        replace ltf := cell_lt k0
        have lt4 := x4.lt
        dsimp only at lt2 ltf
        go_wp2_with fail
        refine wp_region_ord [(0, 1), (1, 1), (2, 1), (3, 1), (4, 1), (5, 1), (6, 1), (7, 1), (8, 1), (9, 1), (10, 1), (11, 1)] [] 5 (by kernel_rfl) (by decide +kernel) ?_
        simp only [pickO, List.append_eq, List.cons_append, List.nil_append, List.getElem?_cons_succ, List.getElem?_cons_zero]
        intro w0 hG
        (repeat ((first | (with_reducible refine ord_q1 ?_) | (with_reducible refine ord_q0 ?_)); intro K hK; first | (refine Or.inr ⟨?_, ?_⟩; (focus (go_simp; first | done | (simp [undef]; done))); go_simp; (with_reducible refine hK _ ?_); clear hK K) | (refine Or.inl ⟨?_, ?_⟩; (focus (go_simp; done)); apply Exists.intro; refine And.intro ?_ ?_; (focus (first | (intro wq hq; obtain ⟨hcq, hfq⟩ := G.old hq; go_simp; (first | done | exact rfl); done) | (intro wq; go_simp; (first | done | exact rfl); done))); go_simp; (with_reducible refine hK _ ?_); clear hK K) | fail))
        (with_reducible refine ord_nil ?_)
        go_wp2_with fail
        go_ret
        exact RetE.mk hr.out.symm rfl (RetD.of_below H.out (G.trans hb2 (G.trans hb4 hG.b)))
      · by_cases hgt : (r.data.length : Int) < sz
        · rw [if_pos (.inr hgt)] at hr
          replace hr := Lib.hid hr
          go_wp2_with fail
          refine wp_name (fun wx => Below w3.heap.size w3 wx ∧ Bx wx w3.heap.size [.pointer (some ⟨r.fb, 0, none⟩)]) ⟨by repeat (first | with_reducible assumption | with_reducible exact G.refl _ | with_reducible refine G.drew ?_ | with_reducible refine G.drewN ?_ _ | with_reducible refine G.alloc ?_ _ | with_reducible refine Below.setCell ?_ (by first | (simp; done) | (simp; omega)) _ | with_reducible refine G.trans ?_ hb12 | with_reducible refine G.trans ?_ hb11 | with_reducible refine G.trans ?_ hb10 | with_reducible refine G.trans ?_ hb9 | with_reducible refine G.trans ?_ hb8 | with_reducible refine G.trans ?_ hb7 | with_reducible refine G.trans ?_ hb6 | with_reducible refine G.trans ?_ hb5 | with_reducible refine G.trans ?_ hb4 | with_reducible refine G.trans ?_ hb3 | with_reducible refine G.trans ?_ hb2 | with_reducible refine G.trans ?_ hb1 | with_reducible refine G.trans ?_ hb | assumption), by repeat (first | with_reducible assumption | (with_reducible exact Bx.new (by simp; done) (by rfl)) | (with_reducible refine Bx.alloc ?_ _) | (with_reducible refine Bx.drewN ?_ _) | ((with_reducible apply Bx.put); rotate_right; (first | rfl | skip)) | (with_reducible refine Bx.other ?_ (by first | (simp; done) | (simp; omega)) _))⟩ ?_
          rintro w4 ⟨hb4, x4⟩
          replace c2 := G.cell c2 hb4
          replace k0 := G.cell k0 hb4
          have c4 := (x4.2 0 _ rfl).1
          replace lt2 := cell_lt c2
          replace ltf := cell_lt k0
          have lt4 := x4.lt
          dsimp only at lt2 ltf
          go_wp2_with fail
          refine wp_region_ord [(0, 1), (1, 1), (2, 1), (3, 1), (4, 1), (5, 1), (6, 1), (7, 1), (8, 1), (9, 1), (10, 1), (11, 1)] [] 5 (by kernel_rfl) (by decide +kernel) ?_
          simp only [pickO, List.append_eq, List.cons_append, List.nil_append, List.getElem?_cons_succ, List.getElem?_cons_zero]
          intro w0 hG
          (repeat ((first | (with_reducible refine ord_q1 ?_) | (with_reducible refine ord_q0 ?_)); intro K hK; first | (refine Or.inr ⟨?_, ?_⟩; (focus (go_simp; first | done | (simp [undef]; done))); go_simp; (with_reducible refine hK _ ?_); clear hK K) | (refine Or.inl ⟨?_, ?_⟩; (focus (go_simp; done)); apply Exists.intro; refine And.intro ?_ ?_; (focus (first | (intro wq hq; obtain ⟨hcq, hfq⟩ := G.old hq; go_simp; (first | done | exact rfl); done) | (intro wq; go_simp; (first | done | exact rfl); done))); go_simp; (with_reducible refine hK _ ?_); clear hK K) | fail))
          (with_reducible refine ord_nil ?_)
          go_wp2_with fail
          go_ret
          exact RetE.mk hr.out.symm rfl (RetD.of_below H.out (G.trans hb2 (G.trans hb4 hG.b)))
        · rw [if_neg (fun hh => by rcases hh with hh | hh; exact hn hh; exact hgt hh)] at hr
          replace hr := Lib.hid hr
          obtain ⟨k, rfl⟩ : ∃ k : Nat, sz = (k : Int) := ⟨sz.toNat, by omega⟩
          have hkl : k ≤ r.data.length := by omega
          go_wp2_with fail
          refine wp_name (fun wx => Below w3.heap.size w3 wx ∧ Bx wx w3.heap.size [.pointer (some ⟨r.fb, 0, none⟩)]) ⟨by repeat (first | with_reducible assumption | with_reducible exact G.refl _ | with_reducible refine G.drew ?_ | with_reducible refine G.drewN ?_ _ | with_reducible refine G.alloc ?_ _ | with_reducible refine Below.setCell ?_ (by first | (simp; done) | (simp; omega)) _ | with_reducible refine G.trans ?_ hb12 | with_reducible refine G.trans ?_ hb11 | with_reducible refine G.trans ?_ hb10 | with_reducible refine G.trans ?_ hb9 | with_reducible refine G.trans ?_ hb8 | with_reducible refine G.trans ?_ hb7 | with_reducible refine G.trans ?_ hb6 | with_reducible refine G.trans ?_ hb5 | with_reducible refine G.trans ?_ hb4 | with_reducible refine G.trans ?_ hb3 | with_reducible refine G.trans ?_ hb2 | with_reducible refine G.trans ?_ hb1 | with_reducible refine G.trans ?_ hb | assumption), by repeat (first | with_reducible assumption | (with_reducible exact Bx.new (by simp; done) (by rfl)) | (with_reducible refine Bx.alloc ?_ _) | (with_reducible refine Bx.drewN ?_ _) | ((with_reducible apply Bx.put); rotate_right; (first | rfl | skip)) | (with_reducible refine Bx.other ?_ (by first | (simp; done) | (simp; omega)) _))⟩ ?_
          rintro w4 ⟨hb4, x4⟩
          replace c2 := G.cell c2 hb4
          replace k0 := G.cell k0 hb4
          have c4 := (x4.2 0 _ rfl).1
          replace lt2 := cell_lt c2
          replace ltf := cell_lt k0
          have lt4 := x4.lt
          dsimp only at lt2 ltf
          go_wp2_with fail
          refine wp_region_ord [(0, 1), (1, 1), (2, 1), (3, 1), (4, 1), (5, 1), (6, 1), (7, 1), (8, 1), (9, 1), (10, 1), (11, 1)] [] 5 (by kernel_rfl) (by decide +kernel) ?_
          simp only [pickO, List.append_eq, List.cons_append, List.nil_append, List.getElem?_cons_succ, List.getElem?_cons_zero]
          intro w0 hG
          (repeat ((first | (with_reducible refine ord_q1 ?_) | (with_reducible refine ord_q0 ?_)); intro K hK; first | (refine Or.inr ⟨?_, ?_⟩; (focus (go_simp; first | done | (simp [undef]; done))); go_simp; (with_reducible refine hK _ ?_); clear hK K) | (refine Or.inl ⟨?_, ?_⟩; (focus (go_simp; done)); apply Exists.intro; refine And.intro ?_ ?_; (focus (first | (intro wq hq; obtain ⟨hcq, hfq⟩ := G.old hq; go_simp; (first | done | exact rfl); done) | (intro wq; go_simp; (first | done | exact rfl); done))); go_simp; (with_reducible refine hK _ ?_); clear hK K) | fail))
          (with_reducible refine ord_nil ?_)
          have hb40 := G.trans hb4 hG.b
          have HR0 := Lib.hid (HR.out.grow hb40)
          have X4 := Lib.hid (x4.grow hG.b)
          have X2 := Lib.hid (x2.grow hb40)
          have hne1 : w3.heap.size ≠ d := by have := HR.out.box.lt; omega
          have hne2 : w3.heap.size ≠ r.fb := by have := (HR.out.files r hrm).box.lt; omega
          have hdl' : w.heap.size ≠ d := fun e => hdl e.symm
          go_wp2_with fail
          refine (perform_op (g := fun s => { s with fs := updC s.fs nm.data.toList ⟨r.name, r.data.take k, min r.dur k⟩ }) HR0.out HS.out (EC.out _) (fun w1 hw1 hbx hsz => trunc1_any hw1 HS.out hl.out (hbx _ _ X4.out hne1) (hbx _ _ X2.out hdl') hkl hd1 hne2 hneB)).mono ?_
          rintro e w5 ⟨rfl, hr5⟩
          go_wp2_with fail
          go_ret
          exact RetE.mk (by rw [← hr.out, Int.toNat_natCast]; simp only [FR.fl, hrn]) rfl (hr5.after (DChg.of_below (G.trans hb2 hb40)))
  · replace hr := hr.out
    rw [hd, if_pos rfl] at hr
    replace hr := Lib.hid hr
    replace hd := Lib.hid hd
    go_wp2_with fail
    go_ret
    exact RetE.mk hr.out.symm rfl (RetD.of_below H.out hb2)
end
end Go.Proofs.YtbafnlccpbonmaaGreatDoor

namespace Go.Proofs.YtbafnlccpbonmaaGreatDoor
set_option linter.unusedVariables false
set_option linter.unnecessarySimpa false
set_option linter.unusedSimpArgs false
open Go.RowKit

theorem Tryz.infoU8 : (Tryz.prog.info? 5).map (fun i => (i.zero, i.size, i.bytes)) = some (some (.int .u8 0), 1, 1) := by kernel_rfl
theorem DChg.grownBy {S : Nat → Prop} {a w w' : World} {row : Option Nat} (h : DChg S a w) (hg : w.grownBy w' row) (hr : ∀ g, row = some g → S g) : DChg S a w' :=
  h.trans (S' := S) ⟨⟨hg.os, hg.tape, hg.output, hg.size, fun k hk => absurd hk (Nat.not_lt_zero _)⟩, hg.size, fun x hx hl => hg.block x hl fun e => hx (hr x e.symm)⟩ fun z hz => .inl hz
/-- A box with a pointer. -/
structure HasP (B fb : Nat) (w : World) : Prop where
  a : Bx w B [.pointer (some ⟨fb, 0, none⟩)]
section
variable {w w' w1 : World} {d mb : Nat} {s s' : Ds} {fs : List FR} {r q x : FR} {S : Nat → Prop} {n : List UInt8}
theorem perform_pre {n1 : Nat} {c1 : Array Value} {f : Ds → Ds} (hR : DevR w d mb s fs) (hS : ∀ z, S z ↔ hasD d mb fs z) (e1 : Ent n1 c1) (hf : (f s).room = s.room ∧ (f s).down = s.down ∧ (f s).lim = s.lim ∧ (f s).left = s.left)
    (h1 : Calls Tryz.prog n1 c1 w fun e w' => e = .returned (.tuple #[]) ∧ ∃ fs', DevR w' d mb (f s) fs' ∧ (∀ z, hasD d mb fs' z → S z ∨ w.heap.size ≤ z) ∧ DChg S w w') :
    Calls Tryz.prog 68 #[.pointer (some ⟨d, 0, none⟩), .func (.func n1) #[] c1, .func (.func 69) #[] #[]] w (RetE d S (perfD s f id) w) := by
  have hSd : S d := (hS d).2 (.inl rfl)
  obtain ⟨f1, f2, f3, f4⟩ := hf
  unfold RetE perfD
  by_cases hc : s.lim = true ∧ s.left ≤ 0
  · rw [if_pos hc]
    refine (perform_fail (room := s.room) (left := s.left) (m := .map (some mb)) (dn := s.down) (D1 := fun w' => ∃ fs', DevR w' d mb (f s) fs' ∧ (∀ z, hasD d mb fs' z → S z ∨ w.heap.size ≤ z) ∧ DChg S w w') e1 (h1.mono fun e w' hh => ⟨hh.1, ?_, hh.2⟩) hc.2).mono ?_
    · obtain ⟨_, fs', hR', _⟩ := hh
      have := hR'.box
      rwa [f1, f2, f3, f4, hc.1] at this
    · rintro e w' ⟨rfl, w0, ⟨fs', hR', hs', hch⟩, rfl⟩
      exact ⟨rfl, _, ⟨mb, fs', hR'.cell (s' := { f s with down := true }) rfl rfl, fun z => Iff.rfl⟩, hs', hch.setCell hSd _ _⟩
  · rw [if_neg hc]
    refine (perform_go (room := s.room) (left := s.left) (m := .map (some mb)) (dn := s.down) (lim := s.lim) (D1 := fun w' => ∃ fs', DevR w' d mb (f s) fs' ∧ (∀ z, hasD d mb fs' z → S z ∨ w.heap.size ≤ z) ∧ DChg S w w') (D2 := fun w' => RetD d S { f s with left := IntKind.i64.wrap (s.left - 1) } w w') e1 (ent_nothing #[]) (h1.mono fun e w' hh => ⟨hh.1, ?_, hh.2⟩) ?_ ?_).mono ?_
    · obtain ⟨_, fs', hR', _⟩ := hh
      have := hR'.box
      rwa [f1, f2, f3, f4] at this
    · rcases hl : s.lim with _ | _
      · exact .inl rfl
      · refine .inr ?_
        rcases Int.lt_or_le 0 s.left with h3 | h3
        · exact h3
        · exact absurd ⟨hl, h3⟩ hc
    · rintro w0 ⟨fs', hR', hs', hch⟩
      refine (nothing_any _).mono ?_
      rintro e w' ⟨rfl, rfl⟩
      exact ⟨rfl, _, ⟨mb, fs', hR'.cell (s' := { f s with left := IntKind.i64.wrap (s.left - 1) }) rfl rfl, fun z => Iff.rfl⟩, hs', hch.setCell hSd _ _⟩
    · rintro e w' ⟨rfl, hr⟩
      exact ⟨rfl, hr⟩
set_option maxRecDepth 20000 in set_option maxHeartbeats 1000000 in
theorem append1_any {B2 B3 : Nat} {nm : List UInt8} {dt : ByteArray} (hR : DevR w d mb s fs) (hS : ∀ z, S z ↔ hasD d mb fs z) (hl : lk fs nm = some r) (hb2 : Bx w B2 [.pointer (some ⟨r.fb, 0, none⟩)]) (hb3 : Bx w B3 [.string dt]) (hsz : r.data.length + dt.size ≤ 16777216) (hB2 : ¬ r.has B2) :
    Calls Tryz.prog 72 #[.pointer (some ⟨B2, 0, none⟩), .pointer (some ⟨B3, 0, none⟩)] w fun e w' => e = .returned (.tuple #[]) ∧ ∃ fs', DevR w' d mb (appendC s nm r.fl dt.data.toList) fs' ∧ (∀ z, hasD d mb fs' z → S z ∨ w.heap.size ≤ z) ∧ DChg S w w' := by
  obtain ⟨iU, hUi, hU0, hU1, hU2⟩ := info_parts Tryz.infoU8
  obtain ⟨hF, hrm, hrn⟩ := lk_rec hR hl
  have k0 := (hF.box.2 0 _ rfl).1
  have hv : r.val = .slice r.A r.data.length r.cap := rfl
  rw [hv] at k0
  have lt := hF.box.lt
  have c2 := (hb2.2 0 _ rfl).1
  have c3 := (hb3.2 0 _ rfl).1
  have lt2 := hb2.lt
  have lt3 := hb3.lt
  have HF := Lib.hid hF
  have H := Lib.hid hR
  have X2 := Lib.hid hb2
  replace hl := Lib.hid hl
  clear hR hb2 hb3 hF hv
  go_enter Tryz.func72, Tryz.ntmps72
  go_wp2_with fail
  refine wp_region_ordD [(0, 0), (1, 1), (2, 1), (3, 1), (4, 1), (5, 1), (6, 3), (7, 0), (8, 0), (9, 3)] [6, 9] 5 (HasP B2 r.fb) (by kernel_rfl) (by decide +kernel) ?_
  simp only [pickO, List.append_eq, List.cons_append, List.nil_append, List.getElem?_cons_succ, List.getElem?_cons_zero]
  intro w0 hG
  have hD := (⟨X2.out.grow hG.b⟩ : HasP B2 r.fb w0)
  refine ⟨hD, ?_⟩
  (repeat ((first | (with_reducible refine ord_q1D ?_) | (with_reducible refine ord_q0D ?_)); intro K hK; first | (refine Or.inr ⟨?_, ?_⟩; (focus (go_simp; first | done | (simp [undef]; done))); go_simp; (with_reducible refine hK _ ?_); clear hK K) | (refine Or.inl ⟨?_, ?_⟩; (focus (go_simp; done)); apply Exists.intro; refine And.intro ?_ ?_; (focus (first | (intro wq hq; have hcf := G.old hq; obtain ⟨hcq, hfq⟩ := hcf; go_simp; (first | done | exact rfl); done) | (intro wq hq; (have cq := (hq.a.2 0 _ rfl).1; have ltq := hq.a.1); go_simp; (first | done | exact rfl); done))); go_simp; (with_reducible refine hK _ ?_); clear hK K) | fail))
  have hF0 := HF.out.keep hG.b.size (fun z hz => hG.b.block z (HF.out.lt hz))
  have hown0 := hF0.row
  have hs0 := hG.b.size
  (with_reducible refine ord_tailD hD ?_); intro K hK
  refine step_appS rfl (.tmp 6) (.tmp 7) _ _ rfl 0 5 iU Tryz.underlying34 Tryz.underlying9 hUi hU0 hU1 hU2 (.slice r.A r.data.length r.cap) r.data.length (u8s r.data) rfl hown0 dt rfl (by unfold maxLen; omega) (by omega) (Nat.zero_le _) ?_
  intro A' c' w5 hown5 hc5 hm5 hg5 hob5
  have hbx5 : Bx w5 r.fb [r.val, .int .i64 r.dur] := hF0.box.block hg5.size (hg5.block r.fb hF0.box.lt (fun e => hF0.ne e.symm))
  have hfresh : ∀ y, (Value.slice A' (r.data.length + dt.size) c').ownBlock = some y → (r.val.ownBlock = some y ∨ w.heap.size ≤ y) ∧ y ≠ r.fb := fun y hy => by
    rcases hob5 with h1 | ⟨g, h1, h2⟩
    · rw [hy] at h1
      exact ⟨.inl h1.symm, fun e => hF0.ne (by rw [← e]; exact h1.symm)⟩
    · rw [hy] at h1
      cases h1
      have := HF.out.box.lt
      exact ⟨.inr (by omega), by omega⟩
  have fin : ∃ fs', DevR (w5.setCell ⟨r.fb, 0, none⟩ (.slice A' (r.data.length + dt.size) c')) d mb (appendC s nm r.fl dt.data.toList) fs' ∧ (∀ z, hasD d mb fs' z → S z ∨ w.heap.size ≤ z) ∧ DChg S w (w5.setCell ⟨r.fb, 0, none⟩ (.slice A' (r.data.length + dt.size) c')) := by
    have hlen : (r.data ++ dt.data.toList).length = r.data.length + dt.size := by rw [List.length_append]; rfl
    have hxv : (⟨r.name, r.fb, A', c', r.data ++ dt.data.toList, r.dur⟩ : FR).val = .slice A' (r.data.length + dt.size) c' := by show Value.slice A' (r.data ++ dt.data.toList).length c' = _; rw [hlen]
    have hch : DChg (fun z => r.has z) w (w5.setCell ⟨r.fb, 0, none⟩ (.slice A' (r.data.length + dt.size) c')) :=
      (DChg.grownBy (S := fun z => r.has z) (DChg.of_below hG.b) hg5 (fun g hg => .inr hg)).setCell (b := r.fb) (.inl rfl) _ _
    have hFx : FileAt (w5.setCell ⟨r.fb, 0, none⟩ (.slice A' (r.data.length + dt.size) c')) (⟨r.name, r.fb, A', c', r.data ++ dt.data.toList, r.dur⟩ : FR) := by
      refine ⟨by rw [hxv]; exact hbx5.put rfl, ?_, fun e => ?_⟩
      · rw [hxv, show (⟨r.name, r.fb, A', c', r.data ++ dt.data.toList, r.dur⟩ : FR).data.length = r.data.length + dt.size from hlen]
        have e1 : u8s (⟨r.name, r.fb, A', c', r.data ++ dt.data.toList, r.dur⟩ : FR).data = u8s r.data ++ Lib.strCells dt := by
          show u8s (r.data ++ dt.data.toList) = _
          unfold u8s Lib.strCells
          rw [List.map_append]
        rw [e1]
        exact own_blk hown5 fun g hg => Below.heap_setCell _ _ _ g (hfresh g hg).2
      · rw [hxv] at e
        exact (hfresh _ e).2 rfl
    refine ⟨_, H.out.file (x := ⟨r.name, r.fb, A', c', r.data ++ dt.data.toList, r.dur⟩) hl.out hrn rfl hch.size (fun y hy hno => hch.2.2 y hno hy) hFx (fun y hy => by rw [hxv] at hy; exact (hfresh y hy).1), fun z hz => ?_, hch.mono fun z hz => (hS z).2 (.inr (.inr ⟨r, hrm, hz⟩))⟩
    rcases upd_has (w := w) (fun z hz => by
      rcases hz with rfl | hz
      · exact .inl ⟨r, hrm, .inl rfl⟩
      · rw [hxv] at hz
        rcases (hfresh z hz).1 with h1 | h1
        · exact .inl ⟨r, hrm, .inr h1⟩
        · exact .inr h1) z hz with h3 | h3
    · exact .inl ((hS z).2 h3)
    · exact .inr h3
  replace fin := Lib.hid fin
  obtain ⟨u0, g0⟩ := hbx5.2 0 _ rfl
  have hD' : HasP B2 r.fb w5 := ⟨hD.a.block hg5.size (hg5.block B2 hD.a.1 fun e => hB2 (.inr e.symm))⟩
  (with_reducible refine hK _ _ hD' ?_); clear hK K
  replace hD := hD'
  clear hD'
  (repeat ((first | (with_reducible refine ord_q1D ?_) | (with_reducible refine ord_q0D ?_)); intro K hK; first | (refine Or.inr ⟨?_, ?_⟩; (focus (go_simp; first | done | (simp [undef]; done))); go_simp; (with_reducible refine hK _ ?_); clear hK K) | (refine Or.inl ⟨?_, ?_⟩; (focus (go_simp; done)); apply Exists.intro; refine And.intro ?_ ?_; (focus (first | (intro wq hq; have hcf := G.old hq; obtain ⟨hcq, hfq⟩ := hcf; go_simp; (first | done | exact rfl); done) | (intro wq hq; (have cq := (hq.a.2 0 _ rfl).1; have ltq := hq.a.1); go_simp; (first | done | exact rfl); done))); go_simp; (with_reducible refine hK _ ?_); clear hK K) | fail))
  (with_reducible refine ord_tailD hD ?_)
  intro K hK
  go_simp
  replace hD := (⟨hD.a.other (p := ⟨r.fb, 0, none⟩) (fun e => hB2 (.inl e)) _⟩ : HasP B2 r.fb (w5.setCell ⟨r.fb, 0, none⟩ (.slice A' (r.data.length + dt.size) c')))
  (with_reducible refine hK _ _ hD ?_)
  clear hK K
  (repeat ((first | (with_reducible refine ord_q1D ?_) | (with_reducible refine ord_q0D ?_)); intro K hK; first | (refine Or.inr ⟨?_, ?_⟩; (focus (go_simp; first | done | (simp [undef]; done))); go_simp; (with_reducible refine hK _ ?_); clear hK K) | (refine Or.inl ⟨?_, ?_⟩; (focus (go_simp; done)); apply Exists.intro; refine And.intro ?_ ?_; (focus (first | (intro wq hq; have hcf := G.old hq; obtain ⟨hcq, hfq⟩ := hcf; go_simp; (first | done | exact rfl); done) | (intro wq hq; (have cq := (hq.a.2 0 _ rfl).1; have ltq := hq.a.1); go_simp; (first | done | exact rfl); done))); go_simp; (with_reducible refine hK _ ?_); clear hK K) | fail))
  (with_reducible refine ord_nilD ?_)
  go_end0
  exact ⟨rfl, fin.out⟩
set_option maxRecDepth 20000 in set_option maxHeartbeats 2000000 in
theorem append_any (h : DevW w d S s) (ho : s.Ok) (nm dt : ByteArray) (hm : nm.size ≤ maxLen) (hdm : dt.size ≤ 1099511627776) : Calls Tryz.prog 31 #[.pointer (some ⟨d, 0, none⟩), .string nm, .string dt] w (RetE d S (appendD s nm.data.toList dt.data.toList) w) := by
  have H := Lib.hid h
  have HO := Lib.hid ho
  obtain ⟨R, hr⟩ : ∃ R, appendD s nm.data.toList dt.data.toList = R := ⟨_, rfl⟩
  rw [hr]
  unfold appendD at hr
  have hdt : dt.data.toList.length = dt.size := rfl
  rw [hdt] at hr
  have EC := Lib.hid (fun c w => Tryz.call72 c w : ∀ c, Ent 72 c)
  replace hr := Lib.hid hr
  go_enter Tryz.func31, Tryz.ntmps31
  go_wp2_with fail
  refine calls_name (fun wx => Below w.heap.size w wx ∧ Bx wx w.heap.size [.string dt]) ⟨by repeat (first | with_reducible assumption | with_reducible exact G.refl _ | with_reducible refine G.drew ?_ | with_reducible refine G.drewN ?_ _ | with_reducible refine G.alloc ?_ _ | with_reducible refine Below.setCell ?_ (by first | (simp; done) | (simp; omega)) _ | with_reducible refine G.trans ?_ hb12 | with_reducible refine G.trans ?_ hb11 | with_reducible refine G.trans ?_ hb10 | with_reducible refine G.trans ?_ hb9 | with_reducible refine G.trans ?_ hb8 | with_reducible refine G.trans ?_ hb7 | with_reducible refine G.trans ?_ hb6 | with_reducible refine G.trans ?_ hb5 | with_reducible refine G.trans ?_ hb4 | with_reducible refine G.trans ?_ hb3 | with_reducible refine G.trans ?_ hb2 | with_reducible refine G.trans ?_ hb1 | with_reducible refine G.trans ?_ hb | assumption), by repeat (first | with_reducible assumption | (with_reducible exact Bx.new (by simp; done) (by rfl)) | (with_reducible refine Bx.alloc ?_ _) | (with_reducible refine Bx.drewN ?_ _) | ((with_reducible apply Bx.put); rotate_right; (first | rfl | skip)) | (with_reducible refine Bx.other ?_ (by first | (simp; done) | (simp; omega)) _))⟩ ?_
  rintro w2 ⟨hb2, x2⟩
  have H2 := Lib.hid (H.out.grow hb2)
  refine (check_any H2.out).mono ?_
  rintro e w3 ⟨rfl, hw⟩
  subst hw
  have c2 := (x2.2 0 _ rfl).1
  have lt2 := x2.lt
  unfold chkD
  rcases hd : s.down with _ | _
  · replace hr := hr.out
    rw [hd, if_neg (by simp)] at hr
    replace hd := Lib.hid hd
    obtain ⟨mb, fs, hR, hS⟩ := H2.out
    have k1 := (hR.box.2 1 _ rfl).1
    have lt := hR.box.lt
    have hlc : lkC s.fs nm.data.toList = (lk fs nm.data.toList).map FR.fl := by rw [hR.eq, lk_fl]
    rw [hlc] at hr
    have HR := Lib.hid hR
    have HS := Lib.hid hS
    have LK := look_fs hR.map Tryz.underlying9 Tryz.underlying95 (zeroP _) hm
    rcases hl : lk fs nm.data.toList with _ | r
    · rw [hl] at hr LK
      rw [Option.map_none] at hr
      have hpv : ptrV none = .pointer none := rfl
      rw [hpv] at LK
      replace hl := Lib.hid hl
      replace hr := Lib.hid hr
      clear hR hS hlc
      go_wp2_with fail
      go_ret
      exact RetE.mk hr.out.symm rfl (RetD.of_below H.out (by repeat (first | with_reducible assumption | with_reducible exact G.refl _ | with_reducible refine G.drew ?_ | with_reducible refine G.drewN ?_ _ | with_reducible refine G.alloc ?_ _ | with_reducible refine Below.setCell ?_ (by first | (simp; done) | (simp; omega)) _ | with_reducible refine G.trans ?_ hb12 | with_reducible refine G.trans ?_ hb11 | with_reducible refine G.trans ?_ hb10 | with_reducible refine G.trans ?_ hb9 | with_reducible refine G.trans ?_ hb8 | with_reducible refine G.trans ?_ hb7 | with_reducible refine G.trans ?_ hb6 | with_reducible refine G.trans ?_ hb5 | with_reducible refine G.trans ?_ hb4 | with_reducible refine G.trans ?_ hb3 | with_reducible refine G.trans ?_ hb2 | with_reducible refine G.trans ?_ hb1 | with_reducible refine G.trans ?_ hb | assumption)))
    · rw [hl] at hr LK
      have hpv : ptrV (some r) = .pointer (some ⟨r.fb, 0, none⟩) := rfl
      rw [hpv] at LK
      rw [Option.map_some] at hr
      obtain ⟨hF, hrm, hrn⟩ := lk_rec hR hl
      have hrfl : r.fl ∈ s.fs := by rw [hR.eq]; exact List.mem_map_of_mem hrm
      have hs1 : r.data.length ≤ 16777216 := ho.sz _ hrfl
      have k0 := (hF.box.2 0 _ rfl).1
      have hv : r.val = .slice r.A r.data.length r.cap := rfl
      rw [hv] at k0
      have ltf := hF.box.lt
      have hdl : d ≠ w.heap.size := by
        have := (hS d).2 (.inl rfl)
        have := H.out.lt this
        omega
      replace hl := Lib.hid hl
      have hdat : r.fl.data.length = r.data.length := rfl
      dsimp only at hr
      rw [hdat] at hr
      have hw1 : IntKind.i64.wrap ((r.data.length : Int) + (dt.size : Int)) = (r.data.length : Int) + (dt.size : Int) := IntWalk.i64_in _ (by omega)
      clear hR hS hlc hF hv
      go_wp2_with fail
      refine wp_name (fun wx => Below w3.heap.size w3 wx ∧ Bx wx w3.heap.size [.pointer (some ⟨r.fb, 0, none⟩)]) ⟨by repeat (first | with_reducible assumption | with_reducible exact G.refl _ | with_reducible refine G.drew ?_ | with_reducible refine G.drewN ?_ _ | with_reducible refine G.alloc ?_ _ | with_reducible refine Below.setCell ?_ (by first | (simp; done) | (simp; omega)) _ | with_reducible refine G.trans ?_ hb12 | with_reducible refine G.trans ?_ hb11 | with_reducible refine G.trans ?_ hb10 | with_reducible refine G.trans ?_ hb9 | with_reducible refine G.trans ?_ hb8 | with_reducible refine G.trans ?_ hb7 | with_reducible refine G.trans ?_ hb6 | with_reducible refine G.trans ?_ hb5 | with_reducible refine G.trans ?_ hb4 | with_reducible refine G.trans ?_ hb3 | with_reducible refine G.trans ?_ hb2 | with_reducible refine G.trans ?_ hb1 | with_reducible refine G.trans ?_ hb | assumption), by repeat (first | with_reducible assumption | (with_reducible exact Bx.new (by simp; done) (by rfl)) | (with_reducible refine Bx.alloc ?_ _) | (with_reducible refine Bx.drewN ?_ _) | ((with_reducible apply Bx.put); rotate_right; (first | rfl | skip)) | (with_reducible refine Bx.other ?_ (by first | (simp; done) | (simp; omega)) _))⟩ ?_
      rintro w4 ⟨hb4, x4⟩
      replace c2 := G.cell c2 hb4
      replace k0 := G.cell k0 hb4
      have c4 := (x4.2 0 _ rfl).1
      replace lt2 := cell_lt c2
      replace ltf := cell_lt k0
      have lt4 := x4.lt
      dsimp only at lt2 ltf
      have hb24 := G.trans hb2 hb4
      by_cases hbg : 16777216 < r.data.length + dt.size
      · have hbg' : (16777216 : Int) < (r.data.length : Int) + (dt.size : Int) := by omega
        rw [if_pos hbg] at hr
        replace hr := Lib.hid hr
        go_wp2_with fail
        refine wp_region_ord [(0, 1), (1, 1), (2, 1), (3, 1), (4, 1), (5, 1), (6, 1), (7, 1), (8, 1), (9, 1)] [] 5 (by kernel_rfl) (by decide +kernel) ?_
        simp only [pickO, List.append_eq, List.cons_append, List.nil_append, List.getElem?_cons_succ, List.getElem?_cons_zero]
        intro w0 hG
        (repeat ((first | (with_reducible refine ord_q1 ?_) | (with_reducible refine ord_q0 ?_)); intro K hK; first | (refine Or.inr ⟨?_, ?_⟩; (focus (go_simp; first | done | (simp [undef]; done))); go_simp; (with_reducible refine hK _ ?_); clear hK K) | (refine Or.inl ⟨?_, ?_⟩; (focus (go_simp; done)); apply Exists.intro; refine And.intro ?_ ?_; (focus (first | (intro wq hq; obtain ⟨hcq, hfq⟩ := G.old hq; go_simp; (first | done | exact rfl); done) | (intro wq; go_simp; (first | done | exact rfl); done))); go_simp; (with_reducible refine hK _ ?_); clear hK K) | fail))
        (with_reducible refine ord_nil ?_)
        go_wp2_with fail
        go_ret
        exact RetE.mk hr.out.symm rfl (RetD.of_below H.out (G.trans hb24 hG.b))
      · have hbg' : ¬ (16777216 : Int) < (r.data.length : Int) + (dt.size : Int) := by omega
        rw [if_neg hbg] at hr
        go_wp2_with fail
        refine wp_region_ord [(0, 1), (1, 1), (2, 1), (3, 1), (4, 1), (5, 1), (6, 1), (7, 1), (8, 1), (9, 1)] [] 5 (by kernel_rfl) (by decide +kernel) ?_
        simp only [pickO, List.append_eq, List.cons_append, List.nil_append, List.getElem?_cons_succ, List.getElem?_cons_zero]
        intro w0 hG
        (repeat ((first | (with_reducible refine ord_q1 ?_) | (with_reducible refine ord_q0 ?_)); intro K hK; first | (refine Or.inr ⟨?_, ?_⟩; (focus (go_simp; first | done | (simp [undef]; done))); go_simp; (with_reducible refine hK _ ?_); clear hK K) | (refine Or.inl ⟨?_, ?_⟩; (focus (go_simp; done)); apply Exists.intro; refine And.intro ?_ ?_; (focus (first | (intro wq hq; obtain ⟨hcq, hfq⟩ := G.old hq; go_simp; (first | done | exact rfl); done) | (intro wq; go_simp; (first | done | exact rfl); done))); go_simp; (with_reducible refine hK _ ?_); clear hK K) | fail))
        (with_reducible refine ord_nil ?_)
        have hb5 := hG.b
        have hb25 := G.trans hb24 hb5
        have H5 := Lib.hid (H.out.grow hb25)
        replace c2 := G.cell c2 hb5
        replace lt2 := cell_lt c2
        dsimp only at lt2
        have X4 := Lib.hid (x4.grow hb5)
        clear hG c4 lt4 k0 ltf
        obtain ⟨F, hF⟩ : ∃ F, freeD s = F := ⟨_, rfl⟩
        rw [hF] at hr
        have FA := Lib.hid (fun (wx : World) (hx : DevW wx d S s) => free_any hx HO.out)
        rw [hF] at FA
        by_cases hsp : F < (dt.size : Int)
        · rw [if_pos hsp] at hr
          replace hr := Lib.hid hr
          go_wp2_with fail
          refine wp_region_ord [(0, 1), (1, 1), (2, 1), (3, 2), (4, 1), (5, 1)] [] 5 (by kernel_rfl) (by decide +kernel) ?_
          simp only [pickO, List.append_eq, List.cons_append, List.nil_append, List.getElem?_cons_succ, List.getElem?_cons_zero]
          intro w0 hG
          (repeat ((first | (with_reducible refine ord_q1 ?_) | (with_reducible refine ord_q0 ?_)); intro K hK; first | (refine Or.inr ⟨?_, ?_⟩; (focus (go_simp; first | done | (simp [undef]; done))); go_simp; (with_reducible refine hK _ ?_); clear hK K) | (refine Or.inl ⟨?_, ?_⟩; (focus (go_simp; done)); apply Exists.intro; refine And.intro ?_ ?_; (focus (first | (intro wq hq; obtain ⟨hcq, hfq⟩ := G.old hq; go_simp; (first | done | exact rfl); done) | (intro wq; go_simp; (first | done | exact rfl); done))); go_simp; (with_reducible refine hK _ ?_); clear hK K) | fail))
          (with_reducible refine ord_run ?_ hG)
          intro K hK
          go_simp
          go_at_call 71; (with_reducible refine (FA.out _ (H5.out.grow hG.b)).mono ?_); rintro e w6 ⟨rfl, hb6⟩
          replace hG := Grew.trans hG hb6
          (try dsimp only)
          (with_reducible refine hK _ _ hG ?_)
          clear hK K
          (repeat ((first | (with_reducible refine ord_q1 ?_) | (with_reducible refine ord_q0 ?_)); intro K hK; first | (refine Or.inr ⟨?_, ?_⟩; (focus (go_simp; first | done | (simp [undef]; done))); go_simp; (with_reducible refine hK _ ?_); clear hK K) | (refine Or.inl ⟨?_, ?_⟩; (focus (go_simp; done)); apply Exists.intro; refine And.intro ?_ ?_; (focus (first | (intro wq hq; obtain ⟨hcq, hfq⟩ := G.old hq; go_simp; (first | done | exact rfl); done) | (intro wq; go_simp; (first | done | exact rfl); done))); go_simp; (with_reducible refine hK _ ?_); clear hK K) | fail))
          (with_reducible refine ord_nil ?_)
          go_wp2_with fail
          go_ret
          exact RetE.mk hr.out.symm rfl (RetD.of_below H.out (G.trans hb25 hG.b))
        · rw [if_neg hsp] at hr
          replace hr := Lib.hid hr
          go_wp2_with fail
          refine wp_region_ord [(0, 1), (1, 1), (2, 1), (3, 2), (4, 1), (5, 1)] [] 5 (by kernel_rfl) (by decide +kernel) ?_
          simp only [pickO, List.append_eq, List.cons_append, List.nil_append, List.getElem?_cons_succ, List.getElem?_cons_zero]
          intro w0 hG
          (repeat ((first | (with_reducible refine ord_q1 ?_) | (with_reducible refine ord_q0 ?_)); intro K hK; first | (refine Or.inr ⟨?_, ?_⟩; (focus (go_simp; first | done | (simp [undef]; done))); go_simp; (with_reducible refine hK _ ?_); clear hK K) | (refine Or.inl ⟨?_, ?_⟩; (focus (go_simp; done)); apply Exists.intro; refine And.intro ?_ ?_; (focus (first | (intro wq hq; obtain ⟨hcq, hfq⟩ := G.old hq; go_simp; (first | done | exact rfl); done) | (intro wq; go_simp; (first | done | exact rfl); done))); go_simp; (with_reducible refine hK _ ?_); clear hK K) | fail))
          (with_reducible refine ord_run ?_ hG)
          intro K hK
          go_simp
          go_at_call 71; (with_reducible refine (FA.out _ (H5.out.grow hG.b)).mono ?_); rintro e w6 ⟨rfl, hb6⟩
          replace hG := Grew.trans hG hb6
          (try dsimp only)
          (with_reducible refine hK _ _ hG ?_)
          clear hK K
          (repeat ((first | (with_reducible refine ord_q1 ?_) | (with_reducible refine ord_q0 ?_)); intro K hK; first | (refine Or.inr ⟨?_, ?_⟩; (focus (go_simp; first | done | (simp [undef]; done))); go_simp; (with_reducible refine hK _ ?_); clear hK K) | (refine Or.inl ⟨?_, ?_⟩; (focus (go_simp; done)); apply Exists.intro; refine And.intro ?_ ?_; (focus (first | (intro wq hq; obtain ⟨hcq, hfq⟩ := G.old hq; go_simp; (first | done | exact rfl); done) | (intro wq; go_simp; (first | done | exact rfl); done))); go_simp; (with_reducible refine hK _ ?_); clear hK K) | fail))
          (with_reducible refine ord_nil ?_)
          have hb56 := hG.b
          have hb46 := G.trans hb4 (G.trans hb5 hb56)
          have HR0 := Lib.hid (HR.out.grow hb46)
          have X6 := Lib.hid (X4.out.grow hb56)
          have X2 := Lib.hid (x2.grow hb46)
          have hlt3 : ∀ z, r.has z → z < w3.heap.size := fun z hz => (HR.out.files r hrm).lt hz
          have hB2 : ¬ r.has w3.heap.size := fun hh => by have := hlt3 _ hh; omega
          clear hG
          go_wp2_with fail
          refine (perform_pre (f := fun s => appendC s nm.data.toList r.fl dt.data.toList) HR0.out HS.out (EC.out _) ⟨rfl, rfl, rfl, rfl⟩ (append1_any HR0.out HS.out hl.out X6.out X2.out (by omega) hB2)).mono ?_
          rintro e w7 ⟨rfl, hr7⟩
          go_wp2_with fail
          go_ret
          exact RetE.mk (by rw [← hr.out]) rfl (hr7.after (DChg.of_below (G.trans hb25 hb56)))
  · replace hr := hr.out
    rw [hd, if_pos rfl] at hr
    replace hr := Lib.hid hr
    replace hd := Lib.hid hd
    go_wp2_with fail
    go_ret
    exact RetE.mk hr.out.symm rfl (RetD.of_below H.out hb2)
end
end Go.Proofs.YtbafnlccpbonmaaGreatDoor

namespace Go.Proofs.YtbafnlccpbonmaaGreatDoor
set_option linter.unusedVariables false
set_option linter.unnecessarySimpa false
set_option linter.unusedSimpArgs false
open Go.RowKit

def sizeD (s : Ds) (nm : List UInt8) : Int × Int := if s.down = true then (0, 31) else match lkC s.fs nm with
  | none => (0, 8)
  | some f => (f.data.length, 0)
section
variable {w w' w1 : World} {d mb : Nat} {s s' : Ds} {fs : List FR} {r q x : FR} {S : Nat → Prop} {n : List UInt8}
set_option maxRecDepth 20000 in set_option maxHeartbeats 1000000 in
theorem size_any (h : DevW w d S s) (nm : ByteArray) (hm : nm.size ≤ maxLen) : Calls Tryz.prog 65 #[.pointer (some ⟨d, 0, none⟩), .string nm] w fun e w' => e = .returned (.tuple #[.int .i64 (sizeD s nm.data.toList).1, .int .i64 (sizeD s nm.data.toList).2]) ∧ w' = w := by
  have CK := Lib.hid (check_any h)
  unfold chkD at CK
  unfold sizeD
  obtain ⟨mb, fs, hR, hS⟩ := h
  have k1 := (hR.box.2 1 _ rfl).1
  have lt := hR.box.lt
  have hlc : lkC s.fs nm.data.toList = (lk fs nm.data.toList).map FR.fl := by rw [hR.eq, lk_fl]
  rw [hlc]
  have LK := look_fs hR.map Tryz.underlying9 Tryz.underlying95 (zeroP _) hm
  rcases hd : s.down with _ | _
  · rw [hd] at CK
    rw [if_neg (by simp)]
    replace hd := Lib.hid hd
    rcases hl : lk fs nm.data.toList with _ | r
    · rw [hl] at LK
      have hpv : ptrV none = .pointer none := rfl
      rw [hpv] at LK
      rw [Option.map_none]
      dsimp only
      clear hR hlc
      replace hl := Lib.hid hl
      go_enter Tryz.func65, Tryz.ntmps65
      go_wp2_with fail
      refine CK.out.mono ?_
      rintro e w3 ⟨rfl, hw⟩
      subst hw
      go_wp2_with fail
      exact bodyPost_ret (v := .tuple #[.int .i64 0, .int .i64 8]) (by simp only [results, Tryz.results65]; go_simp) rfl ⟨rfl, rfl⟩
    · rw [hl] at LK
      have hpv : ptrV (some r) = .pointer (some ⟨r.fb, 0, none⟩) := rfl
      rw [hpv] at LK
      rw [Option.map_some]
      dsimp only
      obtain ⟨hF, hrm, hrn⟩ := lk_rec hR hl
      have k0 := (hF.box.2 0 _ rfl).1
      have hv : r.val = .slice r.A r.data.length r.cap := rfl
      rw [hv] at k0
      have ltf := hF.box.lt
      replace hl := Lib.hid hl
      have hdat : r.fl.data.length = r.data.length := rfl
      rw [hdat]
      clear hR hlc hF hv hdat
      go_enter Tryz.func65, Tryz.ntmps65
      go_wp2_with fail
      refine CK.out.mono ?_
      rintro e w3 ⟨rfl, hw⟩
      subst hw
      go_wp2_with fail
      exact bodyPost_ret (v := .tuple #[.int .i64 r.data.length, .int .i64 0]) (by simp only [results, Tryz.results65]; go_simp) rfl ⟨rfl, rfl⟩
  · rw [hd] at CK
    rw [if_pos rfl]
    replace hd := Lib.hid hd
    clear hR hlc
    go_enter Tryz.func65, Tryz.ntmps65
    go_wp2_with fail
    refine CK.out.mono ?_
    rintro e w3 ⟨rfl, hw⟩
    subst hw
    go_wp2_with fail
    exact bodyPost_ret (v := .tuple #[.int .i64 0, .int .i64 31]) (by simp only [results, Tryz.results65]; go_simp) rfl ⟨rfl, rfl⟩
end
end Go.Proofs.YtbafnlccpbonmaaGreatDoor

namespace Go.Proofs.YtbafnlccpbonmaaGreatDoor
set_option linter.unusedVariables false
set_option linter.unnecessarySimpa false
set_option linter.unusedSimpArgs false
open Go.RowKit

def readD (s : Ds) (nm : List UInt8) (a c : Int) : List UInt8 × Int := if s.down = true then ([], 31) else match lkC s.fs nm with
  | none => ([], 8)
  | some f => if a < 0 ∨ c < 0 ∨ (f.data.length : Int) < a ∨ (f.data.length : Int) - a < c then ([], 2) else ((f.data.drop a.toNat).take c.toNat, 0)
def BA (l : List UInt8) : ByteArray := ⟨l.toArray⟩
def RetR (r : List UInt8 × Int) (w : World) (e : Ending) (w' : World) : Prop := e = .returned (.tuple #[.string (BA r.1), .int .i64 r.2]) ∧ Below w.heap.size w w'
theorem RetR.mk {w w' : World} {R : List UInt8 × Int} {l : List UInt8} {v : Int} {e : Ending} (hR : R = (l, v)) (he : e = .returned (.tuple #[.string (BA l), .int .i64 v])) (h : Below w.heap.size w w') : RetR R w e w' := by
  subst hR
  exact ⟨he, h⟩
theorem conv_none (w : World) : (convert 34 9 (.slice none 0 0)).run Tryz.prog w = .ok (.string ⟨#[]⟩) w := by kernel_rfl
section
variable {w w' w1 : World} {d mb : Nat} {s s' : Ds} {fs : List FR} {r q x : FR} {S : Nat → Prop} {n : List UInt8}
set_option maxRecDepth 20000 in set_option maxHeartbeats 2000000 in
theorem read_any (h : DevW w d S s) (ho : s.Ok) (nm : ByteArray) (hm : nm.size ≤ maxLen) (a c : Int) (ha : a ≤ 9223372036854775807) : Calls Tryz.prog 66 #[.pointer (some ⟨d, 0, none⟩), .string nm, .int .i64 a, .int .i64 c] w (RetR (readD s nm.data.toList a c) w) := by
  have CK := Lib.hid (check_any h)
  unfold chkD at CK
  obtain ⟨R, hr⟩ : ∃ R, readD s nm.data.toList a c = R := ⟨_, rfl⟩
  rw [hr]
  unfold readD at hr
  obtain ⟨mb, fs, hR, hS⟩ := h
  have k1 := (hR.box.2 1 _ rfl).1
  have lt := hR.box.lt
  have hlc : lkC s.fs nm.data.toList = (lk fs nm.data.toList).map FR.fl := by rw [hR.eq, lk_fl]
  rw [hlc] at hr
  have LK := look_fs hR.map Tryz.underlying9 Tryz.underlying95 (zeroP _) hm
  rcases hd : s.down with _ | _
  · rw [hd] at CK hr
    rw [if_neg (by simp)] at hr
    replace hd := Lib.hid hd
    rcases hl : lk fs nm.data.toList with _ | r
    · rw [hl] at LK hr
      have hpv : ptrV none = .pointer none := rfl
      rw [hpv] at LK
      rw [Option.map_none] at hr
      dsimp only at hr
      clear hR hlc
      replace hl := Lib.hid hl
      replace hr := Lib.hid hr
      go_enter Tryz.func66, Tryz.ntmps66
      go_wp2_with fail
      refine CK.out.mono ?_
      rintro e w3 ⟨rfl, hw⟩
      subst hw
      go_wp2_with fail
      exact bodyPost_ret (v := .tuple #[.string ⟨#[]⟩, .int .i64 8]) (by simp only [results, Tryz.results66]; go_simp) rfl (RetR.mk hr.out.symm rfl (G.refl _))
    · rw [hl] at LK hr
      have hpv : ptrV (some r) = .pointer (some ⟨r.fb, 0, none⟩) := rfl
      rw [hpv] at LK
      rw [Option.map_some] at hr
      dsimp only at hr
      obtain ⟨hF, hrm, hrn⟩ := lk_rec hR hl
      have hrfl : r.fl ∈ s.fs := by rw [hR.eq]; exact List.mem_map_of_mem hrm
      have hs1 : r.data.length ≤ 16777216 := ho.sz _ hrfl
      have k0 := (hF.box.2 0 _ rfl).1
      have hv : r.val = .slice r.A r.data.length r.cap := rfl
      rw [hv] at k0
      have ltf := hF.box.lt
      have hrow := hF.row
      rw [hv] at hrow
      have hcap := own_cap hrow
      replace hl := Lib.hid hl
      have hdat : r.fl.data = r.data := rfl
      rw [hdat] at hr
      clear hR hlc hF hv hdat
      by_cases h1 : a < 0
      · rw [if_pos (.inl h1)] at hr
        replace hr := Lib.hid hr
        go_enter Tryz.func66, Tryz.ntmps66
        go_wp2_with fail
        refine CK.out.mono ?_
        rintro e w3 ⟨rfl, hw⟩
        subst hw
        go_wp2_with fail
        exact bodyPost_ret (v := .tuple #[.string ⟨#[]⟩, .int .i64 2]) (by simp only [results, Tryz.results66]; go_simp) rfl (RetR.mk hr.out.symm rfl (G.refl _))
      by_cases h2 : c < 0
      · rw [if_pos (.inr (.inl h2))] at hr
        replace hr := Lib.hid hr
        go_enter Tryz.func66, Tryz.ntmps66
        go_wp2_with fail
        refine CK.out.mono ?_
        rintro e w3 ⟨rfl, hw⟩
        subst hw
        go_wp2_with fail
        exact bodyPost_ret (v := .tuple #[.string ⟨#[]⟩, .int .i64 2]) (by simp only [results, Tryz.results66]; go_simp) rfl (RetR.mk hr.out.symm rfl (G.refl _))
      by_cases h3 : (r.data.length : Int) < a
      · rw [if_pos (.inr (.inr (.inl h3)))] at hr
        replace hr := Lib.hid hr
        go_enter Tryz.func66, Tryz.ntmps66
        go_wp2_with fail
        refine CK.out.mono ?_
        rintro e w3 ⟨rfl, hw⟩
        subst hw
        go_wp2_with fail
        exact bodyPost_ret (v := .tuple #[.string ⟨#[]⟩, .int .i64 2]) (by simp only [results, Tryz.results66]; go_simp) rfl (RetR.mk hr.out.symm rfl (G.refl _))
      have hw1 : IntKind.i64.wrap ((r.data.length : Int) - a) = (r.data.length : Int) - a := IntWalk.i64_in _ (by omega)
      by_cases h4 : (r.data.length : Int) - a < c
      · rw [if_pos (.inr (.inr (.inr h4)))] at hr
        replace hr := Lib.hid hr
        go_enter Tryz.func66, Tryz.ntmps66
        go_wp2_with fail
        refine CK.out.mono ?_
        rintro e w3 ⟨rfl, hw⟩
        subst hw
        go_wp2_with fail
        exact bodyPost_ret (v := .tuple #[.string ⟨#[]⟩, .int .i64 2]) (by simp only [results, Tryz.results66]; go_simp) rfl (RetR.mk hr.out.symm rfl (G.refl _))
      rw [if_neg (fun hh => by rcases hh with hh | hh | hh | hh; exact h1 hh; exact h2 hh; exact h3 hh; exact h4 hh)] at hr
      obtain ⟨i, rfl⟩ : ∃ i : Nat, a = (i : Int) := ⟨a.toNat, by omega⟩
      obtain ⟨k, rfl⟩ : ∃ k : Nat, c = (k : Int) := ⟨c.toNat, by omega⟩
      have hw2 : IntKind.i64.wrap ((i : Int) + (k : Int)) = (i : Int) + (k : Int) := IntWalk.i64_in _ (by omega)
      obtain ⟨hc1, hc2⟩ := hcap
      unfold maxLen at hc2
      have g1 : (i : Int) + (k : Int) ≤ (r.cap : Int) := by omega
      have g2 : (0 : Int) ≤ (i : Int) + (k : Int) := by omega
      have g3 : (i : Int) ≤ (i : Int) + (k : Int) := by omega
      have g4 : i + k ≤ r.cap := by omega
      rcases hrow.2 with ⟨hnil, h0⟩ | ⟨g, cap, cur, hval, _, hgh, _, _, _, _⟩
      · obtain ⟨hA, hcp⟩ : r.A = none ∧ r.cap = 0 := by
          injection hnil with e1 e2 e3
          exact ⟨e1, e3⟩
        rw [hA, hcp, h0] at k0
        obtain rfl : i = 0 := by omega
        obtain rfl : k = 0 := by omega
        have hcv := conv_none w
        have hz : (r.data.drop ((0 : Nat) : Int).toNat).take ((0 : Nat) : Int).toNat = [] := by simp
        rw [hz] at hr
        replace hr := Lib.hid hr
        rw [h0] at h3 h4
        clear hnil hrow hs1 hc1 hc2 g1 g2 g3 g4 hw1 hw2
        go_enter Tryz.func66, Tryz.ntmps66
        go_wp2_with fail
        refine CK.out.mono ?_
        rintro e w3 ⟨rfl, hw⟩
        subst hw
        go_wp2_with fail
        exact bodyPost_ret (v := .tuple #[.string ⟨#[]⟩, .int .i64 0]) (by simp only [results, Tryz.results66]; go_simp) rfl (RetR.mk hr.out.symm rfl (G.refl _))
      · obtain ⟨hA, -, hcp⟩ : r.A = some ⟨g, 0, none⟩ ∧ r.data.length = r.data.length ∧ r.cap = cap := by
          injection hval with e1 e2 e3
          exact ⟨e1, e2, e3⟩
        subst hcp
        rw [hA] at k0 hrow
        have hsl := Sl.of_own hrow
        rw [Nat.mul_one] at hsl
        clear hval hgh
        have hll : ((r.data.drop i).take k).length = k := by rw [List.length_take, List.length_drop]; omega
        have hcell : ∀ j (hj : j < ((r.data.drop i).take k).length), w.cell? (Addr.add ⟨g, i, none⟩ j) = some (.int .u8 ((((r.data.drop i).take k)[j]).toNat : Int)) := by
          intro j hj
          obtain ⟨b', off', e', _, hcs⟩ := hsl.2 (by omega)
          cases e'
          have hb : r.data[i + j]? = some (((r.data.drop i).take k)[j]) := by
            rw [List.getElem_take, List.getElem_drop]
            exact List.getElem?_eq_getElem _
          have := hcs _ _ (u8s_get hb)
          rw [Nat.zero_add] at this
          have e : Addr.add ⟨g, i, none⟩ j = ⟨g, i + j, none⟩ := by unfold Addr.add; split <;> simp_all
          rw [e]
          exact this
        have hcv := fun cp => run_convert_bytes_back (P := Tryz.prog) w 34 9 5 ⟨g, i, none⟩ cp ((r.data.drop i).take k) Tryz.underlying34 Tryz.underlying5 Tryz.underlying9 hcell
        rw [hll] at hcv
        have htn : (r.data.drop (i : Int).toNat).take (k : Int).toNat = (r.data.drop i).take k := by rw [Int.toNat_natCast, Int.toNat_natCast]
        rw [htn] at hr
        replace hr := Lib.hid hr
        generalize (r.data.drop i).take k = l at *
        clear hcell hsl htn hrow
        by_cases hci : r.cap = i
        · obtain rfl : k = 0 := by omega
          obtain rfl : l = [] := List.eq_nil_of_length_eq_zero hll
          have hcv0 := run_convert_bytes_back (P := Tryz.prog) w 34 9 5 ⟨g, 0, none⟩ 0 [] Tryz.underlying34 Tryz.underlying5 Tryz.underlying9 (fun j hj => absurd hj (by simp))
          rw [List.length_nil] at hcv0
          clear hcv hll
          go_enter Tryz.func66, Tryz.ntmps66
          go_wp2_with fail
          refine CK.out.mono ?_
          rintro e w3 ⟨rfl, hw⟩
          subst hw
          go_wp2_with fail
          exact bodyPost_ret (v := .tuple #[.string ⟨#[]⟩, .int .i64 0]) (by simp only [results, Tryz.results66]; go_simp) rfl (RetR.mk hr.out.symm rfl (G.refl _))
        · clear hll
          go_enter Tryz.func66, Tryz.ntmps66
          go_wp2_with fail
          refine CK.out.mono ?_
          rintro e w3 ⟨rfl, hw⟩
          subst hw
          go_wp2_with fail
          exact bodyPost_ret (v := .tuple #[.string ⟨l.toArray⟩, .int .i64 0]) (by simp only [results, Tryz.results66]; go_simp) rfl (RetR.mk hr.out.symm rfl (G.refl _))
  · rw [hd] at CK hr
    rw [if_pos rfl] at hr
    replace hd := Lib.hid hd
    replace hr := Lib.hid hr
    clear hR hlc
    go_enter Tryz.func66, Tryz.ntmps66
    go_wp2_with fail
    refine CK.out.mono ?_
    rintro e w3 ⟨rfl, hw⟩
    subst hw
    go_wp2_with fail
    exact bodyPost_ret (v := .tuple #[.string ⟨#[]⟩, .int .i64 31]) (by simp only [results, Tryz.results66]; go_simp) rfl (RetR.mk hr.out.symm rfl (G.refl _))
end
end Go.Proofs.YtbafnlccpbonmaaGreatDoor
