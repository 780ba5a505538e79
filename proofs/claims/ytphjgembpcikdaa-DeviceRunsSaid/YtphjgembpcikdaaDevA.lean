/- device: Append. -/
import Derived.Test.YtphjgembpcikdaaDev9
import Derived.Test.YtphjgembpcikdaaOrdD
namespace Go.Proofs.Ytphjgembpcikdaa
set_option linter.unusedVariables false
set_option linter.unnecessarySimpa false
set_option linter.unusedSimpArgs false
open Go.RowKit

theorem Try.infoU8 : (Try.prog.info? 5).map (fun i => (i.zero, i.size, i.bytes)) = some (some (.int .u8 0), 1, 1) := by kernel_rfl
theorem DChg.grownBy {S : Nat → Prop} {a w w' : World} {row : Option Nat} (h : DChg S a w) (hg : w.grownBy w' row) (hr : ∀ g, row = some g → S g) : DChg S a w' :=
  h.trans (S' := S) ⟨⟨hg.os, hg.tape, hg.output, hg.size, fun k hk => absurd hk (Nat.not_lt_zero _)⟩, hg.size, fun x hx hl => hg.block x hl fun e => hx (hr x e.symm)⟩ fun z hz => .inl hz
/-- A box with a pointer. -/
structure HasP (B fb : Nat) (w : World) : Prop where
  a : Bx w B [.pointer (some ⟨fb, 0, none⟩)]
section
variable {w w' w1 : World} {d mb : Nat} {s s' : Ds} {fs : List FR} {r q x : FR} {S : Nat → Prop} {n : List UInt8}
theorem perform_pre {n1 : Nat} {c1 : Array Value} {f : Ds → Ds} (hR : DevR w d mb s fs) (hS : ∀ z, S z ↔ hasD d mb fs z) (e1 : Ent n1 c1) (hf : (f s).room = s.room ∧ (f s).down = s.down ∧ (f s).lim = s.lim ∧ (f s).left = s.left)
    (h1 : Calls Try.prog n1 c1 w fun e w' => e = .returned (.tuple #[]) ∧ ∃ fs', DevR w' d mb (f s) fs' ∧ (∀ z, hasD d mb fs' z → S z ∨ w.heap.size ≤ z) ∧ DChg S w w') :
    Calls Try.prog 38 #[.pointer (some ⟨d, 0, none⟩), .func (.func n1) #[] c1, .func (.func 39) #[] #[]] w (RetE d S (perfD s f id) w) := by
  have hSd : S d := (hS d).2 (.inl rfl)
  obtain ⟨f1, f2, f3, f4⟩ := hf
  unfold RetE perfD
  by_cases hc : s.lim = true ∧ s.left ≤ 0
  · rw [if_pos hc]
    refine (perform_fail (room := s.room) (left := s.left) (m := .map (some mb)) (dn := s.down) (D1 := fun w' => ∃ fs', DevR w' d mb (f s) fs' ∧ (∀ z, hasD d mb fs' z → S z ∨ w.heap.size ≤ z) ∧ DChg S w w') e1 (h1.mono fun e w' hh => ⟨hh.1, ?_, hh.2⟩) hc.2).mono ?_
    · obtain ⟨_, fs', hR', _⟩ := hh
      have := hR'.box
      rwa [f1, f2, f3, f4, hc.1] at this
    · rintro e w' ⟨rfl, w0, ⟨fs', hR', hs', hch⟩, rfl⟩
      exact ⟨rfl, _, ⟨mb, fs', hR'.cell (s' := { f s with down := true }) rfl rfl, fun z => Iff.rfl⟩, hs', hch.setCell hSd _ _⟩
  · rw [if_neg hc]
    refine (perform_go (room := s.room) (left := s.left) (m := .map (some mb)) (dn := s.down) (lim := s.lim) (D1 := fun w' => ∃ fs', DevR w' d mb (f s) fs' ∧ (∀ z, hasD d mb fs' z → S z ∨ w.heap.size ≤ z) ∧ DChg S w w') (D2 := fun w' => RetD d S { f s with left := IntKind.i64.wrap (s.left - 1) } w w') e1 (ent_nothing #[]) (h1.mono fun e w' hh => ⟨hh.1, ?_, hh.2⟩) ?_ ?_).mono ?_
    · obtain ⟨_, fs', hR', _⟩ := hh
      have := hR'.box
      rwa [f1, f2, f3, f4] at this
    · rcases hl : s.lim with _ | _
      · exact .inl rfl
      · refine .inr ?_
        rcases Int.lt_or_le 0 s.left with h3 | h3
        · exact h3
        · exact absurd ⟨hl, h3⟩ hc
    · rintro w0 ⟨fs', hR', hs', hch⟩
      refine (nothing_any _).mono ?_
      rintro e w' ⟨rfl, rfl⟩
      exact ⟨rfl, _, ⟨mb, fs', hR'.cell (s' := { f s with left := IntKind.i64.wrap (s.left - 1) }) rfl rfl, fun z => Iff.rfl⟩, hs', hch.setCell hSd _ _⟩
    · rintro e w' ⟨rfl, hr⟩
      exact ⟨rfl, hr⟩
set_option maxRecDepth 20000 in set_option maxHeartbeats 1000000 in
theorem append1_any {B2 B3 : Nat} {nm : List UInt8} {dt : ByteArray} (hR : DevR w d mb s fs) (hS : ∀ z, S z ↔ hasD d mb fs z) (hl : lk fs nm = some r) (hb2 : Bx w B2 [.pointer (some ⟨r.fb, 0, none⟩)]) (hb3 : Bx w B3 [.string dt]) (hsz : r.data.length + dt.size ≤ 16777216) (hB2 : ¬ r.has B2) :
    Calls Try.prog 41 #[.pointer (some ⟨B2, 0, none⟩), .pointer (some ⟨B3, 0, none⟩)] w fun e w' => e = .returned (.tuple #[]) ∧ ∃ fs', DevR w' d mb (appendC s nm r.fl dt.data.toList) fs' ∧ (∀ z, hasD d mb fs' z → S z ∨ w.heap.size ≤ z) ∧ DChg S w w' := by
  obtain ⟨iU, hUi, hU0, hU1, hU2⟩ := info_parts Try.infoU8
  obtain ⟨hF, hrm, hrn⟩ := lk_rec hR hl
  have k0 := (hF.box.2 0 _ rfl).1
  have hv : r.val = .slice r.A r.data.length r.cap := rfl
  rw [hv] at k0
  have lt := hF.box.lt
  have c2 := (hb2.2 0 _ rfl).1
  have c3 := (hb3.2 0 _ rfl).1
  have lt2 := hb2.lt
  have lt3 := hb3.lt
  have HF := Lib.hid hF
  have H := Lib.hid hR
  have X2 := Lib.hid hb2
  replace hl := Lib.hid hl
  clear hR hb2 hb3 hF hv
  go_enter Try.func41, Try.ntmps41
  go_wp2_with fail
  refine wp_region_ordD [(0, 0), (1, 1), (2, 1), (3, 1), (4, 1), (5, 1), (6, 3), (7, 0), (8, 0), (9, 3)] [6, 9] 5 (HasP B2 r.fb) (by kernel_rfl) (by decide +kernel) ?_
  simp only [pickO, List.append_eq, List.cons_append, List.nil_append, List.getElem?_cons_succ, List.getElem?_cons_zero]
  intro w0 hG
  have hD := (⟨X2.out.grow hG.b⟩ : HasP B2 r.fb w0)
  refine ⟨hD, ?_⟩
  (repeat ((first | (with_reducible refine ord_q1D ?_) | (with_reducible refine ord_q0D ?_)); intro K hK; first | (refine Or.inr ⟨?_, ?_⟩; (focus (go_simp; first | done | (simp [undef]; done))); go_simp; (with_reducible refine hK _ ?_); clear hK K) | (refine Or.inl ⟨?_, ?_⟩; (focus (go_simp; done)); apply Exists.intro; refine And.intro ?_ ?_; (focus (first | (intro wq hq; have hcf := G.old hq; obtain ⟨hcq, hfq⟩ := hcf; go_simp; (first | done | exact rfl); done) | (intro wq hq; (have cq := (hq.a.2 0 _ rfl).1; have ltq := hq.a.1); go_simp; (first | done | exact rfl); done))); go_simp; (with_reducible refine hK _ ?_); clear hK K) | fail))
  have hF0 := HF.out.keep hG.b.size (fun z hz => hG.b.block z (HF.out.lt hz))
  have hown0 := hF0.row
  have hs0 := hG.b.size
  (with_reducible refine ord_tailD hD ?_); intro K hK
  refine step_appS rfl (.tmp 6) (.tmp 7) _ _ rfl 0 5 iU Try.underlying39 Try.underlying9 hUi hU0 hU1 hU2 (.slice r.A r.data.length r.cap) r.data.length (u8s r.data) rfl hown0 dt rfl (by unfold maxLen; omega) (by omega) (Nat.zero_le _) ?_
  intro A' c' w5 hown5 hc5 hm5 hg5 hob5
  have hbx5 : Bx w5 r.fb [r.val, .int .i64 r.dur] := hF0.box.block hg5.size (hg5.block r.fb hF0.box.lt (fun e => hF0.ne e.symm))
  have hfresh : ∀ y, (Value.slice A' (r.data.length + dt.size) c').ownBlock = some y → (r.val.ownBlock = some y ∨ w.heap.size ≤ y) ∧ y ≠ r.fb := fun y hy => by
    rcases hob5 with h1 | ⟨g, h1, h2⟩
    · rw [hy] at h1
      exact ⟨.inl h1.symm, fun e => hF0.ne (by rw [← e]; exact h1.symm)⟩
    · rw [hy] at h1
      cases h1
      have := HF.out.box.lt
      exact ⟨.inr (by omega), by omega⟩
  have fin : ∃ fs', DevR (w5.setCell ⟨r.fb, 0, none⟩ (.slice A' (r.data.length + dt.size) c')) d mb (appendC s nm r.fl dt.data.toList) fs' ∧ (∀ z, hasD d mb fs' z → S z ∨ w.heap.size ≤ z) ∧ DChg S w (w5.setCell ⟨r.fb, 0, none⟩ (.slice A' (r.data.length + dt.size) c')) := by
    have hlen : (r.data ++ dt.data.toList).length = r.data.length + dt.size := by rw [List.length_append]; rfl
    have hxv : (⟨r.name, r.fb, A', c', r.data ++ dt.data.toList, r.dur⟩ : FR).val = .slice A' (r.data.length + dt.size) c' := by show Value.slice A' (r.data ++ dt.data.toList).length c' = _; rw [hlen]
    have hch : DChg (fun z => r.has z) w (w5.setCell ⟨r.fb, 0, none⟩ (.slice A' (r.data.length + dt.size) c')) :=
      (DChg.grownBy (S := fun z => r.has z) (DChg.of_below hG.b) hg5 (fun g hg => .inr hg)).setCell (b := r.fb) (.inl rfl) _ _
    have hFx : FileAt (w5.setCell ⟨r.fb, 0, none⟩ (.slice A' (r.data.length + dt.size) c')) (⟨r.name, r.fb, A', c', r.data ++ dt.data.toList, r.dur⟩ : FR) := by
      refine ⟨by rw [hxv]; exact hbx5.put rfl, ?_, fun e => ?_⟩
      · rw [hxv, show (⟨r.name, r.fb, A', c', r.data ++ dt.data.toList, r.dur⟩ : FR).data.length = r.data.length + dt.size from hlen]
        have e1 : u8s (⟨r.name, r.fb, A', c', r.data ++ dt.data.toList, r.dur⟩ : FR).data = u8s r.data ++ Lib.strCells dt := by
          show u8s (r.data ++ dt.data.toList) = _
          unfold u8s Lib.strCells
          rw [List.map_append]
        rw [e1]
        exact own_blk hown5 fun g hg => Below.heap_setCell _ _ _ g (hfresh g hg).2
      · rw [hxv] at e
        exact (hfresh _ e).2 rfl
    refine ⟨_, H.out.file (x := ⟨r.name, r.fb, A', c', r.data ++ dt.data.toList, r.dur⟩) hl.out hrn rfl hch.size (fun y hy hno => hch.2.2 y hno hy) hFx (fun y hy => by rw [hxv] at hy; exact (hfresh y hy).1), fun z hz => ?_, hch.mono fun z hz => (hS z).2 (.inr (.inr ⟨r, hrm, hz⟩))⟩
    rcases upd_has (w := w) (fun z hz => by
      rcases hz with rfl | hz
      · exact .inl ⟨r, hrm, .inl rfl⟩
      · rw [hxv] at hz
        rcases (hfresh z hz).1 with h1 | h1
        · exact .inl ⟨r, hrm, .inr h1⟩
        · exact .inr h1) z hz with h3 | h3
    · exact .inl ((hS z).2 h3)
    · exact .inr h3
  replace fin := Lib.hid fin
  obtain ⟨u0, g0⟩ := hbx5.2 0 _ rfl
  have hD' : HasP B2 r.fb w5 := ⟨hD.a.block hg5.size (hg5.block B2 hD.a.1 fun e => hB2 (.inr e.symm))⟩
  (with_reducible refine hK _ _ hD' ?_); clear hK K
  replace hD := hD'
  clear hD'
  (repeat ((first | (with_reducible refine ord_q1D ?_) | (with_reducible refine ord_q0D ?_)); intro K hK; first | (refine Or.inr ⟨?_, ?_⟩; (focus (go_simp; first | done | (simp [undef]; done))); go_simp; (with_reducible refine hK _ ?_); clear hK K) | (refine Or.inl ⟨?_, ?_⟩; (focus (go_simp; done)); apply Exists.intro; refine And.intro ?_ ?_; (focus (first | (intro wq hq; have hcf := G.old hq; obtain ⟨hcq, hfq⟩ := hcf; go_simp; (first | done | exact rfl); done) | (intro wq hq; (have cq := (hq.a.2 0 _ rfl).1; have ltq := hq.a.1); go_simp; (first | done | exact rfl); done))); go_simp; (with_reducible refine hK _ ?_); clear hK K) | fail))
  (with_reducible refine ord_tailD hD ?_)
  intro K hK
  go_simp
  replace hD := (⟨hD.a.other (p := ⟨r.fb, 0, none⟩) (fun e => hB2 (.inl e)) _⟩ : HasP B2 r.fb (w5.setCell ⟨r.fb, 0, none⟩ (.slice A' (r.data.length + dt.size) c')))
  (with_reducible refine hK _ _ hD ?_)
  clear hK K
  (repeat ((first | (with_reducible refine ord_q1D ?_) | (with_reducible refine ord_q0D ?_)); intro K hK; first | (refine Or.inr ⟨?_, ?_⟩; (focus (go_simp; first | done | (simp [undef]; done))); go_simp; (with_reducible refine hK _ ?_); clear hK K) | (refine Or.inl ⟨?_, ?_⟩; (focus (go_simp; done)); apply Exists.intro; refine And.intro ?_ ?_; (focus (first | (intro wq hq; have hcf := G.old hq; obtain ⟨hcq, hfq⟩ := hcf; go_simp; (first | done | exact rfl); done) | (intro wq hq; (have cq := (hq.a.2 0 _ rfl).1; have ltq := hq.a.1); go_simp; (first | done | exact rfl); done))); go_simp; (with_reducible refine hK _ ?_); clear hK K) | fail))
  (with_reducible refine ord_nilD ?_)
  go_end0
  exact ⟨rfl, fin.out⟩
set_option maxRecDepth 20000 in set_option maxHeartbeats 2000000 in
theorem append_any (h : DevW w d S s) (ho : s.Ok) (nm dt : ByteArray) (hm : nm.size ≤ maxLen) (hdm : dt.size ≤ 1099511627776) : Calls Try.prog 16 #[.pointer (some ⟨d, 0, none⟩), .string nm, .string dt] w (RetE d S (appendD s nm.data.toList dt.data.toList) w) := by
  have H := Lib.hid h
  have HO := Lib.hid ho
  obtain ⟨R, hr⟩ : ∃ R, appendD s nm.data.toList dt.data.toList = R := ⟨_, rfl⟩
  rw [hr]
  unfold appendD at hr
  have hdt : dt.data.toList.length = dt.size := rfl
  rw [hdt] at hr
  have EC := Lib.hid (fun c w => Try.call41 c w : ∀ c, Ent 41 c)
  replace hr := Lib.hid hr
  go_enter Try.func16, Try.ntmps16
  go_wp2_with fail
  refine calls_name (fun wx => Below w.heap.size w wx ∧ Bx wx w.heap.size [.string dt]) ⟨by repeat (first | with_reducible assumption | with_reducible exact G.refl _ | with_reducible refine G.drew ?_ | with_reducible refine G.drewN ?_ _ | with_reducible refine G.alloc ?_ _ | with_reducible refine Below.setCell ?_ (by first | (simp; done) | (simp; omega)) _ | with_reducible refine G.trans ?_ hb12 | with_reducible refine G.trans ?_ hb11 | with_reducible refine G.trans ?_ hb10 | with_reducible refine G.trans ?_ hb9 | with_reducible refine G.trans ?_ hb8 | with_reducible refine G.trans ?_ hb7 | with_reducible refine G.trans ?_ hb6 | with_reducible refine G.trans ?_ hb5 | with_reducible refine G.trans ?_ hb4 | with_reducible refine G.trans ?_ hb3 | with_reducible refine G.trans ?_ hb2 | with_reducible refine G.trans ?_ hb1 | with_reducible refine G.trans ?_ hb | assumption), by repeat (first | with_reducible assumption | (with_reducible exact Bx.new (by simp; done) (by rfl)) | (with_reducible refine Bx.alloc ?_ _) | (with_reducible refine Bx.drewN ?_ _) | ((with_reducible apply Bx.put); rotate_right; (first | rfl | skip)) | (with_reducible refine Bx.other ?_ (by first | (simp; done) | (simp; omega)) _))⟩ ?_
  rintro w2 ⟨hb2, x2⟩
  have H2 := Lib.hid (H.out.grow hb2)
  refine (check_any H2.out).mono ?_
  rintro e w3 ⟨rfl, hw⟩
  subst hw
  have c2 := (x2.2 0 _ rfl).1
  have lt2 := x2.lt
  unfold chkD
  rcases hd : s.down with _ | _
  · replace hr := hr.out
    rw [hd, if_neg (by simp)] at hr
    replace hd := Lib.hid hd
    obtain ⟨mb, fs, hR, hS⟩ := H2.out
    have k1 := (hR.box.2 1 _ rfl).1
    have lt := hR.box.lt
    have hlc : lkC s.fs nm.data.toList = (lk fs nm.data.toList).map FR.fl := by rw [hR.eq, lk_fl]
    rw [hlc] at hr
    have HR := Lib.hid hR
    have HS := Lib.hid hS
    have LK := look_fs hR.map Try.underlying9 Try.underlying67 (zeroP _) hm
    rcases hl : lk fs nm.data.toList with _ | r
    · rw [hl] at hr LK
      rw [Option.map_none] at hr
      have hpv : ptrV none = .pointer none := rfl
      rw [hpv] at LK
      replace hl := Lib.hid hl
      replace hr := Lib.hid hr
      clear hR hS hlc
      go_wp2_with fail
      go_ret
      exact RetE.mk hr.out.symm rfl (RetD.of_below H.out (by repeat (first | with_reducible assumption | with_reducible exact G.refl _ | with_reducible refine G.drew ?_ | with_reducible refine G.drewN ?_ _ | with_reducible refine G.alloc ?_ _ | with_reducible refine Below.setCell ?_ (by first | (simp; done) | (simp; omega)) _ | with_reducible refine G.trans ?_ hb12 | with_reducible refine G.trans ?_ hb11 | with_reducible refine G.trans ?_ hb10 | with_reducible refine G.trans ?_ hb9 | with_reducible refine G.trans ?_ hb8 | with_reducible refine G.trans ?_ hb7 | with_reducible refine G.trans ?_ hb6 | with_reducible refine G.trans ?_ hb5 | with_reducible refine G.trans ?_ hb4 | with_reducible refine G.trans ?_ hb3 | with_reducible refine G.trans ?_ hb2 | with_reducible refine G.trans ?_ hb1 | with_reducible refine G.trans ?_ hb | assumption)))
    · rw [hl] at hr LK
      have hpv : ptrV (some r) = .pointer (some ⟨r.fb, 0, none⟩) := rfl
      rw [hpv] at LK
      rw [Option.map_some] at hr
      obtain ⟨hF, hrm, hrn⟩ := lk_rec hR hl
      have hrfl : r.fl ∈ s.fs := by rw [hR.eq]; exact List.mem_map_of_mem hrm
      have hs1 : r.data.length ≤ 16777216 := ho.sz _ hrfl
      have k0 := (hF.box.2 0 _ rfl).1
      have hv : r.val = .slice r.A r.data.length r.cap := rfl
      rw [hv] at k0
      have ltf := hF.box.lt
      have hdl : d ≠ w.heap.size := by
        have := (hS d).2 (.inl rfl)
        have := H.out.lt this
        omega
      replace hl := Lib.hid hl
      have hdat : r.fl.data.length = r.data.length := rfl
      dsimp only at hr
      rw [hdat] at hr
      have hw1 : IntKind.i64.wrap ((r.data.length : Int) + (dt.size : Int)) = (r.data.length : Int) + (dt.size : Int) := IntWalk.i64_in _ (by omega)
      clear hR hS hlc hF hv
      go_wp2_with fail
      refine wp_name (fun wx => Below w3.heap.size w3 wx ∧ Bx wx w3.heap.size [.pointer (some ⟨r.fb, 0, none⟩)]) ⟨by repeat (first | with_reducible assumption | with_reducible exact G.refl _ | with_reducible refine G.drew ?_ | with_reducible refine G.drewN ?_ _ | with_reducible refine G.alloc ?_ _ | with_reducible refine Below.setCell ?_ (by first | (simp; done) | (simp; omega)) _ | with_reducible refine G.trans ?_ hb12 | with_reducible refine G.trans ?_ hb11 | with_reducible refine G.trans ?_ hb10 | with_reducible refine G.trans ?_ hb9 | with_reducible refine G.trans ?_ hb8 | with_reducible refine G.trans ?_ hb7 | with_reducible refine G.trans ?_ hb6 | with_reducible refine G.trans ?_ hb5 | with_reducible refine G.trans ?_ hb4 | with_reducible refine G.trans ?_ hb3 | with_reducible refine G.trans ?_ hb2 | with_reducible refine G.trans ?_ hb1 | with_reducible refine G.trans ?_ hb | assumption), by repeat (first | with_reducible assumption | (with_reducible exact Bx.new (by simp; done) (by rfl)) | (with_reducible refine Bx.alloc ?_ _) | (with_reducible refine Bx.drewN ?_ _) | ((with_reducible apply Bx.put); rotate_right; (first | rfl | skip)) | (with_reducible refine Bx.other ?_ (by first | (simp; done) | (simp; omega)) _))⟩ ?_
      rintro w4 ⟨hb4, x4⟩
      replace c2 := G.cell c2 hb4
      replace k0 := G.cell k0 hb4
      have c4 := (x4.2 0 _ rfl).1
      replace lt2 := cell_lt c2
      replace ltf := cell_lt k0
      have lt4 := x4.lt
      dsimp only at lt2 ltf
      have hb24 := G.trans hb2 hb4
      by_cases hbg : 16777216 < r.data.length + dt.size
      · have hbg' : (16777216 : Int) < (r.data.length : Int) + (dt.size : Int) := by omega
        rw [if_pos hbg] at hr
        replace hr := Lib.hid hr
        go_wp2_with fail
        refine wp_region_ord [(0, 1), (1, 1), (2, 1), (3, 1), (4, 1), (5, 1), (6, 1), (7, 1), (8, 1), (9, 1)] [] 5 (by kernel_rfl) (by decide +kernel) ?_
        simp only [pickO, List.append_eq, List.cons_append, List.nil_append, List.getElem?_cons_succ, List.getElem?_cons_zero]
        intro w0 hG
        (repeat ((first | (with_reducible refine ord_q1 ?_) | (with_reducible refine ord_q0 ?_)); intro K hK; first | (refine Or.inr ⟨?_, ?_⟩; (focus (go_simp; first | done | (simp [undef]; done))); go_simp; (with_reducible refine hK _ ?_); clear hK K) | (refine Or.inl ⟨?_, ?_⟩; (focus (go_simp; done)); apply Exists.intro; refine And.intro ?_ ?_; (focus (first | (intro wq hq; obtain ⟨hcq, hfq⟩ := G.old hq; go_simp; (first | done | exact rfl); done) | (intro wq; go_simp; (first | done | exact rfl); done))); go_simp; (with_reducible refine hK _ ?_); clear hK K) | fail))
        (with_reducible refine ord_nil ?_)
        go_wp2_with fail
        go_ret
        exact RetE.mk hr.out.symm rfl (RetD.of_below H.out (G.trans hb24 hG.b))
      · have hbg' : ¬ (16777216 : Int) < (r.data.length : Int) + (dt.size : Int) := by omega
        rw [if_neg hbg] at hr
        go_wp2_with fail
        refine wp_region_ord [(0, 1), (1, 1), (2, 1), (3, 1), (4, 1), (5, 1), (6, 1), (7, 1), (8, 1), (9, 1)] [] 5 (by kernel_rfl) (by decide +kernel) ?_
        simp only [pickO, List.append_eq, List.cons_append, List.nil_append, List.getElem?_cons_succ, List.getElem?_cons_zero]
        intro w0 hG
        (repeat ((first | (with_reducible refine ord_q1 ?_) | (with_reducible refine ord_q0 ?_)); intro K hK; first | (refine Or.inr ⟨?_, ?_⟩; (focus (go_simp; first | done | (simp [undef]; done))); go_simp; (with_reducible refine hK _ ?_); clear hK K) | (refine Or.inl ⟨?_, ?_⟩; (focus (go_simp; done)); apply Exists.intro; refine And.intro ?_ ?_; (focus (first | (intro wq hq; obtain ⟨hcq, hfq⟩ := G.old hq; go_simp; (first | done | exact rfl); done) | (intro wq; go_simp; (first | done | exact rfl); done))); go_simp; (with_reducible refine hK _ ?_); clear hK K) | fail))
        (with_reducible refine ord_nil ?_)
        have hb5 := hG.b
        have hb25 := G.trans hb24 hb5
        have H5 := Lib.hid (H.out.grow hb25)
        replace c2 := G.cell c2 hb5
        replace lt2 := cell_lt c2
        dsimp only at lt2
        have X4 := Lib.hid (x4.grow hb5)
        clear hG c4 lt4 k0 ltf
        obtain ⟨F, hF⟩ : ∃ F, freeD s = F := ⟨_, rfl⟩
        rw [hF] at hr
        have FA := Lib.hid (fun (wx : World) (hx : DevW wx d S s) => free_any hx HO.out)
        rw [hF] at FA
        by_cases hsp : F < (dt.size : Int)
        · rw [if_pos hsp] at hr
          replace hr := Lib.hid hr
          go_wp2_with fail
          refine wp_region_ord [(0, 1), (1, 1), (2, 1), (3, 2), (4, 1), (5, 1)] [] 5 (by kernel_rfl) (by decide +kernel) ?_
          simp only [pickO, List.append_eq, List.cons_append, List.nil_append, List.getElem?_cons_succ, List.getElem?_cons_zero]
          intro w0 hG
          (repeat ((first | (with_reducible refine ord_q1 ?_) | (with_reducible refine ord_q0 ?_)); intro K hK; first | (refine Or.inr ⟨?_, ?_⟩; (focus (go_simp; first | done | (simp [undef]; done))); go_simp; (with_reducible refine hK _ ?_); clear hK K) | (refine Or.inl ⟨?_, ?_⟩; (focus (go_simp; done)); apply Exists.intro; refine And.intro ?_ ?_; (focus (first | (intro wq hq; obtain ⟨hcq, hfq⟩ := G.old hq; go_simp; (first | done | exact rfl); done) | (intro wq; go_simp; (first | done | exact rfl); done))); go_simp; (with_reducible refine hK _ ?_); clear hK K) | fail))
          (with_reducible refine ord_run ?_ hG)
          intro K hK
          go_simp
          go_at_call 20; (with_reducible refine (FA.out _ (H5.out.grow hG.b)).mono ?_); rintro e w6 ⟨rfl, hb6⟩
          replace hG := Grew.trans hG hb6
          (try dsimp only)
          (with_reducible refine hK _ _ hG ?_)
          clear hK K
          (repeat ((first | (with_reducible refine ord_q1 ?_) | (with_reducible refine ord_q0 ?_)); intro K hK; first | (refine Or.inr ⟨?_, ?_⟩; (focus (go_simp; first | done | (simp [undef]; done))); go_simp; (with_reducible refine hK _ ?_); clear hK K) | (refine Or.inl ⟨?_, ?_⟩; (focus (go_simp; done)); apply Exists.intro; refine And.intro ?_ ?_; (focus (first | (intro wq hq; obtain ⟨hcq, hfq⟩ := G.old hq; go_simp; (first | done | exact rfl); done) | (intro wq; go_simp; (first | done | exact rfl); done))); go_simp; (with_reducible refine hK _ ?_); clear hK K) | fail))
          (with_reducible refine ord_nil ?_)
          go_wp2_with fail
          go_ret
          exact RetE.mk hr.out.symm rfl (RetD.of_below H.out (G.trans hb25 hG.b))
        · rw [if_neg hsp] at hr
          replace hr := Lib.hid hr
          go_wp2_with fail
          refine wp_region_ord [(0, 1), (1, 1), (2, 1), (3, 2), (4, 1), (5, 1)] [] 5 (by kernel_rfl) (by decide +kernel) ?_
          simp only [pickO, List.append_eq, List.cons_append, List.nil_append, List.getElem?_cons_succ, List.getElem?_cons_zero]
          intro w0 hG
          (repeat ((first | (with_reducible refine ord_q1 ?_) | (with_reducible refine ord_q0 ?_)); intro K hK; first | (refine Or.inr ⟨?_, ?_⟩; (focus (go_simp; first | done | (simp [undef]; done))); go_simp; (with_reducible refine hK _ ?_); clear hK K) | (refine Or.inl ⟨?_, ?_⟩; (focus (go_simp; done)); apply Exists.intro; refine And.intro ?_ ?_; (focus (first | (intro wq hq; obtain ⟨hcq, hfq⟩ := G.old hq; go_simp; (first | done | exact rfl); done) | (intro wq; go_simp; (first | done | exact rfl); done))); go_simp; (with_reducible refine hK _ ?_); clear hK K) | fail))
          (with_reducible refine ord_run ?_ hG)
          intro K hK
          go_simp
          go_at_call 20; (with_reducible refine (FA.out _ (H5.out.grow hG.b)).mono ?_); rintro e w6 ⟨rfl, hb6⟩
          replace hG := Grew.trans hG hb6
          (try dsimp only)
          (with_reducible refine hK _ _ hG ?_)
          clear hK K
          (repeat ((first | (with_reducible refine ord_q1 ?_) | (with_reducible refine ord_q0 ?_)); intro K hK; first | (refine Or.inr ⟨?_, ?_⟩; (focus (go_simp; first | done | (simp [undef]; done))); go_simp; (with_reducible refine hK _ ?_); clear hK K) | (refine Or.inl ⟨?_, ?_⟩; (focus (go_simp; done)); apply Exists.intro; refine And.intro ?_ ?_; (focus (first | (intro wq hq; obtain ⟨hcq, hfq⟩ := G.old hq; go_simp; (first | done | exact rfl); done) | (intro wq; go_simp; (first | done | exact rfl); done))); go_simp; (with_reducible refine hK _ ?_); clear hK K) | fail))
          (with_reducible refine ord_nil ?_)
          have hb56 := hG.b
          have hb46 := G.trans hb4 (G.trans hb5 hb56)
          have HR0 := Lib.hid (HR.out.grow hb46)
          have X6 := Lib.hid (X4.out.grow hb56)
          have X2 := Lib.hid (x2.grow hb46)
          have hlt3 : ∀ z, r.has z → z < w3.heap.size := fun z hz => (HR.out.files r hrm).lt hz
          have hB2 : ¬ r.has w3.heap.size := fun hh => by have := hlt3 _ hh; omega
          clear hG
          go_wp2_with fail
          refine (perform_pre (f := fun s => appendC s nm.data.toList r.fl dt.data.toList) HR0.out HS.out (EC.out _) ⟨rfl, rfl, rfl, rfl⟩ (append1_any HR0.out HS.out hl.out X6.out X2.out (by omega) hB2)).mono ?_
          rintro e w7 ⟨rfl, hr7⟩
          go_wp2_with fail
          go_ret
          exact RetE.mk (by rw [← hr.out]) rfl (hr7.after (DChg.of_below (G.trans hb25 hb56)))
  · replace hr := hr.out
    rw [hd, if_pos rfl] at hr
    replace hr := Lib.hid hr
    replace hd := Lib.hid hd
    go_wp2_with fail
    go_ret
    exact RetE.mk hr.out.symm rfl (RetD.of_below H.out hb2)
end
end Go.Proofs.Ytphjgembpcikdaa
