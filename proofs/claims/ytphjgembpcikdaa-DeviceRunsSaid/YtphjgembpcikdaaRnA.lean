/- device laws: agree. -/
import Derived.Test.YtphjgembpcikdaaRmS
import Derived.Test.YtphjgembpcikdaaOrdD
namespace Go.Proofs.Ytphjgembpcikdaa
set_option linter.unusedVariables false
set_option linter.unnecessarySimpa false
set_option linter.unusedSimpArgs false
open Go.RowKit

theorem conv_bx (w : World) (s : ByteArray) (hs : s.size ≤ 1000) : ∃ C W, (convert 9 39 (.string s)).run Try.prog w = .ok (.slice (some ⟨w.heap.size, 0, none⟩) s.size C) W ∧ Below w.heap.size w W ∧ Bx W w.heap.size (u8s s.data.toList) ∧ s.size ≤ C ∧ C ≤ maxLen := by
  refine ⟨_, _, Lib.run_convert_string_bytes w 9 39 5 s Try.underlying9 Try.underlying39 Try.underlying5, Joins.below_bytesWorld _ _ _ _ (Nat.le_refl _), ⟨by rw [Lib.bytesWorld_size]; omega, fun j u hu => ?_⟩, grownCap_ge _ _ _ _, grownCap_le_maxLen _ _ _ _ (by unfold maxLen; omega)⟩
  unfold u8s at hu
  rw [List.getElem?_map] at hu
  rcases hb : s.data.toList[j]? with _ | b
  · rw [hb] at hu; cases hu
  · rw [hb] at hu
    have hj : j < s.size := (List.getElem?_eq_some_iff.1 hb).1
    have := Lib.bytesWorld_cell w 5 s j hj
    refine ⟨?_, ?_⟩
    · rw [this]
      have e : s.data.toList.getD j 0 = b := by rw [List.getD, hb]; rfl
      rw [e]
      exact hu
    · unfold World.frozen?
      rw [Lib.bytesWorld_at_new]
      have hsz : s.size ≤ (Lib.bytesCells w 5 s).size := by unfold Lib.bytesCells; simp
      simp
      omega
theorem u8_wrap (x : Int) : ∃ b : UInt8, IntKind.u8.wrap x = (b.toNat : Int) := by
  have h : IntKind.u8.wrap x = x % 256 := by simp [IntKind.wrap, IntKind.signed, IntKind.bits]
  refine ⟨UInt8.ofNat (x % 256).toNat, ?_⟩
  rw [h, UInt8.toNat_ofNat_of_lt' (show (x % 256).toNat < 256 by omega)]
  omega
section
variable {wL w w' : World} {d M B : Nat} {s s' : Ds} {m m' : Md} {l l' : List Value}
theorem Rn.sim_moper (h : Sim s m) (hg : s.Good) {n : Nat} (hs : Small s n) (hn : n ≤ 100) : (∀ f ∈ m.fs, f.data.length ≤ 1000000 ∧ f.dur ≤ 1000000) ∧ m.limit ≤ 9223372036854775807 := by
  refine ⟨fun f hf => ?_, ?_⟩
  · rw [h.fs] at hf
    have h1 := hs.data f hf
    have h2 := hg.ok.du f hf
    omega
  · rcases h.lim with ⟨_, h1⟩ | ⟨_, h1, _, h2⟩
    · omega
    · omega
/-- What agree leaves. -/
def RetG (wL : World) (d M n : Nat) (e : Ending) (w' : World) : Prop := e = .returned (.bool true) ∧ ∃ s' m', Rn wL w' d M s' m' ∧ s'.Good ∧ Sim s' m' ∧ Small s' (n + 1)
set_option maxRecDepth 20000 in set_option maxHeartbeats 16000000 in
theorem agree_any (h : Rn wL w d M s m) (hg : s.Good) (hS : Sim s m) {n : Nat} (hsm : Small s n) (hn : n ≤ 60) (o : LOp) (ho : o.Fit) :
    Calls Try.prog 33 #[.pointer (some ⟨d, 0, none⟩), .pointer (some ⟨M, 0, none⟩), o.val, .int .i64 n] w (RetG wL d M n) := by
  have H := Lib.hid h
  have HG := Lib.hid hg
  have HS := Lib.hid hS
  have HM := Lib.hid hsm
  have HF := Lib.hid (sim_fine hS hg hsm (by omega))
  have HO := Lib.hid ho
  have hsz0 := h.below.size
  have hn8 := ho.name
  have hd8 := ho.data
  have hk8 := ho.kind
  have hlo := ho.lo
  have hhi := ho.hi
  obtain ⟨j, hj⟩ : ∃ j, o.kind % 12 = j := ⟨_, rfl⟩
  have hmj : (o.kind : Int) % 12 = (j : Int) := by omega
  have hwk : IntKind.i64.wrap (o.kind : Int) = (o.kind : Int) := by rw [IntWalk.i64_in _ (by omega)]
  have hj12 : j < 12 := by omega
  clear h hg hS hsm ho hk8
  unfold LOp.val
  go_enter Try.func33, Try.ntmps33
  go_wp2_with fail
  refine wp_name (fun wx => RnB wL wx d M s m w.heap.size o.cells) (H.out.boxed (by repeat (first | with_reducible assumption | with_reducible exact G.refl _ | with_reducible refine G.drew ?_ | with_reducible refine G.drewN ?_ _ | with_reducible refine G.alloc ?_ _ | with_reducible refine Below.setCell ?_ (by first | (simp; done) | (simp; omega)) _ | with_reducible refine G.trans ?_ hb12 | with_reducible refine G.trans ?_ hb11 | with_reducible refine G.trans ?_ hb10 | with_reducible refine G.trans ?_ hb9 | with_reducible refine G.trans ?_ hb8 | with_reducible refine G.trans ?_ hb7 | with_reducible refine G.trans ?_ hb6 | with_reducible refine G.trans ?_ hb5 | with_reducible refine G.trans ?_ hb4 | with_reducible refine G.trans ?_ hb3 | with_reducible refine G.trans ?_ hb2 | with_reducible refine G.trans ?_ hb1 | with_reducible refine G.trans ?_ hb | assumption)) (Nat.le_refl _) (Bx.new rfl rfl)) ?_
  intro w1 hN1
  replace hN1 := Lib.hid hN1
  have c1 := (hN1.out.box.2 1 _ rfl).1
  have c3 := (hN1.out.box.2 3 _ rfl).1
  have lt1 := hN1.out.box.lt
  refine wp_region_ord [(0, 1), (1, 1), (3, 1), (4, 1), (5, 1), (2, 2), (6, 2), (7, 1), (8, 1)] [] 5 (by kernel_rfl) (by decide +kernel) ?_
  simp only [pickO, List.append_eq, List.cons_append, List.nil_append, List.getElem?_cons_succ, List.getElem?_cons_zero]
  intro w0 hG
  (repeat ((first | (with_reducible refine ord_q1 ?_) | (with_reducible refine ord_q0 ?_)); intro K hK; first | (refine Or.inr ⟨?_, ?_⟩; (focus (go_simp; first | done | (simp [undef]; done))); go_simp; (with_reducible refine hK _ ?_); clear hK K) | (refine Or.inl ⟨?_, ?_⟩; (focus (go_simp; done)); apply Exists.intro; refine And.intro ?_ ?_; (focus (first | (intro wq hq; obtain ⟨hcq, hfq⟩ := G.old hq; go_simp; (first | done | exact rfl); done) | (intro wq; go_simp; (first | done | exact rfl); done))); go_simp; (with_reducible refine hK _ ?_); clear hK K) | fail))
  (with_reducible refine ord_run ?_ hG)
  intro K hK
  go_simp
  go_at_call 46; (with_reducible refine (nameOf_L o.name hn8 _).mono ?_); rintro e w2 ⟨rfl, hb⟩
  replace hG := Grew.trans hG hb
  (try dsimp only)
  (with_reducible refine hK _ _ hG ?_)
  clear hK K
  (repeat ((first | (with_reducible refine ord_q1 ?_) | (with_reducible refine ord_q0 ?_)); intro K hK; first | (refine Or.inr ⟨?_, ?_⟩; (focus (go_simp; first | done | (simp [undef]; done))); go_simp; (with_reducible refine hK _ ?_); clear hK K) | (refine Or.inl ⟨?_, ?_⟩; (focus (go_simp; done)); apply Exists.intro; refine And.intro ?_ ?_; (focus (first | (intro wq hq; obtain ⟨hcq, hfq⟩ := G.old hq; go_simp; (first | done | exact rfl); done) | (intro wq; go_simp; (first | done | exact rfl); done))); go_simp; (with_reducible refine hK _ ?_); clear hK K) | fail))
  (with_reducible refine ord_run ?_ hG)
  intro K hK
  go_simp
  go_at_call 47; (with_reducible refine (dataOf_any o.data n hd8 (by omega) _).mono ?_); rintro e w2 ⟨rfl, hb⟩
  replace hG := Grew.trans hG hb
  (try dsimp only)
  (with_reducible refine hK _ _ hG ?_)
  clear hK K
  (repeat ((first | (with_reducible refine ord_q1 ?_) | (with_reducible refine ord_q0 ?_)); intro K hK; first | (refine Or.inr ⟨?_, ?_⟩; (focus (go_simp; first | done | (simp [undef]; done))); go_simp; (with_reducible refine hK _ ?_); clear hK K) | (refine Or.inl ⟨?_, ?_⟩; (focus (go_simp; done)); apply Exists.intro; refine And.intro ?_ ?_; (focus (first | (intro wq hq; obtain ⟨hcq, hfq⟩ := G.old hq; go_simp; (first | done | exact rfl); done) | (intro wq; go_simp; (first | done | exact rfl); done))); go_simp; (with_reducible refine hK _ ?_); clear hK K) | fail))
  (with_reducible refine ord_nil ?_)
  have hN2 := Lib.hid (hN1.out.grow hG.b)
  clear hN1 hG c1 c3 lt1
  go_wp2_with fail
  obtain ⟨T, hMW, _, _⟩ := hN2.out.setM
  refine (find_any hMW (nameL o.name) HF.out.len).mono ?_
  rintro e w3 ⟨rfl, hb3⟩
  replace hN2 := Lib.hid (hN2.out.grow hb3)
  clear hMW hb3
  obtain ⟨⟨fi, fb⟩, hfd⟩ : ∃ p, findL m.fs (nameL o.name) = p := ⟨_, rfl⟩
  rw [hfd]
  dsimp only
  replace hfd := Lib.hid hfd
  have c0 := (hN2.out.box.2 0 _ rfl).1
  have c4 := (hN2.out.box.2 4 _ rfl).1
  have ltb := hN2.out.box.lt
  obtain ⟨dl, hdl⟩ : ∃ dl, dataL n (o.data % 64) = dl := ⟨_, rfl⟩
  rw [hdl]
  have hdlen : dl.length ≤ 63 := by rw [← hdl, dataL_len]; omega
  replace hdl := Lib.hid hdl
  by_cases hj5 : j ≤ 5
  · have z6 : ((j : Int) == 6) = false := by simp; omega
    have z7 : ((j : Int) == 7) = false := by simp; omega
    have z8 : ((j : Int) == 8) = false := by simp; omega
    have z9 : ((j : Int) == 9) = false := by simp; omega
    have z10 : ((j : Int) == 10) = false := by simp; omega
    have z11 : ((j : Int) == 11) = false := by simp; omega
    have hb := sim_oper HS.out H.out.fd.rise HM.out (by omega) o (by omega) n
    obtain ⟨⟨a, s2⟩, ha⟩ : ∃ p, operD s o n = p := ⟨_, rfl⟩
    obtain ⟨⟨b, m2⟩, hb2⟩ : ∃ p, operM m o (dataL n (o.data % 64)) = p := ⟨_, rfl⟩
    rw [ha, hb2] at hb
    obtain ⟨hb1, hSX⟩ := hb
    dsimp only at hb1 hSX
    subst hb1
    have hGX := Lib.hid (show s2.Good from by have := oper_good HG.out o n; rw [ha] at this; exact this)
    have hKX := Lib.hid (show Small s2 (n + 1) from by have := small_oper HM.out o n; rw [ha] at this; exact this)
    replace hSX := Lib.hid hSX
    rw [hdl.out] at hb2
    obtain ⟨p1, p2⟩ := Rn.sim_moper HS.out HG.out HM.out (by omega)
    have hOM := Lib.hid (fun (wx : World) (hx : RnB wL wx d M s2 m w.heap.size o.cells) => hx.mod (m' := m2) (e0 := .returned (.int .i64 b)) fun T hT _ => by
      have h1 := moper_any hT HF.out o HO.out (by omega) dl (by omega) p1 p2
      rw [hb2] at h1
      exact h1)
    have hOD := Lib.hid (fun (wx : World) (hx : RnB wL wx d M s m w.heap.size o.cells) => hx.devE (r := (b, s2)) fun S hS => by
      have h1 := operate_any hS HG.out o HO.out n (by omega)
      rw [ha] at h1
      exact h1)
    clear ha hb2 p1 p2
    go_wp2_with fail
    refine wp_region_ordD [(0, 0), (1, 0), (2, 0), (4, 0), (5, 0), (6, 0), (3, 3), (7, 3), (8, 0), (9, 0)] [3, 7] 5 (fun wq => Bx wq w.heap.size o.cells) (by kernel_rfl) (by decide +kernel) ?_
    simp only [pickO, List.append_eq, List.cons_append, List.nil_append, List.getElem?_cons_succ, List.getElem?_cons_zero]
    intro w0 hG
    have hD := (hN2.out.grow hG.b).box
    refine ⟨hD, ?_⟩
    (repeat ((first | (with_reducible refine ord_q1D ?_) | (with_reducible refine ord_q0D ?_)); intro K hK; first | (refine Or.inr ⟨?_, ?_⟩; (focus (go_simp; first | done | (simp [undef]; done))); go_simp; (with_reducible refine hK _ ?_); clear hK K) | (refine Or.inl ⟨?_, ?_⟩; (focus (go_simp; done)); apply Exists.intro; refine And.intro ?_ ?_; (focus (first | (intro wq hq; have hcf := G.old hq; obtain ⟨hcq, hfq⟩ := hcf; go_simp; (first | done | exact rfl); done) | (intro wq hq; have d0 := (hq.2 0 _ rfl).1; have d1 := (hq.2 1 _ rfl).1; have d2 := (hq.2 2 _ rfl).1; have d3 := (hq.2 3 _ rfl).1; have d4 := (hq.2 4 _ rfl).1; have ltq := hq.1; go_simp; (first | done | exact rfl); done))); go_simp; (with_reducible refine hK _ ?_); clear hK K) | fail))
    replace hN2 := Lib.hid (hN2.out.grow hG.b)
    (with_reducible refine ord_tailD hD ?_)
    intro K hK
    go_simp
    go_at_call 24; (refine (hOD.out _ hN2.out).mono ?_); rintro e w5 ⟨rfl, hN5⟩; replace hN5 := Lib.hid hN5; have hD' := hN5.out.box
    replace hD := hD'
    clear hD'
    (try dsimp only)
    (with_reducible refine hK _ _ hD ?_)
    clear hK K
    (repeat ((first | (with_reducible refine ord_q1D ?_) | (with_reducible refine ord_q0D ?_)); intro K hK; first | (refine Or.inr ⟨?_, ?_⟩; (focus (go_simp; first | done | (simp [undef]; done))); go_simp; (with_reducible refine hK _ ?_); clear hK K) | (refine Or.inl ⟨?_, ?_⟩; (focus (go_simp; done)); apply Exists.intro; refine And.intro ?_ ?_; (focus (first | (intro wq hq; have hcf := G.old hq; obtain ⟨hcq, hfq⟩ := hcf; go_simp; (first | done | exact rfl); done) | (intro wq hq; have d0 := (hq.2 0 _ rfl).1; have d1 := (hq.2 1 _ rfl).1; have d2 := (hq.2 2 _ rfl).1; have d3 := (hq.2 3 _ rfl).1; have d4 := (hq.2 4 _ rfl).1; have ltq := hq.1; go_simp; (first | done | exact rfl); done))); go_simp; (with_reducible refine hK _ ?_); clear hK K) | fail))
    (with_reducible refine ord_tailD hD ?_)
    intro K hK
    go_simp
    go_at_call 56; (refine (hOM.out _ hN5.out).mono ?_); rintro e w6 ⟨rfl, hN6⟩; replace hN6 := Lib.hid hN6; have hD' := hN6.out.box
    replace hD := hD'
    clear hD'
    (try dsimp only)
    (with_reducible refine hK _ _ hD ?_)
    clear hK K
    (repeat ((first | (with_reducible refine ord_q1D ?_) | (with_reducible refine ord_q0D ?_)); intro K hK; first | (refine Or.inr ⟨?_, ?_⟩; (focus (go_simp; first | done | (simp [undef]; done))); go_simp; (with_reducible refine hK _ ?_); clear hK K) | (refine Or.inl ⟨?_, ?_⟩; (focus (go_simp; done)); apply Exists.intro; refine And.intro ?_ ?_; (focus (first | (intro wq hq; have hcf := G.old hq; obtain ⟨hcq, hfq⟩ := hcf; go_simp; (first | done | exact rfl); done) | (intro wq hq; have d0 := (hq.2 0 _ rfl).1; have d1 := (hq.2 1 _ rfl).1; have d2 := (hq.2 2 _ rfl).1; have d3 := (hq.2 3 _ rfl).1; have d4 := (hq.2 4 _ rfl).1; have ltq := hq.1; go_simp; (first | done | exact rfl); done))); go_simp; (with_reducible refine hK _ ?_); clear hK K) | fail))
    (with_reducible refine ord_nilD ?_)
    go_wp2_with fail
    go_ret
    exact ⟨rfl, _, _, hN6.out.rn, hGX.out, hSX.out, hKX.out⟩
  · have hkk : j = 6 ∨ j = 7 ∨ j = 8 ∨ j = 9 ∨ j = 10 ∨ j = 11 := by omega
    clear hj5 hj12
    rcases hkk with rfl | rfl | rfl | rfl | rfl | rfl
    all_goals simp only [Int.ofNat_zero, Int.natCast_one, Int.cast_ofNat_Int] at hmj
    · obtain ⟨z, hz⟩ : ∃ z, max (0 : Int) o.num = z := ⟨_, rfl⟩
      have hz0 : 0 ≤ z ∧ z ≤ 9223372036854775807 := by omega
      have hGX := Lib.hid (limit_good HG.out o.num)
      have hKX : Hid (Small (limitD s o.num) (n + 1)) := HM.out.mono rfl
      have hlz : limitD s o.num = { s with lim := true, left := z } := by unfold limitD; rw [hz]
      have hSX : Hid (Sim (limitD s o.num) { m with limit := z }) := by
        rw [hlz]
        exact ⟨HS.out.room, HS.out.down, HS.out.fs, .inr ⟨rfl, rfl, hz0.1, hz0.2⟩⟩
      clear hlz
      go_wp2_with fail
      refine (hN2.out.devV fun S hS _ => limit_any hS o.num).mono ?_
      rintro e w4 ⟨rfl, hN4⟩
      replace hN4 := Lib.hid hN4
      have c4' := (hN4.out.box.2 4 _ rfl).1
      have lt4 := hN4.out.box.lt
      obtain ⟨A, c, hR, hMB⟩ := hN4.out.mbox
      obtain ⟨q1, f1⟩ := hR.box.2 1 _ rfl
      have ltM := hR.box.lt
      have hNX := Lib.hid (hN4.out.cell (m' := { m with limit := z }) (i := 1) (v := .int .i64 z) (fun A k => rfl) rfl)
      clear hN2 c0 c4 ltb hR
      go_wp2_with fail
      clear hN4
      obtain ⟨A, c, hR, _⟩ := hNX.out.mbox
      have q2 := (hR.box.2 2 _ rfl).1
      rw [hSX.out.down] at q2
      have ltM := hR.box.lt
      obtain ⟨SS, hDV, _⟩ := hNX.out.setD
      replace hDV := Lib.hid hDV
      clear hR
      go_wp2_with fail
      refine wp_region_ord [(0, 1), (2, 1), (3, 1), (4, 1), (5, 1), (1, 2), (6, 1), (7, 1)] [] 5 (by kernel_rfl) (by decide +kernel) ?_
      simp only [pickO, List.append_eq, List.cons_append, List.nil_append, List.getElem?_cons_succ, List.getElem?_cons_zero]
      intro w0 hG
      (repeat ((first | (with_reducible refine ord_q1 ?_) | (with_reducible refine ord_q0 ?_)); intro K hK; first | (refine Or.inr ⟨?_, ?_⟩; (focus (go_simp; first | done | (simp [undef]; done))); go_simp; (with_reducible refine hK _ ?_); clear hK K) | (refine Or.inl ⟨?_, ?_⟩; (focus (go_simp; done)); apply Exists.intro; refine And.intro ?_ ?_; (focus (first | (intro wq hq; obtain ⟨hcq, hfq⟩ := G.old hq; go_simp; (first | done | exact rfl); done) | (intro wq; go_simp; (first | done | exact rfl); done))); go_simp; (with_reducible refine hK _ ?_); clear hK K) | fail))
      (with_reducible refine ord_run ?_ hG)
      intro K hK
      go_simp
      go_at_call 28; (with_reducible refine (down_any (hDV.out.grow hG.b)).mono ?_); rintro e wD ⟨rfl, hw⟩; subst hw; have hb := G.refl wD
      replace hG := Grew.trans hG hb
      (try dsimp only)
      (with_reducible refine hK _ _ hG ?_)
      clear hK K
      (repeat ((first | (with_reducible refine ord_q1 ?_) | (with_reducible refine ord_q0 ?_)); intro K hK; first | (refine Or.inr ⟨?_, ?_⟩; (focus (go_simp; first | done | (simp [undef]; done))); go_simp; (with_reducible refine hK _ ?_); clear hK K) | (refine Or.inl ⟨?_, ?_⟩; (focus (go_simp; done)); apply Exists.intro; refine And.intro ?_ ?_; (focus (first | (intro wq hq; obtain ⟨hcq, hfq⟩ := G.old hq; go_simp; (first | done | exact rfl); done) | (intro wq; go_simp; (first | done | exact rfl); done))); go_simp; (with_reducible refine hK _ ?_); clear hK K) | fail))
      (with_reducible refine ord_nil ?_)
      go_wp2_with fail
      go_ret
      exact ⟨rfl, _, _, (hNX.out.grow hG.b).rn, hGX.out, hSX.out, hKX.out⟩
    · have hGX := Lib.hid (crash_good HG.out)
      have hKX : Hid (Small { s with down := true } (n + 1)) := HM.out.mono rfl
      have hSX : Hid (Sim { s with down := true } { m with down := true }) := ⟨HS.out.room, rfl, HS.out.fs, HS.out.lim⟩
      go_wp2_with fail
      refine (hN2.out.devV fun S hS _ => crash_any hS).mono ?_
      rintro e w4 ⟨rfl, hN4⟩
      replace hN4 := Lib.hid hN4
      obtain ⟨A, c, hR, hMB⟩ := hN4.out.mbox
      obtain ⟨q1, f1⟩ := hR.box.2 2 _ rfl
      have ltM := hR.box.lt
      have hNX := Lib.hid (hN4.out.cell (m' := { m with down := true }) (i := 2) (v := .bool true) (fun A k => rfl) rfl)
      clear hN2 c0 c4 ltb hR
      go_wp2_with fail
      clear hN4
      obtain ⟨A, c, hR, _⟩ := hNX.out.mbox
      have q2 := (hR.box.2 2 _ rfl).1
      rw [hSX.out.down] at q2
      have ltM := hR.box.lt
      obtain ⟨SS, hDV, _⟩ := hNX.out.setD
      replace hDV := Lib.hid hDV
      clear hR
      go_wp2_with fail
      refine wp_region_ord [(0, 1), (2, 1), (3, 1), (4, 1), (5, 1), (1, 2), (6, 1), (7, 1)] [] 5 (by kernel_rfl) (by decide +kernel) ?_
      simp only [pickO, List.append_eq, List.cons_append, List.nil_append, List.getElem?_cons_succ, List.getElem?_cons_zero]
      intro w0 hG
      (repeat ((first | (with_reducible refine ord_q1 ?_) | (with_reducible refine ord_q0 ?_)); intro K hK; first | (refine Or.inr ⟨?_, ?_⟩; (focus (go_simp; first | done | (simp [undef]; done))); go_simp; (with_reducible refine hK _ ?_); clear hK K) | (refine Or.inl ⟨?_, ?_⟩; (focus (go_simp; done)); apply Exists.intro; refine And.intro ?_ ?_; (focus (first | (intro wq hq; obtain ⟨hcq, hfq⟩ := G.old hq; go_simp; (first | done | exact rfl); done) | (intro wq; go_simp; (first | done | exact rfl); done))); go_simp; (with_reducible refine hK _ ?_); clear hK K) | fail))
      (with_reducible refine ord_run ?_ hG)
      intro K hK
      go_simp
      go_at_call 28; (with_reducible refine (down_any (hDV.out.grow hG.b)).mono ?_); rintro e wD ⟨rfl, hw⟩; subst hw; have hb := G.refl wD
      replace hG := Grew.trans hG hb
      (try dsimp only)
      (with_reducible refine hK _ _ hG ?_)
      clear hK K
      (repeat ((first | (with_reducible refine ord_q1 ?_) | (with_reducible refine ord_q0 ?_)); intro K hK; first | (refine Or.inr ⟨?_, ?_⟩; (focus (go_simp; first | done | (simp [undef]; done))); go_simp; (with_reducible refine hK _ ?_); clear hK K) | (refine Or.inl ⟨?_, ?_⟩; (focus (go_simp; done)); apply Exists.intro; refine And.intro ?_ ?_; (focus (first | (intro wq hq; obtain ⟨hcq, hfq⟩ := G.old hq; go_simp; (first | done | exact rfl); done) | (intro wq; go_simp; (first | done | exact rfl); done))); go_simp; (with_reducible refine hK _ ?_); clear hK K) | fail))
      (with_reducible refine ord_nil ?_)
      go_wp2_with fail
      go_ret
      exact ⟨rfl, _, _, (hNX.out.grow hG.b).rn, hGX.out, hSX.out, hKX.out⟩
    · obtain ⟨i0, hi0, hz0, hz1, hz2⟩ := info_parts Try.infoB8
      have hbz := BA_size dl
      obtain ⟨C, W, hcv, hbW, hbxW, hc1, hc2⟩ := conv_bx w3 (BA dl) (by rw [BA_size]; omega)
      rw [BA_data] at hbxW
      rw [hbz] at hcv hc1
      have hW0 := Lib.hid (Rn.boxed (B := w3.heap.size) hN2.out.rn hbW (Nat.le_refl _) hbxW)
      have hX0 := Lib.hid (hN2.out.box.grow hbW)
      have hwlt : w.heap.size < w3.heap.size := ltb
      have hCL : wL.heap.size ≤ w3.heap.size := hN2.out.below.size
      obtain ⟨CB, hCB⟩ : ∃ CB, w3.heap.size = CB := ⟨_, rfl⟩
      rw [hCB] at hW0 hcv hwlt hCL
      replace hCB := Lib.hid hCB
      unfold maxLen at hc2
      obtain ⟨L, hL⟩ : ∃ L, dl.length = L := ⟨_, rfl⟩
      rw [hL] at hcv hc1 hdlen
      replace hL := Lib.hid hL
      clear hN2 hbW hbxW hbz
      go_wp2_with fail
      rw [hmj]
      go_loopw [14] (fun iv wr => ∃ (k : Nat) (cl : List UInt8), k ≤ L ∧ iv = .int .i64 k ∧ Hid (cl.length = L) ∧ Hid (RnB wL wr d M s m CB (u8s cl)) ∧ Hid (Bx wr w.heap.size o.cells)) (fun iv _ => L - (intOf iv).toNat)
      case atStart => exact ⟨0, dl, Nat.zero_le _, rfl, hL, hW0, hX0⟩
      case round =>
        obtain ⟨k, cl, hk, rfl, hcl, hR0, hx0⟩ := hrel
        by_cases hkl : k < L
        · obtain ⟨b, hb⟩ : ∃ b, cl[k]? = some b := ⟨_, List.getElem?_eq_getElem (by rw [hcl.out]; exact hkl)⟩
          obtain ⟨kb, fb2⟩ := hR0.out.box.2 k _ (u8s_get hb)
          have k4 := (hx0.out.2 4 _ rfl).1
          have ltx := hx0.out.lt
          have ltc := hR0.out.box.lt
          replace hb := Lib.hid hb
          clear c0 c4 ltb
          obtain ⟨x1, hx1⟩ := u8_wrap ((b.toNat : Int) * 7)
          obtain ⟨x2, hx2⟩ := u8_wrap o.num
          obtain ⟨x3, hx3⟩ := u8_wrap ((x1.toNat : Int) + (x2.toNat : Int))
          go_wp2_with fail
          refine wp_region_ord [(0, 1), (1, 1), (2, 1), (3, 1), (4, 1), (5, 1), (6, 1), (7, 1), (8, 1), (9, 1), (10, 1), (11, 1), (12, 3)] [12] 5 (by kernel_rfl) (by decide +kernel) ?_
          simp only [pickO, List.append_eq, List.cons_append, List.nil_append, List.getElem?_cons_succ, List.getElem?_cons_zero]
          intro w0 hG
          (repeat ((first | (with_reducible refine ord_q1 ?_) | (with_reducible refine ord_q0 ?_)); intro K hK; first | (refine Or.inr ⟨?_, ?_⟩; (focus (go_simp; first | done | (simp [undef]; done))); go_simp; (with_reducible refine hK _ ?_); clear hK K) | (refine Or.inl ⟨?_, ?_⟩; (focus (go_simp; done)); apply Exists.intro; refine And.intro ?_ ?_; (focus (first | (intro wq hq; obtain ⟨hcq, hfq⟩ := G.old hq; go_simp; (first | done | exact rfl); done) | (intro wq; go_simp; (first | done | exact rfl); done))); go_simp; (with_reducible refine hK _ ?_); clear hK K) | fail))
          obtain ⟨kb9, fb9⟩ := (hR0.out.box.grow hG.b).2 k _ (u8s_get hb.out)
          have hu9 : (u8s cl).set k (.int .u8 x3.toNat) = u8s (cl.set k x3) := by unfold u8s; rw [List.map_set]
          have hR9 := Lib.hid ((hR0.out.grow hG.b).put (i := k) (v := .int .u8 x3.toNat) hCL hu9)
          have hx9 := Lib.hid ((hx0.out.grow hG.b).other (p := ⟨CB, k, none⟩) (by show w.heap.size ≠ CB; omega) (.int .u8 x3.toNat))
          ((with_reducible refine ord_tail ?_); intro K hK; go_simp; (with_reducible refine hK _ _ ?_); clear hK K)
          (with_reducible refine ord_nil ?_)
          go_wp2_with fail
          go_roundw
          case rel => exact ⟨k + 1, cl.set k x3, by omega, by go_num, by unfold Hid; rw [List.length_set]; exact hcl.out, hR9, hx9⟩
          case measure => simp [intOf]; omega
        · obtain rfl : k = L := by omega
          have hsl : Sl wr (some ⟨CB, 0, none⟩) k (u8s cl) := ⟨by rw [u8s_len]; exact hcl.out, fun _ => ⟨CB, 0, rfl, hR0.out.box.lt, fun j u hu => by rw [Nat.zero_add]; exact (hR0.out.box.2 j u hu).1⟩⟩
          have hsl2 := Lib.hid hsl
          have hcle := hcl.out
          clear c0 c4 ltb
          go_wp2_with (first | (at_builtin; refine wpList_app _ rfl (.tmp 88) (.tmp 89) _ rfl wr.heap.size 5 i0 _ 1 1 Try.underlying39 hi0 hz0 hz1 hz2 rfl (by omega) (.slice (some ⟨wr.heap.size, 0, none⟩) 0 0) 0 [] rfl (World.ownsRow_made wr #[] 0 (Nat.le_refl _) (Nat.zero_le _) rfl) (some ⟨CB, 0, none⟩) k C (u8s cl) rfl (by rw [Nat.mul_one]; exact hsl.alloc _) (oneCell_u8s _) (by show _ ≤ 2 ^ 63 - 1; omega) (by omega) (by simp) ?_; intro A5 c5 w5 hown hc5 hc6 hg5) | fail)
          have hb5 : Below wr.heap.size wr w5 := (G.alloc (G.refl wr) _).grown hg5 (by simp) (by simp [Value.ownBlock])
          rw [Nat.zero_add] at hown hc5
          rw [List.nil_append] at hown
          have hA5 : ∀ ad, A5 = some ad → wr.heap.size ≤ ad.block := fun ad e => (hown.lt ad.block (by rw [e]; rfl)).1
          have hsl5 := Lib.hid (Sl.of_own1 hown)
          replace hA5 := Lib.hid hA5
          replace hb5 := Lib.hid hb5
          clear hown hg5 hsl
          obtain ⟨S, hDVr, _, _, h3S⟩ := hR0.out.setD
          replace h3S := Lib.hid h3S
          refine (start_any (hDVr.grow hb5.out) HG.out.ok hsl5.out hc5 hc6 (fun ad e hh => by have := hA5.out ad e; have := hDVr.lt hh; omega)).mono ?_
          rintro e w6 ⟨rfl, hr6⟩
          have hN6 := h3S.out _ _ (hr6.after (DChg.of_below hb5.out))
          clear hr6 hDVr h3S
          replace hN6 := Lib.hid hN6
          have hGX := Lib.hid (start_good HG.out cl)
          have hSX := Lib.hid (sim_start HS.out cl)
          have hKX := Lib.hid (start_small HM.out HG.out cl)
          have hsmm := Lib.hid (Rn.sim_moper HS.out HG.out HM.out (by omega)).1
          have hdum : Hid (∀ f ∈ m.fs, f.dur ≤ f.data.length) := fun f hf => HG.out.ok.du f (by rw [← HS.out.fs]; exact hf)
          go_wp2_with fail
          refine (hN6.out.mod (m' := startM m cl) (e0 := .returned (.tuple #[])) fun T hT hTB => mstart_any hT HF.out (fun f hf => ⟨(hsmm.out f hf).1, hdum.out f hf⟩) (ch := cl) ⟨by rw [u8s_len]; exact hcle, fun _ => ⟨CB, 0, rfl, hN6.out.box.lt, fun j u hu => by rw [Nat.zero_add]; exact (hN6.out.box.2 j u hu).1⟩⟩ hc1 (by unfold maxLen; omega) (fun ad e => by cases e; exact hTB)).mono ?_
          rintro e w7 ⟨rfl, hN7⟩
          have hNX := Lib.hid hN7
          clear hN6 hN7 hsmm hdum hsl2 hsl5 hA5 hb5 hx0 hR0
          obtain ⟨A, c, hR, _⟩ := hNX.out.mbox
          have q2 := (hR.box.2 2 _ rfl).1
          rw [hSX.out.down] at q2
          have ltM := hR.box.lt
          obtain ⟨SS, hDV, _⟩ := hNX.out.setD
          replace hDV := Lib.hid hDV
          clear hR
          go_wp2_with fail
          refine wp_region_ord [(0, 1), (2, 1), (3, 1), (4, 1), (5, 1), (1, 2), (6, 1), (7, 1)] [] 5 (by kernel_rfl) (by decide +kernel) ?_
          simp only [pickO, List.append_eq, List.cons_append, List.nil_append, List.getElem?_cons_succ, List.getElem?_cons_zero]
          intro w0 hG
          (repeat ((first | (with_reducible refine ord_q1 ?_) | (with_reducible refine ord_q0 ?_)); intro K hK; first | (refine Or.inr ⟨?_, ?_⟩; (focus (go_simp; first | done | (simp [undef]; done))); go_simp; (with_reducible refine hK _ ?_); clear hK K) | (refine Or.inl ⟨?_, ?_⟩; (focus (go_simp; done)); apply Exists.intro; refine And.intro ?_ ?_; (focus (first | (intro wq hq; obtain ⟨hcq, hfq⟩ := G.old hq; go_simp; (first | done | exact rfl); done) | (intro wq; go_simp; (first | done | exact rfl); done))); go_simp; (with_reducible refine hK _ ?_); clear hK K) | fail))
          (with_reducible refine ord_run ?_ hG)
          intro K hK
          go_simp
          go_at_call 28; (with_reducible refine (down_any (hDV.out.grow hG.b)).mono ?_); rintro e wD ⟨rfl, hw⟩; subst hw; have hb := G.refl wD
          replace hG := Grew.trans hG hb
          (try dsimp only)
          (with_reducible refine hK _ _ hG ?_)
          clear hK K
          (repeat ((first | (with_reducible refine ord_q1 ?_) | (with_reducible refine ord_q0 ?_)); intro K hK; first | (refine Or.inr ⟨?_, ?_⟩; (focus (go_simp; first | done | (simp [undef]; done))); go_simp; (with_reducible refine hK _ ?_); clear hK K) | (refine Or.inl ⟨?_, ?_⟩; (focus (go_simp; done)); apply Exists.intro; refine And.intro ?_ ?_; (focus (first | (intro wq hq; obtain ⟨hcq, hfq⟩ := G.old hq; go_simp; (first | done | exact rfl); done) | (intro wq; go_simp; (first | done | exact rfl); done))); go_simp; (with_reducible refine hK _ ?_); clear hK K) | fail))
          (with_reducible refine ord_nil ?_)
          go_wp2_with fail
          go_ret
          exact ⟨rfl, _, _, (hNX.out.grow hG.b).rn, hGX.out, hSX.out, hKX.out⟩
    · have hfl := find_lk (nameL o.name) H.out.fd.rise
      rw [show findL s.fs (nameL o.name) = (fi, fb) from by rw [← HS.out.fs]; exact hfd.out] at hfl
      dsimp only at hfl
      have SZ := Lib.hid (fun (wx : World) (S : Nat → Prop) (hx : DevW wx d S s) => size_any hx (BA (nameL o.name)) (nameL_le _))
      have DU := Lib.hid (fun (wx : World) (S : Nat → Prop) (hx : DevW wx d S s) => dur_any hx (BA (nameL o.name)) (nameL_le _))
      obtain ⟨A, c, hR, hMB⟩ := hN2.out.mbox
      have q2 := (hR.box.2 2 _ rfl).1
      have q3 := (hR.box.2 3 _ rfl).1
      have ltM := hR.box.lt
      obtain ⟨S, hDV, _⟩ := hN2.out.setD
      replace hDV := Lib.hid hDV
      rcases hdn : s.down with _ | _
      · rw [HS.out.down, hdn] at q2
        rcases hl : lkC s.fs (nameL o.name) with _ | f
        · have hfb := hfl.1 hl
          subst hfb
          have hs1 : sizeD s (BA (nameL o.name)).data.toList = (0, 8) := by rw [BA_data]; unfold sizeD; rw [hdn, if_neg (by simp), hl]
          have hs2 : durD s (BA (nameL o.name)).data.toList = (0, 8) := by rw [BA_data]; unfold durD; rw [hdn, if_neg (by simp), hl]
          replace hdn := Lib.hid hdn
          replace hl := Lib.hid hl
          replace hs1 := Lib.hid hs1
          replace hs2 := Lib.hid hs2
          clear hR hfl
          go_wp2_with fail
          refine (SZ.out _ S hDV.out).mono ?_
          rintro e w4 ⟨he, hw⟩
          subst hw
          rw [hs1.out] at he
          subst he
          go_wp2_with fail
          refine (DU.out _ S hDV.out).mono ?_
          rintro e w4 ⟨he, hw⟩
          subst hw
          rw [hs2.out] at he
          subst he
          go_wp2_with fail
          go_ret
          exact ⟨rfl, _, _, hN2.out.rn, HG.out, HS.out, HM.out.mono rfl⟩
        · obtain ⟨hfb, hfi⟩ := hfl.2 f hl
          subst hfb
          have hs1 : sizeD s (BA (nameL o.name)).data.toList = ((f.data.length : Int), 0) := by rw [BA_data]; exact size_lk hdn hl
          have hs2 : durD s (BA (nameL o.name)).data.toList = ((f.dur : Int), 0) := by rw [BA_data]; unfold durD; rw [hdn, if_neg (by simp), hl]
          have hfm : m.fs[fi]? = some f := by rw [HS.out.fs]; exact hfi
          obtain ⟨g, rfl, hgM, hbx, d0, d1, d2, ltg⟩ := hR.file hfm
          have hbz := BA_size f.data
          have hil := (List.getElem?_eq_some_iff.1 hfm).1
          replace hdn := Lib.hid hdn
          replace hl := Lib.hid hl
          replace hs1 := Lib.hid hs1
          replace hs2 := Lib.hid hs2
          replace hfm := Lib.hid hfm
          replace hfi := Lib.hid hfi
          clear hR hfl hbx d0
          go_wp2_with fail
          refine (SZ.out _ S hDV.out).mono ?_
          rintro e w4 ⟨he, hw⟩
          subst hw
          rw [hs1.out] at he
          subst he
          go_wp2_with fail
          refine (DU.out _ S hDV.out).mono ?_
          rintro e w4 ⟨he, hw⟩
          subst hw
          rw [hs2.out] at he
          subst he
          go_wp2_with fail
          go_ret
          exact ⟨rfl, _, _, hN2.out.rn, HG.out, HS.out, HM.out.mono rfl⟩
      · rw [HS.out.down, hdn] at q2
        have hs1 : sizeD s (BA (nameL o.name)).data.toList = (0, 31) := by unfold sizeD; rw [hdn, if_pos rfl]
        have hs2 : durD s (BA (nameL o.name)).data.toList = (0, 31) := by unfold durD; rw [hdn, if_pos rfl]
        replace hdn := Lib.hid hdn
        replace hs1 := Lib.hid hs1
        replace hs2 := Lib.hid hs2
        clear hR hfl
        go_wp2_with fail
        refine (SZ.out _ S hDV.out).mono ?_
        rintro e w4 ⟨he, hw⟩
        subst hw
        rw [hs1.out] at he
        subst he
        go_wp2_with fail
        refine (DU.out _ S hDV.out).mono ?_
        rintro e w4 ⟨he, hw⟩
        subst hw
        rw [hs2.out] at he
        subst he
        go_wp2_with fail
        go_ret
        exact ⟨rfl, _, _, hN2.out.rn, HG.out, HS.out, HM.out.mono rfl⟩
    · go_wp2_with fail
      obtain ⟨S, T, h1, h2, _⟩ := hN2.out.dev
      refine (looks_any h1 HG.out h2 HS.out.fs HS.out.down HS.out.room HF.out.len).mono ?_
      rintro e w4 ⟨rfl, hb4⟩
      clear h1 h2
      replace hN2 := Lib.hid (hN2.out.grow hb4)
      go_wp2_with fail
      go_ret
      exact ⟨rfl, _, _, hN2.out.rn, HG.out, HS.out, HM.out.mono rfl⟩
    · go_wp2_with fail
      obtain ⟨S, T, h1, h2, _⟩ := hN2.out.dev
      refine (clone_dev h1 HG.out.ok).mono ?_
      rintro e w4 ⟨dc, SC, rfl, hC, hCn, hb4⟩
      clear h1 h2
      replace hN2 := Lib.hid (hN2.out.grow hb4)
      replace hC := Lib.hid hC
      clear hb4 hCn
      go_wp2_with fail
      obtain ⟨S, T, h1, h2, _⟩ := hN2.out.dev
      refine (equal_any hC.out h1).mono ?_
      rintro e w5 ⟨he, hb5⟩
      rw [eqD_refl HG.out] at he
      subst he
      clear h1 h2
      replace hN2 := Lib.hid (hN2.out.grow hb5)
      replace hC := Lib.hid (hC.out.grow hb5)
      go_wp2_with fail
      obtain ⟨S, T, h1, h2, _⟩ := hN2.out.dev
      refine (looks_any hC.out HG.out h2 HS.out.fs HS.out.down HS.out.room HF.out.len).mono ?_
      rintro e w6 ⟨rfl, hb6⟩
      clear h1 h2
      replace hN2 := Lib.hid (hN2.out.grow hb6)
      go_wp2_with fail
      go_ret
      exact ⟨rfl, _, _, hN2.out.rn, HG.out, HS.out, HM.out.mono rfl⟩
end
end Go.Proofs.Ytphjgembpcikdaa
