/- The law's model of a log: drop; data, contents. -/
import Derived.Test.YtbafnlccpbonmaaGreatDoorMd2
namespace Go.Proofs.YtbafnlccpbonmaaGreatDoor
set_option linter.unusedVariables false
set_option linter.unnecessarySimpa false
set_option linter.unusedSimpArgs false
open Go.RowKit

theorem dropS_go (b : Int) (x y : Nat) (l : List Nat) (h : (y : Int) ≤ b) : dropS b (x :: y :: l) = ((dropS b (y :: l)).1 + 1, (dropS b (y :: l)).2) := by rw [dropS, if_pos h]
theorem dropS_end (b : Int) (x y : Nat) (l : List Nat) (h : ¬ (y : Int) ≤ b) : dropS b (x :: y :: l) = (0, x :: y :: l) := by rw [dropS, if_neg h]
theorem OwnO.of_row {w : World} {base : Nat} {e : TypeId} {A : Option Addr} {n c : Nat} {xs : List Value} (h : w.ownsRow base e 1 (.slice A n c) n xs) : OwnO w base 1 A n c xs := by
  obtain ⟨h1, h2⟩ := h
  rcases h2 with ⟨h2, h3⟩ | ⟨g, cap, cur, hv, hg, hh, hnc, hcm, hcs, ht⟩
  · injection h2 with e1 e2 e3
    subst e1 e2 e3
    exact ⟨Nat.le_refl _, Nat.zero_le _, h1, .inl ⟨rfl, rfl, rfl⟩⟩
  · injection hv with e1 e2 e3
    subst e1 e3
    have hlt : g < w.heap.size := (Array.getElem?_eq_some_iff.1 hh).1
    refine ⟨hnc, hcm, h1, .inr ⟨g, 0, rfl, hg, hlt, fun k hk => ⟨?_, ?_⟩, fun j u hu => ?_⟩⟩
    · rw [Nat.zero_add]
      unfold World.cell?
      simp only [hh]
      rw [Array.getElem?_eq_getElem (by rw [hcs]; exact hk)]
      rfl
    · unfold World.frozen?
      simp only [hh]
      simp
    · rw [Nat.zero_add]
      rw [← ht] at hu
      have hj := (List.getElem?_eq_some_iff.1 hu).1
      rw [List.length_take] at hj
      rw [List.getElem?_take_of_lt (by omega)] at hu
      unfold World.cell?
      simp only [hh]
      simpa using hu
theorem OwnO.sl {w : World} {base : Nat} {A : Option Addr} {n c : Nat} {xs : List Value} (h : OwnO w base 1 A n c xs) : Sl w A n xs := by
  obtain ⟨h1, h2, h3, h4⟩ := h
  refine ⟨by omega, fun hn => ?_⟩
  rcases h4 with ⟨_, h4, _⟩ | ⟨g, off, rfl, _, hl, _, hc⟩
  · omega
  · exact ⟨g, off, rfl, hl, hc⟩
section
variable {v0 w : World} {p : Nat} {s : Sh} {S0 : Nat → Prop}
set_option maxRecDepth 20000 in set_option maxHeartbeats 8000000 in
theorem mdrop_any (h : ShX v0 w p S0 s) (b : Int) (hs : s.segs.length ≤ 100000) :
    Calls Tryz.prog 36 #[.pointer (some ⟨p, 0, none⟩), .int .i64 b] w fun e w' => e = .returned (.int .i64 (((dropS b s.segs).1 : Nat) : Int)) ∧ ShX v0 w' p S0 (s.drop b) := by
  obtain ⟨A1, c1, A2, c2, h0⟩ := h.named
  have H := Lib.hid h0
  unfold Sh.drop
  clear h h0
  obtain ⟨lm, R, Gs, z, fi, du⟩ := s
  dsimp only at *
  obtain ⟨X, hX⟩ : ∃ X, dropS b Gs = X := ⟨_, rfl⟩
  rw [hX]
  obtain ⟨kn, Gn⟩ := X
  dsimp only
  obtain ⟨nr, hnr⟩ : ∃ k, R.length = k := ⟨_, rfl⟩
  replace hnr := Lib.hid hnr
  replace hX := Lib.hid hX
  obtain ⟨i0, hi, hz0, hz1, hz2'⟩ := info_parts infoIntG
  go_enter Tryz.func36, Tryz.ntmps36
  go_wp2_with fail
  go_loopw [5] (fun iv wr => ∃ (k : Nat) (Gs' : List Nat) (A3 : Option Addr) (c3 : Nat), iv = .int .i64 (k : Int) ∧ k + Gs'.length ≤ Gs.length ∧ Hid ((kn, Gn) = (k + (dropS b Gs').1, (dropS b Gs').2)) ∧ Hid (ShN v0 wr p S0 ⟨lm, R, Gs', z, fi, du⟩ A1 c1 A3 c3)) (fun iv _ => Gs.length - (intOf iv).toNat)
  case atStart => exact ⟨0, Gs, A2, c2, rfl, by omega, Lib.hid (by rw [hX.out]; simp), H⟩
  case round =>
    obtain ⟨k, Gs', A3, c3, rfl, hkl, hR, H1⟩ := hrel
    clear H hX
    have HB := H1.out.r.box
    unfold Sh.cells at HB
    dsimp only at HB
    rw [hnr.out] at HB
    obtain ⟨k0, k1, k2, k3, k4, k5⟩ := HB.c6
    obtain ⟨f0, f1, f2, f3, f4, f5⟩ := HB.f6
    have lt := HB.lt
    clear HB
    rcases Gs' with _ | ⟨x, _ | ⟨y, l⟩⟩
    · obtain ⟨hk', hg'⟩ := Prod.mk.inj hR.out
      have hk2 : kn = k := by rw [hk']; rfl
      have hg2 : Gn = [] := hg'
      clear hk' hg' hR
      subst hk2 hg2
      have k2' : wr.cell? ⟨p, 2, none⟩ = some (.slice A3 0 c3) := k2
      clear k2
      go_wp2_with fail
      go_ret
      exact ⟨rfl, H1.out.x⟩
    · obtain ⟨hk', hg'⟩ := Prod.mk.inj hR.out
      have hk2 : kn = k := by rw [hk']; rfl
      have hg2 : Gn = [x] := hg'
      clear hk' hg' hR
      subst hk2 hg2
      have k2' : wr.cell? ⟨p, 2, none⟩ = some (.slice A3 1 c3) := k2
      obtain ⟨g, off, hA3, hgl, hgc⟩ := H1.out.r.segs.ptr (by dsimp only; simp)
      subst hA3
      have q1 := hgc 0 (.int .i64 (x : Int)) rfl
      rw [Nat.add_zero] at q1
      have ltg := cell_lt q1
      dsimp only at ltg
      clear k2 hgc
      go_wp2_with fail
      go_ret
      exact ⟨rfl, (ShN.put (s' := ⟨lm, R, [x], z, x, du⟩) (i := 4) (v := .int .i64 (x : Int)) H1.out rfl rfl rfl).x⟩
    · by_cases hy : (y : Int) ≤ b
      · obtain ⟨M, hM⟩ : ∃ M, (x :: y :: l).length = M := ⟨_, rfl⟩
        rw [hM] at k2
        have hcap := H1.out.r.segs.1
        dsimp only at hcap
        rw [hM] at hcap
        have hM2 : 1 < M := by rw [← hM]; simp
        have hM2' : (1 : Int) < (M : Int) := by omega
        have hML : Hid ((y :: l).length + 1 = M) := by unfold Hid; rw [← hM]; simp
        obtain ⟨g, off, hA3, hgl, hgc⟩ := H1.out.r.segs.ptr (by dsimp only; rw [hM]; omega)
        subst hA3
        have q1 := hgc 1 (.int .i64 (y : Int)) rfl
        have ltg := cell_lt q1
        dsimp only at ltg
        have hwk : IntKind.i64.wrap ((k : Int) + 1) = ((k + 1 : Nat) : Int) := by rw [IntWalk.i64_in _ (by rw [hM] at hkl; omega)]; omega
        have HT := Lib.hid (show Sl wr (some ⟨g, off + 1, none⟩) (M - 1) (natsC (y :: l)) from ⟨by unfold natsC; rw [List.length_map]; have := hML.out; omega, fun _ => ⟨g, off + 1, rfl, hgl, fun j u hu => by
          have := hgc (1 + j) u (by rw [Nat.add_comm]; exact hu)
          rwa [← Nat.add_assoc] at this⟩⟩)
        clear hgc hM
        have hown := Lib.hid (World.ownsRow_made (base := wr.heap.size) (e := 3) (size := 1) wr #[] 0 (Nat.le_refl _) (Nat.zero_le _) rfl)
        have hR2 : Hid ((kn, Gn) = (k + 1 + (dropS b (y :: l)).1, (dropS b (y :: l)).2)) := Lib.hid (by
          have := hR.out
          rw [dropS_go b x y l hy] at this
          rw [this]
          dsimp only
          congr 1
          omega)
        clear hR
        rw [show (x :: y :: l).length = l.length + 1 + 1 from rfl] at hkl
        have hll := hML.out
        rw [List.length_cons] at hll
        go_wp2_with (at_builtin; refine wpList_appB rfl (.tmp 23) (.tmp 28) _ rfl wr.heap.size 3 i0 _ 1 8 Tryz.underlying48 hi hz0 hz1 hz2' rfl (by decide) (.slice (some ⟨wr.heap.size, 0, none⟩) 0 0) 0 [] rfl hown.out (some ⟨g, off + 1, none⟩) (M - 1) (c3 - 1) (natsC (y :: l)) rfl (by rw [Nat.mul_one]; exact HT.out.alloc _) (by intro u hu; unfold natsC at hu; obtain ⟨v, _, rfl⟩ := List.mem_map.1 hu; rfl) (by unfold maxLen; omega) (by omega) (by simp) ?_)
        intro A5 c5 w5 ho hc1 hc2 hg hb5
        have hbl : Below wr.heap.size wr w5 := G.grown (G.alloc (G.refl wr) (.cells #[] 3)) hown.out (Nat.le_refl _) hg
        have ho2 := OwnO.of_row ho
        have hM3 : M - 1 = (y :: l).length := by have := hML.out; omega
        rw [hM3] at ho2 ⊢
        have hN := Lib.hid (H1.out.newSegs hbl ho2)
        replace k2 := G.cell k2 hbl
        replace f2 := (World.frozen?_of_block (hbl.block p lt)).trans f2
        have lt5 := cell_lt k2
        clear ho ho2 hc1 hc2 hg hb5 HT hown k0 k1 k3 k4 k5 f0 f1 f3 f4 f5 lt hgl hbl H1 q1 ltg
        go_wp2_with fail
        refine ⟨⟨k + 1, y :: l, A5, c5, by go_num, by rw [List.length_cons]; omega, hR2, hN⟩, by simp [intOf]; omega⟩
      · obtain ⟨hk', hg'⟩ := Prod.mk.inj hR.out
        rw [dropS_end b x y l hy] at hk' hg'
        have hk2 : kn = k := by rw [hk']; rfl
        have hg2 : Gn = x :: y :: l := hg'
        clear hk' hg' hR
        subst hk2 hg2
        obtain ⟨M, hM⟩ : ∃ M, (x :: y :: l).length = M := ⟨_, rfl⟩
        rw [hM] at k2
        have hM2 : 1 < M := by rw [← hM]; simp
        have hM2' : (1 : Int) < (M : Int) := by omega
        have hM3' : (0 : Int) < (M : Int) := by omega
        have hM0 : 0 < M := by omega
        obtain ⟨g, off, hA3, hgl, hgc⟩ := H1.out.r.segs.ptr (by dsimp only; rw [hM]; omega)
        subst hA3
        have q0 := hgc 0 (.int .i64 (x : Int)) rfl
        have q1 := hgc 1 (.int .i64 (y : Int)) rfl
        rw [Nat.add_zero] at q0
        have ltg := cell_lt q1
        dsimp only at ltg
        clear hgc hM
        go_wp2_with fail
        go_ret
        exact ⟨rfl, (ShN.put (s' := ⟨lm, R, x :: y :: l, z, x, du⟩) (i := 4) (v := .int .i64 (x : Int)) H1.out rfl rfl rfl).x⟩
end
end Go.Proofs.YtbafnlccpbonmaaGreatDoor
