/- The law's model of a log: append. -/
import Derived.Test.YtbafnlccpbonmaaGreatDoorMd1
namespace Go.Proofs.YtbafnlccpbonmaaGreatDoor
set_option linter.unusedVariables false
set_option linter.unnecessarySimpa false
set_option linter.unusedSimpArgs false
open Go.RowKit

theorem Bx.c6 {w : World} {B : Nat} {a b c d e f : Value} (x : Bx w B [a, b, c, d, e, f]) : w.cell? ⟨B, 0, none⟩ = some a ∧ w.cell? ⟨B, 1, none⟩ = some b ∧ w.cell? ⟨B, 2, none⟩ = some c ∧ w.cell? ⟨B, 3, none⟩ = some d ∧ w.cell? ⟨B, 4, none⟩ = some e ∧ w.cell? ⟨B, 5, none⟩ = some f :=
  ⟨(x.2 0 a rfl).1, (x.2 1 b rfl).1, (x.2 2 c rfl).1, (x.2 3 d rfl).1, (x.2 4 e rfl).1, (x.2 5 f rfl).1⟩
theorem Bx.f6 {w : World} {B : Nat} {a b c d e f : Value} (x : Bx w B [a, b, c, d, e, f]) : w.frozen? ⟨B, 0, none⟩ = false ∧ w.frozen? ⟨B, 1, none⟩ = false ∧ w.frozen? ⟨B, 2, none⟩ = false ∧ w.frozen? ⟨B, 3, none⟩ = false ∧ w.frozen? ⟨B, 4, none⟩ = false ∧ w.frozen? ⟨B, 5, none⟩ = false :=
  ⟨(x.2 0 a rfl).2, (x.2 1 b rfl).2, (x.2 2 c rfl).2, (x.2 3 d rfl).2, (x.2 4 e rfl).2, (x.2 5 f rfl).2⟩
theorem infoStrG : (Tryz.prog.info? 9).map (fun i => (i.zero, i.size, i.bytes)) = some (some (.string ⟨#[]⟩), 1, 16) := by kernel_rfl
theorem OwnO.alloc {w : World} {base size : Nat} {A : Option Addr} {n c : Nat} {xs : List Value} (h : OwnO w base size A n c xs) (o : Obj) : OwnO (w.alloc o) base size A n c xs := h.grow (G.alloc (G.refl w) o)
theorem map_ex {A A' : Option Addr} {n m : Nat} (h : A'.map (·.block) = A.map (·.block) ∨ ∃ a, A' = some a ∧ a.block = m) (e : m = n) : A'.map (·.block) = A.map (·.block) ∨ A'.map (·.block) = some n := by
  subst e
  rcases h with h | ⟨a, rfl, e⟩
  · exact .inl h
  · exact .inr (by simp [e])
/-- A cell that a row's growth leaves. -/
theorem keep_cell {w w2 w3 : World} {p i : Nat} {v : Value} {A : Option Addr} (hb : Below w.heap.size w w2) (hg : w2.grownBy w3 (A.map (·.block))) (hn : ∀ ad, A = some ad → ad.block ≠ p) (x : w.cell? ⟨p, i, none⟩ = some v ∧ w.frozen? ⟨p, i, none⟩ = false) (hp : p < w.heap.size) :
    w3.cell? ⟨p, i, none⟩ = some v ∧ w3.frozen? ⟨p, i, none⟩ = false ∧ p < w3.heap.size := by
  have h1 : w3.heap[p]? = w2.heap[p]? := hg.block p (by have := hb.size; omega) (mapn hn)
  have h2 := hb.block p hp
  exact ⟨by rw [World.cell?_of_block (a := ⟨p, i, none⟩) h1, World.cell?_of_block (a := ⟨p, i, none⟩) h2]; exact x.1, by rw [World.frozen?_of_block (a := ⟨p, i, none⟩) h1, World.frozen?_of_block (a := ⟨p, i, none⟩) h2]; exact x.2, by have := hb.size; have := hg.size; omega⟩
section
variable {v0 w : World} {p : Nat} {s : Sh} {S0 : Nat → Prop}
set_option maxRecDepth 20000 in set_option maxHeartbeats 8000000 in
theorem mapp_any (h : ShX v0 w p S0 s) (d : List UInt8) (hd : d.length ≤ 100000) (hr : s.recs.length ≤ 100000) (hs : s.segs.length ≤ 100000) (hz : s.size ≤ 100000000) :
    Calls Tryz.prog 26 #[.pointer (some ⟨p, 0, none⟩), .string (B d)] w fun e w' => e = .returned (.int .i64 ((s.recs.length + 1 : Nat) : Int)) ∧ ShX v0 w' p S0 (s.app d) := by
  obtain ⟨A1, c1, A2, c2, h0⟩ := h.named
  have H := Lib.hid h0
  have HA : ∀ x, s.app d = x → Hid (s.app d = x) := fun x e => e
  have HND : Hid (s.need d.length ↔ s.segs = [] ∨ (0 < s.size ∧ s.limit < ((s.size + 16 + d.length : Nat) : Int))) := Iff.rfl
  obtain ⟨X, hX⟩ : ∃ X, s.app d = X := ⟨_, rfl⟩
  rw [hX]
  unfold Sh.app at hX
  clear h h0
  obtain ⟨lm, R, Gs, z, fi, du⟩ := s
  dsimp only at *
  obtain ⟨nr, hnr⟩ : ∃ k, R.length = k := ⟨_, rfl⟩
  obtain ⟨ng, hng⟩ : ∃ k, Gs.length = k := ⟨_, rfl⟩
  obtain ⟨dl, hdl⟩ : ∃ k, d.length = k := ⟨_, rfl⟩
  have hsz := B_size d
  rw [hdl] at hsz hd hX HND
  rw [hnr] at hr hX ⊢
  rw [hng] at hs
  obtain ⟨n1, hn1⟩ : ∃ k, nr + 1 = k := ⟨_, rfl⟩
  obtain ⟨z16, hz16⟩ : ∃ k, z + 16 = k := ⟨_, rfl⟩
  obtain ⟨z2, hz2⟩ : ∃ k, z16 + dl = k := ⟨_, rfl⟩
  obtain ⟨d16, hd16⟩ : ∃ k, 16 + dl = k := ⟨_, rfl⟩
  have e1 : IntKind.i64.wrap ((nr : Int) + 1) = (n1 : Int) := by rw [IntWalk.i64_in _ (by omega)]; omega
  have e2 : IntKind.i64.wrap ((z : Int) + 16) = (z16 : Int) := by rw [IntWalk.i64_in _ (by omega)]; omega
  have e3 : IntKind.i64.wrap ((z16 : Int) + (dl : Int)) = (z2 : Int) := by rw [IntWalk.i64_in _ (by omega)]; omega
  have e4 : IntKind.i64.wrap (16 + (dl : Int)) = (d16 : Int) := by rw [IntWalk.i64_in _ (by omega)]; omega
  rw [hn1, hz16, hz2, hd16] at hX
  rw [hz16, hz2] at HND
  rw [hn1]
  obtain ⟨i0, hi, hz0, hz1, hz2'⟩ := info_parts infoIntG
  obtain ⟨j0, hj, hjz0, hjz1, hjz2⟩ := info_parts infoStrG
  replace hnr := Lib.hid hnr
  replace hng := Lib.hid hng
  clear HA hdl hz16 hz2 hd16 hn1
  by_cases hG0 : Gs = []
  · rw [if_pos (show Sh.need _ _ from HND.out.2 (.inl hG0)), if_pos hG0] at hX
    have HX := Lib.hid hX
    have hn0 : ng = 0 := by have := hng.out; rw [hG0] at this; exact this.symm
    have hngb : ((ng : Int) == 0) = true := by rw [hn0]; rfl
    have hng1 : ¬ (0 : Int) < (ng : Int) := by omega
    clear hX HND hn0 hG0
    go_enter Tryz.func26, Tryz.ntmps26
    have HB := H.out.r.box
    unfold Sh.cells at HB
    dsimp only at HB
    rw [hnr.out, hng.out] at HB
    obtain ⟨k0, k1, k2, k3, k4, k5⟩ := HB.c6
    obtain ⟨f0, f1, f2, f3, f4, f5⟩ := HB.f6
    have lt := HB.lt
    clear HB
    go_wp2_with fail
    refine wp_region_ord [(0, 1), (1, 1), (2, 1), (3, 1), (4, 1), (5, 1), (6, 1), (7, 1), (8, 1), (9, 1), (10, 1), (11, 1), (12, 1), (13, 1), (14, 1), (15, 1), (16, 1), (17, 1), (18, 1), (19, 1), (20, 1), (21, 1), (22, 1), (23, 1), (24, 1), (25, 1), (26, 1), (27, 1)] [] 5 (by kernel_rfl) (by decide +kernel) ?_
    simp only [pickO, List.append_eq, List.cons_append, List.nil_append, List.getElem?_cons_succ, List.getElem?_cons_zero]
    intro w0 hG
    (repeat ((first | (with_reducible refine ord_q1 ?_) | (with_reducible refine ord_q0 ?_)); intro K hK; first | (refine Or.inr ⟨?_, ?_⟩; (focus (go_simp; first | done | (simp [undef]; done))); go_simp; (with_reducible refine hK _ ?_); clear hK K) | (refine Or.inl ⟨?_, ?_⟩; (focus (go_simp; done)); apply Exists.intro; refine And.intro ?_ ?_; (focus (first | (intro wq hq; obtain ⟨hcq, hfq⟩ := G.old hq; go_simp; (first | done | exact rfl); done) | (intro wq; go_simp; (first | done | exact rfl); done))); go_simp; (with_reducible refine hK _ ?_); clear hK K) | fail))
    (with_reducible refine ord_nil ?_)
    have hb0 := hG.b
    replace H := Lib.hid (H.out.grow hb0)
    clear hG hb0
    clear k0 k1 k2 k3 k4 k5 f0 f1 f2 f3 f4 f5 lt
    have HB := H.out.r.box
    unfold Sh.cells at HB
    dsimp only at HB
    rw [hnr.out, hng.out] at HB
    obtain ⟨k0, k1, k2, k3, k4, k5⟩ := HB.c6
    obtain ⟨f0, f1, f2, f3, f4, f5⟩ := HB.f6
    have lt := HB.lt
    clear HB
    have HO := Lib.hid (H.out.r.segs.alloc (.cells #[.int .i64 (n1 : Int)] 3))
    dsimp only at HO
    rw [hng.out] at HO
    go_wp2_with (at_builtin; refine wpList_appO rfl (.tmp 58) (.tmp 60) _ rfl 0 3 i0 _ 1 8 Tryz.underlying48 hi hz0 hz1 hz2' rfl A2 ng c2 (natsC Gs) rfl HO.out w0.heap.size 1 [.int .i64 (n1 : Int)] rfl rfl (fun j u hu => ((Bx.new (w := w0) (l := [.int .i64 (n1 : Int)]) (t := 3) rfl rfl).2 j u hu).1) (by simp [Value.oneCell']) (by unfold maxLen; omega) (by omega) (Nat.zero_le _) ?_)
    intro A3 c3 w5 ho hg hP
    have hg1 := Lib.hid (G.alloc (G.refl w0) (.cells #[.int .i64 (n1 : Int)] 3))
    have hN := Lib.hid (H.out.addSeg (k := n1) hg1.out (by dsimp only; rw [hng.out]; exact ho) hg (map_ex hP (by simp)))
    dsimp only at hN
    rw [hng.out] at hN
    obtain ⟨q2, r2, lt5⟩ := keep_cell hg1.out hg H.out.r.n2 ⟨k2, f2⟩ lt
    obtain ⟨q3, r3, _⟩ := keep_cell hg1.out hg H.out.r.n2 ⟨k3, f3⟩ lt
    clear k0 k1 k2 k3 k4 k5 f0 f1 f2 f3 f4 f5 lt
    clear HO ho hg hP hg1
    go_upto_region 7 with fail
    refine wp_name (fun wx => ShN v0 wx p S0 ⟨lm, R, Gs ++ [n1], 0, fi, du⟩ A1 c1 A3 c3) (hN.out.put rfl rfl rfl) ?_
    intro w6 H6
    replace H6 := Lib.hid H6
    clear hN q2 r2 lt5 q3 r3 H
    have hgl : Hid ((Gs ++ [n1]).length = ng + 1) := Lib.hid (by rw [List.length_append, hng.out]; rfl)
    have HB := H6.out.r.box
    unfold Sh.cells at HB
    dsimp only at HB
    rw [hnr.out, hgl.out] at HB
    obtain ⟨k0, k1, k2, k3, k4, k5⟩ := HB.c6
    obtain ⟨f0, f1, f2, f3, f4, f5⟩ := HB.f6
    have lt := HB.lt
    clear HB
    go_upto_region 8 with fail
    refine wp_name (fun wx => ShN v0 wx p S0 ⟨lm, R, Gs ++ [n1], d16, fi, du⟩ A1 c1 A3 c3) (H6.out.put rfl rfl rfl) ?_
    intro w7 H7
    replace H7 := Lib.hid H7
    clear k0 k1 k2 k3 k4 k5 f0 f1 f2 f3 f4 f5 lt
    clear H6
    have HB := H7.out.r.box
    unfold Sh.cells at HB
    dsimp only at HB
    rw [hnr.out, hgl.out] at HB
    obtain ⟨k0, k1, k2, k3, k4, k5⟩ := HB.c6
    obtain ⟨f0, f1, f2, f3, f4, f5⟩ := HB.f6
    have lt := HB.lt
    clear HB
    have HO := Lib.hid (H7.out.r.recs.alloc (.cells #[.string (B d)] 9))
    dsimp only at HO
    rw [hnr.out] at HO
    go_wp2_with (at_builtin; refine wpList_appO rfl (.tmp 82) (.tmp 84) _ rfl 0 9 j0 _ 1 16 Tryz.underlying47 hj hjz0 hjz1 hjz2 rfl A1 nr c1 (strB R) rfl HO.out w7.heap.size 1 [.string (B d)] rfl rfl (fun j u hu => ((Bx.new (w := w7) (l := [.string (B d)]) (t := 9) rfl rfl).2 j u hu).1) (by simp [Value.oneCell']) (by unfold maxLen; omega) (by omega) (Nat.zero_le _) ?_)
    intro A5 c5 w8 ho hg hP
    have hg1 := Lib.hid (G.alloc (G.refl w7) (.cells #[.string (B d)] 9))
    have hN := Lib.hid (H7.out.addRec (d := d) hg1.out (by dsimp only; rw [hnr.out]; exact ho) hg (map_ex hP (by simp)))
    dsimp only at hN
    rw [hnr.out] at hN
    obtain ⟨q1, r1, lt8⟩ := keep_cell hg1.out hg H7.out.r.n1 ⟨k1, f1⟩ lt
    clear k0 k1 k2 k3 k4 k5 f0 f1 f2 f3 f4 f5 lt
    clear HO ho hg hP hg1 H7
    go_wp2_with fail
    go_ret
    refine ⟨rfl, ?_⟩
    rw [← HX.out]
    exact hN.out.x
  · have hng0 : ¬ (ng : Int) = 0 := by
      have := List.length_pos_iff.2 hG0
      have := hng.out
      omega
    have hng1 : (0 : Int) < (ng : Int) := by omega
    have hngb : ((ng : Int) == 0) = false := by rw [beq_eq_false_iff_ne]; exact hng0
    by_cases hz9 : 0 < z
    · have hz9' : (0 : Int) < (z : Int) := by omega
      by_cases hl : lm < (z2 : Int)
      · rw [if_pos (show Sh.need _ _ from HND.out.2 (.inr ⟨hz9, hl⟩)), if_neg hG0] at hX
        have HX := Lib.hid hX
        clear hX HND
        go_enter Tryz.func26, Tryz.ntmps26
        have HB := H.out.r.box
        unfold Sh.cells at HB
        dsimp only at HB
        rw [hnr.out, hng.out] at HB
        obtain ⟨k0, k1, k2, k3, k4, k5⟩ := HB.c6
        obtain ⟨f0, f1, f2, f3, f4, f5⟩ := HB.f6
        have lt := HB.lt
        clear HB
        go_wp2_with fail
        refine wp_region_ord [(0, 1), (1, 1), (2, 1), (3, 1), (4, 1), (5, 1), (6, 1), (7, 1), (8, 1), (9, 1), (10, 1), (11, 1), (12, 1), (13, 1), (14, 1), (15, 1), (16, 1), (17, 1), (18, 1), (19, 1), (20, 1), (21, 1), (22, 1), (23, 1), (24, 1), (25, 1), (26, 1), (27, 1)] [] 5 (by kernel_rfl) (by decide +kernel) ?_
        simp only [pickO, List.append_eq, List.cons_append, List.nil_append, List.getElem?_cons_succ, List.getElem?_cons_zero]
        intro w0 hG
        (repeat ((first | (with_reducible refine ord_q1 ?_) | (with_reducible refine ord_q0 ?_)); intro K hK; first | (refine Or.inr ⟨?_, ?_⟩; (focus (go_simp; first | done | (simp [undef]; done))); go_simp; (with_reducible refine hK _ ?_); clear hK K) | (refine Or.inl ⟨?_, ?_⟩; (focus (go_simp; done)); apply Exists.intro; refine And.intro ?_ ?_; (focus (first | (intro wq hq; obtain ⟨hcq, hfq⟩ := G.old hq; go_simp; (first | done | exact rfl); done) | (intro wq; go_simp; (first | done | exact rfl); done))); go_simp; (with_reducible refine hK _ ?_); clear hK K) | fail))
        (with_reducible refine ord_nil ?_)
        have hb0 := hG.b
        replace H := Lib.hid (H.out.grow hb0)
        clear hG hb0
        clear k0 k1 k2 k3 k4 k5 f0 f1 f2 f3 f4 f5 lt
        have HB := H.out.r.box
        unfold Sh.cells at HB
        dsimp only at HB
        rw [hnr.out, hng.out] at HB
        obtain ⟨k0, k1, k2, k3, k4, k5⟩ := HB.c6
        obtain ⟨f0, f1, f2, f3, f4, f5⟩ := HB.f6
        have lt := HB.lt
        clear HB
        go_upto_region 5 with fail
        refine wp_name (fun wx => ShN v0 wx p S0 ⟨lm, R, Gs, z, fi, nr⟩ A1 c1 A2 c2) (H.out.put rfl rfl rfl) ?_
        intro w1 H1
        replace H1 := Lib.hid H1
        clear k0 k1 k2 k3 k4 k5 f0 f1 f2 f3 f4 f5 lt
        clear H
        have H := H1
        clear H1
        have HB := H.out.r.box
        unfold Sh.cells at HB
        dsimp only at HB
        rw [hnr.out, hng.out] at HB
        obtain ⟨k0, k1, k2, k3, k4, k5⟩ := HB.c6
        obtain ⟨f0, f1, f2, f3, f4, f5⟩ := HB.f6
        have lt := HB.lt
        clear HB
        have HO := Lib.hid (H.out.r.segs.alloc (.cells #[.int .i64 (n1 : Int)] 3))
        dsimp only at HO
        rw [hng.out] at HO
        go_wp2_with (at_builtin; refine wpList_appO rfl (.tmp 58) (.tmp 60) _ rfl 0 3 i0 _ 1 8 Tryz.underlying48 hi hz0 hz1 hz2' rfl A2 ng c2 (natsC Gs) rfl HO.out w1.heap.size 1 [.int .i64 (n1 : Int)] rfl rfl (fun j u hu => ((Bx.new (w := w1) (l := [.int .i64 (n1 : Int)]) (t := 3) rfl rfl).2 j u hu).1) (by simp [Value.oneCell']) (by unfold maxLen; omega) (by omega) (Nat.zero_le _) ?_)
        intro A3 c3 w5 ho hg hP
        have hg1 := Lib.hid (G.alloc (G.refl w1) (.cells #[.int .i64 (n1 : Int)] 3))
        have hN := Lib.hid (H.out.addSeg (k := n1) hg1.out (by dsimp only; rw [hng.out]; exact ho) hg (map_ex hP (by simp)))
        dsimp only at hN
        rw [hng.out] at hN
        obtain ⟨q2, r2, lt5⟩ := keep_cell hg1.out hg H.out.r.n2 ⟨k2, f2⟩ lt
        obtain ⟨q3, r3, _⟩ := keep_cell hg1.out hg H.out.r.n2 ⟨k3, f3⟩ lt
        clear k0 k1 k2 k3 k4 k5 f0 f1 f2 f3 f4 f5 lt
        clear HO ho hg hP hg1
        go_upto_region 7 with fail
        refine wp_name (fun wx => ShN v0 wx p S0 ⟨lm, R, Gs ++ [n1], 0, fi, nr⟩ A1 c1 A3 c3) (hN.out.put rfl rfl rfl) ?_
        intro w6 H6
        replace H6 := Lib.hid H6
        clear hN q2 r2 lt5 q3 r3 H
        have hgl : Hid ((Gs ++ [n1]).length = ng + 1) := Lib.hid (by rw [List.length_append, hng.out]; rfl)
        have HB := H6.out.r.box
        unfold Sh.cells at HB
        dsimp only at HB
        rw [hnr.out, hgl.out] at HB
        obtain ⟨k0, k1, k2, k3, k4, k5⟩ := HB.c6
        obtain ⟨f0, f1, f2, f3, f4, f5⟩ := HB.f6
        have lt := HB.lt
        clear HB
        go_upto_region 8 with fail
        refine wp_name (fun wx => ShN v0 wx p S0 ⟨lm, R, Gs ++ [n1], d16, fi, nr⟩ A1 c1 A3 c3) (H6.out.put rfl rfl rfl) ?_
        intro w7 H7
        replace H7 := Lib.hid H7
        clear k0 k1 k2 k3 k4 k5 f0 f1 f2 f3 f4 f5 lt
        clear H6
        have HB := H7.out.r.box
        unfold Sh.cells at HB
        dsimp only at HB
        rw [hnr.out, hgl.out] at HB
        obtain ⟨k0, k1, k2, k3, k4, k5⟩ := HB.c6
        obtain ⟨f0, f1, f2, f3, f4, f5⟩ := HB.f6
        have lt := HB.lt
        clear HB
        have HO := Lib.hid (H7.out.r.recs.alloc (.cells #[.string (B d)] 9))
        dsimp only at HO
        rw [hnr.out] at HO
        go_wp2_with (at_builtin; refine wpList_appO rfl (.tmp 82) (.tmp 84) _ rfl 0 9 j0 _ 1 16 Tryz.underlying47 hj hjz0 hjz1 hjz2 rfl A1 nr c1 (strB R) rfl HO.out w7.heap.size 1 [.string (B d)] rfl rfl (fun j u hu => ((Bx.new (w := w7) (l := [.string (B d)]) (t := 9) rfl rfl).2 j u hu).1) (by simp [Value.oneCell']) (by unfold maxLen; omega) (by omega) (Nat.zero_le _) ?_)
        intro A5 c5 w8 ho hg hP
        have hg1 := Lib.hid (G.alloc (G.refl w7) (.cells #[.string (B d)] 9))
        have hN := Lib.hid (H7.out.addRec (d := d) hg1.out (by dsimp only; rw [hnr.out]; exact ho) hg (map_ex hP (by simp)))
        dsimp only at hN
        rw [hnr.out] at hN
        obtain ⟨q1, r1, lt8⟩ := keep_cell hg1.out hg H7.out.r.n1 ⟨k1, f1⟩ lt
        clear k0 k1 k2 k3 k4 k5 f0 f1 f2 f3 f4 f5 lt
        clear HO ho hg hP hg1 H7
        go_wp2_with fail
        go_ret
        refine ⟨rfl, ?_⟩
        rw [← HX.out]
        exact hN.out.x
      · rw [if_neg (show ¬ Sh.need _ _ from fun hh => by rcases HND.out.1 hh with h | h; exact hG0 h; exact hl h.2)] at hX
        have HX := Lib.hid hX
        clear hX HND
        go_enter Tryz.func26, Tryz.ntmps26
        have HB := H.out.r.box
        unfold Sh.cells at HB
        dsimp only at HB
        rw [hnr.out, hng.out] at HB
        obtain ⟨k0, k1, k2, k3, k4, k5⟩ := HB.c6
        obtain ⟨f0, f1, f2, f3, f4, f5⟩ := HB.f6
        have lt := HB.lt
        clear HB
        go_wp2_with fail
        refine wp_region_ord [(0, 1), (1, 1), (2, 1), (3, 1), (4, 1), (5, 1), (6, 1), (7, 1), (8, 1), (9, 1), (10, 1), (11, 1), (12, 1), (13, 1), (14, 1), (15, 1), (16, 1), (17, 1), (18, 1), (19, 1), (20, 1), (21, 1), (22, 1), (23, 1), (24, 1), (25, 1), (26, 1), (27, 1)] [] 5 (by kernel_rfl) (by decide +kernel) ?_
        simp only [pickO, List.append_eq, List.cons_append, List.nil_append, List.getElem?_cons_succ, List.getElem?_cons_zero]
        intro w0 hG
        (repeat ((first | (with_reducible refine ord_q1 ?_) | (with_reducible refine ord_q0 ?_)); intro K hK; first | (refine Or.inr ⟨?_, ?_⟩; (focus (go_simp; first | done | (simp [undef]; done))); go_simp; (with_reducible refine hK _ ?_); clear hK K) | (refine Or.inl ⟨?_, ?_⟩; (focus (go_simp; done)); apply Exists.intro; refine And.intro ?_ ?_; (focus (first | (intro wq hq; obtain ⟨hcq, hfq⟩ := G.old hq; go_simp; (first | done | exact rfl); done) | (intro wq; go_simp; (first | done | exact rfl); done))); go_simp; (with_reducible refine hK _ ?_); clear hK K) | fail))
        (with_reducible refine ord_nil ?_)
        have hb0 := hG.b
        replace H := Lib.hid (H.out.grow hb0)
        clear hG hb0
        clear k0 k1 k2 k3 k4 k5 f0 f1 f2 f3 f4 f5 lt
        have HB := H.out.r.box
        unfold Sh.cells at HB
        dsimp only at HB
        rw [hnr.out, hng.out] at HB
        obtain ⟨k0, k1, k2, k3, k4, k5⟩ := HB.c6
        obtain ⟨f0, f1, f2, f3, f4, f5⟩ := HB.f6
        have lt := HB.lt
        clear HB
        go_upto_region 8 with fail
        refine wp_name (fun wx => ShN v0 wx p S0 ⟨lm, R, Gs, z2, fi, du⟩ A1 c1 A2 c2) (H.out.put rfl rfl rfl) ?_
        intro w7 H7
        replace H7 := Lib.hid H7
        clear k0 k1 k2 k3 k4 k5 f0 f1 f2 f3 f4 f5 lt
        clear H
        have HB := H7.out.r.box
        unfold Sh.cells at HB
        dsimp only at HB
        rw [hnr.out, hng.out] at HB
        obtain ⟨k0, k1, k2, k3, k4, k5⟩ := HB.c6
        obtain ⟨f0, f1, f2, f3, f4, f5⟩ := HB.f6
        have lt := HB.lt
        clear HB
        have HO := Lib.hid (H7.out.r.recs.alloc (.cells #[.string (B d)] 9))
        dsimp only at HO
        rw [hnr.out] at HO
        go_wp2_with (at_builtin; refine wpList_appO rfl (.tmp 82) (.tmp 84) _ rfl 0 9 j0 _ 1 16 Tryz.underlying47 hj hjz0 hjz1 hjz2 rfl A1 nr c1 (strB R) rfl HO.out w7.heap.size 1 [.string (B d)] rfl rfl (fun j u hu => ((Bx.new (w := w7) (l := [.string (B d)]) (t := 9) rfl rfl).2 j u hu).1) (by simp [Value.oneCell']) (by unfold maxLen; omega) (by omega) (Nat.zero_le _) ?_)
        intro A5 c5 w8 ho hg hP
        have hg1 := Lib.hid (G.alloc (G.refl w7) (.cells #[.string (B d)] 9))
        have hN := Lib.hid (H7.out.addRec (d := d) hg1.out (by dsimp only; rw [hnr.out]; exact ho) hg (map_ex hP (by simp)))
        dsimp only at hN
        rw [hnr.out] at hN
        obtain ⟨q1, r1, lt8⟩ := keep_cell hg1.out hg H7.out.r.n1 ⟨k1, f1⟩ lt
        clear k0 k1 k2 k3 k4 k5 f0 f1 f2 f3 f4 f5 lt
        clear HO ho hg hP hg1 H7
        go_wp2_with fail
        go_ret
        refine ⟨rfl, ?_⟩
        rw [← HX.out]
        exact hN.out.x
    · have hz9' : ¬ (0 : Int) < (z : Int) := by omega
      rw [if_neg (show ¬ Sh.need _ _ from fun hh => by rcases HND.out.1 hh with h | h; exact hG0 h; exact hz9 h.1)] at hX
      have HX := Lib.hid hX
      clear hX HND
      go_enter Tryz.func26, Tryz.ntmps26
      have HB := H.out.r.box
      unfold Sh.cells at HB
      dsimp only at HB
      rw [hnr.out, hng.out] at HB
      obtain ⟨k0, k1, k2, k3, k4, k5⟩ := HB.c6
      obtain ⟨f0, f1, f2, f3, f4, f5⟩ := HB.f6
      have lt := HB.lt
      clear HB
      go_wp2_with fail
      refine wp_region_ord [(0, 1), (1, 1), (2, 1), (3, 1), (4, 1), (5, 1), (6, 1), (7, 1), (8, 1), (9, 1), (10, 1), (11, 1), (12, 1), (13, 1), (14, 1), (15, 1), (16, 1), (17, 1), (18, 1), (19, 1), (20, 1), (21, 1), (22, 1), (23, 1), (24, 1), (25, 1), (26, 1), (27, 1)] [] 5 (by kernel_rfl) (by decide +kernel) ?_
      simp only [pickO, List.append_eq, List.cons_append, List.nil_append, List.getElem?_cons_succ, List.getElem?_cons_zero]
      intro w0 hG
      (repeat ((first | (with_reducible refine ord_q1 ?_) | (with_reducible refine ord_q0 ?_)); intro K hK; first | (refine Or.inr ⟨?_, ?_⟩; (focus (go_simp; first | done | (simp [undef]; done))); go_simp; (with_reducible refine hK _ ?_); clear hK K) | (refine Or.inl ⟨?_, ?_⟩; (focus (go_simp; done)); apply Exists.intro; refine And.intro ?_ ?_; (focus (first | (intro wq hq; obtain ⟨hcq, hfq⟩ := G.old hq; go_simp; (first | done | exact rfl); done) | (intro wq; go_simp; (first | done | exact rfl); done))); go_simp; (with_reducible refine hK _ ?_); clear hK K) | fail))
      (with_reducible refine ord_nil ?_)
      have hb0 := hG.b
      replace H := Lib.hid (H.out.grow hb0)
      clear hG hb0
      clear k0 k1 k2 k3 k4 k5 f0 f1 f2 f3 f4 f5 lt
      have HB := H.out.r.box
      unfold Sh.cells at HB
      dsimp only at HB
      rw [hnr.out, hng.out] at HB
      obtain ⟨k0, k1, k2, k3, k4, k5⟩ := HB.c6
      obtain ⟨f0, f1, f2, f3, f4, f5⟩ := HB.f6
      have lt := HB.lt
      clear HB
      go_upto_region 8 with fail
      refine wp_name (fun wx => ShN v0 wx p S0 ⟨lm, R, Gs, z2, fi, du⟩ A1 c1 A2 c2) (H.out.put rfl rfl rfl) ?_
      intro w7 H7
      replace H7 := Lib.hid H7
      clear k0 k1 k2 k3 k4 k5 f0 f1 f2 f3 f4 f5 lt
      clear H
      have HB := H7.out.r.box
      unfold Sh.cells at HB
      dsimp only at HB
      rw [hnr.out, hng.out] at HB
      obtain ⟨k0, k1, k2, k3, k4, k5⟩ := HB.c6
      obtain ⟨f0, f1, f2, f3, f4, f5⟩ := HB.f6
      have lt := HB.lt
      clear HB
      have HO := Lib.hid (H7.out.r.recs.alloc (.cells #[.string (B d)] 9))
      dsimp only at HO
      rw [hnr.out] at HO
      go_wp2_with (at_builtin; refine wpList_appO rfl (.tmp 82) (.tmp 84) _ rfl 0 9 j0 _ 1 16 Tryz.underlying47 hj hjz0 hjz1 hjz2 rfl A1 nr c1 (strB R) rfl HO.out w7.heap.size 1 [.string (B d)] rfl rfl (fun j u hu => ((Bx.new (w := w7) (l := [.string (B d)]) (t := 9) rfl rfl).2 j u hu).1) (by simp [Value.oneCell']) (by unfold maxLen; omega) (by omega) (Nat.zero_le _) ?_)
      intro A5 c5 w8 ho hg hP
      have hg1 := Lib.hid (G.alloc (G.refl w7) (.cells #[.string (B d)] 9))
      have hN := Lib.hid (H7.out.addRec (d := d) hg1.out (by dsimp only; rw [hnr.out]; exact ho) hg (map_ex hP (by simp)))
      dsimp only at hN
      rw [hnr.out] at hN
      obtain ⟨q1, r1, lt8⟩ := keep_cell hg1.out hg H7.out.r.n1 ⟨k1, f1⟩ lt
      clear k0 k1 k2 k3 k4 k5 f0 f1 f2 f3 f4 f5 lt
      clear HO ho hg hP hg1 H7
      go_wp2_with fail
      go_ret
      refine ⟨rfl, ?_⟩
      rw [← HX.out]
      exact hN.out.x
end
end Go.Proofs.YtbafnlccpbonmaaGreatDoor
