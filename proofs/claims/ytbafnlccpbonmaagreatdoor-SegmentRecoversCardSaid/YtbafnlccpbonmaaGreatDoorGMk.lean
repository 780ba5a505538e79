/- segment: Append, Drop, Number -/
import Derived.Test.YtbafnlccpbonmaaGreatDoorGMf
import Derived.Test.YtbafnlccpbonmaaGreatDoorGMe
namespace Go.Proofs.YtbafnlccpbonmaaGreatDoor
set_option linter.unusedVariables false
set_option linter.unnecessarySimpa false
set_option linter.unusedSimpArgs false
open Go.RowKit

theorem infoPart : (Tryz.prog.info? 105).map (fun i => (i.zero, i.size, i.bytes)) = some (some (.agg #[.int .i64 0, .slice none 0 0]), 2, 32) := by kernel_rfl
theorem infoIntG : (Tryz.prog.info? 3).map (fun i => (i.zero, i.size, i.bytes)) = some (some (.int .i64 0), 1, 8) := by kernel_rfl
section
variable {w0 w w' : World} {S0 T0 : Nat → Prop} {L d : Nat} {l l' : Lg} {s s' : Ds}
/-- The log's own cells may be changed. -/
theorem LX.opn (h : LX w0 S0 T0 w d L s l) : ∃ T P c rs, LogR w L d l P c rs ∧ (∀ x, T x ↔ hasL L P rs x) ∧ ∀ w' l', (∃ P' c' rs', LogR w' L d l' P' c' rs' ∧ (∀ x, hasL L P' rs' x → T x ∨ w.heap.size ≤ x) ∧ DChg T w w') → LX w0 S0 T0 w' d L s l' := by
  obtain ⟨⟨S, T, h1, ⟨P, c, rs, h2, h2'⟩, h3, h4, h5⟩, hg⟩ := h
  refine ⟨T, P, c, rs, h2, h2', fun w' l' ⟨P', c', rs', k1, k2, k3⟩ => ?_⟩
  have hsz := hg.size
  refine ⟨⟨S, _, h1.other k3 h3, ⟨P', c', rs', k1, fun x => Iff.rfl⟩, fun x hx ht => ?_, h4, fun x hx => ?_⟩, hg.trans k3 fun x hx => ?_⟩
  · rcases k2 x ht with h6 | h6
    · exact h3 x hx h6
    · have := h1.lt hx
      omega
  · rcases k2 x hx with h6 | h6
    · exact h5 x h6
    · exact .inr (by omega)
  · rcases h5 x hx with h6 | h6
    · exact .inl (.inr h6)
    · exact .inr h6
theorem ord_skip {P : Program} {ops : Array Oper} {Q : Exit → Act → World → Prop} {C : World → Prop} {o : Oper} {l : List (Nat × Oper)} {a : Act} {w : World} (hw : Region.wanted o (yielded ops a.tmps) = false) (hc : C w)
    (h : ∀ K : Act → Prop, (∀ a', wpOrd P ops Q C l a' w → K a') → K (a.put o.dst undef)) : wpOrd P ops Q C ((2, o) :: l) a w := by
  simp only [wpOrd, hw, Bool.false_eq_true, if_false]
  exact h (fun a' => wpOrd P ops Q C l a' w) (fun _ h => h)
theorem lrot_nil {s : Ds} {l : Lg} (h : l.parts = []) (n z : Int) : lrot s l n z = lnew s l n := by
  unfold lrot
  rw [h]
  rfl
theorem ret2 {a b : Int} {s1 s2 : Ds} {l1 l2 : Lg} {R : Int × Ds × Lg} (h : R = (a, s1, l1)) : R.1 = a ∧ R.2.1 = s1 ∧ R.2.2 = l1 := by subst h; exact ⟨rfl, rfl, rfl⟩
set_option maxRecDepth 20000 in set_option maxHeartbeats 4000000 in
theorem LX.rotate0 (hE : EnvL w0 S0 T0) (h : LX w0 S0 T0 w d L s l) (hok : l.Ok) (hnil : l.parts = []) (n z : Nat) (hn : n ≤ 100000000) (hz : z ≤ 100000000) : Calls Tryz.prog 64 #[.pointer (some ⟨L, 0, none⟩), .int .i64 (n : Int), .int .i64 (z : Int)] w fun e w' => e = .returned (.int .i64 (lrot s l n z).1) ∧ LX w0 S0 T0 w' d L (lrot s l n z).2.1 (lrot s l n z).2.2 := by
  obtain ⟨P, c, rs, hL⟩ := h.box
  have H5 := Lib.hid h
  have hrs : rs = [] := by have := hL.eq; rw [hnil] at this; simpa using this.symm
  subst hrs
  obtain ⟨c0, c1, c2, c3, c4⟩ := hL.box.c5
  have lt := hL.box.lt
  clear hL h
  obtain ⟨R, hR⟩ : ∃ R, lrot s l n z = R := ⟨_, rfl⟩
  rw [hR]
  rw [lrot_nil hnil] at hR
  unfold lnew at hR
  rw [Int.toNat_natCast] at hR
  have hok5 := Lib.hid hok.2.1
  have hfl := lfile_len l (n : Int)
  obtain ⟨f, hf⟩ : ∃ f, l.file (n : Int) = f := ⟨_, rfl⟩
  rw [hf] at hR hfl
  obtain ⟨X, hX⟩ : ∃ X, createD s f = X := ⟨_, rfl⟩
  rw [hX] at hR
  obtain ⟨x, s6⟩ := X
  dsimp only at hR
  replace hf := Lib.hid hf
  replace hX := Lib.hid hX
  clear hok
  by_cases hx : x = 0
  · subst hx
    rw [if_neg (by simp)] at hR
    have hR := Lib.hid (ret2 (a := 0) (b := 0) (s1 := s6) (s2 := s6) (l2 := l) hR.symm)
    go_enter Tryz.func64, Tryz.ntmps64
    go_wp2_with fail
    clear c0 c1 c2 c3 c4 lt
    obtain ⟨P5, cc5, rs5, hL5⟩ := H5.out.box
    have LF := Lib.hid (fun (wx : World) (hb : Below w.heap.size w wx) => (H5.out.grow hb).run fun P c rs hL => hL.file ((H5.out.grow hb).pow hE) (n : Int))
    obtain ⟨c0, c1, c2, c3, c4⟩ := hL5.box.c5
    have lt := hL5.box.lt
    have LFB := Lib.hid (fun (wx : World) (hb : Below w.heap.size w wx) => (hL5.keep hb.size fun x hx => hb.block x (hL5.lt hx)).file ((H5.out.grow hb).pow hE) (n : Int))
    rw [hf.out] at LFB
    have DC := Lib.hid (fun (wx : World) (hb : Below w.heap.size w wx) => (H5.out.grow hb).dCreate f hfl)
    rw [hX.out] at DC
    clear hL5 LF
    go_wp2_with fail
    refine wp_region_ord [(0, 1), (1, 1), (2, 1), (3, 1), (4, 1), (5, 1), (6, 2), (7, 3), (8, 0)] [7] 16 (by kernel_rfl) (by decide +kernel) ?_
    simp only [pickO, List.append_eq, List.cons_append, List.nil_append, List.getElem?_cons_succ, List.getElem?_cons_zero]
    intro w0 hG
    (repeat ((first | (with_reducible refine ord_q1 ?_) | (with_reducible refine ord_q0 ?_)); intro K hK; first | (refine Or.inr ⟨?_, ?_⟩; (focus (go_simp; first | done | (simp [undef]; done))); go_simp; (with_reducible refine hK _ ?_); clear hK K) | (refine Or.inl ⟨?_, ?_⟩; (focus (go_simp; done)); apply Exists.intro; refine And.intro ?_ ?_; (focus (first | (intro wq hq; obtain ⟨hcq, hfq⟩ := G.old hq; go_simp; (first | done | exact rfl); done) | (intro wq; go_simp; (first | done | exact rfl); done))); go_simp; (with_reducible refine hK _ ?_); clear hK K) | fail))
    (with_reducible refine ord_run ?_ hG)
    intro K hK
    go_simp
    go_at_call 62; (with_reducible refine (LFB.out _ hG.b).mono ?_); rintro e w2 ⟨rfl, hb1⟩
    replace hG := Grew.trans hG hb1
    (try dsimp only)
    (with_reducible refine hK _ _ hG ?_)
    clear hK K
    (repeat ((first | (with_reducible refine ord_q1 ?_) | (with_reducible refine ord_q0 ?_)); intro K hK; first | (refine Or.inr ⟨?_, ?_⟩; (focus (go_simp; first | done | (simp [undef]; done))); go_simp; (with_reducible refine hK _ ?_); clear hK K) | (refine Or.inl ⟨?_, ?_⟩; (focus (go_simp; done)); apply Exists.intro; refine And.intro ?_ ?_; (focus (first | (intro wq hq; obtain ⟨hcq, hfq⟩ := G.old hq; go_simp; (first | done | exact rfl); done) | (intro wq; go_simp; (first | done | exact rfl); done))); go_simp; (with_reducible refine hK _ ?_); clear hK K) | fail))
    (with_reducible refine ord_tail ?_)
    intro K hK
    go_simp
    have hb9 := hG.b
    go_at_call 39
    (with_reducible refine (DC.out _ hb9).mono ?_)
    rintro e1 w6 ⟨rfl, h6⟩
    clear hG hb9 c0 c1 c2 c3 c4 lt H5 LFB DC
    replace h6 := Lib.hid h6
    (with_reducible refine hK _ _ ?_)
    clear hK K
    (repeat ((first | (with_reducible refine ord_q1 ?_) | (with_reducible refine ord_q0 ?_)); intro K hK; first | (refine Or.inr ⟨?_, ?_⟩; (focus (go_simp; first | done | (simp [undef]; done))); go_simp; (with_reducible refine hK _ ?_); clear hK K) | (refine Or.inl ⟨?_, ?_⟩; (focus (go_simp; done)); apply Exists.intro; refine And.intro ?_ ?_; (focus (first | (intro wq hq; obtain ⟨hcq, hfq⟩ := G.old hq; go_simp; (first | done | exact rfl); done) | (intro wq; go_simp; (first | done | exact rfl); done))); go_simp; (with_reducible refine hK _ ?_); clear hK K) | fail))
    (with_reducible refine ord_nil ?_)
    obtain ⟨T6, P6, cc6, rs6, hL6, hT6, hN6⟩ := h6.out.opn
    obtain ⟨c0, c1, c2, c3, c4⟩ := hL6.box.c5
    have lt := hL6.box.lt
    have hl6 : rs6.length ≤ 100000000 := by have := hok5.out; rw [hL6.eq, List.length_map] at this; exact this
    have HL6 := Lib.hid hL6
    have HT6 := Lib.hid hT6
    have HN6 := Lib.hid hN6
    obtain ⟨q6, hq6⟩ : ∃ q, rs6.length = q := ⟨_, rfl⟩
    rw [hq6] at c3 hl6
    have HO := Lib.hid (hL6.row.block (w' := (w6.alloc (.cells #[.int .i64 0] 3)).alloc (.cells #[.int .i64 (n : Int), .slice (some ⟨w6.heap.size, 0, none⟩) 1 1] 105)) (by simp; omega) fun ad ha => (G.alloc (G.alloc (G.refl w6) _) _).block _ (hL6.row.lt ha).1)
    rw [hq6] at HO
    have hBX : Hid (Bx ((w6.alloc (.cells #[.int .i64 0] 3)).alloc (.cells #[.int .i64 (n : Int), .slice (some ⟨w6.heap.size, 0, none⟩) 1 1] 105)) w6.heap.size [.int .i64 0]) := Lib.hid ((Bx.new rfl rfl).alloc _)
    have hBY : Hid (Bx ((w6.alloc (.cells #[.int .i64 0] 3)).alloc (.cells #[.int .i64 (n : Int), .slice (some ⟨w6.heap.size, 0, none⟩) 1 1] 105)) (w6.heap.size + 1) [.int .i64 (n : Int), .slice (some ⟨w6.heap.size, 0, none⟩) 1 1]) := Lib.hid (Bx.new (by simp) rfl)
    clear hL6 hT6 hN6
    obtain ⟨i0, hi, hz0, hz1, hz2⟩ := info_parts infoPart
    go_wp2_with (at_builtin; refine wpList_appO rfl (.tmp 60) (.tmp 64) _ rfl 0 105 i0 _ 2 32 Tryz.underlying100 hi hz0 hz1 hz2 rfl P6 q6 cc6 (rowP rs6) rfl HO.out (w6.heap.size + 1) 1 [.int .i64 (n : Int), .slice (some ⟨w6.heap.size, 0, none⟩) 1 1] rfl rfl (fun j u hu => (hBY.out.2 j u hu).1) (by simp [Value.oneCell']) (by unfold maxLen; omega) (by omega) (Nat.zero_le _) ?_)
    intro P7 cc7 w7 ho7 hg7 hp7
    have HBL := Lib.hid ((HL6.out.box.grow (G.alloc (G.alloc (G.refl w6) _) _)).block hg7.size (hg7.block L (by simp; omega) (fun e => by
      rcases P6 with _ | ad
      · cases e
      · simp at e
        exact HL6.out.pl ad rfl e.symm)))
    obtain ⟨d0, d1, d2, d3, d4⟩ := HBL.out.c5
    obtain ⟨f0, f1, f2, f3, f4⟩ := HBL.out.f5
    have lt7 := HBL.out.lt
    rw [hq6] at d3
    have hfin := Lib.hid (HL6.out.newPart (n := n) (b := w6.heap.size) HT6.out (G.alloc (G.alloc (G.refl w6) _) _) hBX.out (Nat.le_refl _) (by rw [hq6]; exact ho7) hg7 (by rcases hp7 with e | ⟨a, e1, e2⟩; exact .inl e; exact .inr (by rw [e1]; simp [e2])))
    rw [hq6] at hfin
    clear c0 c1 c2 c3 c4 HBL ho7 hg7 hp7 hBX hBY HO HL6 HT6 h6 hi hz0 hz1 hz2
    go_wp2_with fail
    go_ret
    rw [hR.out.1, hR.out.2.1, hR.out.2.2]
    exact ⟨rfl, HN6.out _ _ ⟨_, _, _, hfin.out.1, hfin.out.2.1, hfin.out.2.2⟩⟩
  · rw [if_pos hx] at hR
    have hR := Lib.hid (ret2 (b := 0) (s2 := s6) (l2 := l) hR.symm)
    have hx2 : (x != 0) = true := by rw [bne_iff_ne]; exact hx
    go_enter Tryz.func64, Tryz.ntmps64
    go_wp2_with fail
    clear c0 c1 c2 c3 c4 lt
    obtain ⟨P5, cc5, rs5, hL5⟩ := H5.out.box
    have LF := Lib.hid (fun (wx : World) (hb : Below w.heap.size w wx) => (H5.out.grow hb).run fun P c rs hL => hL.file ((H5.out.grow hb).pow hE) (n : Int))
    obtain ⟨c0, c1, c2, c3, c4⟩ := hL5.box.c5
    have lt := hL5.box.lt
    have LFB := Lib.hid (fun (wx : World) (hb : Below w.heap.size w wx) => (hL5.keep hb.size fun x hx => hb.block x (hL5.lt hx)).file ((H5.out.grow hb).pow hE) (n : Int))
    rw [hf.out] at LFB
    have DC := Lib.hid (fun (wx : World) (hb : Below w.heap.size w wx) => (H5.out.grow hb).dCreate f hfl)
    rw [hX.out] at DC
    clear hL5 LF
    go_wp2_with fail
    refine wp_region_ord [(0, 1), (1, 1), (2, 1), (3, 1), (4, 1), (5, 1), (6, 2), (7, 3), (8, 0)] [7] 16 (by kernel_rfl) (by decide +kernel) ?_
    simp only [pickO, List.append_eq, List.cons_append, List.nil_append, List.getElem?_cons_succ, List.getElem?_cons_zero]
    intro w0 hG
    (repeat ((first | (with_reducible refine ord_q1 ?_) | (with_reducible refine ord_q0 ?_)); intro K hK; first | (refine Or.inr ⟨?_, ?_⟩; (focus (go_simp; first | done | (simp [undef]; done))); go_simp; (with_reducible refine hK _ ?_); clear hK K) | (refine Or.inl ⟨?_, ?_⟩; (focus (go_simp; done)); apply Exists.intro; refine And.intro ?_ ?_; (focus (first | (intro wq hq; obtain ⟨hcq, hfq⟩ := G.old hq; go_simp; (first | done | exact rfl); done) | (intro wq; go_simp; (first | done | exact rfl); done))); go_simp; (with_reducible refine hK _ ?_); clear hK K) | fail))
    (with_reducible refine ord_run ?_ hG)
    intro K hK
    go_simp
    go_at_call 62; (with_reducible refine (LFB.out _ hG.b).mono ?_); rintro e w2 ⟨rfl, hb1⟩
    replace hG := Grew.trans hG hb1
    (try dsimp only)
    (with_reducible refine hK _ _ hG ?_)
    clear hK K
    (repeat ((first | (with_reducible refine ord_q1 ?_) | (with_reducible refine ord_q0 ?_)); intro K hK; first | (refine Or.inr ⟨?_, ?_⟩; (focus (go_simp; first | done | (simp [undef]; done))); go_simp; (with_reducible refine hK _ ?_); clear hK K) | (refine Or.inl ⟨?_, ?_⟩; (focus (go_simp; done)); apply Exists.intro; refine And.intro ?_ ?_; (focus (first | (intro wq hq; obtain ⟨hcq, hfq⟩ := G.old hq; go_simp; (first | done | exact rfl); done) | (intro wq; go_simp; (first | done | exact rfl); done))); go_simp; (with_reducible refine hK _ ?_); clear hK K) | fail))
    (with_reducible refine ord_tail ?_)
    intro K hK
    go_simp
    have hb9 := hG.b
    go_at_call 39
    (with_reducible refine (DC.out _ hb9).mono ?_)
    rintro e1 w6 ⟨rfl, h6⟩
    clear hG hb9 c0 c1 c2 c3 c4 lt H5 LFB DC
    replace h6 := Lib.hid h6
    (with_reducible refine hK _ _ ?_)
    clear hK K
    (repeat ((first | (with_reducible refine ord_q1 ?_) | (with_reducible refine ord_q0 ?_)); intro K hK; first | (refine Or.inr ⟨?_, ?_⟩; (focus (go_simp; first | done | (simp [undef]; done))); go_simp; (with_reducible refine hK _ ?_); clear hK K) | (refine Or.inl ⟨?_, ?_⟩; (focus (go_simp; done)); apply Exists.intro; refine And.intro ?_ ?_; (focus (first | (intro wq hq; obtain ⟨hcq, hfq⟩ := G.old hq; go_simp; (first | done | exact rfl); done) | (intro wq; go_simp; (first | done | exact rfl); done))); go_simp; (with_reducible refine hK _ ?_); clear hK K) | fail))
    (with_reducible refine ord_nil ?_)
    go_wp2_with fail
    go_ret
    rw [hR.out.1, hR.out.2.1, hR.out.2.2]
    exact ⟨rfl, h6.out⟩
theorem lsync_same (s : Ds) (l : Lg) : (lsync s l).2.2.parts = l.parts ∧ (lsync s l).2.2.name = l.name ∧ (lsync s l).2.2.limit = l.limit := by
  unfold lsync
  split
  · exact ⟨rfl, rfl, rfl⟩
  · split <;> exact ⟨rfl, rfl, rfl⟩
set_option maxRecDepth 20000 in set_option maxHeartbeats 4000000 in
theorem LX.rotate1 (hE : EnvL w0 S0 T0) (h : LX w0 S0 T0 w d L s l) (hok : l.Ok) (hne : l.parts ≠ []) (n z : Nat) (hn : n ≤ 100000000) (hz : z ≤ 100000000) : Calls Tryz.prog 64 #[.pointer (some ⟨L, 0, none⟩), .int .i64 (n : Int), .int .i64 (z : Int)] w fun e w' => e = .returned (.int .i64 (lrot s l n z).1) ∧ LX w0 S0 T0 w' d L (lrot s l n z).2.1 (lrot s l n z).2.2 := by
  obtain ⟨P, c, rs, hL⟩ := h.box
  have H := Lib.hid h
  have HOK := Lib.hid hok
  have he := hL.eq
  rcases snoc_cases rs with e | ⟨qs, r, e⟩
  · subst e
    exact absurd (by rw [he]; rfl) hne
  subst e
  obtain ⟨R, hR⟩ : ∃ R, lrot s l n z = R := ⟨_, rfl⟩
  rw [hR]
  have hls : l.parts.getLast? = some r.pt := by rw [he]; simp
  unfold lrot at hR
  rw [hls] at hR
  dsimp only at hR
  have hpk : r.pt.Ok := hok.1 _ (by rw [he]; simp)
  obtain ⟨c0, c1, c2, c3, c4⟩ := hL.box.c5
  have lt := hL.box.lt
  obtain ⟨g, off, rfl, hg, k0, k1⟩ := hL.cells (k := qs.length) (r := r) (by simp)
  obtain ⟨q, hq⟩ : ∃ q, qs.length = q := ⟨_, rfl⟩
  obtain ⟨N, hN⟩ : ∃ n, (qs ++ [r]).length = n := ⟨_, rfl⟩
  have hqn : N = q + 1 := by rw [← hN, ← hq]; simp
  have hnl : N ≤ 100000000 := by
    have := hok.2.1
    rw [he, List.length_map, hN] at this
    exact this
  rw [hN] at c3
  rw [hq] at k0 k1
  have h1 : (0 : Int) < (N : Int) := by omega
  have hw1 : IntKind.i64.wrap ((N : Int) - 1) = (q : Int) := by rw [IntWalk.i64_in _ (by omega)]; omega
  have h2 : q < N := by omega
  have h3 : (q : Int) < (N : Int) := by omega
  have hrm : r ∈ qs ++ [r] := by simp
  have PS := Lib.hid (fun (wx : World) (hb : Below w.heap.size w wx) => psize_any r wx (((hL.keep hb.size fun x hx => hb.block x (hL.lt hx))).each r hrm) hpk)
  have hv40 : r.pt.size ≤ 1099511627776 := by
    have h4 := hpk.2.2.2
    unfold Pt.size
    exact h4 _ (List.mem_of_getElem? (last_get hpk.2.2.1))
  rw [show r.val = .slice r.A r.offs.length r.cap from rfl] at k1 PS
  obtain ⟨rA, hrA⟩ : ∃ a, r.A = a := ⟨_, rfl⟩
  obtain ⟨rn, hrn⟩ : ∃ a, r.offs.length = a := ⟨_, rfl⟩
  obtain ⟨rc, hrc⟩ : ∃ a, r.cap = a := ⟨_, rfl⟩
  rw [hrA, hrn, hrc] at k1 PS
  clear hrA hrn hrc
  obtain ⟨v, hv⟩ : ∃ v, r.pt.size = v := ⟨_, rfl⟩
  rw [hv] at hR PS hv40
  have hlim := hok.2.2.2.2
  obtain ⟨m, hm⟩ : ∃ m, l.limit = m := ⟨_, rfl⟩
  rw [hm] at hR hlim c2
  have hadd : IntKind.i64.wrap ((v : Int) + (z : Int)) = (v : Int) + (z : Int) := IntWalk.i64_in _ (by omega)
  have hok5 := Lib.hid hok.2.1
  clear he hN hq hqn hls hpk hL h hok hne hv hm
  by_cases hv0 : v = 0
  · skip
    rw [if_pos (Or.inl hv0)] at hR
    have hR := Lib.hid (ret2 (b := 0) (s2 := s) (l2 := l) hR.symm)
    have hv0' : (v : Int) = 0 := by omega
    obtain rfl := hv0
    go_enter Tryz.func64, Tryz.ntmps64
    go_wp2_with fail
    refine wp_name (fun wx => Below w.heap.size w wx ∧ Bx wx w.heap.size [.int .i64 (r.first : Int), .slice rA rn rc]) ⟨by repeat (first | with_reducible assumption | with_reducible exact G.refl _ | with_reducible refine G.drew ?_ | with_reducible refine G.drewN ?_ _ | with_reducible refine G.alloc ?_ _ | with_reducible refine Below.setCell ?_ (by first | (simp; done) | (simp; omega)) _ | with_reducible refine G.trans ?_ hb12 | with_reducible refine G.trans ?_ hb11 | with_reducible refine G.trans ?_ hb10 | with_reducible refine G.trans ?_ hb9 | with_reducible refine G.trans ?_ hb8 | with_reducible refine G.trans ?_ hb7 | with_reducible refine G.trans ?_ hb6 | with_reducible refine G.trans ?_ hb5 | with_reducible refine G.trans ?_ hb4 | with_reducible refine G.trans ?_ hb3 | with_reducible refine G.trans ?_ hb2 | with_reducible refine G.trans ?_ hb1 | with_reducible refine G.trans ?_ hb | assumption), by repeat (first | with_reducible assumption | (with_reducible exact Bx.new (by simp; done) (by rfl)) | (with_reducible refine Bx.alloc ?_ _) | (with_reducible refine Bx.drewN ?_ _) | ((with_reducible apply Bx.put); rotate_right; (first | rfl | skip)) | (with_reducible refine Bx.other ?_ (by first | (simp; done) | (simp; omega)) _))⟩ ?_
    rintro w1 ⟨hb1, x1⟩
    have x0 := (x1.2 0 _ rfl).1
    have x1' := (x1.2 1 _ rfl).1
    have lt1 := x1.lt
    clear x1 k0 k1
    replace c0 := G.cell c0 hb1
    replace c1 := G.cell c1 hb1
    replace c2 := G.cell c2 hb1
    replace c3 := G.cell c3 hb1
    replace c4 := G.cell c4 hb1
    replace lt := cell_lt c0
    refine wp_region_ord [(0, 1), (1, 2), (2, 1), (3, 1), (4, 1), (6, 1), (8, 1), (9, 1), (10, 1), (11, 1), (5, 2), (7, 1), (12, 1), (13, 1)] [] 5 (by kernel_rfl) (by decide +kernel) ?_
    simp only [pickO, List.append_eq, List.cons_append, List.nil_append, List.getElem?_cons_succ, List.getElem?_cons_zero]
    intro w0 hG
    (repeat ((first | (with_reducible refine ord_q1 ?_) | (with_reducible refine ord_q0 ?_)); intro K hK; first | (refine Or.inr ⟨?_, ?_⟩; (focus (go_simp; first | done | (simp [undef]; done))); go_simp; (with_reducible refine hK _ ?_); clear hK K) | (refine Or.inl ⟨?_, ?_⟩; (focus (go_simp; done)); apply Exists.intro; refine And.intro ?_ ?_; (focus (first | (intro wq hq; obtain ⟨hcq, hfq⟩ := G.old hq; go_simp; (first | done | exact rfl); done) | (intro wq; go_simp; (first | done | exact rfl); done))); go_simp; (with_reducible refine hK _ ?_); clear hK K) | fail))
    (with_reducible refine ord_run ?_ hG)
    intro K hK
    go_simp
    go_at_call 63; (with_reducible refine (PS.out _ (G.trans hb1 hG.b)).mono ?_); rintro e w2 ⟨rfl, hb2⟩
    replace hG := Grew.trans hG hb2
    (try dsimp only)
    (with_reducible refine hK _ _ hG ?_)
    clear hK K
    (repeat ((first | (with_reducible refine ord_q1 ?_) | (with_reducible refine ord_q0 ?_)); intro K hK; first | (refine Or.inr ⟨?_, ?_⟩; (focus (go_simp; first | done | (simp [undef]; done))); go_simp; (with_reducible refine hK _ ?_); clear hK K) | (refine Or.inl ⟨?_, ?_⟩; (focus (go_simp; done)); apply Exists.intro; refine And.intro ?_ ?_; (focus (first | (intro wq hq; obtain ⟨hcq, hfq⟩ := G.old hq; go_simp; (first | done | exact rfl); done) | (intro wq; go_simp; (first | done | exact rfl); done))); go_simp; (with_reducible refine hK _ ?_); clear hK K) | fail))
    (with_reducible refine ord_skip ?_ hG ?_); (focus (go_simp; first | done | (simp [undef]; done))); intro K hK; go_simp; (with_reducible refine hK _ ?_); clear hK K; (repeat ((first | (with_reducible refine ord_q1 ?_) | (with_reducible refine ord_q0 ?_)); intro K hK; first | (refine Or.inr ⟨?_, ?_⟩; (focus (go_simp; first | done | (simp [undef]; done))); go_simp; (with_reducible refine hK _ ?_); clear hK K) | (refine Or.inl ⟨?_, ?_⟩; (focus (go_simp; done)); apply Exists.intro; refine And.intro ?_ ?_; (focus (first | (intro wq hq; obtain ⟨hcq, hfq⟩ := G.old hq; go_simp; (first | done | exact rfl); done) | (intro wq; go_simp; (first | done | exact rfl); done))); go_simp; (with_reducible refine hK _ ?_); clear hK K) | fail))
    (with_reducible refine ord_nil ?_)
    have hb3 := G.trans hb1 hG.b
    have H3 := Lib.hid (H.out.grow hb3)
    clear hG c0 c1 c2 c3 c4 lt lt1 x0 x1' H PS hb1 hg
    go_wp2_with fail
    go_ret
    rw [hR.out.1, hR.out.2.1, hR.out.2.2]
    exact ⟨rfl, H3.out⟩
  · have hv0' : ¬ (v : Int) = 0 := by omega
    by_cases hle : (v : Int) + (z : Int) ≤ m
    · rw [if_pos (Or.inr hle)] at hR
      have hR := Lib.hid (ret2 (b := 0) (s2 := s) (l2 := l) hR.symm)
      have hbv : (((v : Int) == 0) || decide ((v : Int) + (z : Int) ≤ m)) = true := by rw [Bool.or_eq_true]; exact .inr (decide_eq_true hle)
      go_enter Tryz.func64, Tryz.ntmps64
      go_wp2_with fail
      refine wp_name (fun wx => Below w.heap.size w wx ∧ Bx wx w.heap.size [.int .i64 (r.first : Int), .slice rA rn rc]) ⟨by repeat (first | with_reducible assumption | with_reducible exact G.refl _ | with_reducible refine G.drew ?_ | with_reducible refine G.drewN ?_ _ | with_reducible refine G.alloc ?_ _ | with_reducible refine Below.setCell ?_ (by first | (simp; done) | (simp; omega)) _ | with_reducible refine G.trans ?_ hb12 | with_reducible refine G.trans ?_ hb11 | with_reducible refine G.trans ?_ hb10 | with_reducible refine G.trans ?_ hb9 | with_reducible refine G.trans ?_ hb8 | with_reducible refine G.trans ?_ hb7 | with_reducible refine G.trans ?_ hb6 | with_reducible refine G.trans ?_ hb5 | with_reducible refine G.trans ?_ hb4 | with_reducible refine G.trans ?_ hb3 | with_reducible refine G.trans ?_ hb2 | with_reducible refine G.trans ?_ hb1 | with_reducible refine G.trans ?_ hb | assumption), by repeat (first | with_reducible assumption | (with_reducible exact Bx.new (by simp; done) (by rfl)) | (with_reducible refine Bx.alloc ?_ _) | (with_reducible refine Bx.drewN ?_ _) | ((with_reducible apply Bx.put); rotate_right; (first | rfl | skip)) | (with_reducible refine Bx.other ?_ (by first | (simp; done) | (simp; omega)) _))⟩ ?_
      rintro w1 ⟨hb1, x1⟩
      have x0 := (x1.2 0 _ rfl).1
      have x1' := (x1.2 1 _ rfl).1
      have lt1 := x1.lt
      clear x1 k0 k1
      replace c0 := G.cell c0 hb1
      replace c1 := G.cell c1 hb1
      replace c2 := G.cell c2 hb1
      replace c3 := G.cell c3 hb1
      replace c4 := G.cell c4 hb1
      replace lt := cell_lt c0
      refine wp_region_ord [(0, 1), (1, 2), (2, 1), (3, 1), (4, 1), (6, 1), (8, 1), (9, 1), (10, 1), (11, 1), (5, 2), (7, 1), (12, 1), (13, 1)] [] 5 (by kernel_rfl) (by decide +kernel) ?_
      simp only [pickO, List.append_eq, List.cons_append, List.nil_append, List.getElem?_cons_succ, List.getElem?_cons_zero]
      intro w0 hG
      (repeat ((first | (with_reducible refine ord_q1 ?_) | (with_reducible refine ord_q0 ?_)); intro K hK; first | (refine Or.inr ⟨?_, ?_⟩; (focus (go_simp; first | done | (simp [undef]; done))); go_simp; (with_reducible refine hK _ ?_); clear hK K) | (refine Or.inl ⟨?_, ?_⟩; (focus (go_simp; done)); apply Exists.intro; refine And.intro ?_ ?_; (focus (first | (intro wq hq; obtain ⟨hcq, hfq⟩ := G.old hq; go_simp; (first | done | exact rfl); done) | (intro wq; go_simp; (first | done | exact rfl); done))); go_simp; (with_reducible refine hK _ ?_); clear hK K) | fail))
      (with_reducible refine ord_run ?_ hG)
      intro K hK
      go_simp
      go_at_call 63; (with_reducible refine (PS.out _ (G.trans hb1 hG.b)).mono ?_); rintro e w2 ⟨rfl, hb2⟩
      replace hG := Grew.trans hG hb2
      (try dsimp only)
      (with_reducible refine hK _ _ hG ?_)
      clear hK K
      (repeat ((first | (with_reducible refine ord_q1 ?_) | (with_reducible refine ord_q0 ?_)); intro K hK; first | (refine Or.inr ⟨?_, ?_⟩; (focus (go_simp; first | done | (simp [undef]; done))); go_simp; (with_reducible refine hK _ ?_); clear hK K) | (refine Or.inl ⟨?_, ?_⟩; (focus (go_simp; done)); apply Exists.intro; refine And.intro ?_ ?_; (focus (first | (intro wq hq; obtain ⟨hcq, hfq⟩ := G.old hq; go_simp; (first | done | exact rfl); done) | (intro wq; go_simp; (first | done | exact rfl); done))); go_simp; (with_reducible refine hK _ ?_); clear hK K) | fail))
      (with_reducible refine ord_run ?_ hG)
      intro K hK
      go_simp
      go_at_call 63; (with_reducible refine (PS.out _ (G.trans hb1 hG.b)).mono ?_); rintro e w2 ⟨rfl, hb2⟩
      replace hG := Grew.trans hG hb2
      (try dsimp only)
      (with_reducible refine hK _ _ hG ?_)
      clear hK K
      (repeat ((first | (with_reducible refine ord_q1 ?_) | (with_reducible refine ord_q0 ?_)); intro K hK; first | (refine Or.inr ⟨?_, ?_⟩; (focus (go_simp; first | done | (simp [undef]; done))); go_simp; (with_reducible refine hK _ ?_); clear hK K) | (refine Or.inl ⟨?_, ?_⟩; (focus (go_simp; done)); apply Exists.intro; refine And.intro ?_ ?_; (focus (first | (intro wq hq; obtain ⟨hcq, hfq⟩ := G.old hq; go_simp; (first | done | exact rfl); done) | (intro wq; go_simp; (first | done | exact rfl); done))); go_simp; (with_reducible refine hK _ ?_); clear hK K) | fail))
      (with_reducible refine ord_nil ?_)
      have hb3 := G.trans hb1 hG.b
      have H3 := Lib.hid (H.out.grow hb3)
      clear hG c0 c1 c2 c3 c4 lt lt1 x0 x1' H PS hb1 hg
      go_wp2_with fail
      go_ret
      rw [hR.out.1, hR.out.2.1, hR.out.2.2]
      exact ⟨rfl, H3.out⟩
    · rw [if_neg (by rintro (e | e); exact hv0 e; exact hle e)] at hR
      have hbv : (((v : Int) == 0) || decide ((v : Int) + (z : Int) ≤ m)) = false := by rw [Bool.or_eq_false_iff]; exact ⟨beq_eq_false_iff_ne.2 hv0', decide_eq_false hle⟩
      obtain ⟨p1, p2, p3⟩ := lsync_same s l
      have SY := Lib.hid (fun (wx : World) (hb : Below w.heap.size w wx) => (H.out.grow hb).Sync hE HOK.out)
      obtain ⟨Y, hY⟩ : ∃ Y, lsync s l = Y := ⟨_, rfl⟩
      rw [hY] at hR SY p1 p2 p3
      obtain ⟨y, s5, l5⟩ := Y
      dsimp only at hR SY p1 p2 p3
      rw [← p1] at hok5
      clear hY p1 p2 p3
      by_cases hy : y = 0
      · subst hy
        rw [if_neg (by simp)] at hR
        unfold lnew at hR
        rw [Int.toNat_natCast] at hR
        have hfl := lfile_len l5 (n : Int)
        obtain ⟨f, hf⟩ : ∃ f, l5.file (n : Int) = f := ⟨_, rfl⟩
        rw [hf] at hR hfl
        obtain ⟨X, hX⟩ : ∃ X, createD s5 f = X := ⟨_, rfl⟩
        rw [hX] at hR
        obtain ⟨x, s6⟩ := X
        dsimp only at hR
        replace hf := Lib.hid hf
        replace hX := Lib.hid hX
        by_cases hx : x = 0
        · subst hx
          rw [if_neg (by simp)] at hR
          have hR := Lib.hid (ret2 (a := 0) (b := 0) (s1 := s6) (s2 := s6) (l2 := l) hR.symm)
          go_enter Tryz.func64, Tryz.ntmps64
          go_wp2_with fail
          refine wp_name (fun wx => Below w.heap.size w wx ∧ Bx wx w.heap.size [.int .i64 (r.first : Int), .slice rA rn rc]) ⟨by repeat (first | with_reducible assumption | with_reducible exact G.refl _ | with_reducible refine G.drew ?_ | with_reducible refine G.drewN ?_ _ | with_reducible refine G.alloc ?_ _ | with_reducible refine Below.setCell ?_ (by first | (simp; done) | (simp; omega)) _ | with_reducible refine G.trans ?_ hb12 | with_reducible refine G.trans ?_ hb11 | with_reducible refine G.trans ?_ hb10 | with_reducible refine G.trans ?_ hb9 | with_reducible refine G.trans ?_ hb8 | with_reducible refine G.trans ?_ hb7 | with_reducible refine G.trans ?_ hb6 | with_reducible refine G.trans ?_ hb5 | with_reducible refine G.trans ?_ hb4 | with_reducible refine G.trans ?_ hb3 | with_reducible refine G.trans ?_ hb2 | with_reducible refine G.trans ?_ hb1 | with_reducible refine G.trans ?_ hb | assumption), by repeat (first | with_reducible assumption | (with_reducible exact Bx.new (by simp; done) (by rfl)) | (with_reducible refine Bx.alloc ?_ _) | (with_reducible refine Bx.drewN ?_ _) | ((with_reducible apply Bx.put); rotate_right; (first | rfl | skip)) | (with_reducible refine Bx.other ?_ (by first | (simp; done) | (simp; omega)) _))⟩ ?_
          rintro w1 ⟨hb1, x1⟩
          have x0 := (x1.2 0 _ rfl).1
          have x1' := (x1.2 1 _ rfl).1
          have lt1 := x1.lt
          clear x1 k0 k1
          replace c0 := G.cell c0 hb1
          replace c1 := G.cell c1 hb1
          replace c2 := G.cell c2 hb1
          replace c3 := G.cell c3 hb1
          replace c4 := G.cell c4 hb1
          replace lt := cell_lt c0
          refine wp_region_ord [(0, 1), (1, 2), (2, 1), (3, 1), (4, 1), (6, 1), (8, 1), (9, 1), (10, 1), (11, 1), (5, 2), (7, 1), (12, 1), (13, 1)] [] 5 (by kernel_rfl) (by decide +kernel) ?_
          simp only [pickO, List.append_eq, List.cons_append, List.nil_append, List.getElem?_cons_succ, List.getElem?_cons_zero]
          intro w0 hG
          (repeat ((first | (with_reducible refine ord_q1 ?_) | (with_reducible refine ord_q0 ?_)); intro K hK; first | (refine Or.inr ⟨?_, ?_⟩; (focus (go_simp; first | done | (simp [undef]; done))); go_simp; (with_reducible refine hK _ ?_); clear hK K) | (refine Or.inl ⟨?_, ?_⟩; (focus (go_simp; done)); apply Exists.intro; refine And.intro ?_ ?_; (focus (first | (intro wq hq; obtain ⟨hcq, hfq⟩ := G.old hq; go_simp; (first | done | exact rfl); done) | (intro wq; go_simp; (first | done | exact rfl); done))); go_simp; (with_reducible refine hK _ ?_); clear hK K) | fail))
          (with_reducible refine ord_run ?_ hG)
          intro K hK
          go_simp
          go_at_call 63; (with_reducible refine (PS.out _ (G.trans hb1 hG.b)).mono ?_); rintro e w2 ⟨rfl, hb2⟩
          replace hG := Grew.trans hG hb2
          (try dsimp only)
          (with_reducible refine hK _ _ hG ?_)
          clear hK K
          (repeat ((first | (with_reducible refine ord_q1 ?_) | (with_reducible refine ord_q0 ?_)); intro K hK; first | (refine Or.inr ⟨?_, ?_⟩; (focus (go_simp; first | done | (simp [undef]; done))); go_simp; (with_reducible refine hK _ ?_); clear hK K) | (refine Or.inl ⟨?_, ?_⟩; (focus (go_simp; done)); apply Exists.intro; refine And.intro ?_ ?_; (focus (first | (intro wq hq; obtain ⟨hcq, hfq⟩ := G.old hq; go_simp; (first | done | exact rfl); done) | (intro wq; go_simp; (first | done | exact rfl); done))); go_simp; (with_reducible refine hK _ ?_); clear hK K) | fail))
          (with_reducible refine ord_run ?_ hG)
          intro K hK
          go_simp
          go_at_call 63; (with_reducible refine (PS.out _ (G.trans hb1 hG.b)).mono ?_); rintro e w2 ⟨rfl, hb2⟩
          replace hG := Grew.trans hG hb2
          (try dsimp only)
          (with_reducible refine hK _ _ hG ?_)
          clear hK K
          (repeat ((first | (with_reducible refine ord_q1 ?_) | (with_reducible refine ord_q0 ?_)); intro K hK; first | (refine Or.inr ⟨?_, ?_⟩; (focus (go_simp; first | done | (simp [undef]; done))); go_simp; (with_reducible refine hK _ ?_); clear hK K) | (refine Or.inl ⟨?_, ?_⟩; (focus (go_simp; done)); apply Exists.intro; refine And.intro ?_ ?_; (focus (first | (intro wq hq; obtain ⟨hcq, hfq⟩ := G.old hq; go_simp; (first | done | exact rfl); done) | (intro wq; go_simp; (first | done | exact rfl); done))); go_simp; (with_reducible refine hK _ ?_); clear hK K) | fail))
          (with_reducible refine ord_nil ?_)
          have hb3 := G.trans hb1 hG.b
          have H3 := Lib.hid (H.out.grow hb3)
          clear hG c0 c1 c2 c3 c4 lt lt1 x0 x1' H PS hb1 hg
          go_wp2_with fail
          go_at_call 34
          (with_reducible refine (SY.out _ hb3).mono ?_)
          rintro e1 w5 ⟨rfl, h5⟩
          have H5 := Lib.hid h5
          clear h5 SY H3 hb3
          obtain ⟨P5, cc5, rs5, hL5⟩ := H5.out.box
          have LF := Lib.hid (fun (wx : World) (hb : Below w5.heap.size w5 wx) => (H5.out.grow hb).run fun P c rs hL => hL.file ((H5.out.grow hb).pow hE) (n : Int))
          obtain ⟨c0, c1, c2, c3, c4⟩ := hL5.box.c5
          have lt := hL5.box.lt
          have LFB := Lib.hid (fun (wx : World) (hb : Below w5.heap.size w5 wx) => (hL5.keep hb.size fun x hx => hb.block x (hL5.lt hx)).file ((H5.out.grow hb).pow hE) (n : Int))
          rw [hf.out] at LFB
          have DC := Lib.hid (fun (wx : World) (hb : Below w5.heap.size w5 wx) => (H5.out.grow hb).dCreate f hfl)
          rw [hX.out] at DC
          clear hL5 LF
          go_wp2_with fail
          refine wp_region_ord [(0, 1), (1, 1), (2, 1), (3, 1), (4, 1), (5, 1), (6, 2), (7, 3), (8, 0)] [7] 16 (by kernel_rfl) (by decide +kernel) ?_
          simp only [pickO, List.append_eq, List.cons_append, List.nil_append, List.getElem?_cons_succ, List.getElem?_cons_zero]
          intro w0 hG
          (repeat ((first | (with_reducible refine ord_q1 ?_) | (with_reducible refine ord_q0 ?_)); intro K hK; first | (refine Or.inr ⟨?_, ?_⟩; (focus (go_simp; first | done | (simp [undef]; done))); go_simp; (with_reducible refine hK _ ?_); clear hK K) | (refine Or.inl ⟨?_, ?_⟩; (focus (go_simp; done)); apply Exists.intro; refine And.intro ?_ ?_; (focus (first | (intro wq hq; obtain ⟨hcq, hfq⟩ := G.old hq; go_simp; (first | done | exact rfl); done) | (intro wq; go_simp; (first | done | exact rfl); done))); go_simp; (with_reducible refine hK _ ?_); clear hK K) | fail))
          (with_reducible refine ord_run ?_ hG)
          intro K hK
          go_simp
          go_at_call 62; (with_reducible refine (LFB.out _ hG.b).mono ?_); rintro e w2 ⟨rfl, hb1⟩
          replace hG := Grew.trans hG hb1
          (try dsimp only)
          (with_reducible refine hK _ _ hG ?_)
          clear hK K
          (repeat ((first | (with_reducible refine ord_q1 ?_) | (with_reducible refine ord_q0 ?_)); intro K hK; first | (refine Or.inr ⟨?_, ?_⟩; (focus (go_simp; first | done | (simp [undef]; done))); go_simp; (with_reducible refine hK _ ?_); clear hK K) | (refine Or.inl ⟨?_, ?_⟩; (focus (go_simp; done)); apply Exists.intro; refine And.intro ?_ ?_; (focus (first | (intro wq hq; obtain ⟨hcq, hfq⟩ := G.old hq; go_simp; (first | done | exact rfl); done) | (intro wq; go_simp; (first | done | exact rfl); done))); go_simp; (with_reducible refine hK _ ?_); clear hK K) | fail))
          (with_reducible refine ord_tail ?_)
          intro K hK
          go_simp
          have hb9 := hG.b
          go_at_call 39
          (with_reducible refine (DC.out _ hb9).mono ?_)
          rintro e1 w6 ⟨rfl, h6⟩
          clear hG hb9 c0 c1 c2 c3 c4 lt H5 LFB DC
          replace h6 := Lib.hid h6
          (with_reducible refine hK _ _ ?_)
          clear hK K
          (repeat ((first | (with_reducible refine ord_q1 ?_) | (with_reducible refine ord_q0 ?_)); intro K hK; first | (refine Or.inr ⟨?_, ?_⟩; (focus (go_simp; first | done | (simp [undef]; done))); go_simp; (with_reducible refine hK _ ?_); clear hK K) | (refine Or.inl ⟨?_, ?_⟩; (focus (go_simp; done)); apply Exists.intro; refine And.intro ?_ ?_; (focus (first | (intro wq hq; obtain ⟨hcq, hfq⟩ := G.old hq; go_simp; (first | done | exact rfl); done) | (intro wq; go_simp; (first | done | exact rfl); done))); go_simp; (with_reducible refine hK _ ?_); clear hK K) | fail))
          (with_reducible refine ord_nil ?_)
          obtain ⟨T6, P6, cc6, rs6, hL6, hT6, hN6⟩ := h6.out.opn
          obtain ⟨c0, c1, c2, c3, c4⟩ := hL6.box.c5
          have lt := hL6.box.lt
          have hl6 : rs6.length ≤ 100000000 := by have := hok5.out; rw [hL6.eq, List.length_map] at this; exact this
          have HL6 := Lib.hid hL6
          have HT6 := Lib.hid hT6
          have HN6 := Lib.hid hN6
          obtain ⟨q6, hq6⟩ : ∃ q, rs6.length = q := ⟨_, rfl⟩
          rw [hq6] at c3 hl6
          have HO := Lib.hid (hL6.row.block (w' := (w6.alloc (.cells #[.int .i64 0] 3)).alloc (.cells #[.int .i64 (n : Int), .slice (some ⟨w6.heap.size, 0, none⟩) 1 1] 105)) (by simp; omega) fun ad ha => (G.alloc (G.alloc (G.refl w6) _) _).block _ (hL6.row.lt ha).1)
          rw [hq6] at HO
          have hBX : Hid (Bx ((w6.alloc (.cells #[.int .i64 0] 3)).alloc (.cells #[.int .i64 (n : Int), .slice (some ⟨w6.heap.size, 0, none⟩) 1 1] 105)) w6.heap.size [.int .i64 0]) := Lib.hid ((Bx.new rfl rfl).alloc _)
          have hBY : Hid (Bx ((w6.alloc (.cells #[.int .i64 0] 3)).alloc (.cells #[.int .i64 (n : Int), .slice (some ⟨w6.heap.size, 0, none⟩) 1 1] 105)) (w6.heap.size + 1) [.int .i64 (n : Int), .slice (some ⟨w6.heap.size, 0, none⟩) 1 1]) := Lib.hid (Bx.new (by simp) rfl)
          clear hL6 hT6 hN6
          obtain ⟨i0, hi, hz0, hz1, hz2⟩ := info_parts infoPart
          go_wp2_with (at_builtin; refine wpList_appO rfl (.tmp 60) (.tmp 64) _ rfl 0 105 i0 _ 2 32 Tryz.underlying100 hi hz0 hz1 hz2 rfl P6 q6 cc6 (rowP rs6) rfl HO.out (w6.heap.size + 1) 1 [.int .i64 (n : Int), .slice (some ⟨w6.heap.size, 0, none⟩) 1 1] rfl rfl (fun j u hu => (hBY.out.2 j u hu).1) (by simp [Value.oneCell']) (by unfold maxLen; omega) (by omega) (Nat.zero_le _) ?_)
          intro P7 cc7 w7 ho7 hg7 hp7
          have HBL := Lib.hid ((HL6.out.box.grow (G.alloc (G.alloc (G.refl w6) _) _)).block hg7.size (hg7.block L (by simp; omega) (fun e => by
            rcases P6 with _ | ad
            · cases e
            · simp at e
              exact HL6.out.pl ad rfl e.symm)))
          obtain ⟨d0, d1, d2, d3, d4⟩ := HBL.out.c5
          obtain ⟨f0, f1, f2, f3, f4⟩ := HBL.out.f5
          have lt7 := HBL.out.lt
          rw [hq6] at d3
          have hfin := Lib.hid (HL6.out.newPart (n := n) (b := w6.heap.size) HT6.out (G.alloc (G.alloc (G.refl w6) _) _) hBX.out (Nat.le_refl _) (by rw [hq6]; exact ho7) hg7 (by rcases hp7 with e | ⟨a, e1, e2⟩; exact .inl e; exact .inr (by rw [e1]; simp [e2])))
          rw [hq6] at hfin
          clear c0 c1 c2 c3 c4 HBL ho7 hg7 hp7 hBX hBY HO HL6 HT6 h6 hi hz0 hz1 hz2
          go_wp2_with fail
          go_ret
          rw [hR.out.1, hR.out.2.1, hR.out.2.2]
          exact ⟨rfl, HN6.out _ _ ⟨_, _, _, hfin.out.1, hfin.out.2.1, hfin.out.2.2⟩⟩
        · rw [if_pos hx] at hR
          have hR := Lib.hid (ret2 (b := 0) (s2 := s6) (l2 := l) hR.symm)
          have hx2 : (x != 0) = true := by rw [bne_iff_ne]; exact hx
          go_enter Tryz.func64, Tryz.ntmps64
          go_wp2_with fail
          refine wp_name (fun wx => Below w.heap.size w wx ∧ Bx wx w.heap.size [.int .i64 (r.first : Int), .slice rA rn rc]) ⟨by repeat (first | with_reducible assumption | with_reducible exact G.refl _ | with_reducible refine G.drew ?_ | with_reducible refine G.drewN ?_ _ | with_reducible refine G.alloc ?_ _ | with_reducible refine Below.setCell ?_ (by first | (simp; done) | (simp; omega)) _ | with_reducible refine G.trans ?_ hb12 | with_reducible refine G.trans ?_ hb11 | with_reducible refine G.trans ?_ hb10 | with_reducible refine G.trans ?_ hb9 | with_reducible refine G.trans ?_ hb8 | with_reducible refine G.trans ?_ hb7 | with_reducible refine G.trans ?_ hb6 | with_reducible refine G.trans ?_ hb5 | with_reducible refine G.trans ?_ hb4 | with_reducible refine G.trans ?_ hb3 | with_reducible refine G.trans ?_ hb2 | with_reducible refine G.trans ?_ hb1 | with_reducible refine G.trans ?_ hb | assumption), by repeat (first | with_reducible assumption | (with_reducible exact Bx.new (by simp; done) (by rfl)) | (with_reducible refine Bx.alloc ?_ _) | (with_reducible refine Bx.drewN ?_ _) | ((with_reducible apply Bx.put); rotate_right; (first | rfl | skip)) | (with_reducible refine Bx.other ?_ (by first | (simp; done) | (simp; omega)) _))⟩ ?_
          rintro w1 ⟨hb1, x1⟩
          have x0 := (x1.2 0 _ rfl).1
          have x1' := (x1.2 1 _ rfl).1
          have lt1 := x1.lt
          clear x1 k0 k1
          replace c0 := G.cell c0 hb1
          replace c1 := G.cell c1 hb1
          replace c2 := G.cell c2 hb1
          replace c3 := G.cell c3 hb1
          replace c4 := G.cell c4 hb1
          replace lt := cell_lt c0
          refine wp_region_ord [(0, 1), (1, 2), (2, 1), (3, 1), (4, 1), (6, 1), (8, 1), (9, 1), (10, 1), (11, 1), (5, 2), (7, 1), (12, 1), (13, 1)] [] 5 (by kernel_rfl) (by decide +kernel) ?_
          simp only [pickO, List.append_eq, List.cons_append, List.nil_append, List.getElem?_cons_succ, List.getElem?_cons_zero]
          intro w0 hG
          (repeat ((first | (with_reducible refine ord_q1 ?_) | (with_reducible refine ord_q0 ?_)); intro K hK; first | (refine Or.inr ⟨?_, ?_⟩; (focus (go_simp; first | done | (simp [undef]; done))); go_simp; (with_reducible refine hK _ ?_); clear hK K) | (refine Or.inl ⟨?_, ?_⟩; (focus (go_simp; done)); apply Exists.intro; refine And.intro ?_ ?_; (focus (first | (intro wq hq; obtain ⟨hcq, hfq⟩ := G.old hq; go_simp; (first | done | exact rfl); done) | (intro wq; go_simp; (first | done | exact rfl); done))); go_simp; (with_reducible refine hK _ ?_); clear hK K) | fail))
          (with_reducible refine ord_run ?_ hG)
          intro K hK
          go_simp
          go_at_call 63; (with_reducible refine (PS.out _ (G.trans hb1 hG.b)).mono ?_); rintro e w2 ⟨rfl, hb2⟩
          replace hG := Grew.trans hG hb2
          (try dsimp only)
          (with_reducible refine hK _ _ hG ?_)
          clear hK K
          (repeat ((first | (with_reducible refine ord_q1 ?_) | (with_reducible refine ord_q0 ?_)); intro K hK; first | (refine Or.inr ⟨?_, ?_⟩; (focus (go_simp; first | done | (simp [undef]; done))); go_simp; (with_reducible refine hK _ ?_); clear hK K) | (refine Or.inl ⟨?_, ?_⟩; (focus (go_simp; done)); apply Exists.intro; refine And.intro ?_ ?_; (focus (first | (intro wq hq; obtain ⟨hcq, hfq⟩ := G.old hq; go_simp; (first | done | exact rfl); done) | (intro wq; go_simp; (first | done | exact rfl); done))); go_simp; (with_reducible refine hK _ ?_); clear hK K) | fail))
          (with_reducible refine ord_run ?_ hG)
          intro K hK
          go_simp
          go_at_call 63; (with_reducible refine (PS.out _ (G.trans hb1 hG.b)).mono ?_); rintro e w2 ⟨rfl, hb2⟩
          replace hG := Grew.trans hG hb2
          (try dsimp only)
          (with_reducible refine hK _ _ hG ?_)
          clear hK K
          (repeat ((first | (with_reducible refine ord_q1 ?_) | (with_reducible refine ord_q0 ?_)); intro K hK; first | (refine Or.inr ⟨?_, ?_⟩; (focus (go_simp; first | done | (simp [undef]; done))); go_simp; (with_reducible refine hK _ ?_); clear hK K) | (refine Or.inl ⟨?_, ?_⟩; (focus (go_simp; done)); apply Exists.intro; refine And.intro ?_ ?_; (focus (first | (intro wq hq; obtain ⟨hcq, hfq⟩ := G.old hq; go_simp; (first | done | exact rfl); done) | (intro wq; go_simp; (first | done | exact rfl); done))); go_simp; (with_reducible refine hK _ ?_); clear hK K) | fail))
          (with_reducible refine ord_nil ?_)
          have hb3 := G.trans hb1 hG.b
          have H3 := Lib.hid (H.out.grow hb3)
          clear hG c0 c1 c2 c3 c4 lt lt1 x0 x1' H PS hb1 hg
          go_wp2_with fail
          go_at_call 34
          (with_reducible refine (SY.out _ hb3).mono ?_)
          rintro e1 w5 ⟨rfl, h5⟩
          have H5 := Lib.hid h5
          clear h5 SY H3 hb3
          obtain ⟨P5, cc5, rs5, hL5⟩ := H5.out.box
          have LF := Lib.hid (fun (wx : World) (hb : Below w5.heap.size w5 wx) => (H5.out.grow hb).run fun P c rs hL => hL.file ((H5.out.grow hb).pow hE) (n : Int))
          obtain ⟨c0, c1, c2, c3, c4⟩ := hL5.box.c5
          have lt := hL5.box.lt
          have LFB := Lib.hid (fun (wx : World) (hb : Below w5.heap.size w5 wx) => (hL5.keep hb.size fun x hx => hb.block x (hL5.lt hx)).file ((H5.out.grow hb).pow hE) (n : Int))
          rw [hf.out] at LFB
          have DC := Lib.hid (fun (wx : World) (hb : Below w5.heap.size w5 wx) => (H5.out.grow hb).dCreate f hfl)
          rw [hX.out] at DC
          clear hL5 LF
          go_wp2_with fail
          refine wp_region_ord [(0, 1), (1, 1), (2, 1), (3, 1), (4, 1), (5, 1), (6, 2), (7, 3), (8, 0)] [7] 16 (by kernel_rfl) (by decide +kernel) ?_
          simp only [pickO, List.append_eq, List.cons_append, List.nil_append, List.getElem?_cons_succ, List.getElem?_cons_zero]
          intro w0 hG
          (repeat ((first | (with_reducible refine ord_q1 ?_) | (with_reducible refine ord_q0 ?_)); intro K hK; first | (refine Or.inr ⟨?_, ?_⟩; (focus (go_simp; first | done | (simp [undef]; done))); go_simp; (with_reducible refine hK _ ?_); clear hK K) | (refine Or.inl ⟨?_, ?_⟩; (focus (go_simp; done)); apply Exists.intro; refine And.intro ?_ ?_; (focus (first | (intro wq hq; obtain ⟨hcq, hfq⟩ := G.old hq; go_simp; (first | done | exact rfl); done) | (intro wq; go_simp; (first | done | exact rfl); done))); go_simp; (with_reducible refine hK _ ?_); clear hK K) | fail))
          (with_reducible refine ord_run ?_ hG)
          intro K hK
          go_simp
          go_at_call 62; (with_reducible refine (LFB.out _ hG.b).mono ?_); rintro e w2 ⟨rfl, hb1⟩
          replace hG := Grew.trans hG hb1
          (try dsimp only)
          (with_reducible refine hK _ _ hG ?_)
          clear hK K
          (repeat ((first | (with_reducible refine ord_q1 ?_) | (with_reducible refine ord_q0 ?_)); intro K hK; first | (refine Or.inr ⟨?_, ?_⟩; (focus (go_simp; first | done | (simp [undef]; done))); go_simp; (with_reducible refine hK _ ?_); clear hK K) | (refine Or.inl ⟨?_, ?_⟩; (focus (go_simp; done)); apply Exists.intro; refine And.intro ?_ ?_; (focus (first | (intro wq hq; obtain ⟨hcq, hfq⟩ := G.old hq; go_simp; (first | done | exact rfl); done) | (intro wq; go_simp; (first | done | exact rfl); done))); go_simp; (with_reducible refine hK _ ?_); clear hK K) | fail))
          (with_reducible refine ord_tail ?_)
          intro K hK
          go_simp
          have hb9 := hG.b
          go_at_call 39
          (with_reducible refine (DC.out _ hb9).mono ?_)
          rintro e1 w6 ⟨rfl, h6⟩
          clear hG hb9 c0 c1 c2 c3 c4 lt H5 LFB DC
          replace h6 := Lib.hid h6
          (with_reducible refine hK _ _ ?_)
          clear hK K
          (repeat ((first | (with_reducible refine ord_q1 ?_) | (with_reducible refine ord_q0 ?_)); intro K hK; first | (refine Or.inr ⟨?_, ?_⟩; (focus (go_simp; first | done | (simp [undef]; done))); go_simp; (with_reducible refine hK _ ?_); clear hK K) | (refine Or.inl ⟨?_, ?_⟩; (focus (go_simp; done)); apply Exists.intro; refine And.intro ?_ ?_; (focus (first | (intro wq hq; obtain ⟨hcq, hfq⟩ := G.old hq; go_simp; (first | done | exact rfl); done) | (intro wq; go_simp; (first | done | exact rfl); done))); go_simp; (with_reducible refine hK _ ?_); clear hK K) | fail))
          (with_reducible refine ord_nil ?_)
          go_wp2_with fail
          go_ret
          rw [hR.out.1, hR.out.2.1, hR.out.2.2]
          exact ⟨rfl, h6.out⟩
      · rw [if_pos hy] at hR
        have hR := Lib.hid (ret2 (b := 0) (s2 := s) (l2 := l) hR.symm)
        have hy2 : (y != 0) = true := by rw [bne_iff_ne]; exact hy
        go_enter Tryz.func64, Tryz.ntmps64
        go_wp2_with fail
        refine wp_name (fun wx => Below w.heap.size w wx ∧ Bx wx w.heap.size [.int .i64 (r.first : Int), .slice rA rn rc]) ⟨by repeat (first | with_reducible assumption | with_reducible exact G.refl _ | with_reducible refine G.drew ?_ | with_reducible refine G.drewN ?_ _ | with_reducible refine G.alloc ?_ _ | with_reducible refine Below.setCell ?_ (by first | (simp; done) | (simp; omega)) _ | with_reducible refine G.trans ?_ hb12 | with_reducible refine G.trans ?_ hb11 | with_reducible refine G.trans ?_ hb10 | with_reducible refine G.trans ?_ hb9 | with_reducible refine G.trans ?_ hb8 | with_reducible refine G.trans ?_ hb7 | with_reducible refine G.trans ?_ hb6 | with_reducible refine G.trans ?_ hb5 | with_reducible refine G.trans ?_ hb4 | with_reducible refine G.trans ?_ hb3 | with_reducible refine G.trans ?_ hb2 | with_reducible refine G.trans ?_ hb1 | with_reducible refine G.trans ?_ hb | assumption), by repeat (first | with_reducible assumption | (with_reducible exact Bx.new (by simp; done) (by rfl)) | (with_reducible refine Bx.alloc ?_ _) | (with_reducible refine Bx.drewN ?_ _) | ((with_reducible apply Bx.put); rotate_right; (first | rfl | skip)) | (with_reducible refine Bx.other ?_ (by first | (simp; done) | (simp; omega)) _))⟩ ?_
        rintro w1 ⟨hb1, x1⟩
        have x0 := (x1.2 0 _ rfl).1
        have x1' := (x1.2 1 _ rfl).1
        have lt1 := x1.lt
        clear x1 k0 k1
        replace c0 := G.cell c0 hb1
        replace c1 := G.cell c1 hb1
        replace c2 := G.cell c2 hb1
        replace c3 := G.cell c3 hb1
        replace c4 := G.cell c4 hb1
        replace lt := cell_lt c0
        refine wp_region_ord [(0, 1), (1, 2), (2, 1), (3, 1), (4, 1), (6, 1), (8, 1), (9, 1), (10, 1), (11, 1), (5, 2), (7, 1), (12, 1), (13, 1)] [] 5 (by kernel_rfl) (by decide +kernel) ?_
        simp only [pickO, List.append_eq, List.cons_append, List.nil_append, List.getElem?_cons_succ, List.getElem?_cons_zero]
        intro w0 hG
        (repeat ((first | (with_reducible refine ord_q1 ?_) | (with_reducible refine ord_q0 ?_)); intro K hK; first | (refine Or.inr ⟨?_, ?_⟩; (focus (go_simp; first | done | (simp [undef]; done))); go_simp; (with_reducible refine hK _ ?_); clear hK K) | (refine Or.inl ⟨?_, ?_⟩; (focus (go_simp; done)); apply Exists.intro; refine And.intro ?_ ?_; (focus (first | (intro wq hq; obtain ⟨hcq, hfq⟩ := G.old hq; go_simp; (first | done | exact rfl); done) | (intro wq; go_simp; (first | done | exact rfl); done))); go_simp; (with_reducible refine hK _ ?_); clear hK K) | fail))
        (with_reducible refine ord_run ?_ hG)
        intro K hK
        go_simp
        go_at_call 63; (with_reducible refine (PS.out _ (G.trans hb1 hG.b)).mono ?_); rintro e w2 ⟨rfl, hb2⟩
        replace hG := Grew.trans hG hb2
        (try dsimp only)
        (with_reducible refine hK _ _ hG ?_)
        clear hK K
        (repeat ((first | (with_reducible refine ord_q1 ?_) | (with_reducible refine ord_q0 ?_)); intro K hK; first | (refine Or.inr ⟨?_, ?_⟩; (focus (go_simp; first | done | (simp [undef]; done))); go_simp; (with_reducible refine hK _ ?_); clear hK K) | (refine Or.inl ⟨?_, ?_⟩; (focus (go_simp; done)); apply Exists.intro; refine And.intro ?_ ?_; (focus (first | (intro wq hq; obtain ⟨hcq, hfq⟩ := G.old hq; go_simp; (first | done | exact rfl); done) | (intro wq; go_simp; (first | done | exact rfl); done))); go_simp; (with_reducible refine hK _ ?_); clear hK K) | fail))
        (with_reducible refine ord_run ?_ hG)
        intro K hK
        go_simp
        go_at_call 63; (with_reducible refine (PS.out _ (G.trans hb1 hG.b)).mono ?_); rintro e w2 ⟨rfl, hb2⟩
        replace hG := Grew.trans hG hb2
        (try dsimp only)
        (with_reducible refine hK _ _ hG ?_)
        clear hK K
        (repeat ((first | (with_reducible refine ord_q1 ?_) | (with_reducible refine ord_q0 ?_)); intro K hK; first | (refine Or.inr ⟨?_, ?_⟩; (focus (go_simp; first | done | (simp [undef]; done))); go_simp; (with_reducible refine hK _ ?_); clear hK K) | (refine Or.inl ⟨?_, ?_⟩; (focus (go_simp; done)); apply Exists.intro; refine And.intro ?_ ?_; (focus (first | (intro wq hq; obtain ⟨hcq, hfq⟩ := G.old hq; go_simp; (first | done | exact rfl); done) | (intro wq; go_simp; (first | done | exact rfl); done))); go_simp; (with_reducible refine hK _ ?_); clear hK K) | fail))
        (with_reducible refine ord_nil ?_)
        have hb3 := G.trans hb1 hG.b
        have H3 := Lib.hid (H.out.grow hb3)
        clear hG c0 c1 c2 c3 c4 lt lt1 x0 x1' H PS hb1 hg
        go_wp2_with fail
        go_at_call 34
        (with_reducible refine (SY.out _ hb3).mono ?_)
        rintro e1 w5 ⟨rfl, h5⟩
        have H5 := Lib.hid h5
        clear h5 SY H3 hb3
        go_wp2_with fail
        go_ret
        rw [hR.out.1, hR.out.2.1, hR.out.2.2]
        exact ⟨rfl, H5.out⟩
theorem LX.rotate (hE : EnvL w0 S0 T0) (h : LX w0 S0 T0 w d L s l) (hok : l.Ok) (n z : Nat) (hn : n ≤ 100000000) (hz : z ≤ 100000000) : Calls Tryz.prog 64 #[.pointer (some ⟨L, 0, none⟩), .int .i64 (n : Int), .int .i64 (z : Int)] w fun e w' => e = .returned (.int .i64 (lrot s l n z).1) ∧ LX w0 S0 T0 w' d L (lrot s l n z).2.1 (lrot s l n z).2.2 := by
  by_cases hp : l.parts = []
  · exact h.rotate0 hE hok hp n z hn hz
  · exact h.rotate1 hE hok hp n z hn hz
end
end Go.Proofs.YtbafnlccpbonmaaGreatDoor

namespace Go.Proofs.YtbafnlccpbonmaaGreatDoor
set_option linter.unusedVariables false
set_option linter.unnecessarySimpa false
set_option linter.unusedSimpArgs false
open Go.RowKit

/-! ### Plain -/
theorem Lg.Ok.last {l : Lg} (h : l.Ok) : 0 ≤ l.last ∧ l.last ≤ 200000001 := by
  unfold Lg.last
  split
  · omega
  · rename_i p hp
    obtain ⟨⟨h1, h1'⟩, h2, h3, h4⟩ := h.1 p (List.mem_of_getLast? hp)
    have := List.length_pos_iff.2 h3
    unfold Pt.behind
    omega
theorem lsync_good {s : Ds} (h : s.Good) (l : Lg) : (lsync s l).2.1.Good := by
  unfold lsync
  split
  · exact h
  · split
    · exact sync_good h _
    · exact sync_good h _
theorem lnew_good {s : Ds} (h : s.Good) (l : Lg) (n : Int) : (lnew s l n).2.1.Good := by
  unfold lnew
  split <;> exact create_good h _
theorem lrot_good {s : Ds} (h : s.Good) (l : Lg) (n z : Int) : (lrot s l n z).2.1.Good := by
  unfold lrot
  split
  · exact lnew_good h l n
  · split
    · exact h
    · split
      · exact lsync_good h l
      · exact lnew_good (lsync_good h l) _ n
/-- What a log has whose last segment can take a record. -/
def Lg.Has (l : Lg) : Prop := l.parts ≠ [] ∧ l.parts.length ≤ 100000001 ∧ ∀ p ∈ l.parts, p.Ok
theorem lnew_has {s : Ds} {l : Lg} {n : Nat} (h : l.parts.length ≤ 100000000 ∧ ∀ p ∈ l.parts, p.Ok) (hn : 1 ≤ n ∧ n ≤ 100000000) (h0 : (lnew s l n).1 = 0) : (lnew s l n).2.2.Has := by
  unfold lnew at h0 ⊢
  split
  · rename_i hx
    rw [if_pos hx] at h0
    exact absurd h0 hx
  · refine ⟨by simp, by simp; omega, fun p hp => ?_⟩
    dsimp only at hp
    rcases List.mem_append.1 hp with hp | hp
    · exact h.2 p hp
    · simp at hp
      subst hp
      exact ⟨hn, by simp, by simp, by simp⟩
theorem lrot_has {s : Ds} {l : Lg} {n : Nat} {z : Int} (h : l.Ok) (hn : 1 ≤ n ∧ n ≤ 100000000) (h0 : (lrot s l n z).1 = 0) : (lrot s l n z).2.2.Has := by
  unfold lrot at h0 ⊢
  split
  · rename_i hx
    rw [hx] at h0
    exact lnew_has ⟨h.2.1, h.1⟩ hn h0
  · rename_i p hp
    rw [hp] at h0
    dsimp only at h0
    split
    · have := h.2.1
      exact ⟨fun e => (by rw [e] at hp; cases hp), (by dsimp only; omega), h.1⟩
    · rename_i hz
      rw [if_neg hz] at h0
      split
      · rename_i hx
        rw [if_pos hx] at h0
        exact absurd h0 hx
      · rename_i hx
        rw [if_neg hx] at h0
        obtain ⟨p1, p2, p3⟩ := lsync_same s l
        exact lnew_has (by rw [p1]; exact ⟨h.2.1, h.1⟩) hn h0
theorem lnew_name (s : Ds) (l : Lg) (n : Int) : (lnew s l n).2.2.name = l.name := by unfold lnew; split <;> rfl
theorem lrot_name (s : Ds) (l : Lg) (n z : Int) : (lrot s l n z).2.2.name = l.name := by
  unfold lrot
  split
  · exact lnew_name s l n
  · split
    · rfl
    · split
      · exact (lsync_same s l).2.1
      · rw [lnew_name]; exact (lsync_same s l).2.1
/-! ### The log with its rows named -/
section
variable {w0 w w' w2 w3 : World} {S0 T0 : Nat → Prop} {L d : Nat} {l l' : Lg} {s s' : Ds} {P P' : Option Addr} {c c' : Nat} {rs rs' : List PR}
structure LXr (w0 : World) (S0 T0 : Nat → Prop) (w : World) (d L : Nat) (s : Ds) (l : Lg) (P : Option Addr) (c : Nat) (rs : List PR) : Prop where
  log : LogR w L d l P c rs
  dev : ∃ S, DevW w d S s ∧ (∀ x, S x → ¬ hasL L P rs x) ∧ (∀ x, S x → S0 x ∨ w0.heap.size ≤ x)
  old : ∀ x, hasL L P rs x → T0 x ∨ w0.heap.size ≤ x
  chg : DChg (fun x => S0 x ∨ T0 x) w0 w
theorem LX.named (h : LX w0 S0 T0 w d L s l) : ∃ P c rs, LXr w0 S0 T0 w d L s l P c rs := by
  obtain ⟨⟨S, T, h1, ⟨P, c, rs, h2, h2'⟩, h3, h4, h5⟩, hg⟩ := h
  exact ⟨P, c, rs, h2, ⟨S, h1, fun x hx hh => h3 x hx ((h2' x).2 hh), h4⟩, fun x hx => h5 x ((h2' x).2 hx), hg⟩
theorem LXr.lx (h : LXr w0 S0 T0 w d L s l P c rs) : LX w0 S0 T0 w d L s l := by
  obtain ⟨S, h1, h3, h4⟩ := h.dev
  exact ⟨⟨S, _, h1, ⟨P, c, rs, h.log, fun x => Iff.rfl⟩, h3, h4, h.old⟩, h.chg⟩
theorem LXr.grow (h : LXr w0 S0 T0 w d L s l P c rs) (hb : Below w.heap.size w w') : LXr w0 S0 T0 w' d L s l P c rs := by
  obtain ⟨S, h1, h3, h4⟩ := h.dev
  exact ⟨h.log.keep hb.size fun x hx => hb.block x (h.log.lt hx), ⟨S, h1.grow hb, h3, h4⟩, h.old, h.chg.trans (DChg.of_below (S := fun _ => False) hb) fun x hx => absurd hx id⟩
theorem LXr.runE {n : Nat} {a : Array Value} {r : Int × Ds} (h : LXr w0 S0 T0 w d L s l P c rs) (hc : ∀ S, DevW w d S s → Calls Tryz.prog n a w (RetE d S r w)) : Calls Tryz.prog n a w fun e w' => e = .returned (.int .i64 r.1) ∧ LXr w0 S0 T0 w' d L r.2 l P c rs := by
  obtain ⟨S, h1, h3, h4⟩ := h.dev
  refine (hc S h1).mono fun e w' hh => ⟨hh.1, ?_⟩
  obtain ⟨S', k1, k2, k3⟩ := hh.2
  have hsz := h.chg.size
  refine ⟨h.log.keep k3.size fun x hx => k3.2.2 x (fun hs => h3 x hs hx) (h.log.lt hx), ⟨S', k1, fun x hx ht => ?_, fun x hx => ?_⟩, h.old, h.chg.trans (k3.mono fun x hx => hx) fun x hx => ?_⟩
  · rcases k2 x hx with h6 | h6
    · exact h3 x h6 ht
    · have := h.log.lt ht
      omega
  · rcases k2 x hx with h6 | h6
    · exact h4 x h6
    · exact .inr (by omega)
  · rcases h4 x hx with h6 | h6
    · exact .inl (.inl h6)
    · exact .inr h6
theorem LXr.own (h : LXr w0 S0 T0 w d L s l P c rs) (k1 : LogR w' L d l' P' c' rs') (k2 : ∀ x, hasL L P' rs' x → hasL L P rs x ∨ w.heap.size ≤ x) (k3 : DChg (hasL L P rs) w w') : LXr w0 S0 T0 w' d L s l' P' c' rs' := by
  obtain ⟨S, h1, h3, h4⟩ := h.dev
  have hsz := h.chg.size
  refine ⟨k1, ⟨S, h1.other k3 h3, fun x hx ht => ?_, h4⟩, fun x hx => ?_, h.chg.trans k3 fun x hx => ?_⟩
  · rcases k2 x ht with h6 | h6
    · exact h3 x hx h6
    · have := h1.lt hx
      omega
  · rcases k2 x hx with h6 | h6
    · exact h.old x h6
    · exact .inr (by omega)
  · rcases h.old x hx with h6 | h6
    · exact .inl (.inr h6)
    · exact .inr h6
theorem LXr.dAppend (h : LXr w0 S0 T0 w d L s l P c rs) (ho : s.Ok) (nm t : List UInt8) (hm : nm.length ≤ 41) (ht : t.length ≤ 1099511627776) : Calls Tryz.prog 31 #[.pointer (some ⟨d, 0, none⟩), .string (B nm), .string (B t)] w fun e w' => e = .returned (.int .i64 (appendD s nm t).1) ∧ LXr w0 S0 T0 w' d L (appendD s nm t).2 l P c rs := by
  have := h.runE fun S hD => append_any hD ho (B nm) (B t) (by rw [B_size]; unfold maxLen; omega) (by rw [B_size]; exact ht)
  rw [B_list, B_list] at this
  exact this
theorem LogR.cellsF (h : LogR w L d l P c rs) {k : Nat} {r : PR} (hr : rs[k]? = some r) {g off : Nat} (hP : P = some ⟨g, off, none⟩) : w.frozen? ⟨g, off + k * 2 + 1, none⟩ = false := by
  have hlt : k < rs.length := (List.getElem?_eq_some_iff.1 hr).1
  have hc := h.row.room.1
  rcases h.row.2.2.2 with ⟨h4, _⟩ | ⟨g', off', he, _, _, hk, _⟩
  · rw [hP] at h4
    cases h4
  · rw [hP] at he
    cases he
    rw [Nat.add_assoc]
    exact (hk _ (by omega)).2
theorem ret3 {a b : Int} {s1 : Ds} {l1 : Lg} {R : (Int × Int) × Ds × Lg} (h : R = ((a, b), s1, l1)) : R.1.1 = a ∧ R.1.2 = b ∧ R.2.1 = s1 ∧ R.2.2 = l1 := by subst h; exact ⟨rfl, rfl, rfl, rfl⟩
set_option maxRecDepth 20000 in set_option maxHeartbeats 8000000 in
theorem LX.Append (hE : EnvL w0 S0 T0) (h : LX w0 S0 T0 w d L s l) (hok : l.Ok) (hg : s.Good) (dt : List UInt8) (hdt : dt.length ≤ 1000000000) : Calls Tryz.prog 28 #[.pointer (some ⟨L, 0, none⟩), .string (B dt)] w fun e w' => e = .returned (.tuple #[.int .i64 (lapp s l dt).1.1, .int .i64 (lapp s l dt).1.2]) ∧ LX w0 S0 T0 w' d L (lapp s l dt).2.1 (lapp s l dt).2.2 := by
  obtain ⟨R, hR⟩ : ∃ R, lapp s l dt = R := ⟨_, rfl⟩
  rw [hR]
  unfold lapp at hR
  have LS := Lib.hid (h.mLast hok)
  have hlast := hok.last
  obtain ⟨n, hn⟩ : ∃ n : Nat, l.last + 1 = (n : Int) := ⟨(l.last + 1).toNat, by omega⟩
  have hn2 : l.last = (n : Int) - 1 := by omega
  have hw1 : IntKind.i64.wrap ((n : Int) - 1 + 1) = (n : Int) := by rw [IntWalk.i64_in _ (by omega)]; omega
  rw [hn2] at LS hlast
  rw [hn, Int.toNat_natCast] at hR
  have hn1 : 1 ≤ n := by omega
  obtain ⟨N, hN⟩ : ∃ N, dt.length = N := ⟨_, rfl⟩
  have hs := B_size dt
  rw [hN] at hs hR hdt
  clear hn hn2
  by_cases hl : 1048576 < N
  · rw [if_pos hl] at hR
    have hR := Lib.hid (ret3 hR.symm)
    have hl' : (1048576 : Int) < (N : Int) := by omega
    go_enter Tryz.func28, Tryz.ntmps28
    go_wp2_with fail
    go_at_call 33
    (with_reducible refine LS.out.mono ?_)
    rintro e1 w1 ⟨rfl, h1⟩
    have H1 := Lib.hid h1
    clear h1 LS
    go_wp2_with fail
    refine bodyPost_ret (v := .tuple #[.int .i64 0, .int .i64 5]) (by simp only [results, Tryz.results28]; go_simp) rfl ?_
    rw [hR.out.1, hR.out.2.1, hR.out.2.2.1, hR.out.2.2.2]
    exact ⟨rfl, H1.out⟩
  · rw [if_neg hl] at hR
    have hl' : ¬ (1048576 : Int) < (N : Int) := by omega
    by_cases hn9 : (99999999 : Int) < (n : Int)
    · rw [if_pos hn9] at hR
      have hR := Lib.hid (ret3 hR.symm)
      go_enter Tryz.func28, Tryz.ntmps28
      go_wp2_with fail
      go_at_call 33
      (with_reducible refine LS.out.mono ?_)
      rintro e1 w1 ⟨rfl, h1⟩
      have H1 := Lib.hid h1
      clear h1 LS
      go_wp2_with fail
      refine bodyPost_ret (v := .tuple #[.int .i64 0, .int .i64 9]) (by simp only [results, Tryz.results28]; go_simp) rfl ?_
      rw [hR.out.1, hR.out.2.1, hR.out.2.2.1, hR.out.2.2.2]
      exact ⟨rfl, H1.out⟩
    · rw [if_neg hn9] at hR
      have FA := Lib.hid (fun (wx : World) => frame_any (n : Int) dt (by omega) wx)
      rw [frameR_ok (show inN (n : Int) by unfold inN; omega) (by omega), Int.toNat_natCast] at FA
      dsimp only at FA
      have hfl := frameL_len n dt
      rw [hN] at hfl
      obtain ⟨fr, hfr⟩ : ∃ f, frameL n dt = f := ⟨_, rfl⟩
      rw [hfr] at FA hR hfl
      have hfs : (B fr).size = 16 + N := by rw [B_size, hfl]
      have hwz : (((16 + N : Nat)) : Int) = 16 + (N : Int) := by omega
      have RO := Lib.hid (fun (wx : World) (hx : LX w0 S0 T0 wx d L s l) => hx.rotate hE hok n (16 + N) (by omega) (by omega))
      have hRg := lrot_good hg l (n : Int) (16 + N)
      have hRh := fun h0 => lrot_has (s := s) (z := 16 + (N : Int)) hok ⟨hn1, by omega⟩ h0
      rw [hwz] at RO
      obtain ⟨Y, hY⟩ : ∃ Y, lrot s l (n : Int) (16 + (N : Int)) = Y := ⟨_, rfl⟩
      rw [hY] at hR RO hRg hRh
      obtain ⟨y, s5, l5⟩ := Y
      dsimp only at hR RO hRg hRh
      clear hY hfr
      by_cases hy : y = 0
      · subst hy
        rw [if_neg (by simp)] at hR
        replace hRh := hRh rfl
        obtain ⟨hne, hcnt, hpok⟩ := hRh
        obtain ⟨ps, p, hps⟩ : ∃ ps p, l5.parts = ps ++ [p] := by
          rcases snoc_cases l5.parts with e | h
          · exact absurd e hne
          · exact h
        unfold ladd at hR
        have hgl : l5.parts.getLast? = some p := by rw [hps]; simp
        rw [hgl] at hR
        dsimp only at hR
        have hmore : l5.more fr.length = { l5 with parts := l5.parts.dropLast ++ [⟨p.first, p.offs ++ [p.size + fr.length]⟩] } := by unfold Lg.more; rw [hgl]
        rw [hmore, hfl] at hR
        have hpk := hpok p (by rw [hps]; simp)
        have hff := lfile_len l5 (p.first : Int)
        obtain ⟨f, hf⟩ : ∃ f, l5.file (p.first : Int) = f := ⟨_, rfl⟩
        rw [hf] at hR hff
        obtain ⟨X, hX⟩ : ∃ X, appendD s5 f fr = X := ⟨_, rfl⟩
        rw [hX] at hR
        obtain ⟨x, s6⟩ := X
        dsimp only at hR
        replace hf := Lib.hid hf
        replace hX := Lib.hid hX
        have hgood := Lib.hid hRg
        clear hRg hne hgl hmore hpok
        by_cases hx : x = 0
        · subst hx
          rw [if_neg (by simp)] at hR
          replace hR := Lib.hid hR
          go_enter Tryz.func28, Tryz.ntmps28
          go_wp2_with fail
          go_at_call 33
          (with_reducible refine LS.out.mono ?_)
          rintro e1 w1 ⟨rfl, h1⟩
          have H1 := Lib.hid h1
          clear h1 LS
          go_wp2_with fail
          go_at_call 12
          (with_reducible refine (FA.out _).mono ?_)
          rintro e1 w2 ⟨rfl, hb2⟩
          have H2 := Lib.hid (H1.out.grow hb2)
          clear hb2 H1 FA
          go_wp2_with fail
          go_at_call 64
          (with_reducible refine (RO.out _ H2.out).mono ?_)
          rintro e1 w5 ⟨rfl, h5⟩
          have H5 := Lib.hid h5
          clear h5 RO H2
          go_wp2_with fail
          obtain ⟨P5, cc5, rs5, hL5⟩ := H5.out.named
          have e5 := hL5.log.eq
          rw [hps] at e5
          obtain ⟨qs, r, hrs, hr⟩ : ∃ qs r, rs5 = qs ++ [r] ∧ r.pt = p := by
            rcases snoc_cases rs5 with e | ⟨qs, r, e⟩
            · rw [e] at e5
              simp at e5
            · refine ⟨qs, r, e, ?_⟩
              rw [e, List.map_append] at e5
              have := List.append_inj_right' e5 (by simp)
              simpa using this.symm
          subst hrs hr
          have hcl := hL5.log.eq
          obtain ⟨c0, c1, c2, c3, c4⟩ := hL5.log.box.c5
          have lt := hL5.log.box.lt
          obtain ⟨g, off, rfl, hgx, k0, k1⟩ := hL5.log.cells (k := qs.length) (r := r) (by simp)
          have hN5 : qs.length + 1 ≤ 100000001 := by
            have := hcnt
            rw [hcl] at this
            simpa using this
          obtain ⟨q, hq⟩ : ∃ q, qs.length = q := ⟨_, rfl⟩
          obtain ⟨M, hM⟩ : ∃ n, (qs ++ [r]).length = n := ⟨_, rfl⟩
          have hqn : M = q + 1 := by rw [← hM, ← hq]; simp
          rw [hM] at c3
          rw [hq] at k0 k1 hN5
          rw [show r.val = .slice r.A r.offs.length r.cap from rfl] at k1
          have hw2 : IntKind.i64.wrap ((M : Int) - 1) = (q : Int) := by rw [IntWalk.i64_in _ (by omega)]; omega
          have hi2 : q < M := by omega
          have hi3 : (q : Int) < (M : Int) := by omega
          have HL5 := Lib.hid hL5
          have LFB := Lib.hid (fun (wx : World) (hb : Below w5.heap.size w5 wx) => (hL5.grow hb).log.file ((hL5.grow hb).lx.pow hE) (r.first : Int))
          have DA := Lib.hid (fun (wx : World) (hb : Below w5.heap.size w5 wx) => (hL5.grow hb).dAppend hgood.out.ok f fr hff (by rw [hfl]; omega))
          rw [show ((r.pt.first : Nat) : Int) = (r.first : Int) from rfl] at hf
          rw [hf.out] at LFB
          rw [hX.out] at DA
          dsimp only at DA
          clear hL5 hcl e5 hM hqn
          go_wp2_with fail
          refine wp_region_ord [(0, 1), (1, 1), (2, 1), (3, 1), (4, 1), (5, 1), (6, 1), (7, 1), (8, 1), (9, 1), (10, 1), (11, 1)] [] 5 (by kernel_rfl) (by decide +kernel) ?_
          simp only [pickO, List.append_eq, List.cons_append, List.nil_append, List.getElem?_cons_succ, List.getElem?_cons_zero]
          intro w0 hG
          (repeat ((first | (with_reducible refine ord_q1 ?_) | (with_reducible refine ord_q0 ?_)); intro K hK; first | (refine Or.inr ⟨?_, ?_⟩; (focus (go_simp; first | done | (simp [undef]; done))); go_simp; (with_reducible refine hK _ ?_); clear hK K) | (refine Or.inl ⟨?_, ?_⟩; (focus (go_simp; done)); apply Exists.intro; refine And.intro ?_ ?_; (focus (first | (intro wq hq; obtain ⟨hcq, hfq⟩ := G.old hq; go_simp; (first | done | exact rfl); done) | (intro wq; go_simp; (first | done | exact rfl); done))); go_simp; (with_reducible refine hK _ ?_); clear hK K) | fail))
          (with_reducible refine ord_nil ?_)
          have hb6 := hG.b
          replace c0 := G.cell c0 hb6
          replace k0 := G.cell k0 hb6
          have ltg := cell_lt k0
          replace lt := cell_lt c0
          replace hb6 := Lib.hid hb6
          clear hG c1 c2 c3 c4 k1
          go_wp2_with fail
          refine wp_region_ord [(0, 1), (1, 1), (2, 1), (3, 1), (4, 1), (5, 1), (6, 1), (7, 1), (8, 1), (10, 1), (9, 2), (11, 3), (12, 0)] [11] 16 (by kernel_rfl) (by decide +kernel) ?_
          simp only [pickO, List.append_eq, List.cons_append, List.nil_append, List.getElem?_cons_succ, List.getElem?_cons_zero]
          intro w0 hG
          (repeat ((first | (with_reducible refine ord_q1 ?_) | (with_reducible refine ord_q0 ?_)); intro K hK; first | (refine Or.inr ⟨?_, ?_⟩; (focus (go_simp; first | done | (simp [undef]; done))); go_simp; (with_reducible refine hK _ ?_); clear hK K) | (refine Or.inl ⟨?_, ?_⟩; (focus (go_simp; done)); apply Exists.intro; refine And.intro ?_ ?_; (focus (first | (intro wq hq; obtain ⟨hcq, hfq⟩ := G.old hq; go_simp; (first | done | exact rfl); done) | (intro wq; go_simp; (first | done | exact rfl); done))); go_simp; (with_reducible refine hK _ ?_); clear hK K) | fail))
          (with_reducible refine ord_run ?_ hG)
          intro K hK
          go_simp
          go_at_call 62; (with_reducible refine (LFB.out _ (G.trans hb6.out hG.b)).mono ?_); rintro e w7 ⟨rfl, hb7⟩
          replace hG := Grew.trans hG hb7
          (try dsimp only)
          (with_reducible refine hK _ _ hG ?_)
          clear hK K
          (repeat ((first | (with_reducible refine ord_q1 ?_) | (with_reducible refine ord_q0 ?_)); intro K hK; first | (refine Or.inr ⟨?_, ?_⟩; (focus (go_simp; first | done | (simp [undef]; done))); go_simp; (with_reducible refine hK _ ?_); clear hK K) | (refine Or.inl ⟨?_, ?_⟩; (focus (go_simp; done)); apply Exists.intro; refine And.intro ?_ ?_; (focus (first | (intro wq hq; obtain ⟨hcq, hfq⟩ := G.old hq; go_simp; (first | done | exact rfl); done) | (intro wq; go_simp; (first | done | exact rfl); done))); go_simp; (with_reducible refine hK _ ?_); clear hK K) | fail))
          (with_reducible refine ord_tail ?_)
          intro K hK
          go_simp
          have hb9 := G.trans hb6.out hG.b
          go_at_call 31
          (with_reducible refine (DA.out _ hb9).mono ?_)
          rintro e1 w8 ⟨rfl, h8⟩
          clear hG hb9 c0 lt k0 LFB DA HL5 H5 ltg hb6
          replace h8 := Lib.hid h8
          (with_reducible refine hK _ _ ?_)
          clear hK K
          (repeat ((first | (with_reducible refine ord_q1 ?_) | (with_reducible refine ord_q0 ?_)); intro K hK; first | (refine Or.inr ⟨?_, ?_⟩; (focus (go_simp; first | done | (simp [undef]; done))); go_simp; (with_reducible refine hK _ ?_); clear hK K) | (refine Or.inl ⟨?_, ?_⟩; (focus (go_simp; done)); apply Exists.intro; refine And.intro ?_ ?_; (focus (first | (intro wq hq; obtain ⟨hcq, hfq⟩ := G.old hq; go_simp; (first | done | exact rfl); done) | (intro wq; go_simp; (first | done | exact rfl); done))); go_simp; (with_reducible refine hK _ ?_); clear hK K) | fail))
          (with_reducible refine ord_nil ?_)
          go_wp2_with fail
          have hrm : r ∈ qs ++ [r] := by simp
          obtain ⟨g', off', e, hgx8, k0, k1⟩ := h8.out.log.cells (k := qs.length) (r := r) (by simp)
          cases e
          have kf := h8.out.log.cellsF (k := qs.length) (r := r) (by simp) rfl
          rw [hq] at k0 k1 kf
          rw [show r.val = .slice r.A r.offs.length r.cap from rfl] at k1
          have PS := Lib.hid (fun (wx : World) (hb : Below w8.heap.size w8 wx) => psize_any r wx ((h8.out.grow hb).log.each r hrm) hpk)
          have HO := Lib.hid (h8.out.log.each r hrm)
          have hrA := Lib.hid (fun ad (ha : r.A = some ad) => h8.out.log.out r hrm _ ⟨ad, ha, rfl⟩)
          have hrl := Lib.hid (fun ad (ha : r.A = some ad) => h8.out.log.lt (.inr (.inr ⟨r, hrm, ad, ha, rfl⟩)))
          have hrnn : r.offs.length ≤ 100000001 := hpk.2.1
          have hv40 : r.pt.size ≤ 1099511627776 := by
            have h4 := hpk.2.2.2
            unfold Pt.size
            exact h4 _ (List.mem_of_getElem? (last_get hpk.2.2.1))
          rw [show r.val = .slice r.A r.offs.length r.cap from rfl] at PS
          obtain ⟨rA, hrA'⟩ : ∃ a, r.A = a := ⟨_, rfl⟩
          obtain ⟨rn, hrn⟩ : ∃ a, r.offs.length = a := ⟨_, rfl⟩
          obtain ⟨rc, hrc⟩ : ∃ a, r.cap = a := ⟨_, rfl⟩
          obtain ⟨v, hv⟩ : ∃ v, r.pt.size = v := ⟨_, rfl⟩
          rw [hrA', hrn, hrc] at k1 PS HO
          rw [hrA'] at hrA hrl
          rw [hrn] at hrnn
          rw [hv] at PS hv40 hR
          have hadd : IntKind.i64.wrap ((v : Int) + (16 + (N : Int))) = ((v + (16 + N) : Nat) : Int) := by rw [IntWalk.i64_in _ (by omega)]; omega
          obtain ⟨z, hz⟩ : ∃ z, v + (16 + N) = z := ⟨_, rfl⟩
          rw [hz] at hadd hR
          replace hR := Lib.hid (ret3 hR.out.symm)
          obtain ⟨i0, hi, hz0, hz1, hz2⟩ := info_parts infoIntG
          refine wp_region_ord [(0, 0), (1, 1), (2, 1), (3, 1), (4, 1), (5, 1), (6, 1), (7, 1), (9, 1), (10, 1), (8, 2), (11, 1), (12, 2), (13, 3), (14, 0), (15, 0), (16, 3)] [13, 16] 16 (by kernel_rfl) (by decide +kernel) ?_
          simp only [pickO, List.append_eq, List.cons_append, List.nil_append, List.getElem?_cons_succ, List.getElem?_cons_zero]
          intro w0 hG
          (repeat ((first | (with_reducible refine ord_q1 ?_) | (with_reducible refine ord_q0 ?_)); intro K hK; first | (refine Or.inr ⟨?_, ?_⟩; (focus (go_simp; first | done | (simp [undef]; done))); go_simp; (with_reducible refine hK _ ?_); clear hK K) | (refine Or.inl ⟨?_, ?_⟩; (focus (go_simp; done)); apply Exists.intro; refine And.intro ?_ ?_; (focus (first | (intro wq hq; obtain ⟨hcq, hfq⟩ := G.old hq; go_simp; (first | done | exact rfl); done) | (intro wq; go_simp; (first | done | exact rfl); done))); go_simp; (with_reducible refine hK _ ?_); clear hK K) | fail))
          (with_reducible refine ord_run ?_ hG)
          intro K hK
          go_simp
          go_at_call 63; (with_reducible refine (PS.out _ hG.b).mono ?_); rintro e w9 ⟨rfl, hb9⟩
          replace hG := Grew.trans hG hb9
          (try dsimp only)
          (with_reducible refine hK _ _ hG ?_)
          clear hK K
          (repeat ((first | (with_reducible refine ord_q1 ?_) | (with_reducible refine ord_q0 ?_)); intro K hK; first | (refine Or.inr ⟨?_, ?_⟩; (focus (go_simp; first | done | (simp [undef]; done))); go_simp; (with_reducible refine hK _ ?_); clear hK K) | (refine Or.inl ⟨?_, ?_⟩; (focus (go_simp; done)); apply Exists.intro; refine And.intro ?_ ?_; (focus (first | (intro wq hq; obtain ⟨hcq, hfq⟩ := G.old hq; go_simp; (first | done | exact rfl); done) | (intro wq; go_simp; (first | done | exact rfl); done))); go_simp; (with_reducible refine hK _ ?_); clear hK K) | fail))
          have hG9 := hG.b
          have hs9 := hG9.size
          replace k1 := G.cell k1 hG9
          have kf9 : w9.frozen? ⟨g, off + q * 2 + 1, none⟩ = false := by rw [World.frozen?_of_block (hG9.block g hgx8)]; exact kf
          (with_reducible refine ord_run ?_ hG)
          intro K hK
          go_simp
          replace hG := Grew.alloc hG (.cells #[.int .i64 (z : Int)] 3)
          (with_reducible refine hK _ _ hG ?_)
          clear hK K
          (repeat ((first | (with_reducible refine ord_q1 ?_) | (with_reducible refine ord_q0 ?_)); intro K hK; first | (refine Or.inr ⟨?_, ?_⟩; (focus (go_simp; first | done | (simp [undef]; done))); go_simp; (with_reducible refine hK _ ?_); clear hK K) | (refine Or.inl ⟨?_, ?_⟩; (focus (go_simp; done)); apply Exists.intro; refine And.intro ?_ ?_; (focus (first | (intro wq hq; obtain ⟨hcq, hfq⟩ := G.old hq; go_simp; (first | done | exact rfl); done) | (intro wq; go_simp; (first | done | exact rfl); done))); go_simp; (with_reducible refine hK _ ?_); clear hK K) | fail))
          (with_reducible refine ord_tail ?_); intro K hK
          refine step_appO rfl (.tmp 67) (.tmp 75) _ rfl 0 3 i0 _ 1 8 Tryz.underlying48 hi hz0 hz1 hz2 rfl rA rn rc (natsC r.offs) rfl ((HO.out.block (w' := w9.alloc (.cells #[.int .i64 (z : Int)] 3)) (by simp; omega) fun ad ha => (G.alloc hG9 _).block _ (hrl.out ad ha))) w9.heap.size 1 [.int .i64 (z : Int)] rfl rfl (fun j u hu => ((Bx.new (w := w9) (l := [.int .i64 (z : Int)]) (t := 3) rfl rfl).2 j u hu).1) (by simp [Value.oneCell']) (by unfold maxLen; omega) (by omega) (Nat.zero_le _) ?_
          intro A7 cc7 w10 ho10 hg10 hp10
          have hfin := Lib.hid (h8.out.log.morePart (z := z) (T := hasL L (some ⟨g, off, none⟩) (qs ++ [r])) (fun x => Iff.rfl) (G.alloc hG9 (.cells #[.int .i64 (z : Int)] 3)) (by rw [hrn]; exact ho10) (by rw [hrA']; exact hg10) (by rw [hrA']; exact hp10))
          rw [hq, hrn] at hfin
          have hgA : w10.heap[g]? = (w9.alloc (.cells #[.int .i64 (z : Int)] 3)).heap[g]? := hg10.block g (by simp; omega) fun e => by
            rcases rA with _ | ad
            · cases e
            · simp at e
              exact (hrA.out ad rfl).2 _ rfl e
          have k10 : w10.cell? ⟨g, off + q * 2 + 1, none⟩ = some (.slice rA rn rc) := by rw [World.cell?_of_block hgA, World.cell?_of_block ((G.alloc (G.refl w9) _).block g (by omega))]; exact k1
          have kf10 : w10.frozen? ⟨g, off + q * 2 + 1, none⟩ = false := by rw [World.frozen?_of_block hgA, World.frozen?_of_block ((G.alloc (G.refl w9) _).block g (by omega))]; exact kf9
          have lt10 := cell_lt k10
          clear HO hrA hrl hi hz0 hz1 hz2 ho10 hg10 hp10 hgA k0 k1 kf kf9 hG hG9 hs9 PS
          (with_reducible refine hK _ _ ?_); clear hK K
          (repeat ((first | (with_reducible refine ord_q1 ?_) | (with_reducible refine ord_q0 ?_)); intro K hK; first | (refine Or.inr ⟨?_, ?_⟩; (focus (go_simp; first | done | (simp [undef]; done))); go_simp; (with_reducible refine hK _ ?_); clear hK K) | (refine Or.inl ⟨?_, ?_⟩; (focus (go_simp; done)); apply Exists.intro; refine And.intro ?_ ?_; (focus (first | (intro wq hq; obtain ⟨hcq, hfq⟩ := G.old hq; go_simp; (first | done | exact rfl); done) | (intro wq; go_simp; (first | done | exact rfl); done))); go_simp; (with_reducible refine hK _ ?_); clear hK K) | fail))
          ((with_reducible refine ord_tail ?_); intro K hK; go_simp; (with_reducible refine hK _ _ ?_); clear hK K)
          (with_reducible refine ord_nil ?_)
          go_wp2_with fail
          refine bodyPost_ret (v := .tuple #[.int .i64 (n : Int), .int .i64 0]) (by simp only [results, Tryz.results28]; go_simp) rfl ?_
          rw [hR.out.1, hR.out.2.1, hR.out.2.2.1, hR.out.2.2.2]
          exact ⟨rfl, (h8.out.own hfin.out.1 hfin.out.2.1 hfin.out.2.2).lx⟩
        · rw [if_pos hx] at hR
          have hR := Lib.hid (ret3 hR.symm)
          have hx2 : (x != 0) = true := by rw [bne_iff_ne]; exact hx
          go_enter Tryz.func28, Tryz.ntmps28
          go_wp2_with fail
          go_at_call 33
          (with_reducible refine LS.out.mono ?_)
          rintro e1 w1 ⟨rfl, h1⟩
          have H1 := Lib.hid h1
          clear h1 LS
          go_wp2_with fail
          go_at_call 12
          (with_reducible refine (FA.out _).mono ?_)
          rintro e1 w2 ⟨rfl, hb2⟩
          have H2 := Lib.hid (H1.out.grow hb2)
          clear hb2 H1 FA
          go_wp2_with fail
          go_at_call 64
          (with_reducible refine (RO.out _ H2.out).mono ?_)
          rintro e1 w5 ⟨rfl, h5⟩
          have H5 := Lib.hid h5
          clear h5 RO H2
          go_wp2_with fail
          obtain ⟨P5, cc5, rs5, hL5⟩ := H5.out.named
          have e5 := hL5.log.eq
          rw [hps] at e5
          obtain ⟨qs, r, hrs, hr⟩ : ∃ qs r, rs5 = qs ++ [r] ∧ r.pt = p := by
            rcases snoc_cases rs5 with e | ⟨qs, r, e⟩
            · rw [e] at e5
              simp at e5
            · refine ⟨qs, r, e, ?_⟩
              rw [e, List.map_append] at e5
              have := List.append_inj_right' e5 (by simp)
              simpa using this.symm
          subst hrs hr
          have hcl := hL5.log.eq
          obtain ⟨c0, c1, c2, c3, c4⟩ := hL5.log.box.c5
          have lt := hL5.log.box.lt
          obtain ⟨g, off, rfl, hgx, k0, k1⟩ := hL5.log.cells (k := qs.length) (r := r) (by simp)
          have hN5 : qs.length + 1 ≤ 100000001 := by
            have := hcnt
            rw [hcl] at this
            simpa using this
          obtain ⟨q, hq⟩ : ∃ q, qs.length = q := ⟨_, rfl⟩
          obtain ⟨M, hM⟩ : ∃ n, (qs ++ [r]).length = n := ⟨_, rfl⟩
          have hqn : M = q + 1 := by rw [← hM, ← hq]; simp
          rw [hM] at c3
          rw [hq] at k0 k1 hN5
          rw [show r.val = .slice r.A r.offs.length r.cap from rfl] at k1
          have hw2 : IntKind.i64.wrap ((M : Int) - 1) = (q : Int) := by rw [IntWalk.i64_in _ (by omega)]; omega
          have hi2 : q < M := by omega
          have hi3 : (q : Int) < (M : Int) := by omega
          have HL5 := Lib.hid hL5
          have LFB := Lib.hid (fun (wx : World) (hb : Below w5.heap.size w5 wx) => (hL5.grow hb).log.file ((hL5.grow hb).lx.pow hE) (r.first : Int))
          have DA := Lib.hid (fun (wx : World) (hb : Below w5.heap.size w5 wx) => (hL5.grow hb).dAppend hgood.out.ok f fr hff (by rw [hfl]; omega))
          rw [show ((r.pt.first : Nat) : Int) = (r.first : Int) from rfl] at hf
          rw [hf.out] at LFB
          rw [hX.out] at DA
          dsimp only at DA
          clear hL5 hcl e5 hM hqn
          go_wp2_with fail
          refine wp_region_ord [(0, 1), (1, 1), (2, 1), (3, 1), (4, 1), (5, 1), (6, 1), (7, 1), (8, 1), (9, 1), (10, 1), (11, 1)] [] 5 (by kernel_rfl) (by decide +kernel) ?_
          simp only [pickO, List.append_eq, List.cons_append, List.nil_append, List.getElem?_cons_succ, List.getElem?_cons_zero]
          intro w0 hG
          (repeat ((first | (with_reducible refine ord_q1 ?_) | (with_reducible refine ord_q0 ?_)); intro K hK; first | (refine Or.inr ⟨?_, ?_⟩; (focus (go_simp; first | done | (simp [undef]; done))); go_simp; (with_reducible refine hK _ ?_); clear hK K) | (refine Or.inl ⟨?_, ?_⟩; (focus (go_simp; done)); apply Exists.intro; refine And.intro ?_ ?_; (focus (first | (intro wq hq; obtain ⟨hcq, hfq⟩ := G.old hq; go_simp; (first | done | exact rfl); done) | (intro wq; go_simp; (first | done | exact rfl); done))); go_simp; (with_reducible refine hK _ ?_); clear hK K) | fail))
          (with_reducible refine ord_nil ?_)
          have hb6 := hG.b
          replace c0 := G.cell c0 hb6
          replace k0 := G.cell k0 hb6
          have ltg := cell_lt k0
          replace lt := cell_lt c0
          replace hb6 := Lib.hid hb6
          clear hG c1 c2 c3 c4 k1
          go_wp2_with fail
          refine wp_region_ord [(0, 1), (1, 1), (2, 1), (3, 1), (4, 1), (5, 1), (6, 1), (7, 1), (8, 1), (10, 1), (9, 2), (11, 3), (12, 0)] [11] 16 (by kernel_rfl) (by decide +kernel) ?_
          simp only [pickO, List.append_eq, List.cons_append, List.nil_append, List.getElem?_cons_succ, List.getElem?_cons_zero]
          intro w0 hG
          (repeat ((first | (with_reducible refine ord_q1 ?_) | (with_reducible refine ord_q0 ?_)); intro K hK; first | (refine Or.inr ⟨?_, ?_⟩; (focus (go_simp; first | done | (simp [undef]; done))); go_simp; (with_reducible refine hK _ ?_); clear hK K) | (refine Or.inl ⟨?_, ?_⟩; (focus (go_simp; done)); apply Exists.intro; refine And.intro ?_ ?_; (focus (first | (intro wq hq; obtain ⟨hcq, hfq⟩ := G.old hq; go_simp; (first | done | exact rfl); done) | (intro wq; go_simp; (first | done | exact rfl); done))); go_simp; (with_reducible refine hK _ ?_); clear hK K) | fail))
          (with_reducible refine ord_run ?_ hG)
          intro K hK
          go_simp
          go_at_call 62; (with_reducible refine (LFB.out _ (G.trans hb6.out hG.b)).mono ?_); rintro e w7 ⟨rfl, hb7⟩
          replace hG := Grew.trans hG hb7
          (try dsimp only)
          (with_reducible refine hK _ _ hG ?_)
          clear hK K
          (repeat ((first | (with_reducible refine ord_q1 ?_) | (with_reducible refine ord_q0 ?_)); intro K hK; first | (refine Or.inr ⟨?_, ?_⟩; (focus (go_simp; first | done | (simp [undef]; done))); go_simp; (with_reducible refine hK _ ?_); clear hK K) | (refine Or.inl ⟨?_, ?_⟩; (focus (go_simp; done)); apply Exists.intro; refine And.intro ?_ ?_; (focus (first | (intro wq hq; obtain ⟨hcq, hfq⟩ := G.old hq; go_simp; (first | done | exact rfl); done) | (intro wq; go_simp; (first | done | exact rfl); done))); go_simp; (with_reducible refine hK _ ?_); clear hK K) | fail))
          (with_reducible refine ord_tail ?_)
          intro K hK
          go_simp
          have hb9 := G.trans hb6.out hG.b
          go_at_call 31
          (with_reducible refine (DA.out _ hb9).mono ?_)
          rintro e1 w8 ⟨rfl, h8⟩
          clear hG hb9 c0 lt k0 LFB DA HL5 H5 ltg hb6
          replace h8 := Lib.hid h8
          (with_reducible refine hK _ _ ?_)
          clear hK K
          (repeat ((first | (with_reducible refine ord_q1 ?_) | (with_reducible refine ord_q0 ?_)); intro K hK; first | (refine Or.inr ⟨?_, ?_⟩; (focus (go_simp; first | done | (simp [undef]; done))); go_simp; (with_reducible refine hK _ ?_); clear hK K) | (refine Or.inl ⟨?_, ?_⟩; (focus (go_simp; done)); apply Exists.intro; refine And.intro ?_ ?_; (focus (first | (intro wq hq; obtain ⟨hcq, hfq⟩ := G.old hq; go_simp; (first | done | exact rfl); done) | (intro wq; go_simp; (first | done | exact rfl); done))); go_simp; (with_reducible refine hK _ ?_); clear hK K) | fail))
          (with_reducible refine ord_nil ?_)
          go_wp2_with fail
          refine bodyPost_ret (v := .tuple #[.int .i64 0, .int .i64 x]) (by simp only [results, Tryz.results28]; go_simp) rfl ?_
          rw [hR.out.1, hR.out.2.1, hR.out.2.2.1, hR.out.2.2.2]
          exact ⟨rfl, h8.out.lx⟩
      · rw [if_pos hy] at hR
        have hR := Lib.hid (ret3 hR.symm)
        have hy2 : (y != 0) = true := by rw [bne_iff_ne]; exact hy
        go_enter Tryz.func28, Tryz.ntmps28
        go_wp2_with fail
        go_at_call 33
        (with_reducible refine LS.out.mono ?_)
        rintro e1 w1 ⟨rfl, h1⟩
        have H1 := Lib.hid h1
        clear h1 LS
        go_wp2_with fail
        go_at_call 12
        (with_reducible refine (FA.out _).mono ?_)
        rintro e1 w2 ⟨rfl, hb2⟩
        have H2 := Lib.hid (H1.out.grow hb2)
        clear hb2 H1 FA
        go_wp2_with fail
        go_at_call 64
        (with_reducible refine (RO.out _ H2.out).mono ?_)
        rintro e1 w5 ⟨rfl, h5⟩
        have H5 := Lib.hid h5
        clear h5 RO H2
        go_wp2_with fail
        refine bodyPost_ret (v := .tuple #[.int .i64 0, .int .i64 y]) (by simp only [results, Tryz.results28]; go_simp) rfl ?_
        rw [hR.out.1, hR.out.2.1, hR.out.2.2.1, hR.out.2.2.2]
        exact ⟨rfl, H5.out⟩
end
end Go.Proofs.YtbafnlccpbonmaaGreatDoor

namespace Go.Proofs.YtbafnlccpbonmaaGreatDoor
set_option linter.unusedVariables false
set_option linter.unnecessarySimpa false
set_option linter.unusedSimpArgs false
open Go.RowKit

section
variable {w0 w w' w2 w3 : World} {S0 T0 : Nat → Prop} {L d : Nat} {l l' : Lg} {s s' : Ds} {P P' : Option Addr} {c c' : Nat} {rs rs' : List PR}
theorem LXr.dRemove (h : LXr w0 S0 T0 w d L s l P c rs) (nm : List UInt8) (hm : nm.length ≤ 41) : Calls Tryz.prog 76 #[.pointer (some ⟨d, 0, none⟩), .string (B nm)] w fun e w' => e = .returned (.int .i64 (removeD s nm).1) ∧ LXr w0 S0 T0 w' d L (removeD s nm).2 l P c rs := by
  have := h.runE fun S hD => remove_any hD (B nm) (by rw [B_size]; unfold maxLen; omega)
  rw [B_list] at this
  exact this
/-- The log without its first segment. -/
theorem LogR.tail {g off : Nat} {r : PR} (h : LogR w L d l (some ⟨g, off, none⟩) (c + 1) (r :: rs)) :
    LogR (w.setCell ⟨L, 3, none⟩ (.slice (some ⟨g, off + 2, none⟩) rs.length c)) L d { l with parts := l.parts.tail } (some ⟨g, off + 2, none⟩) c rs ∧
    (∀ x, hasL L (some ⟨g, off + 2, none⟩) rs x → hasL L (some ⟨g, off, none⟩) (r :: rs) x ∨ w.heap.size ≤ x) ∧ DChg (hasL L (some ⟨g, off, none⟩) (r :: rs)) w (w.setCell ⟨L, 3, none⟩ (.slice (some ⟨g, off + 2, none⟩) rs.length c)) := by
  have hgL : g ≠ L := h.pl _ rfl
  have hk4 : ∀ x, x ≠ L → (w.setCell ⟨L, 3, none⟩ (.slice (some ⟨g, off + 2, none⟩) rs.length c)).heap[x]? = w.heap[x]? := fun x hx => Below.heap_setCell _ _ _ _ hx
  have hs4 : w.heap.size ≤ (w.setCell ⟨L, 3, none⟩ (.slice (some ⟨g, off + 2, none⟩) rs.length c)).heap.size := by simp [World.setCell]
  refine ⟨⟨h.box.put (by simp), ?_, fun q hq => (h.each q (List.mem_cons_of_mem _ hq)).block hs4 fun ad ha => hk4 _ (h.out q (List.mem_cons_of_mem _ hq) _ ⟨ad, ha, rfl⟩).1, (List.pairwise_cons.1 h.apart).2, fun q hq x hx => ?_, fun ad ha => by cases ha; exact hgL, ?_⟩, ?_, (DChg.refl _ w).setCell (.inl rfl) _ _⟩
  · have h1 := OwnO.tail h.row
    have e : (rowP (r :: rs)).drop 2 = rowP rs := rfl
    rw [e] at h1
    exact h1.block hs4 fun ad ha => by cases ha; exact hk4 _ hgL
  · have := h.out q (List.mem_cons_of_mem _ hq) x hx
    exact ⟨this.1, fun ad ha => by cases ha; exact this.2 ⟨g, off, none⟩ rfl⟩
  · rw [h.eq]
    rfl
  · intro x hx
    rcases hx with rfl | ⟨ad, ha, rfl⟩ | ⟨q, hq, hx⟩
    · exact .inl (.inl rfl)
    · cases ha
      exact .inl (.inr (.inl ⟨_, rfl, rfl⟩))
    · exact .inl (.inr (.inr ⟨q, List.mem_cons_of_mem _ hq, hx⟩))
theorem ret3g {α : Type} {a b : Int} {s1 : Ds} {l1 : α} {R : (Int × Int) × Ds × α} (h : R = ((a, b), s1, l1)) : R.1.1 = a ∧ R.1.2 = b ∧ R.2.1 = s1 ∧ R.2.2 = l1 := by subst h; exact ⟨rfl, rfl, rfl, rfl⟩
theorem ldrop_nil (nm : List UInt8) (b : Int) (s : Ds) (k : Nat) : ldrop nm b s [] k = (((k : Int), 0), s, []) := by unfold ldrop; rfl
theorem ldrop_one (nm : List UInt8) (b : Int) (s : Ds) (p : Pt) (k : Nat) : ldrop nm b s [p] k = (((k : Int), 0), s, [p]) := by unfold ldrop; rfl
theorem ldrop_end (nm : List UInt8) (b : Int) (s : Ds) (p q : Pt) (r : List Pt) (k : Nat) (h : ¬ (q.first : Int) ≤ b) : ldrop nm b s (p :: q :: r) k = (((k : Int), 0), s, p :: q :: r) := by unfold ldrop; rw [if_neg h]
theorem ldrop_bad (nm : List UInt8) (b : Int) (s s' : Ds) (e : Int) (p q : Pt) (r : List Pt) (k : Nat) (h : (q.first : Int) ≤ b) (hr : removeD s (fileR nm p.first).1 = (e, s')) (he : e ≠ 0) : ldrop nm b s (p :: q :: r) k = ((0, e), s', p :: q :: r) := by
  rw [ldrop, if_pos h, hr, if_pos he]
theorem ldrop_go (nm : List UInt8) (b : Int) (s s' : Ds) (p q : Pt) (r : List Pt) (k : Nat) (h : (q.first : Int) ≤ b) (hr : removeD s (fileR nm p.first).1 = (0, s')) : ldrop nm b s (p :: q :: r) k = ldrop nm b s' (q :: r) (k + 1) := by
  rw [ldrop, if_pos h, hr, if_neg (by simp)]
set_option maxRecDepth 20000 in set_option maxHeartbeats 8000000 in
theorem LX.Drop (hE : EnvL w0 S0 T0) (h : LX w0 S0 T0 w d L s l) (hcnt : l.parts.length ≤ 100000000) (b : Int) : Calls Tryz.prog 35 #[.pointer (some ⟨L, 0, none⟩), .int .i64 b] w fun e w' =>
    e = .returned (.tuple #[.int .i64 (ldrop l.name b s l.parts 0).1.1, .int .i64 (ldrop l.name b s l.parts 0).1.2]) ∧ LX w0 S0 T0 w' d L (ldrop l.name b s l.parts 0).2.1 { l with parts := (ldrop l.name b s l.parts 0).2.2 } := by
  obtain ⟨R, hR⟩ : ∃ R, ldrop l.name b s l.parts 0 = R := ⟨_, rfl⟩
  rw [hR]
  have H := Lib.hid h
  have HR := Lib.hid hR
  clear h hR
  go_enter Tryz.func35, Tryz.ntmps35
  go_wp2_with fail
  go_loopw [6] (fun iv wr => ∃ (k : Nat) (s1 : Ds) (ps : List Pt), iv = .int .i64 (k : Int) ∧ k + ps.length ≤ l.parts.length ∧ Hid (LX w0 S0 T0 wr d L s1 { l with parts := ps }) ∧ Hid (ldrop l.name b s1 ps k = R)) (fun iv _ => l.parts.length - (intOf iv).toNat)
  case atStart => exact ⟨0, s, l.parts, rfl, by omega, H, HR⟩
  case round =>
    obtain ⟨k, s1, ps, rfl, hkp, H1, HR1⟩ := hrel
    clear H HR
    obtain ⟨P, cc, rs, hL⟩ := H1.out.named
    have hps : ps = rs.map PR.pt := hL.log.eq
    obtain ⟨c0, c1, c2, c3, c4⟩ := hL.log.box.c5
    have lt := hL.log.box.lt
    rcases rs with _ | ⟨r, _ | ⟨r2, rs⟩⟩
    · subst hps
      have hr := Lib.hid (ret3g (HR1.out.symm.trans (ldrop_nil _ _ _ _)))
      clear hL
      go_wp2_with fail
      refine bodyPost_ret (v := .tuple #[.int .i64 (k : Int), .int .i64 0]) (by simp only [results, Tryz.results35]; go_simp) rfl ?_
      rw [hr.out.1, hr.out.2.1, hr.out.2.2.1, hr.out.2.2.2]
      exact ⟨rfl, H1.out⟩
    · subst hps
      have hr := Lib.hid (ret3g (HR1.out.symm.trans (ldrop_one _ _ _ _ _)))
      clear hL
      go_wp2_with fail
      refine bodyPost_ret (v := .tuple #[.int .i64 (k : Int), .int .i64 0]) (by simp only [results, Tryz.results35]; go_simp) rfl ?_
      rw [hr.out.1, hr.out.2.1, hr.out.2.2.1, hr.out.2.2.2]
      exact ⟨rfl, H1.out⟩
    · have hps2 : ps = r.pt :: r2.pt :: rs.map PR.pt := hps
      clear hps
      subst hps2
      obtain ⟨g, off, rfl, hgx, k0, k1⟩ := hL.log.cells (k := 0) (r := r) rfl
      obtain ⟨g', off', e, _, k2, k3⟩ := hL.log.cells (k := 1) (r := r2) rfl
      cases e
      rw [show off + 0 * 2 = off by omega] at k0
      rw [show off + 1 * 2 = off + 2 by omega] at k2
      clear k1 k3
      rw [List.length_cons, List.length_cons, List.length_map] at hkp
      have hcap := hL.log.row.room.1
      obtain ⟨M, hM⟩ : ∃ M, (r :: r2 :: rs).length = M := ⟨_, rfl⟩
      have hM2 : M = rs.length + 1 + 1 := by rw [← hM]; simp
      have hML : Hid ((r2 :: rs).length + 1 = M) := by unfold Hid; rw [← hM]; simp
      rw [hM] at c3 hcap
      have hM1 : (1 : Int) < (M : Int) := by omega
      have hM1' : 1 < M := by omega
      have hM0 : 0 < M := by omega
      have HL := Lib.hid hL
      by_cases hb : (r2.first : Int) ≤ b
      · have hff := lfile_len l (r.first : Int)
        obtain ⟨f, hf⟩ : ∃ f, l.file (r.first : Int) = f := ⟨_, rfl⟩
        rw [hf] at hff
        have hf2 : (fileR l.name (r.pt.first : Int)).1 = f := hf
        have LFB := Lib.hid (fun (wx : World) (hb : Below wr.heap.size wr wx) => (hL.grow hb).log.file ((hL.grow hb).lx.pow hE) (r.first : Int))
        rw [show ({ l with parts := r.pt :: r2.pt :: rs.map PR.pt } : Lg).file (r.first : Int) = f from hf] at LFB
        have DR := Lib.hid (fun (wx : World) (hb : Below wr.heap.size wr wx) => (hL.grow hb).dRemove f hff)
        obtain ⟨X, hX⟩ : ∃ X, removeD s1 f = X := ⟨_, rfl⟩
        rw [hX] at DR
        obtain ⟨x, s6⟩ := X
        dsimp only at DR
        rw [← hf2] at hX
        by_cases hx : x = 0
        · subst hx
          have hr := Lib.hid ((ldrop_go l.name b s1 s6 r.pt r2.pt (rs.map PR.pt) k hb hX).symm.trans HR1.out)
          clear hL hM hM2 hf hf2 HR1 hX
          go_wp2_with fail
          refine wp_region_ord [(0, 1), (1, 1), (2, 1), (3, 1), (4, 1), (5, 1), (6, 1), (7, 1), (8, 1), (9, 1), (10, 1), (11, 1), (12, 2), (13, 3), (14, 0)] [13] 16 (by kernel_rfl) (by decide +kernel) ?_
          simp only [pickO, List.append_eq, List.cons_append, List.nil_append, List.getElem?_cons_succ, List.getElem?_cons_zero]
          intro w0 hG
          (repeat ((first | (with_reducible refine ord_q1 ?_) | (with_reducible refine ord_q0 ?_)); intro K hK; first | (refine Or.inr ⟨?_, ?_⟩; (focus (go_simp; first | done | (simp [undef]; done))); go_simp; (with_reducible refine hK _ ?_); clear hK K) | (refine Or.inl ⟨?_, ?_⟩; (focus (go_simp; done)); apply Exists.intro; refine And.intro ?_ ?_; (focus (first | (intro wq hq; obtain ⟨hcq, hfq⟩ := G.old hq; go_simp; (first | done | exact rfl); done) | (intro wq; go_simp; (first | done | exact rfl); done))); go_simp; (with_reducible refine hK _ ?_); clear hK K) | fail))
          (with_reducible refine ord_run ?_ hG)
          intro K hK
          go_simp
          go_at_call 62; (with_reducible refine (LFB.out _ hG.b).mono ?_); rintro e w7 ⟨rfl, hb7⟩
          replace hG := Grew.trans hG hb7
          (try dsimp only)
          (with_reducible refine hK _ _ hG ?_)
          clear hK K
          (repeat ((first | (with_reducible refine ord_q1 ?_) | (with_reducible refine ord_q0 ?_)); intro K hK; first | (refine Or.inr ⟨?_, ?_⟩; (focus (go_simp; first | done | (simp [undef]; done))); go_simp; (with_reducible refine hK _ ?_); clear hK K) | (refine Or.inl ⟨?_, ?_⟩; (focus (go_simp; done)); apply Exists.intro; refine And.intro ?_ ?_; (focus (first | (intro wq hq; obtain ⟨hcq, hfq⟩ := G.old hq; go_simp; (first | done | exact rfl); done) | (intro wq; go_simp; (first | done | exact rfl); done))); go_simp; (with_reducible refine hK _ ?_); clear hK K) | fail))
          (with_reducible refine ord_tail ?_)
          intro K hK
          go_simp
          have hb9 := hG.b
          go_at_call 76
          (with_reducible refine (DR.out _ hb9).mono ?_)
          rintro e1 w8 ⟨rfl, h8⟩
          clear hG hb9 c0 c1 c2 c3 c4 lt k0 k2 LFB DR HL H1 hgx
          replace h8 := Lib.hid h8
          (with_reducible refine hK _ _ ?_)
          clear hK K
          (repeat ((first | (with_reducible refine ord_q1 ?_) | (with_reducible refine ord_q0 ?_)); intro K hK; first | (refine Or.inr ⟨?_, ?_⟩; (focus (go_simp; first | done | (simp [undef]; done))); go_simp; (with_reducible refine hK _ ?_); clear hK K) | (refine Or.inl ⟨?_, ?_⟩; (focus (go_simp; done)); apply Exists.intro; refine And.intro ?_ ?_; (focus (first | (intro wq hq; obtain ⟨hcq, hfq⟩ := G.old hq; go_simp; (first | done | exact rfl); done) | (intro wq; go_simp; (first | done | exact rfl); done))); go_simp; (with_reducible refine hK _ ?_); clear hK K) | fail))
          (with_reducible refine ord_nil ?_)
          obtain ⟨cc1, hcc1⟩ : ∃ q, cc = q + 1 := ⟨cc - 1, by omega⟩
          obtain ⟨c0, c1, c2, c3, c4⟩ := h8.out.log.box.c5
          obtain ⟨f0, f1, f2, f3, f4⟩ := h8.out.log.box.f5
          have lt := h8.out.log.box.lt
          have hm2 : (r :: r2 :: rs).length = M := hML.out
          rw [hm2] at c3
          have hfin := Lib.hid (show _ from by have h9 := h8.out.log; rw [hcc1] at h9; exact h9.tail)
          clear hm2
          go_wp2_with fail
          have hM3 : (r2 :: rs).length = M - 1 := by have := hML.out; omega
          rw [hM3] at hfin
          refine ⟨⟨k + 1, s6, r2.pt :: rs.map PR.pt, by go_num, by rw [List.length_cons, List.length_map]; omega, ?_, hr⟩, by simp [intOf]; omega⟩
          exact Lib.hid (h8.out.own hfin.out.1 hfin.out.2.1 hfin.out.2.2).lx
        · have hr := Lib.hid (ret3g (HR1.out.symm.trans (ldrop_bad l.name b s1 s6 x r.pt r2.pt (rs.map PR.pt) k hb hX hx)))
          have hx2 : (x != 0) = true := by rw [bne_iff_ne]; exact hx
          clear hL hM hM2 hf hf2 HR1 hX
          go_wp2_with fail
          refine wp_region_ord [(0, 1), (1, 1), (2, 1), (3, 1), (4, 1), (5, 1), (6, 1), (7, 1), (8, 1), (9, 1), (10, 1), (11, 1), (12, 2), (13, 3), (14, 0)] [13] 16 (by kernel_rfl) (by decide +kernel) ?_
          simp only [pickO, List.append_eq, List.cons_append, List.nil_append, List.getElem?_cons_succ, List.getElem?_cons_zero]
          intro w0 hG
          (repeat ((first | (with_reducible refine ord_q1 ?_) | (with_reducible refine ord_q0 ?_)); intro K hK; first | (refine Or.inr ⟨?_, ?_⟩; (focus (go_simp; first | done | (simp [undef]; done))); go_simp; (with_reducible refine hK _ ?_); clear hK K) | (refine Or.inl ⟨?_, ?_⟩; (focus (go_simp; done)); apply Exists.intro; refine And.intro ?_ ?_; (focus (first | (intro wq hq; obtain ⟨hcq, hfq⟩ := G.old hq; go_simp; (first | done | exact rfl); done) | (intro wq; go_simp; (first | done | exact rfl); done))); go_simp; (with_reducible refine hK _ ?_); clear hK K) | fail))
          (with_reducible refine ord_run ?_ hG)
          intro K hK
          go_simp
          go_at_call 62; (with_reducible refine (LFB.out _ hG.b).mono ?_); rintro e w7 ⟨rfl, hb7⟩
          replace hG := Grew.trans hG hb7
          (try dsimp only)
          (with_reducible refine hK _ _ hG ?_)
          clear hK K
          (repeat ((first | (with_reducible refine ord_q1 ?_) | (with_reducible refine ord_q0 ?_)); intro K hK; first | (refine Or.inr ⟨?_, ?_⟩; (focus (go_simp; first | done | (simp [undef]; done))); go_simp; (with_reducible refine hK _ ?_); clear hK K) | (refine Or.inl ⟨?_, ?_⟩; (focus (go_simp; done)); apply Exists.intro; refine And.intro ?_ ?_; (focus (first | (intro wq hq; obtain ⟨hcq, hfq⟩ := G.old hq; go_simp; (first | done | exact rfl); done) | (intro wq; go_simp; (first | done | exact rfl); done))); go_simp; (with_reducible refine hK _ ?_); clear hK K) | fail))
          (with_reducible refine ord_tail ?_)
          intro K hK
          go_simp
          have hb9 := hG.b
          go_at_call 76
          (with_reducible refine (DR.out _ hb9).mono ?_)
          rintro e1 w8 ⟨rfl, h8⟩
          clear hG hb9 c0 c1 c2 c3 c4 lt k0 k2 LFB DR HL H1 hgx
          replace h8 := Lib.hid h8
          (with_reducible refine hK _ _ ?_)
          clear hK K
          (repeat ((first | (with_reducible refine ord_q1 ?_) | (with_reducible refine ord_q0 ?_)); intro K hK; first | (refine Or.inr ⟨?_, ?_⟩; (focus (go_simp; first | done | (simp [undef]; done))); go_simp; (with_reducible refine hK _ ?_); clear hK K) | (refine Or.inl ⟨?_, ?_⟩; (focus (go_simp; done)); apply Exists.intro; refine And.intro ?_ ?_; (focus (first | (intro wq hq; obtain ⟨hcq, hfq⟩ := G.old hq; go_simp; (first | done | exact rfl); done) | (intro wq; go_simp; (first | done | exact rfl); done))); go_simp; (with_reducible refine hK _ ?_); clear hK K) | fail))
          (with_reducible refine ord_nil ?_)
          go_wp2_with fail
          refine bodyPost_ret (v := .tuple #[.int .i64 0, .int .i64 x]) (by simp only [results, Tryz.results35]; go_simp) rfl ?_
          rw [hr.out.1, hr.out.2.1, hr.out.2.2.1, hr.out.2.2.2]
          exact ⟨rfl, h8.out.lx⟩
      · have hr := Lib.hid (ret3g (HR1.out.symm.trans (ldrop_end l.name b s1 r.pt r2.pt (rs.map PR.pt) k hb)))
        clear hL hM hM2
        go_wp2_with fail
        refine bodyPost_ret (v := .tuple #[.int .i64 (k : Int), .int .i64 0]) (by simp only [results, Tryz.results35]; go_simp) rfl ?_
        rw [hr.out.1, hr.out.2.1, hr.out.2.2.1, hr.out.2.2.2]
        exact ⟨rfl, H1.out⟩
end
end Go.Proofs.YtbafnlccpbonmaaGreatDoor

namespace Go.Proofs.YtbafnlccpbonmaaGreatDoor
set_option linter.unusedVariables false
set_option linter.unnecessarySimpa false
set_option linter.unusedSimpArgs false
open Go.RowKit

theorem B_at {f : List UInt8} {j : Nat} {c : UInt8} (h : f[j]? = some c) : ((B f).data[j]!) = c := by
  unfold B
  have := (List.getElem?_eq_some_iff.1 h)
  obtain ⟨hj, e⟩ := this
  simp [hj, e]
theorem last_dash {nm f : List UInt8} (n : Nat) (h : f = fileL nm n) : Lib.lastIndexByte (B f) 45 = (nm.length : Int) := by
  have hl : f.length = nm.length + 9 := by rw [h]; unfold fileL; simp [digL_len]
  have h45 : f[nm.length]? = some 45 := by rw [h]; unfold fileL; simp
  have hd : ∀ j, nm.length < j → j < f.length → ∃ c, f[j]? = some c ∧ c ≠ 45 := fun j h1 h2 => by
    have h3 : f[j]? = (digL n 8)[j - (nm.length + 1)]? := by
      rw [h]
      unfold fileL
      rw [List.getElem?_append_right (by omega)]
      obtain ⟨k, hk⟩ : ∃ k, j - nm.length = k + 1 := ⟨j - nm.length - 1, by omega⟩
      rw [hk, List.getElem?_cons_succ]
      congr 1
      omega
    have h4 : j - (nm.length + 1) < (digL n 8).length := by rw [digL_len]; omega
    have h5 := digL_all 8 n
    rw [List.all_eq_true] at h5
    have h6 := h5 _ (List.getElem_mem h4)
    refine ⟨_, h3.trans (List.getElem?_eq_getElem h4), fun e => ?_⟩
    rw [e] at h6
    exact absurd h6 (by decide)
  have hs : (B f).size = f.length := B_size f
  rcases Lib.lastIndexByte_spec (B f) 45 with ⟨_, hn⟩ | ⟨i, hi, e, hc, hn⟩
  · exact absurd (by rw [B_at h45]; rfl) (hn nm.length (by rw [hs]; omega))
  · rw [e]
    rcases Nat.lt_trichotomy i nm.length with hlt | rfl | hgt
    · exact absurd (by rw [B_at h45]; rfl) (hn nm.length hlt (by rw [hs]; omega))
    · rfl
    · obtain ⟨c, hc1, hc2⟩ := hd i hgt (by rw [← hs]; exact hi)
      rw [B_at hc1] at hc
      exact absurd (UInt8.toNat_inj.1 (by show c.toNat = 45; omega)) hc2
theorem B_inj {a b : List UInt8} : B a = B b ↔ a = b := ⟨fun h => by have := congrArg (fun x : ByteArray => x.data.toList) h; exact this, fun h => by rw [h]⟩
theorem fileR_zero (nm : List UInt8) (v : Int) : ((fileR nm v).2 = 0 → nameC nm = true ∧ inN v ∧ (fileR nm v).1 = fileL nm v.toNat) ∧ (nameC nm = true ∧ inN v → (fileR nm v).2 = 0) := by
  by_cases h1 : nameC nm = true
  · by_cases h2 : inN v
    · rw [fileR_ok h1 h2]
      exact ⟨fun _ => ⟨h1, h2, rfl⟩, fun _ => rfl⟩
    · rw [fileR_bad h1 h2]
      exact ⟨fun h => by simp at h, fun h => absurd h.2 h2⟩
  · rw [fileR_nil (by simpa using h1)]
    exact ⟨fun h => by simp at h, fun h => absurd h.1 h1⟩
theorem B_eql (a b : List UInt8) : ((B a).toList == (B b).toList) = (a == b) := by rw [ByteArray.toList_eq, ByteArray.toList_eq]; rfl
theorem B_neq {a b : List UInt8} (h : ¬ a = b) : ((B a).toList == (B b).toList) = false := by rw [B_eql]; exact beq_eq_false_iff_ne.2 h
/-- A number and whether it is one, as Number gives them. -/
def numV (o : Option Nat) : Array Value := match o with
  | none => #[.int .i64 0, .bool false]
  | some n => #[.int .i64 (n : Int), .bool true]
set_option maxRecDepth 20000 in set_option maxHeartbeats 4000000 in
theorem number_any (nm f : List UInt8) (hf : f.length ≤ 100000) (w : World) (hp : Pow10 w) (hv : LibVars w) : Calls Tryz.prog 20 #[.string (B nm), .string (B f)] w fun e w' => e = .returned (.tuple (numV (numM nm f))) ∧ Below w.heap.size w w' := by
  have hne := num_eq (name := nm) (f := f) (i := Lib.lastIndexByte (B f) 45) fun n h => last_dash n h
  rw [← hne]
  have LB := Lib.hid (Tryz.strings_LastIndexByte (B f) 45 (by rw [B_size]; omega) w)
  have hsp : (Lib.lastIndexByte (B f) 45 < 0) ∨ ∃ k : Nat, Lib.lastIndexByte (B f) 45 = (k : Int) ∧ k < f.length := by
    rcases Lib.lastIndexByte_spec (B f) 45 with ⟨e, _⟩ | ⟨i, hi, e, _⟩
    · left; omega
    · rw [B_size] at hi
      exact .inr ⟨i, e, hi⟩
  obtain ⟨i, hi⟩ : ∃ i, Lib.lastIndexByte (B f) 45 = i := ⟨_, rfl⟩
  rw [hi] at LB hsp ⊢
  clear hi hne
  have hs := B_size f
  rcases hsp with h0 | ⟨k, rfl, hk⟩
  · have hr : numP nm f i = none := by unfold numP; rw [if_pos h0]
    rw [hr]
    go_enter Tryz.func20, Tryz.ntmps20
    go_wp2_with fail
    go_at_call 55
    (with_reducible refine LB.out.mono ?_)
    rintro e1 w1 ⟨rfl, rfl⟩
    go_wp2_with fail
    refine bodyPost_ret (v := .tuple #[.int .i64 0, .bool false]) (by simp only [results, Tryz.results20]; go_simp) rfl ⟨rfl, G.refl _⟩
  · have hbad : (∀ v, Lib.atoiAll (f.drop (k + 1)) ≠ .ok v) → numP nm f (k : Int) = none := fun hh => by
      unfold numP
      rw [if_neg (by omega), Int.toNat_natCast]
      rcases he : Lib.atoiAll (f.drop (k + 1)) with v | _ | _
      · exact absurd he (hh v)
      · rfl
      · rfl
    have hgood : ∀ v, Lib.atoiAll (f.drop (k + 1)) = .ok v → numP nm f (k : Int) = if nameC nm = true ∧ inN v ∧ f = fileL nm v.toNat then some v.toNat else none := fun v hh => by
      unfold numP
      rw [if_neg (by omega), Int.toNat_natCast, hh]
    have hbad := Lib.hid hbad
    have hgood := Lib.hid hgood
    have AT := Lib.hid (atoi_any (B (f.drop (k + 1))) w (by rw [B_size, List.length_drop]; omega) hv)
    rw [B_list] at AT
    obtain ⟨N, hN⟩ : ∃ N, f.length = N := ⟨_, rfl⟩
    rw [hN] at hs hk hf
    obtain ⟨q, hq⟩ : ∃ q, k + 1 = q := ⟨_, rfl⟩
    have hw1 : IntKind.i64.wrap ((k : Int) + 1) = (q : Int) := by rw [IntWalk.i64_in _ (by omega)]; omega
    have hd := B_drop f q
    rw [hs] at hd
    rw [hq] at AT hbad hgood
    have hqN : q ≤ N := by omega
    have FI := Lib.hid (fun (v : Int) (wx : World) (hb : Below w.heap.size w wx) => file_any nm v wx (hp.grow hb))
    have hk0 : ¬ (k : Int) < 0 := by omega
    clear hN hq hp
    go_enter Tryz.func20, Tryz.ntmps20
    go_wp2_with fail
    go_at_call 55
    (with_reducible refine LB.out.mono ?_)
    rintro e1 w1 ⟨rfl, hw⟩
    obtain rfl := hw.symm
    clear hw LB
    go_wp2_with fail
    go_at_call 56
    (with_reducible refine AT.out.mono ?_)
    rintro e1 w2 ⟨v, er, rfl, hwf, hcase, hb2⟩
    clear AT
    replace hcase := Lib.hid hcase
    go_wp2_with fail
    go_at_call 19
    (with_reducible refine (FI.out v _ hb2).mono ?_)
    rintro e1 w3 ⟨rfl, hb3⟩
    replace hb3 := Lib.hid (G.trans hb2 hb3)
    clear hb2 FI
    rcases hcase.out with ⟨rfl, hv1⟩ | ⟨⟨t, pp, rfl⟩, hv1⟩
    · have hr := Lib.hid (hgood.out v hv1)
      clear hcase hgood hbad hv1
      have hz := fileR_zero nm v
      obtain ⟨X, hX⟩ : ∃ X, fileR nm v = X := ⟨_, rfl⟩
      rw [hX] at hz ⊢
      obtain ⟨s1, e⟩ := X
      dsimp only at hz ⊢
      clear hX
      by_cases hx : e = 0
      · subst hx
        obtain ⟨z1, z2, z3⟩ := hz.1 rfl
        by_cases hy : s1 = f
        · subst hy
          have hr2 := Lib.hid (hr.out.trans (if_pos ⟨z1, z2, z3⟩))
          have hvn : Hid ((v.toNat : Int) = v) := by unfold Hid; unfold inN at z2; omega
          clear hr hz z1 z2 z3
          go_wp2_with fail
          refine bodyPost_ret (v := .tuple #[.int .i64 v, .bool true]) (by simp only [results, Tryz.results20]; go_simp) rfl ?_
          rw [hr2.out]
          exact ⟨by unfold numV; dsimp only; rw [hvn.out], hb3.out⟩
        · have hr2 := Lib.hid (hr.out.trans (if_neg (fun hh => hy (z3.trans hh.2.2.symm))))
          have hy2 := B_neq hy
          clear hr hz z1 z2 z3
          go_wp2_with fail
          refine bodyPost_ret (v := .tuple #[.int .i64 0, .bool false]) (by simp only [results, Tryz.results20]; go_simp) rfl ?_
          rw [hr2.out]
          exact ⟨rfl, hb3.out⟩
      · have hr2 := Lib.hid (hr.out.trans (if_neg (fun hh => hx (hz.2 ⟨hh.1, hh.2.1⟩))))
        have hx2 : (e != 0) = true := by rw [bne_iff_ne]; exact hx
        clear hr hz
        go_wp2_with fail
        refine bodyPost_ret (v := .tuple #[.int .i64 0, .bool false]) (by simp only [results, Tryz.results20]; go_simp) rfl ?_
        rw [hr2.out]
        exact ⟨rfl, hb3.out⟩
    · have hr := Lib.hid (hbad.out hv1)
      clear hcase hgood hbad hv1
      go_wp2_with fail
      refine bodyPost_ret (v := .tuple #[.int .i64 0, .bool false]) (by simp only [results, Tryz.results20]; go_simp) rfl ?_
      rw [hr.out]
      exact ⟨rfl, hb3.out⟩
end Go.Proofs.YtbafnlccpbonmaaGreatDoor
