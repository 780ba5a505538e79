/- lexer's laws: words and symbols (LexerWords). -/
import Derived.Test.YtmchiibbodllaaaGreatDoorWdA
import Derived.Test.YtmchiibbodllaaaGreatDoorTw
import Derived.Test.YtmchiibbodllaaaGreatDoorMm3
import Derived.Test.YtmchiibbodllaaaGreatDoorLKnown
import Derived.Laws.Cover1
namespace Go.Proofs.YtmchiibbodllaaaGreatDoor
set_option linter.unusedVariables false
set_option linter.unnecessarySimpa false
set_option linter.unusedSimpArgs false
open Go.RowKit Go.Sort

theorem sym_less : ∀ (i : Nat) (x y : List UInt8), symL[i]? = some x → symL[i + 1]? = some y → Op.bytesLess (B x).toList (B y).toList = true := by
  have h2 : ∀ i : Fin 24, Op.bytesLess ((symL[i.1]?).getD []) ((symL[i.1 + 1]?).getD []) = true := by decide
  intro i x y hx hy
  have : i + 1 < 25 := (List.getElem?_eq_some_iff.1 hy).1
  have := h2 ⟨i, by omega⟩
  rw [hx, hy] at this
  rw [ByteArray.toList_eq, ByteArray.toList_eq, B_list, B_list]
  exact this
theorem scanA_small {l : List UInt8} (h : l.length ≤ 1000) : scanA l = scanL l := by unfold scanA; rw [if_neg (by omega)]
section
variable {w : World}
set_option maxRecDepth 20000 in set_option maxHeartbeats 8000000 in
theorem lexerWords_w (hE : Env w) (S : ByteArray) : Calls Tryz.prog 10 #[.string S] w fun e w' => e = .returned (.bool true) ∧ Below w.heap.size w w' := by
  obtain ⟨k, hk⟩ : ∃ k, k = min S.size 100 := ⟨_, rfl⟩
  have hc := take_cut S 100 k hk
  obtain ⟨l, hl⟩ : ∃ l, S.data.toList.take 100 = l := ⟨_, rfl⟩
  have hll : l.length ≤ 100 := by rw [← hl, List.length_take]; omega
  rw [hl] at hc
  have hm : min (S.size : Int) 100 = (k : Int) := by omega
  have hk1 : (0 : Int) ≤ (k : Int) := by omega
  have hk2 : (k : Int) ≤ (S.size : Int) := by omega
  have hk3 : k ≤ S.size := by omega
  have HE := Lib.hid hE
  have TM := Lib.hid (tokens_m hE (B l))
  rw [B_list, scanA_small (by omega)] at TM
  have IW := Lib.hid (fun (wx : World) => isword_any (B l) (by rw [B_size]; omega) wx)
  have IS := Lib.hid (fun (wx : World) (hE : Env wx) => issym_any hE (B l))
  rw [B_list] at IW IS
  have SYM := Lib.hid (fun (wx : World) (hE : Env wx) (x : List UInt8) (hx : symB x = true) => hx ▸ issym_any hE (B x))
  have hbl : (B l).size = l.length := B_size l
  clear hE hk hl
  rcases hs : scanL l with ts | ⟨o, x⟩
  · by_cases h1 : ts.length = 1
    · obtain ⟨p, rfl⟩ : ∃ p, ts = [p] := by
        match ts, h1 with
        | [p], _ => exact ⟨p, rfl⟩
      have h0 : 1 ≤ l.length := by
        rcases Nat.lt_or_ge 0 l.length with h | h
        · exact h
        · rw [List.eq_nil_of_length_eq_zero (by omega : l.length = 0)] at hs
          rw [show scanL [] = .ok [] from rfl] at hs
          cases hs
      by_cases h2 : p.t.tx.length = l.length
      · obtain ⟨e1, e2⟩ := one_tok hs h2 h0
        rw [e1] at IW
        rw [e2] at IS
        rw [hs] at TM
        have hbt : (B p.t.tx).size = l.length := by rw [B_size]; exact h2
        obtain ⟨n, hn⟩ : ∃ n, l.length = n := ⟨_, rfl⟩
        rw [hn] at hbl hbt
        clear e1 e2 hs h1 h2 h0 hll hn
        by_cases k1 : p.t.k = 1
        · rw [k1] at IW IS
          simp only [show decide ((1 : Int) = 1) = true from rfl, show decide ((1 : Int) = 5) = false from rfl] at IW IS
          go_enter Tryz.func10, Tryz.ntmps10
          go_upto_region 2 with fail
          go_wp2_with fail
          go_at_call 13
          (with_reducible refine TM.out.mono ?_)
          rintro e1 w2 ⟨hb2, A2, c2, rfl, hown⟩
          rw [rowC_rwT] at hown
          have HT := Lib.hid (TksW.of_own hown)
          have HG := Lib.hid hb2
          replace HE := Lib.hid (HE.out.grow hb2)
          clear hown hb2 TM
          obtain ⟨g, off, hA2, hg, p0, -, -, p3, -⟩ := HT.out.at_ (j := 0) (t := tnOf l p) rfl
          subst hA2
          simp only [Nat.zero_mul, Nat.add_zero] at p0 p3
          replace p0 : _ = some (Value.int .i64 p.t.k) := p0
          replace p3 : _ = some (Value.string (B p.t.tx)) := p3
          go_wp2_with fail
          go_at_call 40
          (with_reducible refine (symbols_any HE.out).mono ?_)
          rintro e1 w3 ⟨A3, c3, rfl, hb3, hown3⟩
          have HS := Lib.hid (Sl.of_own1 hown3)
          replace HT := Lib.hid (HT.out.grow hb3)
          replace HG := Lib.hid (G.trans HG.out hb3)
          replace HE := Lib.hid (HE.out.grow hb3)
          clear hb3 hown3
          go_wp2_with fail
          go_at_call 14
          (with_reducible refine (known_any HE.out).mono ?_)
          rintro e1 w4 ⟨rfl, hb4⟩
          replace HS := Lib.hid (HS.out.grow hb4)
          replace HT := Lib.hid (HT.out.grow hb4)
          replace HG := Lib.hid (G.trans HG.out hb4)
          replace HE := Lib.hid (HE.out.grow hb4)
          clear hb4
          clear p0 p3 hg
          obtain ⟨g', off', hA2, hg, p0, -, -, p3, -⟩ := HT.out.at_ (j := 0) (t := tnOf l p) rfl
          cases hA2
          simp only [Nat.zero_mul, Nat.add_zero] at p0 p3
          replace p0 : _ = some (Value.int .i64 p.t.k) := p0
          replace p3 : _ = some (Value.string (B p.t.tx)) := p3
          go_wp2_with fail
          go_at_call 41
          (with_reducible refine (IW.out _).mono ?_)
          rintro e1 w5 ⟨rfl, hw5⟩
          obtain rfl := hw5.symm
          clear hw5
          go_wp2_with fail
          go_at_call 42
          (with_reducible refine (IS.out _ HE.out).mono ?_)
          rintro e1 w5 ⟨rfl, hw5⟩
          obtain rfl := hw5.symm
          clear hw5 IW IS
          go_wp2_with fail
          go_loopw [9] (fun iv wx => ∃ (i : Nat), i ≤ 25 ∧ iv = .int .i64 (i : Int) ∧ Hid (Below w4.heap.size w4 wx)) (fun iv _ => 25 - (intOf iv).toNat)
          case atStart => exact ⟨0, Nat.zero_le _, rfl, Lib.hid (G.refl _)⟩
          case round =>
            obtain ⟨i, hi, rfl, HL⟩ := hrel
            have hw2 : IntKind.i64.wrap ((i : Int) + 1) = ((i + 1 : Nat) : Int) := by rw [IntWalk.i64_in _ (by omega)]; omega
            by_cases hlt : i < 25
            · have l1 : (i : Int) < 25 := by omega
              obtain ⟨g3, off3, rfl, hg3, hcs⟩ := (HS.out.grow HL.out).2 (by decide)
              obtain ⟨x, hx⟩ : ∃ x, symL[i]? = some x := ⟨_, List.getElem?_eq_getElem hlt⟩
              have q1 : wr.cell? ⟨g3, off3 + i, none⟩ = some (.string (B x)) := hcs i _ (by rw [List.getElem?_map, hx]; rfl)
              have SY := Lib.hid (fun (wx : World) (hE : Env wx) => SYM.out wx hE x (symL_sym i x hx))
              have HE5 := Lib.hid (HE.out.grow HL.out)
              by_cases hi0 : i = 0
              · subst hi0
                rw [Nat.add_zero] at q1
                clear hcs hx
                go_upto_region 10 with fail
                refine wp_region_ord [(0, 1), (1, 1), (2, 1), (3, 1), (4, 2), (5, 1), (6, 1), (7, 1), (8, 1), (9, 1), (10, 1), (11, 1), (12, 1), (13, 1), (14, 1), (15, 1), (16, 1), (17, 1), (18, 1), (19, 1), (20, 1), (21, 1)] [] 5 (by kernel_rfl) (by decide +kernel) ?_
                simp only [pickO, List.append_eq, List.cons_append, List.nil_append, List.getElem?_cons_succ, List.getElem?_cons_zero]
                intro w0 hG
                (repeat ((first | (with_reducible refine ord_q1 ?_) | (with_reducible refine ord_q0 ?_)); intro K hK; first | (refine Or.inr ⟨?_, ?_⟩; (focus (go_simp; first | done | (simp [undef]; done))); go_simp; (with_reducible refine hK _ ?_); clear hK K) | (refine Or.inl ⟨?_, ?_⟩; (focus (go_simp; done)); apply Exists.intro; refine And.intro ?_ ?_; (focus (first | (intro wq hq; obtain ⟨hcq, hfq⟩ := G.old hq; go_simp; (first | done | exact rfl); done) | (intro wq; go_simp; (first | done | exact rfl); done))); go_simp; (with_reducible refine hK _ ?_); clear hK K) | fail))
                (with_reducible refine ord_run ?_ hG)
                intro K hK
                go_simp
                go_at_call 42; (refine (SY.out _ (HE5.out.grow hG.b)).mono ?_); rintro e w6 ⟨rfl, hw6⟩; have hb6 : Below w6.heap.size w6 w6 := G.refl _; obtain rfl := hw6.symm
                replace hG := Grew.trans hG hb6
                (try dsimp only)
                (with_reducible refine hK _ _ hG ?_)
                clear hK K
                (repeat ((first | (with_reducible refine ord_q1 ?_) | (with_reducible refine ord_q0 ?_)); intro K hK; first | (refine Or.inr ⟨?_, ?_⟩; (focus (go_simp; first | done | (simp [undef]; done))); go_simp; (with_reducible refine hK _ ?_); clear hK K) | (refine Or.inl ⟨?_, ?_⟩; (focus (go_simp; done)); apply Exists.intro; refine And.intro ?_ ?_; (focus (first | (intro wq hq; obtain ⟨hcq, hfq⟩ := G.old hq; go_simp; (first | done | exact rfl); done) | (intro wq; go_simp; (first | done | exact rfl); done))); go_simp; (with_reducible refine hK _ ?_); clear hK K) | fail))
                (with_reducible refine ord_nil ?_)
                replace HL := Lib.hid (G.trans HL.out hG.b)
                go_wp2_with fail
                go_roundw
                case rel => exact ⟨1, by omega, by go_num, HL⟩
                case measure => (simp [intOf] <;> omega)
              · obtain ⟨j, rfl⟩ : ∃ j, i = j + 1 := ⟨i - 1, by omega⟩
                have l2 : (0 : Int) < ((j + 1 : Nat) : Int) := by omega
                have hwj : IntKind.i64.wrap (((j + 1 : Nat) : Int) - 1) = (j : Int) := by rw [IntWalk.i64_in _ (by omega)]; omega
                have hwj2 : IntKind.i64.wrap (j : Int) = (j : Int) := by rw [IntWalk.i64_in _ (by omega)]
                have hj25 : (j : Int) < 25 := by omega
                obtain ⟨y, hy⟩ : ∃ y, symL[j]? = some y := ⟨_, List.getElem?_eq_getElem (by have := symL_len; omega)⟩
                have q2 : wr.cell? ⟨g3, off3 + j, none⟩ = some (.string (B y)) := hcs j _ (by rw [List.getElem?_map, hy]; rfl)
                have kL := sym_less j y x hy hx
                clear hcs hx hy
                go_upto_region 10 with fail
                refine wp_region_ord [(0, 1), (1, 1), (2, 1), (3, 1), (4, 2), (5, 1), (6, 1), (7, 1), (8, 1), (9, 1), (10, 1), (11, 1), (12, 1), (13, 1), (14, 1), (15, 1), (16, 1), (17, 1), (18, 1), (19, 1), (20, 1), (21, 1)] [] 5 (by kernel_rfl) (by decide +kernel) ?_
                simp only [pickO, List.append_eq, List.cons_append, List.nil_append, List.getElem?_cons_succ, List.getElem?_cons_zero]
                intro w0 hG
                (repeat ((first | (with_reducible refine ord_q1 ?_) | (with_reducible refine ord_q0 ?_)); intro K hK; first | (refine Or.inr ⟨?_, ?_⟩; (focus (go_simp; first | done | (simp [undef]; done))); go_simp; (with_reducible refine hK _ ?_); clear hK K) | (refine Or.inl ⟨?_, ?_⟩; (focus (go_simp; done)); apply Exists.intro; refine And.intro ?_ ?_; (focus (first | (intro wq hq; obtain ⟨hcq, hfq⟩ := G.old hq; go_simp; (first | done | exact rfl); done) | (intro wq; go_simp; (first | done | exact rfl); done))); go_simp; (with_reducible refine hK _ ?_); clear hK K) | fail))
                (with_reducible refine ord_run ?_ hG)
                intro K hK
                go_simp
                go_at_call 42; (refine (SY.out _ (HE5.out.grow hG.b)).mono ?_); rintro e w6 ⟨rfl, hw6⟩; have hb6 : Below w6.heap.size w6 w6 := G.refl _; obtain rfl := hw6.symm
                replace hG := Grew.trans hG hb6
                (try dsimp only)
                (with_reducible refine hK _ _ hG ?_)
                clear hK K
                (repeat ((first | (with_reducible refine ord_q1 ?_) | (with_reducible refine ord_q0 ?_)); intro K hK; first | (refine Or.inr ⟨?_, ?_⟩; (focus (go_simp; first | done | (simp [undef]; done))); go_simp; (with_reducible refine hK _ ?_); clear hK K) | (refine Or.inl ⟨?_, ?_⟩; (focus (go_simp; done)); apply Exists.intro; refine And.intro ?_ ?_; (focus (first | (intro wq hq; obtain ⟨hcq, hfq⟩ := G.old hq; go_simp; (first | done | exact rfl); done) | (intro wq; go_simp; (first | done | exact rfl); done))); go_simp; (with_reducible refine hK _ ?_); clear hK K) | fail))
                (with_reducible refine ord_nil ?_)
                replace HL := Lib.hid (G.trans HL.out hG.b)
                go_wp2_with fail
                go_roundw
                case rel => exact ⟨j + 1 + 1, by omega, by go_num, HL⟩
                case measure => (simp [intOf] <;> omega)
            · have l1 : ¬ (i : Int) < 25 := by omega
              go_wp2_with fail
              go_ret
              exact ⟨rfl, G.trans HG.out HL.out⟩
        · by_cases k5 : p.t.k = 5
          · rw [k5] at IW IS
            simp only [show decide ((5 : Int) = 5) = true from rfl, show decide ((5 : Int) = 1) = false from rfl] at IW IS
            go_enter Tryz.func10, Tryz.ntmps10
            go_upto_region 2 with fail
            go_wp2_with fail
            go_at_call 13
            (with_reducible refine TM.out.mono ?_)
            rintro e1 w2 ⟨hb2, A2, c2, rfl, hown⟩
            rw [rowC_rwT] at hown
            have HT := Lib.hid (TksW.of_own hown)
            have HG := Lib.hid hb2
            replace HE := Lib.hid (HE.out.grow hb2)
            clear hown hb2 TM
            obtain ⟨g, off, hA2, hg, p0, -, -, p3, -⟩ := HT.out.at_ (j := 0) (t := tnOf l p) rfl
            subst hA2
            simp only [Nat.zero_mul, Nat.add_zero] at p0 p3
            replace p0 : _ = some (Value.int .i64 p.t.k) := p0
            replace p3 : _ = some (Value.string (B p.t.tx)) := p3
            go_wp2_with fail
            go_at_call 40
            (with_reducible refine (symbols_any HE.out).mono ?_)
            rintro e1 w3 ⟨A3, c3, rfl, hb3, hown3⟩
            have HS := Lib.hid (Sl.of_own1 hown3)
            replace HT := Lib.hid (HT.out.grow hb3)
            replace HG := Lib.hid (G.trans HG.out hb3)
            replace HE := Lib.hid (HE.out.grow hb3)
            clear hb3 hown3
            go_wp2_with fail
            go_at_call 14
            (with_reducible refine (known_any HE.out).mono ?_)
            rintro e1 w4 ⟨rfl, hb4⟩
            replace HS := Lib.hid (HS.out.grow hb4)
            replace HT := Lib.hid (HT.out.grow hb4)
            replace HG := Lib.hid (G.trans HG.out hb4)
            replace HE := Lib.hid (HE.out.grow hb4)
            clear hb4
            clear p0 p3 hg
            obtain ⟨g', off', hA2, hg, p0, -, -, p3, -⟩ := HT.out.at_ (j := 0) (t := tnOf l p) rfl
            cases hA2
            simp only [Nat.zero_mul, Nat.add_zero] at p0 p3
            replace p0 : _ = some (Value.int .i64 p.t.k) := p0
            replace p3 : _ = some (Value.string (B p.t.tx)) := p3
            go_wp2_with fail
            go_at_call 41
            (with_reducible refine (IW.out _).mono ?_)
            rintro e1 w5 ⟨rfl, hw5⟩
            obtain rfl := hw5.symm
            clear hw5
            go_wp2_with fail
            go_at_call 42
            (with_reducible refine (IS.out _ HE.out).mono ?_)
            rintro e1 w5 ⟨rfl, hw5⟩
            obtain rfl := hw5.symm
            clear hw5 IW IS
            go_wp2_with fail
            go_loopw [9] (fun iv wx => ∃ (i : Nat), i ≤ 25 ∧ iv = .int .i64 (i : Int) ∧ Hid (Below w4.heap.size w4 wx)) (fun iv _ => 25 - (intOf iv).toNat)
            case atStart => exact ⟨0, Nat.zero_le _, rfl, Lib.hid (G.refl _)⟩
            case round =>
              obtain ⟨i, hi, rfl, HL⟩ := hrel
              have hw2 : IntKind.i64.wrap ((i : Int) + 1) = ((i + 1 : Nat) : Int) := by rw [IntWalk.i64_in _ (by omega)]; omega
              by_cases hlt : i < 25
              · have l1 : (i : Int) < 25 := by omega
                obtain ⟨g3, off3, rfl, hg3, hcs⟩ := (HS.out.grow HL.out).2 (by decide)
                obtain ⟨x, hx⟩ : ∃ x, symL[i]? = some x := ⟨_, List.getElem?_eq_getElem hlt⟩
                have q1 : wr.cell? ⟨g3, off3 + i, none⟩ = some (.string (B x)) := hcs i _ (by rw [List.getElem?_map, hx]; rfl)
                have SY := Lib.hid (fun (wx : World) (hE : Env wx) => SYM.out wx hE x (symL_sym i x hx))
                have HE5 := Lib.hid (HE.out.grow HL.out)
                by_cases hi0 : i = 0
                · subst hi0
                  rw [Nat.add_zero] at q1
                  clear hcs hx
                  go_upto_region 10 with fail
                  refine wp_region_ord [(0, 1), (1, 1), (2, 1), (3, 1), (4, 2), (5, 1), (6, 1), (7, 1), (8, 1), (9, 1), (10, 1), (11, 1), (12, 1), (13, 1), (14, 1), (15, 1), (16, 1), (17, 1), (18, 1), (19, 1), (20, 1), (21, 1)] [] 5 (by kernel_rfl) (by decide +kernel) ?_
                  simp only [pickO, List.append_eq, List.cons_append, List.nil_append, List.getElem?_cons_succ, List.getElem?_cons_zero]
                  intro w0 hG
                  (repeat ((first | (with_reducible refine ord_q1 ?_) | (with_reducible refine ord_q0 ?_)); intro K hK; first | (refine Or.inr ⟨?_, ?_⟩; (focus (go_simp; first | done | (simp [undef]; done))); go_simp; (with_reducible refine hK _ ?_); clear hK K) | (refine Or.inl ⟨?_, ?_⟩; (focus (go_simp; done)); apply Exists.intro; refine And.intro ?_ ?_; (focus (first | (intro wq hq; obtain ⟨hcq, hfq⟩ := G.old hq; go_simp; (first | done | exact rfl); done) | (intro wq; go_simp; (first | done | exact rfl); done))); go_simp; (with_reducible refine hK _ ?_); clear hK K) | fail))
                  (with_reducible refine ord_run ?_ hG)
                  intro K hK
                  go_simp
                  go_at_call 42; (refine (SY.out _ (HE5.out.grow hG.b)).mono ?_); rintro e w6 ⟨rfl, hw6⟩; have hb6 : Below w6.heap.size w6 w6 := G.refl _; obtain rfl := hw6.symm
                  replace hG := Grew.trans hG hb6
                  (try dsimp only)
                  (with_reducible refine hK _ _ hG ?_)
                  clear hK K
                  (repeat ((first | (with_reducible refine ord_q1 ?_) | (with_reducible refine ord_q0 ?_)); intro K hK; first | (refine Or.inr ⟨?_, ?_⟩; (focus (go_simp; first | done | (simp [undef]; done))); go_simp; (with_reducible refine hK _ ?_); clear hK K) | (refine Or.inl ⟨?_, ?_⟩; (focus (go_simp; done)); apply Exists.intro; refine And.intro ?_ ?_; (focus (first | (intro wq hq; obtain ⟨hcq, hfq⟩ := G.old hq; go_simp; (first | done | exact rfl); done) | (intro wq; go_simp; (first | done | exact rfl); done))); go_simp; (with_reducible refine hK _ ?_); clear hK K) | fail))
                  (with_reducible refine ord_nil ?_)
                  replace HL := Lib.hid (G.trans HL.out hG.b)
                  go_wp2_with fail
                  go_roundw
                  case rel => exact ⟨1, by omega, by go_num, HL⟩
                  case measure => (simp [intOf] <;> omega)
                · obtain ⟨j, rfl⟩ : ∃ j, i = j + 1 := ⟨i - 1, by omega⟩
                  have l2 : (0 : Int) < ((j + 1 : Nat) : Int) := by omega
                  have hwj : IntKind.i64.wrap (((j + 1 : Nat) : Int) - 1) = (j : Int) := by rw [IntWalk.i64_in _ (by omega)]; omega
                  have hwj2 : IntKind.i64.wrap (j : Int) = (j : Int) := by rw [IntWalk.i64_in _ (by omega)]
                  have hj25 : (j : Int) < 25 := by omega
                  obtain ⟨y, hy⟩ : ∃ y, symL[j]? = some y := ⟨_, List.getElem?_eq_getElem (by have := symL_len; omega)⟩
                  have q2 : wr.cell? ⟨g3, off3 + j, none⟩ = some (.string (B y)) := hcs j _ (by rw [List.getElem?_map, hy]; rfl)
                  have kL := sym_less j y x hy hx
                  clear hcs hx hy
                  go_upto_region 10 with fail
                  refine wp_region_ord [(0, 1), (1, 1), (2, 1), (3, 1), (4, 2), (5, 1), (6, 1), (7, 1), (8, 1), (9, 1), (10, 1), (11, 1), (12, 1), (13, 1), (14, 1), (15, 1), (16, 1), (17, 1), (18, 1), (19, 1), (20, 1), (21, 1)] [] 5 (by kernel_rfl) (by decide +kernel) ?_
                  simp only [pickO, List.append_eq, List.cons_append, List.nil_append, List.getElem?_cons_succ, List.getElem?_cons_zero]
                  intro w0 hG
                  (repeat ((first | (with_reducible refine ord_q1 ?_) | (with_reducible refine ord_q0 ?_)); intro K hK; first | (refine Or.inr ⟨?_, ?_⟩; (focus (go_simp; first | done | (simp [undef]; done))); go_simp; (with_reducible refine hK _ ?_); clear hK K) | (refine Or.inl ⟨?_, ?_⟩; (focus (go_simp; done)); apply Exists.intro; refine And.intro ?_ ?_; (focus (first | (intro wq hq; obtain ⟨hcq, hfq⟩ := G.old hq; go_simp; (first | done | exact rfl); done) | (intro wq; go_simp; (first | done | exact rfl); done))); go_simp; (with_reducible refine hK _ ?_); clear hK K) | fail))
                  (with_reducible refine ord_run ?_ hG)
                  intro K hK
                  go_simp
                  go_at_call 42; (refine (SY.out _ (HE5.out.grow hG.b)).mono ?_); rintro e w6 ⟨rfl, hw6⟩; have hb6 : Below w6.heap.size w6 w6 := G.refl _; obtain rfl := hw6.symm
                  replace hG := Grew.trans hG hb6
                  (try dsimp only)
                  (with_reducible refine hK _ _ hG ?_)
                  clear hK K
                  (repeat ((first | (with_reducible refine ord_q1 ?_) | (with_reducible refine ord_q0 ?_)); intro K hK; first | (refine Or.inr ⟨?_, ?_⟩; (focus (go_simp; first | done | (simp [undef]; done))); go_simp; (with_reducible refine hK _ ?_); clear hK K) | (refine Or.inl ⟨?_, ?_⟩; (focus (go_simp; done)); apply Exists.intro; refine And.intro ?_ ?_; (focus (first | (intro wq hq; obtain ⟨hcq, hfq⟩ := G.old hq; go_simp; (first | done | exact rfl); done) | (intro wq; go_simp; (first | done | exact rfl); done))); go_simp; (with_reducible refine hK _ ?_); clear hK K) | fail))
                  (with_reducible refine ord_nil ?_)
                  replace HL := Lib.hid (G.trans HL.out hG.b)
                  go_wp2_with fail
                  go_roundw
                  case rel => exact ⟨j + 1 + 1, by omega, by go_num, HL⟩
                  case measure => (simp [intOf] <;> omega)
              · have l1 : ¬ (i : Int) < 25 := by omega
                go_wp2_with fail
                go_ret
                exact ⟨rfl, G.trans HG.out HL.out⟩
          · rw [decide_eq_false k1] at IW
            rw [decide_eq_false k5] at IS
            have kb1 : (p.t.k == 1) = false := by simpa using k1
            have kb5 : (p.t.k == 5) = false := by simpa using k5
            go_enter Tryz.func10, Tryz.ntmps10
            go_upto_region 2 with fail
            go_wp2_with fail
            go_at_call 13
            (with_reducible refine TM.out.mono ?_)
            rintro e1 w2 ⟨hb2, A2, c2, rfl, hown⟩
            rw [rowC_rwT] at hown
            have HT := Lib.hid (TksW.of_own hown)
            have HG := Lib.hid hb2
            replace HE := Lib.hid (HE.out.grow hb2)
            clear hown hb2 TM
            obtain ⟨g, off, hA2, hg, p0, -, -, p3, -⟩ := HT.out.at_ (j := 0) (t := tnOf l p) rfl
            subst hA2
            simp only [Nat.zero_mul, Nat.add_zero] at p0 p3
            replace p0 : _ = some (Value.int .i64 p.t.k) := p0
            replace p3 : _ = some (Value.string (B p.t.tx)) := p3
            go_wp2_with fail
            go_at_call 40
            (with_reducible refine (symbols_any HE.out).mono ?_)
            rintro e1 w3 ⟨A3, c3, rfl, hb3, hown3⟩
            have HS := Lib.hid (Sl.of_own1 hown3)
            replace HT := Lib.hid (HT.out.grow hb3)
            replace HG := Lib.hid (G.trans HG.out hb3)
            replace HE := Lib.hid (HE.out.grow hb3)
            clear hb3 hown3
            go_wp2_with fail
            go_at_call 14
            (with_reducible refine (known_any HE.out).mono ?_)
            rintro e1 w4 ⟨rfl, hb4⟩
            replace HS := Lib.hid (HS.out.grow hb4)
            replace HT := Lib.hid (HT.out.grow hb4)
            replace HG := Lib.hid (G.trans HG.out hb4)
            replace HE := Lib.hid (HE.out.grow hb4)
            clear hb4
            clear p0 p3 hg
            obtain ⟨g', off', hA2, hg, p0, -, -, p3, -⟩ := HT.out.at_ (j := 0) (t := tnOf l p) rfl
            cases hA2
            simp only [Nat.zero_mul, Nat.add_zero] at p0 p3
            replace p0 : _ = some (Value.int .i64 p.t.k) := p0
            replace p3 : _ = some (Value.string (B p.t.tx)) := p3
            go_wp2_with fail
            go_at_call 41
            (with_reducible refine (IW.out _).mono ?_)
            rintro e1 w5 ⟨rfl, hw5⟩
            obtain rfl := hw5.symm
            clear hw5
            go_wp2_with fail
            go_at_call 42
            (with_reducible refine (IS.out _ HE.out).mono ?_)
            rintro e1 w5 ⟨rfl, hw5⟩
            obtain rfl := hw5.symm
            clear hw5 IW IS
            go_wp2_with fail
            go_loopw [9] (fun iv wx => ∃ (i : Nat), i ≤ 25 ∧ iv = .int .i64 (i : Int) ∧ Hid (Below w4.heap.size w4 wx)) (fun iv _ => 25 - (intOf iv).toNat)
            case atStart => exact ⟨0, Nat.zero_le _, rfl, Lib.hid (G.refl _)⟩
            case round =>
              obtain ⟨i, hi, rfl, HL⟩ := hrel
              have hw2 : IntKind.i64.wrap ((i : Int) + 1) = ((i + 1 : Nat) : Int) := by rw [IntWalk.i64_in _ (by omega)]; omega
              by_cases hlt : i < 25
              · have l1 : (i : Int) < 25 := by omega
                obtain ⟨g3, off3, rfl, hg3, hcs⟩ := (HS.out.grow HL.out).2 (by decide)
                obtain ⟨x, hx⟩ : ∃ x, symL[i]? = some x := ⟨_, List.getElem?_eq_getElem hlt⟩
                have q1 : wr.cell? ⟨g3, off3 + i, none⟩ = some (.string (B x)) := hcs i _ (by rw [List.getElem?_map, hx]; rfl)
                have SY := Lib.hid (fun (wx : World) (hE : Env wx) => SYM.out wx hE x (symL_sym i x hx))
                have HE5 := Lib.hid (HE.out.grow HL.out)
                by_cases hi0 : i = 0
                · subst hi0
                  rw [Nat.add_zero] at q1
                  clear hcs hx
                  go_upto_region 10 with fail
                  refine wp_region_ord [(0, 1), (1, 1), (2, 1), (3, 1), (4, 2), (5, 1), (6, 1), (7, 1), (8, 1), (9, 1), (10, 1), (11, 1), (12, 1), (13, 1), (14, 1), (15, 1), (16, 1), (17, 1), (18, 1), (19, 1), (20, 1), (21, 1)] [] 5 (by kernel_rfl) (by decide +kernel) ?_
                  simp only [pickO, List.append_eq, List.cons_append, List.nil_append, List.getElem?_cons_succ, List.getElem?_cons_zero]
                  intro w0 hG
                  (repeat ((first | (with_reducible refine ord_q1 ?_) | (with_reducible refine ord_q0 ?_)); intro K hK; first | (refine Or.inr ⟨?_, ?_⟩; (focus (go_simp; first | done | (simp [undef]; done))); go_simp; (with_reducible refine hK _ ?_); clear hK K) | (refine Or.inl ⟨?_, ?_⟩; (focus (go_simp; done)); apply Exists.intro; refine And.intro ?_ ?_; (focus (first | (intro wq hq; obtain ⟨hcq, hfq⟩ := G.old hq; go_simp; (first | done | exact rfl); done) | (intro wq; go_simp; (first | done | exact rfl); done))); go_simp; (with_reducible refine hK _ ?_); clear hK K) | fail))
                  (with_reducible refine ord_run ?_ hG)
                  intro K hK
                  go_simp
                  go_at_call 42; (refine (SY.out _ (HE5.out.grow hG.b)).mono ?_); rintro e w6 ⟨rfl, hw6⟩; have hb6 : Below w6.heap.size w6 w6 := G.refl _; obtain rfl := hw6.symm
                  replace hG := Grew.trans hG hb6
                  (try dsimp only)
                  (with_reducible refine hK _ _ hG ?_)
                  clear hK K
                  (repeat ((first | (with_reducible refine ord_q1 ?_) | (with_reducible refine ord_q0 ?_)); intro K hK; first | (refine Or.inr ⟨?_, ?_⟩; (focus (go_simp; first | done | (simp [undef]; done))); go_simp; (with_reducible refine hK _ ?_); clear hK K) | (refine Or.inl ⟨?_, ?_⟩; (focus (go_simp; done)); apply Exists.intro; refine And.intro ?_ ?_; (focus (first | (intro wq hq; obtain ⟨hcq, hfq⟩ := G.old hq; go_simp; (first | done | exact rfl); done) | (intro wq; go_simp; (first | done | exact rfl); done))); go_simp; (with_reducible refine hK _ ?_); clear hK K) | fail))
                  (with_reducible refine ord_nil ?_)
                  replace HL := Lib.hid (G.trans HL.out hG.b)
                  go_wp2_with fail
                  go_roundw
                  case rel => exact ⟨1, by omega, by go_num, HL⟩
                  case measure => (simp [intOf] <;> omega)
                · obtain ⟨j, rfl⟩ : ∃ j, i = j + 1 := ⟨i - 1, by omega⟩
                  have l2 : (0 : Int) < ((j + 1 : Nat) : Int) := by omega
                  have hwj : IntKind.i64.wrap (((j + 1 : Nat) : Int) - 1) = (j : Int) := by rw [IntWalk.i64_in _ (by omega)]; omega
                  have hwj2 : IntKind.i64.wrap (j : Int) = (j : Int) := by rw [IntWalk.i64_in _ (by omega)]
                  have hj25 : (j : Int) < 25 := by omega
                  obtain ⟨y, hy⟩ : ∃ y, symL[j]? = some y := ⟨_, List.getElem?_eq_getElem (by have := symL_len; omega)⟩
                  have q2 : wr.cell? ⟨g3, off3 + j, none⟩ = some (.string (B y)) := hcs j _ (by rw [List.getElem?_map, hy]; rfl)
                  have kL := sym_less j y x hy hx
                  clear hcs hx hy
                  go_upto_region 10 with fail
                  refine wp_region_ord [(0, 1), (1, 1), (2, 1), (3, 1), (4, 2), (5, 1), (6, 1), (7, 1), (8, 1), (9, 1), (10, 1), (11, 1), (12, 1), (13, 1), (14, 1), (15, 1), (16, 1), (17, 1), (18, 1), (19, 1), (20, 1), (21, 1)] [] 5 (by kernel_rfl) (by decide +kernel) ?_
                  simp only [pickO, List.append_eq, List.cons_append, List.nil_append, List.getElem?_cons_succ, List.getElem?_cons_zero]
                  intro w0 hG
                  (repeat ((first | (with_reducible refine ord_q1 ?_) | (with_reducible refine ord_q0 ?_)); intro K hK; first | (refine Or.inr ⟨?_, ?_⟩; (focus (go_simp; first | done | (simp [undef]; done))); go_simp; (with_reducible refine hK _ ?_); clear hK K) | (refine Or.inl ⟨?_, ?_⟩; (focus (go_simp; done)); apply Exists.intro; refine And.intro ?_ ?_; (focus (first | (intro wq hq; obtain ⟨hcq, hfq⟩ := G.old hq; go_simp; (first | done | exact rfl); done) | (intro wq; go_simp; (first | done | exact rfl); done))); go_simp; (with_reducible refine hK _ ?_); clear hK K) | fail))
                  (with_reducible refine ord_run ?_ hG)
                  intro K hK
                  go_simp
                  go_at_call 42; (refine (SY.out _ (HE5.out.grow hG.b)).mono ?_); rintro e w6 ⟨rfl, hw6⟩; have hb6 : Below w6.heap.size w6 w6 := G.refl _; obtain rfl := hw6.symm
                  replace hG := Grew.trans hG hb6
                  (try dsimp only)
                  (with_reducible refine hK _ _ hG ?_)
                  clear hK K
                  (repeat ((first | (with_reducible refine ord_q1 ?_) | (with_reducible refine ord_q0 ?_)); intro K hK; first | (refine Or.inr ⟨?_, ?_⟩; (focus (go_simp; first | done | (simp [undef]; done))); go_simp; (with_reducible refine hK _ ?_); clear hK K) | (refine Or.inl ⟨?_, ?_⟩; (focus (go_simp; done)); apply Exists.intro; refine And.intro ?_ ?_; (focus (first | (intro wq hq; obtain ⟨hcq, hfq⟩ := G.old hq; go_simp; (first | done | exact rfl); done) | (intro wq; go_simp; (first | done | exact rfl); done))); go_simp; (with_reducible refine hK _ ?_); clear hK K) | fail))
                  (with_reducible refine ord_nil ?_)
                  replace HL := Lib.hid (G.trans HL.out hG.b)
                  go_wp2_with fail
                  go_roundw
                  case rel => exact ⟨j + 1 + 1, by omega, by go_num, HL⟩
                  case measure => (simp [intOf] <;> omega)
              · have l1 : ¬ (i : Int) < 25 := by omega
                go_wp2_with fail
                go_ret
                exact ⟨rfl, G.trans HG.out HL.out⟩
      · obtain ⟨e1, e2⟩ := no_tok (l := l) (fun q hq => by rw [hs] at hq; cases hq; exact h2)
        rw [e1] at IW
        rw [e2] at IS
        rw [hs] at TM
        have hbt : ¬ ((B p.t.tx).size : Int) = (l.length : Int) := by rw [B_size]; omega
        obtain ⟨n, hn⟩ : ∃ n, l.length = n := ⟨_, rfl⟩
        rw [hn] at hbl hbt
        clear e1 e2 hs h1 h2 h0 hll hn
        go_enter Tryz.func10, Tryz.ntmps10
        go_upto_region 2 with fail
        go_wp2_with fail
        go_at_call 13
        (with_reducible refine TM.out.mono ?_)
        rintro e1 w2 ⟨hb2, A2, c2, rfl, hown⟩
        rw [rowC_rwT] at hown
        have HT := Lib.hid (TksW.of_own hown)
        have HG := Lib.hid hb2
        replace HE := Lib.hid (HE.out.grow hb2)
        clear hown hb2 TM
        obtain ⟨g, off, hA2, hg, p0, -, -, p3, -⟩ := HT.out.at_ (j := 0) (t := tnOf l p) rfl
        subst hA2
        simp only [Nat.zero_mul, Nat.add_zero] at p0 p3
        replace p0 : _ = some (Value.int .i64 p.t.k) := p0
        replace p3 : _ = some (Value.string (B p.t.tx)) := p3
        go_wp2_with fail
        go_at_call 40
        (with_reducible refine (symbols_any HE.out).mono ?_)
        rintro e1 w3 ⟨A3, c3, rfl, hb3, hown3⟩
        have HS := Lib.hid (Sl.of_own1 hown3)
        replace HT := Lib.hid (HT.out.grow hb3)
        replace HG := Lib.hid (G.trans HG.out hb3)
        replace HE := Lib.hid (HE.out.grow hb3)
        clear hb3 hown3
        go_wp2_with fail
        go_at_call 14
        (with_reducible refine (known_any HE.out).mono ?_)
        rintro e1 w4 ⟨rfl, hb4⟩
        replace HS := Lib.hid (HS.out.grow hb4)
        replace HT := Lib.hid (HT.out.grow hb4)
        replace HG := Lib.hid (G.trans HG.out hb4)
        replace HE := Lib.hid (HE.out.grow hb4)
        clear hb4
        clear p0 p3 hg
        obtain ⟨g', off', hA2, hg, p0, -, -, p3, -⟩ := HT.out.at_ (j := 0) (t := tnOf l p) rfl
        cases hA2
        simp only [Nat.zero_mul, Nat.add_zero] at p0 p3
        replace p0 : _ = some (Value.int .i64 p.t.k) := p0
        replace p3 : _ = some (Value.string (B p.t.tx)) := p3
        go_wp2_with fail
        go_at_call 41
        (with_reducible refine (IW.out _).mono ?_)
        rintro e1 w5 ⟨rfl, hw5⟩
        obtain rfl := hw5.symm
        clear hw5
        go_wp2_with fail
        go_at_call 42
        (with_reducible refine (IS.out _ HE.out).mono ?_)
        rintro e1 w5 ⟨rfl, hw5⟩
        obtain rfl := hw5.symm
        clear hw5 IW IS
        go_wp2_with fail
        go_loopw [9] (fun iv wx => ∃ (i : Nat), i ≤ 25 ∧ iv = .int .i64 (i : Int) ∧ Hid (Below w4.heap.size w4 wx)) (fun iv _ => 25 - (intOf iv).toNat)
        case atStart => exact ⟨0, Nat.zero_le _, rfl, Lib.hid (G.refl _)⟩
        case round =>
          obtain ⟨i, hi, rfl, HL⟩ := hrel
          have hw2 : IntKind.i64.wrap ((i : Int) + 1) = ((i + 1 : Nat) : Int) := by rw [IntWalk.i64_in _ (by omega)]; omega
          by_cases hlt : i < 25
          · have l1 : (i : Int) < 25 := by omega
            obtain ⟨g3, off3, rfl, hg3, hcs⟩ := (HS.out.grow HL.out).2 (by decide)
            obtain ⟨x, hx⟩ : ∃ x, symL[i]? = some x := ⟨_, List.getElem?_eq_getElem hlt⟩
            have q1 : wr.cell? ⟨g3, off3 + i, none⟩ = some (.string (B x)) := hcs i _ (by rw [List.getElem?_map, hx]; rfl)
            have SY := Lib.hid (fun (wx : World) (hE : Env wx) => SYM.out wx hE x (symL_sym i x hx))
            have HE5 := Lib.hid (HE.out.grow HL.out)
            by_cases hi0 : i = 0
            · subst hi0
              rw [Nat.add_zero] at q1
              clear hcs hx
              go_upto_region 10 with fail
              refine wp_region_ord [(0, 1), (1, 1), (2, 1), (3, 1), (4, 2), (5, 1), (6, 1), (7, 1), (8, 1), (9, 1), (10, 1), (11, 1), (12, 1), (13, 1), (14, 1), (15, 1), (16, 1), (17, 1), (18, 1), (19, 1), (20, 1), (21, 1)] [] 5 (by kernel_rfl) (by decide +kernel) ?_
              simp only [pickO, List.append_eq, List.cons_append, List.nil_append, List.getElem?_cons_succ, List.getElem?_cons_zero]
              intro w0 hG
              (repeat ((first | (with_reducible refine ord_q1 ?_) | (with_reducible refine ord_q0 ?_)); intro K hK; first | (refine Or.inr ⟨?_, ?_⟩; (focus (go_simp; first | done | (simp [undef]; done))); go_simp; (with_reducible refine hK _ ?_); clear hK K) | (refine Or.inl ⟨?_, ?_⟩; (focus (go_simp; done)); apply Exists.intro; refine And.intro ?_ ?_; (focus (first | (intro wq hq; obtain ⟨hcq, hfq⟩ := G.old hq; go_simp; (first | done | exact rfl); done) | (intro wq; go_simp; (first | done | exact rfl); done))); go_simp; (with_reducible refine hK _ ?_); clear hK K) | fail))
              (with_reducible refine ord_run ?_ hG)
              intro K hK
              go_simp
              go_at_call 42; (refine (SY.out _ (HE5.out.grow hG.b)).mono ?_); rintro e w6 ⟨rfl, hw6⟩; have hb6 : Below w6.heap.size w6 w6 := G.refl _; obtain rfl := hw6.symm
              replace hG := Grew.trans hG hb6
              (try dsimp only)
              (with_reducible refine hK _ _ hG ?_)
              clear hK K
              (repeat ((first | (with_reducible refine ord_q1 ?_) | (with_reducible refine ord_q0 ?_)); intro K hK; first | (refine Or.inr ⟨?_, ?_⟩; (focus (go_simp; first | done | (simp [undef]; done))); go_simp; (with_reducible refine hK _ ?_); clear hK K) | (refine Or.inl ⟨?_, ?_⟩; (focus (go_simp; done)); apply Exists.intro; refine And.intro ?_ ?_; (focus (first | (intro wq hq; obtain ⟨hcq, hfq⟩ := G.old hq; go_simp; (first | done | exact rfl); done) | (intro wq; go_simp; (first | done | exact rfl); done))); go_simp; (with_reducible refine hK _ ?_); clear hK K) | fail))
              (with_reducible refine ord_nil ?_)
              replace HL := Lib.hid (G.trans HL.out hG.b)
              go_wp2_with fail
              go_roundw
              case rel => exact ⟨1, by omega, by go_num, HL⟩
              case measure => (simp [intOf] <;> omega)
            · obtain ⟨j, rfl⟩ : ∃ j, i = j + 1 := ⟨i - 1, by omega⟩
              have l2 : (0 : Int) < ((j + 1 : Nat) : Int) := by omega
              have hwj : IntKind.i64.wrap (((j + 1 : Nat) : Int) - 1) = (j : Int) := by rw [IntWalk.i64_in _ (by omega)]; omega
              have hwj2 : IntKind.i64.wrap (j : Int) = (j : Int) := by rw [IntWalk.i64_in _ (by omega)]
              have hj25 : (j : Int) < 25 := by omega
              obtain ⟨y, hy⟩ : ∃ y, symL[j]? = some y := ⟨_, List.getElem?_eq_getElem (by have := symL_len; omega)⟩
              have q2 : wr.cell? ⟨g3, off3 + j, none⟩ = some (.string (B y)) := hcs j _ (by rw [List.getElem?_map, hy]; rfl)
              have kL := sym_less j y x hy hx
              clear hcs hx hy
              go_upto_region 10 with fail
              refine wp_region_ord [(0, 1), (1, 1), (2, 1), (3, 1), (4, 2), (5, 1), (6, 1), (7, 1), (8, 1), (9, 1), (10, 1), (11, 1), (12, 1), (13, 1), (14, 1), (15, 1), (16, 1), (17, 1), (18, 1), (19, 1), (20, 1), (21, 1)] [] 5 (by kernel_rfl) (by decide +kernel) ?_
              simp only [pickO, List.append_eq, List.cons_append, List.nil_append, List.getElem?_cons_succ, List.getElem?_cons_zero]
              intro w0 hG
              (repeat ((first | (with_reducible refine ord_q1 ?_) | (with_reducible refine ord_q0 ?_)); intro K hK; first | (refine Or.inr ⟨?_, ?_⟩; (focus (go_simp; first | done | (simp [undef]; done))); go_simp; (with_reducible refine hK _ ?_); clear hK K) | (refine Or.inl ⟨?_, ?_⟩; (focus (go_simp; done)); apply Exists.intro; refine And.intro ?_ ?_; (focus (first | (intro wq hq; obtain ⟨hcq, hfq⟩ := G.old hq; go_simp; (first | done | exact rfl); done) | (intro wq; go_simp; (first | done | exact rfl); done))); go_simp; (with_reducible refine hK _ ?_); clear hK K) | fail))
              (with_reducible refine ord_run ?_ hG)
              intro K hK
              go_simp
              go_at_call 42; (refine (SY.out _ (HE5.out.grow hG.b)).mono ?_); rintro e w6 ⟨rfl, hw6⟩; have hb6 : Below w6.heap.size w6 w6 := G.refl _; obtain rfl := hw6.symm
              replace hG := Grew.trans hG hb6
              (try dsimp only)
              (with_reducible refine hK _ _ hG ?_)
              clear hK K
              (repeat ((first | (with_reducible refine ord_q1 ?_) | (with_reducible refine ord_q0 ?_)); intro K hK; first | (refine Or.inr ⟨?_, ?_⟩; (focus (go_simp; first | done | (simp [undef]; done))); go_simp; (with_reducible refine hK _ ?_); clear hK K) | (refine Or.inl ⟨?_, ?_⟩; (focus (go_simp; done)); apply Exists.intro; refine And.intro ?_ ?_; (focus (first | (intro wq hq; obtain ⟨hcq, hfq⟩ := G.old hq; go_simp; (first | done | exact rfl); done) | (intro wq; go_simp; (first | done | exact rfl); done))); go_simp; (with_reducible refine hK _ ?_); clear hK K) | fail))
              (with_reducible refine ord_nil ?_)
              replace HL := Lib.hid (G.trans HL.out hG.b)
              go_wp2_with fail
              go_roundw
              case rel => exact ⟨j + 1 + 1, by omega, by go_num, HL⟩
              case measure => (simp [intOf] <;> omega)
          · have l1 : ¬ (i : Int) < 25 := by omega
            go_wp2_with fail
            go_ret
            exact ⟨rfl, G.trans HG.out HL.out⟩
    · obtain ⟨e1, e2⟩ := no_tok (l := l) (fun q hq => by rw [hs] at hq; cases hq; exact absurd rfl h1)
      rw [e1] at IW
      rw [e2] at IS
      rw [hs] at TM
      have hn2 : ¬ ((ts.length + 1 : Nat) : Int) = 2 := by omega
      obtain ⟨m, hm2⟩ : ∃ m, ts.length + 1 = m := ⟨_, rfl⟩
      rw [hm2] at hn2
      replace hm2 := Lib.hid hm2
      clear e1 e2 hs h1 hll
      go_enter Tryz.func10, Tryz.ntmps10
      go_upto_region 2 with fail
      go_wp2_with fail
      go_at_call 13
      (with_reducible refine TM.out.mono ?_)
      rintro e1 w2 ⟨hb2, A2, c2, rfl, hown⟩
      rw [rowC_rwT] at hown
      have HT := Lib.hid (TksW.of_own hown)
      have HG := Lib.hid hb2
      replace HE := Lib.hid (HE.out.grow hb2)
      clear hown hb2 TM
      rw [hm2.out] at HT ⊢
      go_wp2_with fail
      go_at_call 40
      (with_reducible refine (symbols_any HE.out).mono ?_)
      rintro e1 w3 ⟨A3, c3, rfl, hb3, hown3⟩
      have HS := Lib.hid (Sl.of_own1 hown3)
      replace HT := Lib.hid (HT.out.grow hb3)
      replace HG := Lib.hid (G.trans HG.out hb3)
      replace HE := Lib.hid (HE.out.grow hb3)
      clear hb3 hown3
      go_wp2_with fail
      go_at_call 14
      (with_reducible refine (known_any HE.out).mono ?_)
      rintro e1 w4 ⟨rfl, hb4⟩
      replace HS := Lib.hid (HS.out.grow hb4)
      replace HT := Lib.hid (HT.out.grow hb4)
      replace HG := Lib.hid (G.trans HG.out hb4)
      replace HE := Lib.hid (HE.out.grow hb4)
      clear hb4
      go_wp2_with fail
      go_at_call 41
      (with_reducible refine (IW.out _).mono ?_)
      rintro e1 w5 ⟨rfl, hw5⟩
      obtain rfl := hw5.symm
      clear hw5
      go_wp2_with fail
      go_at_call 42
      (with_reducible refine (IS.out _ HE.out).mono ?_)
      rintro e1 w5 ⟨rfl, hw5⟩
      obtain rfl := hw5.symm
      clear hw5 IW IS
      go_wp2_with fail
      go_loopw [9] (fun iv wx => ∃ (i : Nat), i ≤ 25 ∧ iv = .int .i64 (i : Int) ∧ Hid (Below w4.heap.size w4 wx)) (fun iv _ => 25 - (intOf iv).toNat)
      case atStart => exact ⟨0, Nat.zero_le _, rfl, Lib.hid (G.refl _)⟩
      case round =>
        obtain ⟨i, hi, rfl, HL⟩ := hrel
        have hw2 : IntKind.i64.wrap ((i : Int) + 1) = ((i + 1 : Nat) : Int) := by rw [IntWalk.i64_in _ (by omega)]; omega
        by_cases hlt : i < 25
        · have l1 : (i : Int) < 25 := by omega
          obtain ⟨g3, off3, rfl, hg3, hcs⟩ := (HS.out.grow HL.out).2 (by decide)
          obtain ⟨x, hx⟩ : ∃ x, symL[i]? = some x := ⟨_, List.getElem?_eq_getElem hlt⟩
          have q1 : wr.cell? ⟨g3, off3 + i, none⟩ = some (.string (B x)) := hcs i _ (by rw [List.getElem?_map, hx]; rfl)
          have SY := Lib.hid (fun (wx : World) (hE : Env wx) => SYM.out wx hE x (symL_sym i x hx))
          have HE5 := Lib.hid (HE.out.grow HL.out)
          by_cases hi0 : i = 0
          · subst hi0
            rw [Nat.add_zero] at q1
            clear hcs hx
            go_upto_region 10 with fail
            refine wp_region_ord [(0, 1), (1, 1), (2, 1), (3, 1), (4, 2), (5, 1), (6, 1), (7, 1), (8, 1), (9, 1), (10, 1), (11, 1), (12, 1), (13, 1), (14, 1), (15, 1), (16, 1), (17, 1), (18, 1), (19, 1), (20, 1), (21, 1)] [] 5 (by kernel_rfl) (by decide +kernel) ?_
            simp only [pickO, List.append_eq, List.cons_append, List.nil_append, List.getElem?_cons_succ, List.getElem?_cons_zero]
            intro w0 hG
            (repeat ((first | (with_reducible refine ord_q1 ?_) | (with_reducible refine ord_q0 ?_)); intro K hK; first | (refine Or.inr ⟨?_, ?_⟩; (focus (go_simp; first | done | (simp [undef]; done))); go_simp; (with_reducible refine hK _ ?_); clear hK K) | (refine Or.inl ⟨?_, ?_⟩; (focus (go_simp; done)); apply Exists.intro; refine And.intro ?_ ?_; (focus (first | (intro wq hq; obtain ⟨hcq, hfq⟩ := G.old hq; go_simp; (first | done | exact rfl); done) | (intro wq; go_simp; (first | done | exact rfl); done))); go_simp; (with_reducible refine hK _ ?_); clear hK K) | fail))
            (with_reducible refine ord_run ?_ hG)
            intro K hK
            go_simp
            go_at_call 42; (refine (SY.out _ (HE5.out.grow hG.b)).mono ?_); rintro e w6 ⟨rfl, hw6⟩; have hb6 : Below w6.heap.size w6 w6 := G.refl _; obtain rfl := hw6.symm
            replace hG := Grew.trans hG hb6
            (try dsimp only)
            (with_reducible refine hK _ _ hG ?_)
            clear hK K
            (repeat ((first | (with_reducible refine ord_q1 ?_) | (with_reducible refine ord_q0 ?_)); intro K hK; first | (refine Or.inr ⟨?_, ?_⟩; (focus (go_simp; first | done | (simp [undef]; done))); go_simp; (with_reducible refine hK _ ?_); clear hK K) | (refine Or.inl ⟨?_, ?_⟩; (focus (go_simp; done)); apply Exists.intro; refine And.intro ?_ ?_; (focus (first | (intro wq hq; obtain ⟨hcq, hfq⟩ := G.old hq; go_simp; (first | done | exact rfl); done) | (intro wq; go_simp; (first | done | exact rfl); done))); go_simp; (with_reducible refine hK _ ?_); clear hK K) | fail))
            (with_reducible refine ord_nil ?_)
            replace HL := Lib.hid (G.trans HL.out hG.b)
            go_wp2_with fail
            go_roundw
            case rel => exact ⟨1, by omega, by go_num, HL⟩
            case measure => (simp [intOf] <;> omega)
          · obtain ⟨j, rfl⟩ : ∃ j, i = j + 1 := ⟨i - 1, by omega⟩
            have l2 : (0 : Int) < ((j + 1 : Nat) : Int) := by omega
            have hwj : IntKind.i64.wrap (((j + 1 : Nat) : Int) - 1) = (j : Int) := by rw [IntWalk.i64_in _ (by omega)]; omega
            have hwj2 : IntKind.i64.wrap (j : Int) = (j : Int) := by rw [IntWalk.i64_in _ (by omega)]
            have hj25 : (j : Int) < 25 := by omega
            obtain ⟨y, hy⟩ : ∃ y, symL[j]? = some y := ⟨_, List.getElem?_eq_getElem (by have := symL_len; omega)⟩
            have q2 : wr.cell? ⟨g3, off3 + j, none⟩ = some (.string (B y)) := hcs j _ (by rw [List.getElem?_map, hy]; rfl)
            have kL := sym_less j y x hy hx
            clear hcs hx hy
            go_upto_region 10 with fail
            refine wp_region_ord [(0, 1), (1, 1), (2, 1), (3, 1), (4, 2), (5, 1), (6, 1), (7, 1), (8, 1), (9, 1), (10, 1), (11, 1), (12, 1), (13, 1), (14, 1), (15, 1), (16, 1), (17, 1), (18, 1), (19, 1), (20, 1), (21, 1)] [] 5 (by kernel_rfl) (by decide +kernel) ?_
            simp only [pickO, List.append_eq, List.cons_append, List.nil_append, List.getElem?_cons_succ, List.getElem?_cons_zero]
            intro w0 hG
            (repeat ((first | (with_reducible refine ord_q1 ?_) | (with_reducible refine ord_q0 ?_)); intro K hK; first | (refine Or.inr ⟨?_, ?_⟩; (focus (go_simp; first | done | (simp [undef]; done))); go_simp; (with_reducible refine hK _ ?_); clear hK K) | (refine Or.inl ⟨?_, ?_⟩; (focus (go_simp; done)); apply Exists.intro; refine And.intro ?_ ?_; (focus (first | (intro wq hq; obtain ⟨hcq, hfq⟩ := G.old hq; go_simp; (first | done | exact rfl); done) | (intro wq; go_simp; (first | done | exact rfl); done))); go_simp; (with_reducible refine hK _ ?_); clear hK K) | fail))
            (with_reducible refine ord_run ?_ hG)
            intro K hK
            go_simp
            go_at_call 42; (refine (SY.out _ (HE5.out.grow hG.b)).mono ?_); rintro e w6 ⟨rfl, hw6⟩; have hb6 : Below w6.heap.size w6 w6 := G.refl _; obtain rfl := hw6.symm
            replace hG := Grew.trans hG hb6
            (try dsimp only)
            (with_reducible refine hK _ _ hG ?_)
            clear hK K
            (repeat ((first | (with_reducible refine ord_q1 ?_) | (with_reducible refine ord_q0 ?_)); intro K hK; first | (refine Or.inr ⟨?_, ?_⟩; (focus (go_simp; first | done | (simp [undef]; done))); go_simp; (with_reducible refine hK _ ?_); clear hK K) | (refine Or.inl ⟨?_, ?_⟩; (focus (go_simp; done)); apply Exists.intro; refine And.intro ?_ ?_; (focus (first | (intro wq hq; obtain ⟨hcq, hfq⟩ := G.old hq; go_simp; (first | done | exact rfl); done) | (intro wq; go_simp; (first | done | exact rfl); done))); go_simp; (with_reducible refine hK _ ?_); clear hK K) | fail))
            (with_reducible refine ord_nil ?_)
            replace HL := Lib.hid (G.trans HL.out hG.b)
            go_wp2_with fail
            go_roundw
            case rel => exact ⟨j + 1 + 1, by omega, by go_num, HL⟩
            case measure => (simp [intOf] <;> omega)
        · have l1 : ¬ (i : Int) < 25 := by omega
          go_wp2_with fail
          go_ret
          exact ⟨rfl, G.trans HG.out HL.out⟩
  · obtain ⟨e1, e2⟩ := no_tok (l := l) (fun q hq => by rw [hs] at hq; cases hq)
    have hx0 : x ≠ 0 := scanA_bad (l := l) (o := o) (by rw [scanA_small (by omega)]; exact hs)
    rw [e1] at IW
    rw [e2] at IS
    rw [hs] at TM
    clear e1 e2 hs hll
    go_enter Tryz.func10, Tryz.ntmps10
    go_upto_region 2 with fail
    go_wp2_with fail
    go_at_call 13
    (with_reducible refine TM.out.mono ?_)
    rintro e1 w2 ⟨hb2, rfl⟩
    have HG := Lib.hid hb2
    replace HE := Lib.hid (HE.out.grow hb2)
    clear hb2 TM
    go_wp2_with fail
    go_at_call 40
    (with_reducible refine (symbols_any HE.out).mono ?_)
    rintro e1 w3 ⟨A3, c3, rfl, hb3, hown3⟩
    have HS := Lib.hid (Sl.of_own1 hown3)
    replace HG := Lib.hid (G.trans HG.out hb3)
    replace HE := Lib.hid (HE.out.grow hb3)
    clear hb3 hown3
    go_wp2_with fail
    go_at_call 14
    (with_reducible refine (known_any HE.out).mono ?_)
    rintro e1 w4 ⟨rfl, hb4⟩
    replace HS := Lib.hid (HS.out.grow hb4)
    replace HG := Lib.hid (G.trans HG.out hb4)
    replace HE := Lib.hid (HE.out.grow hb4)
    clear hb4
    go_wp2_with fail
    go_at_call 41
    (with_reducible refine (IW.out _).mono ?_)
    rintro e1 w5 ⟨rfl, hw5⟩
    obtain rfl := hw5.symm
    clear hw5
    go_wp2_with fail
    go_at_call 42
    (with_reducible refine (IS.out _ HE.out).mono ?_)
    rintro e1 w5 ⟨rfl, hw5⟩
    obtain rfl := hw5.symm
    clear hw5 IW IS
    go_wp2_with fail
    go_loopw [9] (fun iv wx => ∃ (i : Nat), i ≤ 25 ∧ iv = .int .i64 (i : Int) ∧ Hid (Below w4.heap.size w4 wx)) (fun iv _ => 25 - (intOf iv).toNat)
    case atStart => exact ⟨0, Nat.zero_le _, rfl, Lib.hid (G.refl _)⟩
    case round =>
      obtain ⟨i, hi, rfl, HL⟩ := hrel
      have hw2 : IntKind.i64.wrap ((i : Int) + 1) = ((i + 1 : Nat) : Int) := by rw [IntWalk.i64_in _ (by omega)]; omega
      by_cases hlt : i < 25
      · have l1 : (i : Int) < 25 := by omega
        obtain ⟨g3, off3, rfl, hg3, hcs⟩ := (HS.out.grow HL.out).2 (by decide)
        obtain ⟨x, hx⟩ : ∃ x, symL[i]? = some x := ⟨_, List.getElem?_eq_getElem hlt⟩
        have q1 : wr.cell? ⟨g3, off3 + i, none⟩ = some (.string (B x)) := hcs i _ (by rw [List.getElem?_map, hx]; rfl)
        have SY := Lib.hid (fun (wx : World) (hE : Env wx) => SYM.out wx hE x (symL_sym i x hx))
        have HE5 := Lib.hid (HE.out.grow HL.out)
        by_cases hi0 : i = 0
        · subst hi0
          rw [Nat.add_zero] at q1
          clear hcs hx
          go_upto_region 10 with fail
          refine wp_region_ord [(0, 1), (1, 1), (2, 1), (3, 1), (4, 2), (5, 1), (6, 1), (7, 1), (8, 1), (9, 1), (10, 1), (11, 1), (12, 1), (13, 1), (14, 1), (15, 1), (16, 1), (17, 1), (18, 1), (19, 1), (20, 1), (21, 1)] [] 5 (by kernel_rfl) (by decide +kernel) ?_
          simp only [pickO, List.append_eq, List.cons_append, List.nil_append, List.getElem?_cons_succ, List.getElem?_cons_zero]
          intro w0 hG
          (repeat ((first | (with_reducible refine ord_q1 ?_) | (with_reducible refine ord_q0 ?_)); intro K hK; first | (refine Or.inr ⟨?_, ?_⟩; (focus (go_simp; first | done | (simp [undef]; done))); go_simp; (with_reducible refine hK _ ?_); clear hK K) | (refine Or.inl ⟨?_, ?_⟩; (focus (go_simp; done)); apply Exists.intro; refine And.intro ?_ ?_; (focus (first | (intro wq hq; obtain ⟨hcq, hfq⟩ := G.old hq; go_simp; (first | done | exact rfl); done) | (intro wq; go_simp; (first | done | exact rfl); done))); go_simp; (with_reducible refine hK _ ?_); clear hK K) | fail))
          (with_reducible refine ord_run ?_ hG)
          intro K hK
          go_simp
          go_at_call 42; (refine (SY.out _ (HE5.out.grow hG.b)).mono ?_); rintro e w6 ⟨rfl, hw6⟩; have hb6 : Below w6.heap.size w6 w6 := G.refl _; obtain rfl := hw6.symm
          replace hG := Grew.trans hG hb6
          (try dsimp only)
          (with_reducible refine hK _ _ hG ?_)
          clear hK K
          (repeat ((first | (with_reducible refine ord_q1 ?_) | (with_reducible refine ord_q0 ?_)); intro K hK; first | (refine Or.inr ⟨?_, ?_⟩; (focus (go_simp; first | done | (simp [undef]; done))); go_simp; (with_reducible refine hK _ ?_); clear hK K) | (refine Or.inl ⟨?_, ?_⟩; (focus (go_simp; done)); apply Exists.intro; refine And.intro ?_ ?_; (focus (first | (intro wq hq; obtain ⟨hcq, hfq⟩ := G.old hq; go_simp; (first | done | exact rfl); done) | (intro wq; go_simp; (first | done | exact rfl); done))); go_simp; (with_reducible refine hK _ ?_); clear hK K) | fail))
          (with_reducible refine ord_nil ?_)
          replace HL := Lib.hid (G.trans HL.out hG.b)
          go_wp2_with fail
          go_roundw
          case rel => exact ⟨1, by omega, by go_num, HL⟩
          case measure => (simp [intOf] <;> omega)
        · obtain ⟨j, rfl⟩ : ∃ j, i = j + 1 := ⟨i - 1, by omega⟩
          have l2 : (0 : Int) < ((j + 1 : Nat) : Int) := by omega
          have hwj : IntKind.i64.wrap (((j + 1 : Nat) : Int) - 1) = (j : Int) := by rw [IntWalk.i64_in _ (by omega)]; omega
          have hwj2 : IntKind.i64.wrap (j : Int) = (j : Int) := by rw [IntWalk.i64_in _ (by omega)]
          have hj25 : (j : Int) < 25 := by omega
          obtain ⟨y, hy⟩ : ∃ y, symL[j]? = some y := ⟨_, List.getElem?_eq_getElem (by have := symL_len; omega)⟩
          have q2 : wr.cell? ⟨g3, off3 + j, none⟩ = some (.string (B y)) := hcs j _ (by rw [List.getElem?_map, hy]; rfl)
          have kL := sym_less j y x hy hx
          clear hcs hx hy
          go_upto_region 10 with fail
          refine wp_region_ord [(0, 1), (1, 1), (2, 1), (3, 1), (4, 2), (5, 1), (6, 1), (7, 1), (8, 1), (9, 1), (10, 1), (11, 1), (12, 1), (13, 1), (14, 1), (15, 1), (16, 1), (17, 1), (18, 1), (19, 1), (20, 1), (21, 1)] [] 5 (by kernel_rfl) (by decide +kernel) ?_
          simp only [pickO, List.append_eq, List.cons_append, List.nil_append, List.getElem?_cons_succ, List.getElem?_cons_zero]
          intro w0 hG
          (repeat ((first | (with_reducible refine ord_q1 ?_) | (with_reducible refine ord_q0 ?_)); intro K hK; first | (refine Or.inr ⟨?_, ?_⟩; (focus (go_simp; first | done | (simp [undef]; done))); go_simp; (with_reducible refine hK _ ?_); clear hK K) | (refine Or.inl ⟨?_, ?_⟩; (focus (go_simp; done)); apply Exists.intro; refine And.intro ?_ ?_; (focus (first | (intro wq hq; obtain ⟨hcq, hfq⟩ := G.old hq; go_simp; (first | done | exact rfl); done) | (intro wq; go_simp; (first | done | exact rfl); done))); go_simp; (with_reducible refine hK _ ?_); clear hK K) | fail))
          (with_reducible refine ord_run ?_ hG)
          intro K hK
          go_simp
          go_at_call 42; (refine (SY.out _ (HE5.out.grow hG.b)).mono ?_); rintro e w6 ⟨rfl, hw6⟩; have hb6 : Below w6.heap.size w6 w6 := G.refl _; obtain rfl := hw6.symm
          replace hG := Grew.trans hG hb6
          (try dsimp only)
          (with_reducible refine hK _ _ hG ?_)
          clear hK K
          (repeat ((first | (with_reducible refine ord_q1 ?_) | (with_reducible refine ord_q0 ?_)); intro K hK; first | (refine Or.inr ⟨?_, ?_⟩; (focus (go_simp; first | done | (simp [undef]; done))); go_simp; (with_reducible refine hK _ ?_); clear hK K) | (refine Or.inl ⟨?_, ?_⟩; (focus (go_simp; done)); apply Exists.intro; refine And.intro ?_ ?_; (focus (first | (intro wq hq; obtain ⟨hcq, hfq⟩ := G.old hq; go_simp; (first | done | exact rfl); done) | (intro wq; go_simp; (first | done | exact rfl); done))); go_simp; (with_reducible refine hK _ ?_); clear hK K) | fail))
          (with_reducible refine ord_nil ?_)
          replace HL := Lib.hid (G.trans HL.out hG.b)
          go_wp2_with fail
          go_roundw
          case rel => exact ⟨j + 1 + 1, by omega, by go_num, HL⟩
          case measure => (simp [intOf] <;> omega)
      · have l1 : ¬ (i : Int) < 25 := by omega
        go_wp2_with fail
        go_ret
        exact ⟨rfl, G.trans HG.out HL.out⟩
end
theorem lexerWords_any (t : ByteArray) (W : World) (ws : t.size ≤ maxLen) (hE : Env W) : Calls Tryz.prog 10 #[.string t] W fun e W' => e = .returned (.bool true) ∧ Below W.heap.size W W' := lexerWords_w hE t
end Go.Proofs.YtmchiibbodllaaaGreatDoor
