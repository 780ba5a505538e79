/- value.Clone: the copy of a tree of values is such a tree, in memory of its own; value.IsNull. -/
import Derived.Test.YtjldpodehffbnaaData
import Derived.Test.YtjldpodehffbnaaTree
namespace Go.Proofs.Ytjldpodehffbnaa
set_option linter.unusedVariables false
set_option linter.unnecessarySimpa false
set_option linter.unusedSimpArgs false
open Go.RowKit

/-- A copy of a value has come back. -/
def RetT (d : Nat) (cs : List Value) (w : World) (e : Ending) (w' : World) : Prop :=
  ∃ cs', e = .returned (.agg cs'.toArray) ∧ Tree (From w.heap.size) w' d cs' ∧ Below w.heap.size w w'
theorem Try.infoV : (Try.prog.info? 28).map (fun i => (i.zero, i.size, i.bytes)) = some (some (.agg #[.int .i64 0, .int .i64 0, .int .i64 0, .string ⟨#[]⟩, .slice none 0 0, .slice none 0 0]), 6, 88) := by kernel_rfl
theorem Try.infoF : (Try.prog.info? 116).map (fun i => (i.zero, i.size, i.bytes)) = some (some (.agg #[.string ⟨#[]⟩, .int .i64 0, .int .i64 0, .int .i64 0, .string ⟨#[]⟩, .slice none 0 0, .slice none 0 0]), 7, 104) := by kernel_rfl

set_option maxRecDepth 20000 in set_option maxHeartbeats 1000000 in
theorem cloneV_any (ok : Nat → Prop) : ∀ (d : Nat) (cs : List Value) (w : World), Tree ok w d cs → Calls Try.prog 70 #[.agg cs.toArray] w (RetT d cs w)
  | 0, cs, w, h => h.elim
  | d + 1, cs, w, h => by
    have IH := cloneV_any ok d
    obtain ⟨k, i, s, t, A, n, c, B, m, e, xs, ys, rfl, hn8, hm8, hxs, hys, htx, hty⟩ := h
    obtain ⟨i0, hi0, hz0, hz1, hz2⟩ := info_parts Try.infoV
    obtain ⟨j0, hj0, hy0, hy1, hy2⟩ := info_parts Try.infoF
    replace IH := Lib.hid IH
    replace htx := Lib.hid htx
    replace hty := Lib.hid hty
    go_enter Try.func70, Try.ntmps70
    go_wp2_with fail
    refine wp_name (fun wr => Below w.heap.size w wr ∧ Hid (w.heap.size + 1 + 1 + 1 ≤ wr.heap.size) ∧ Bx wr w.heap.size [.int .i64 k, .int .i64 i, .int .i64 s, .string t, .slice A n c, .slice B m e] ∧ Bx wr (w.heap.size + 1) [.int .i64 0, .int .i64 0, .int .i64 0, .string ⟨#[]⟩, .slice none 0 0, .slice none 0 0] ∧ Bx wr (w.heap.size + 1 + 1) [.int .i64 k, .int .i64 i, .int .i64 s, .string t, .slice none 0 0, .slice none 0 0]) ⟨by repeat (first | with_reducible assumption | with_reducible exact G.refl _ | with_reducible refine G.drew ?_ | with_reducible refine G.drewN ?_ _ | with_reducible refine G.alloc ?_ _ | with_reducible refine Below.setCell ?_ (by first | (simp; done) | (simp; omega)) _ | with_reducible refine G.trans ?_ hb12 | with_reducible refine G.trans ?_ hb11 | with_reducible refine G.trans ?_ hb10 | with_reducible refine G.trans ?_ hb9 | with_reducible refine G.trans ?_ hb8 | with_reducible refine G.trans ?_ hb7 | with_reducible refine G.trans ?_ hb6 | with_reducible refine G.trans ?_ hb5 | with_reducible refine G.trans ?_ hb4 | with_reducible refine G.trans ?_ hb3 | with_reducible refine G.trans ?_ hb2 | with_reducible refine G.trans ?_ hb1 | with_reducible refine G.trans ?_ hb | assumption), by unfold Hid; simp, by repeat (first | with_reducible assumption | (with_reducible exact Bx.new (by simp; done) (by rfl)) | (with_reducible refine Bx.alloc ?_ _) | (with_reducible refine Bx.drewN ?_ _) | ((with_reducible apply Bx.put); rotate_right; (first | rfl | skip)) | (with_reducible refine Bx.other ?_ (by first | (simp; done) | (simp; omega)) _)), by repeat (first | with_reducible assumption | (with_reducible exact Bx.new (by simp; done) (by rfl)) | (with_reducible refine Bx.alloc ?_ _) | (with_reducible refine Bx.drewN ?_ _) | ((with_reducible apply Bx.put); rotate_right; (first | rfl | skip)) | (with_reducible refine Bx.other ?_ (by first | (simp; done) | (simp; omega)) _)), by repeat (first | with_reducible assumption | (with_reducible exact Bx.new (by simp; done) (by rfl)) | (with_reducible refine Bx.alloc ?_ _) | (with_reducible refine Bx.drewN ?_ _) | ((with_reducible apply Bx.put); rotate_right; (first | rfl | skip)) | (with_reducible refine Bx.other ?_ (by first | (simp; done) | (simp; omega)) _))⟩ ?_
    rintro w3 ⟨hb3, hsz3, x1, x2, x3⟩
    go_loopw [14] (fun iv wr => ∃ (j : Nat) (A' : Option Addr) (c' : Nat) (zs : List Value), j ≤ n ∧ iv = .int .i64 j ∧ Below w.heap.size w wr ∧ Hid (w3.heap.size ≤ wr.heap.size) ∧ Bx wr w.heap.size [.int .i64 k, .int .i64 i, .int .i64 s, .string t, .slice A n c, .slice B m e] ∧ Bx wr (w.heap.size + 1) [.int .i64 0, .int .i64 0, .int .i64 0, .string ⟨#[]⟩, .slice none 0 0, .slice none 0 0] ∧ Bx wr (w.heap.size + 1 + 1) [.int .i64 k, .int .i64 i, .int .i64 s, .string t, .slice A' j c', .slice none 0 0] ∧ wr.ownsRow w3.heap.size 28 6 (.slice A' j c') j zs ∧ Hid (∀ q, q < j → Tree (Beside w3.heap.size (.slice A' j c')) wr d ((zs.drop (q * 6)).take 6))) (fun iv _ => n - (intOf iv).toNat)
    case atStart => exact ⟨0, none, 0, [], Nat.zero_le _, rfl, hb3, Nat.le_refl _, x1, x2, x3, World.ownsRow_nil _ _ _ _, fun q hq => absurd hq (by omega)⟩
    case round =>
      clear x1 x2 x3
      obtain ⟨j, A', c', zs, hj, rfl, hbr, hszr, x1, x2, x3, hown, htr⟩ := hrel
      by_cases hlt : j < n
      · have hxr := hxs.grow hbr
        have htj := (htx.out j hlt).grow hbr
        obtain ⟨b, off, rfl, hbl, hok, hlen, hcell⟩ := hxr.at_ (by decide) hlt
        obtain ⟨d', rfl⟩ : ∃ d', d = d' + 1 := by
          cases d with
          | zero => exact htj.elim
          | succ d' => exact ⟨d', rfl⟩
        obtain ⟨k', i', s', t', A2, n2, c2, B2, m2, e2, xs2, ys2, hch, hrest⟩ := id htj
        rw [hch] at hcell htj
        have e0 : wr.cell? ⟨b, off + j * 6, none⟩ = _ := hcell 0 _ rfl
        have e1 := hcell 1 _ rfl
        have e2' := hcell 2 _ rfl
        have e3 := hcell 3 _ rfl
        have e4 := hcell 4 _ rfl
        have e5 := hcell 5 _ rfl
        replace hrest := Lib.hid hrest
        clear hcell hch
        obtain ⟨o4, f4⟩ := x3.2 4 _ rfl
        replace htj := Lib.hid htj
        have hsb := hbr.size
        go_wp2_with fail
        refine wp_name (fun wa => Below wr.heap.size wr wa ∧ Bx wa wr.heap.size [.int .i64 k', .int .i64 i', .int .i64 s', .string t', .slice A2 n2 c2, .slice B2 m2 e2]) ⟨by repeat (first | with_reducible assumption | with_reducible exact G.refl _ | with_reducible refine G.drew ?_ | with_reducible refine G.drewN ?_ _ | with_reducible refine G.alloc ?_ _ | with_reducible refine Below.setCell ?_ (by first | (simp; done) | (simp; omega)) _ | with_reducible refine G.trans ?_ hb12 | with_reducible refine G.trans ?_ hb11 | with_reducible refine G.trans ?_ hb10 | with_reducible refine G.trans ?_ hb9 | with_reducible refine G.trans ?_ hb8 | with_reducible refine G.trans ?_ hb7 | with_reducible refine G.trans ?_ hb6 | with_reducible refine G.trans ?_ hb5 | with_reducible refine G.trans ?_ hb4 | with_reducible refine G.trans ?_ hb3 | with_reducible refine G.trans ?_ hb2 | with_reducible refine G.trans ?_ hb1 | with_reducible refine G.trans ?_ hb | assumption), by repeat (first | with_reducible assumption | (with_reducible exact Bx.new (by simp; done) (by rfl)) | (with_reducible refine Bx.alloc ?_ _) | (with_reducible refine Bx.drewN ?_ _) | ((with_reducible apply Bx.put); rotate_right; (first | rfl | skip)) | (with_reducible refine Bx.other ?_ (by first | (simp; done) | (simp; omega)) _))⟩ ?_
        rintro wa ⟨hba, y⟩
        have x3a := x3.grow hba
        obtain ⟨o4, f4⟩ := x3a.2 4 _ rfl
        have lt3 := x3a.lt
        have lty := y.lt
        have y0 := (y.2 0 _ rfl).1
        have y1 := (y.2 1 _ rfl).1
        have y2 := (y.2 2 _ rfl).1
        have y3 := (y.2 3 _ rfl).1
        have y4 := (y.2 4 _ rfl).1
        have y5 := (y.2 5 _ rfl).1
        clear e0 e1 e2' e3 e4 e5
        refine wp_region_ord [(0, 1), (1, 1), (2, 1), (3, 2), (4, 2), (5, 3), (6, 0), (7, 3)] [5, 7] 5 (by kernel_rfl) (by decide +kernel) ?_
        simp only [pickO, List.append_eq, List.cons_append, List.nil_append, List.getElem?_cons_succ, List.getElem?_cons_zero]
        intro w0 hG
        (repeat ((first | (with_reducible refine ord_q1 ?_) | (with_reducible refine ord_q0 ?_)); intro K hK; first | (refine Or.inr ⟨?_, ?_⟩; (focus (go_simp; first | done | (simp [undef]; done))); go_simp; (with_reducible refine hK _ ?_); clear hK K) | (refine Or.inl ⟨?_, ?_⟩; (focus (go_simp; done)); apply Exists.intro; refine And.intro ?_ ?_; (focus (first | (intro wq hq; obtain ⟨hcq, hfq⟩ := G.old hq; go_simp; (first | done | exact rfl); done) | (intro wq; go_simp; (first | done | exact rfl); done))); go_simp; (with_reducible refine hK _ ?_); clear hK K) | fail))
        have hG1 : Below wr.heap.size wr w0 := G.trans hba hG.b
        have hI0 := (htj.out).grow hG1
        (with_reducible refine ord_run ?_ hG)
        intro K hK
        go_simp
        go_at_call 70; (with_reducible refine (IH.out _ _ hI0).mono ?_); rintro e' w2 ⟨cs2, rfl, ht2, hb2⟩; obtain ⟨k2, i2, s2, t2, A3, n3, c3, B3, m3, e3, xs3, ys3, rfl, hrest2⟩ := id ht2; replace hrest2 := Lib.hid hrest2; replace ht2 := Lib.hid ht2
        replace hG := Grew.trans hG hb2
        (try dsimp only)
        (with_reducible refine hK _ _ hG ?_)
        clear hK K
        (repeat ((first | (with_reducible refine ord_q1 ?_) | (with_reducible refine ord_q0 ?_)); intro K hK; first | (refine Or.inr ⟨?_, ?_⟩; (focus (go_simp; first | done | (simp [undef]; done))); go_simp; (with_reducible refine hK _ ?_); clear hK K) | (refine Or.inl ⟨?_, ?_⟩; (focus (go_simp; done)); apply Exists.intro; refine And.intro ?_ ?_; (focus (first | (intro wq hq; obtain ⟨hcq, hfq⟩ := G.old hq; go_simp; (first | done | exact rfl); done) | (intro wq; go_simp; (first | done | exact rfl); done))); go_simp; (with_reducible refine hK _ ?_); clear hK K) | fail))
        (with_reducible refine ord_run ?_ hG)
        intro K hK
        go_simp
        replace hG := Grew.alloc hG (.cells #[.int .i64 k2, .int .i64 i2, .int .i64 s2, .string t2, .slice A3 n3 c3, .slice B3 m3 e3] 28)
        (with_reducible refine hK _ _ hG ?_)
        clear hK K
        (repeat ((first | (with_reducible refine ord_q1 ?_) | (with_reducible refine ord_q0 ?_)); intro K hK; first | (refine Or.inr ⟨?_, ?_⟩; (focus (go_simp; first | done | (simp [undef]; done))); go_simp; (with_reducible refine hK _ ?_); clear hK K) | (refine Or.inl ⟨?_, ?_⟩; (focus (go_simp; done)); apply Exists.intro; refine And.intro ?_ ?_; (focus (first | (intro wq hq; obtain ⟨hcq, hfq⟩ := G.old hq; go_simp; (first | done | exact rfl); done) | (intro wq; go_simp; (first | done | exact rfl); done))); go_simp; (with_reducible refine hK _ ?_); clear hK K) | fail))
        have hbw2 : Below wr.heap.size wr w2 := G.trans hG1 hb2
        have hown2 := own_grow hown hbw2
        have hz := hown.1
        have hol := fun q hq => hown.lt q hq
        have hs0 := hG1.size
        have hs2 := hbw2.size
        have htn : Tree (Beside w3.heap.size (.slice A' j c')) w2 (d' + 1) [.int .i64 k2, .int .i64 i2, .int .i64 s2, .string t2, .slice A3 n3 c3, .slice B3 m3 e3] := ht2.out.mono fun b _ hb => ⟨Nat.le_trans (Nat.le_trans hszr.out hs0) hb, fun e => by
          have h1 := (hol b e).2
          have h2 : w0.heap.size ≤ b := hb
          omega⟩
        replace htn := Lib.hid htn
        (with_reducible refine ord_tail ?_); intro K hK
        refine step_appB rfl (.tmp 19) (.tmp 22) _ rfl w3.heap.size 28 i0 _ 6 88 Try.underlying25 hi0 hz0 hz1 hz2 rfl (by decide) (.slice A' j c') j zs rfl (hown2.alloc _) (some ⟨w2.heap.size, 0, none⟩) 1 1 [.int .i64 k2, .int .i64 i2, .int .i64 s2, .string t2, .slice A3 n3 c3, .slice B3 m3 e3] rfl (Sl.new rfl rfl) (by simp [Value.oneCell']) (by show _ ≤ 2 ^ 63 - 1; omega) (by omega) (by have := hszr.out; simp; omega) ?_
        intro A5 c5 w5 hown5 hc5 hm5 hg5 hob5
        have hb5 : Below w3.heap.size wr w5 := Below.grown ((hbw2.mono hszr.out).alloc (by have := hszr.out; omega) _) hg5 (by have := hszr.out; simp; omega) (fun q hq => (hol q hq).1)
        have htr5 : Hid (∀ q, q < j + 1 → Tree (Beside w3.heap.size (.slice A5 (j + 1) c5)) w5 (d' + 1) (((zs ++ ([.int .i64 k2, .int .i64 i2, .int .i64 s2, .string t2, .slice A3 n3 c3, .slice B3 m3 e3] : List Value)).drop (q * 6)).take 6)) := by
          intro q hq
          rcases Nat.lt_or_ge q j with hqj | hqj
          · rw [chunk_old hz hqj]
            exact ((((htr.out q hqj).grow hbw2).grow (G.alloc (G.refl _) _)).appended hg5 hob5)
          · obtain rfl : q = j := by omega
            rw [chunk_new hz rfl]
            exact ((htn.out).grow (G.alloc (G.refl _) _)).appended hg5 hob5
        have hsz3 := hsz3.out
        have x1 := x1.below hb5 (by omega)
        have x2 := x2.below hb5 (by omega)
        have x3 := x3.below hb5 (by omega)
        have hbw5 : Below w.heap.size w w5 := hbr.trans (hb5.mono (by omega))
        have hs5 := hb5.size
        (with_reducible refine hK _ _ ?_); clear hK K
        obtain ⟨o4, f4⟩ := x3.2 4 _ rfl
        (repeat ((first | (with_reducible refine ord_q1 ?_) | (with_reducible refine ord_q0 ?_)); intro K hK; first | (refine Or.inr ⟨?_, ?_⟩; (focus (go_simp; first | done | (simp [undef]; done))); go_simp; (with_reducible refine hK _ ?_); clear hK K) | (refine Or.inl ⟨?_, ?_⟩; (focus (go_simp; done)); apply Exists.intro; refine And.intro ?_ ?_; (focus (first | (intro wq hq; obtain ⟨hcq, hfq⟩ := G.old hq; go_simp; (first | done | exact rfl); done) | (intro wq; go_simp; (first | done | exact rfl); done))); go_simp; (with_reducible refine hK _ ?_); clear hK K) | fail))
        ((with_reducible refine ord_tail ?_); intro K hK; go_simp; (with_reducible refine hK _ _ ?_); clear hK K)
        (with_reducible refine ord_nil ?_)
        go_wp2_with fail
        go_roundw
        case rel => exact ⟨j + 1, A5, c5, _, by omega, by go_num, by repeat (first | with_reducible assumption | with_reducible exact G.refl _ | with_reducible refine G.drew ?_ | with_reducible refine G.drewN ?_ _ | with_reducible refine G.alloc ?_ _ | with_reducible refine Below.setCell ?_ (by first | (simp; done) | (simp; omega)) _ | with_reducible refine G.trans ?_ hb12 | with_reducible refine G.trans ?_ hb11 | with_reducible refine G.trans ?_ hb10 | with_reducible refine G.trans ?_ hb9 | with_reducible refine G.trans ?_ hb8 | with_reducible refine G.trans ?_ hb7 | with_reducible refine G.trans ?_ hb6 | with_reducible refine G.trans ?_ hb5 | with_reducible refine G.trans ?_ hb4 | with_reducible refine G.trans ?_ hb3 | with_reducible refine G.trans ?_ hb2 | with_reducible refine G.trans ?_ hb1 | with_reducible refine G.trans ?_ hb | assumption), by unfold Hid; simp [World.setCell]; have := hszr.out; omega, Bx.other x1 (by simp; omega) _, Bx.other x2 (by simp) _, Bx.put x3 rfl, own_keep hown5 ((Keeps.refl _ _).setCell (by simp; omega) _), fun q hq => (htr5.out q hq).keep ((Keeps.refl _ _).setCell (fun h => by have := h.1; simp at this; omega) _)⟩
        case measure => simp [intOf]; omega
      · obtain rfl : j = n := by omega
        obtain ⟨i5, _⟩ := x1.2 5 _ rfl
        obtain ⟨_, f5⟩ := x3.2 5 _ rfl
        go_wp2_with fail
        obtain ⟨w4, hw4⟩ : ∃ w4, w4 = wr := ⟨_, rfl⟩
        subst hw4
        have hz1' := hown.1
        go_loopw [29] (fun iv wq => ∃ (q : Nat) (B' : Option Addr) (e' : Nat) (vs : List Value), q ≤ m ∧ iv = .int .i64 q ∧ Below w.heap.size w wq ∧ Keeps (From w3.heap.size) w4 wq ∧ Hid (w4.heap.size ≤ wq.heap.size) ∧ Bx wq w.heap.size [.int .i64 k, .int .i64 i, .int .i64 s, .string t, .slice A j c, .slice B m e] ∧ Bx wq (w.heap.size + 1) [.int .i64 0, .int .i64 0, .int .i64 0, .string ⟨#[]⟩, .slice none 0 0, .slice none 0 0] ∧ Bx wq (w.heap.size + 1 + 1) [.int .i64 k, .int .i64 i, .int .i64 s, .string t, .slice A' j c', .slice B' q e'] ∧ wq.ownsRow w4.heap.size 116 7 (.slice B' q e') q vs ∧ Hid (∀ p, p < q → ∃ u cs', (vs.drop (p * 7)).take 7 = .string u :: cs' ∧ Tree (Beside w4.heap.size (.slice B' q e')) wq d cs')) (fun iv _ => m - (intOf iv).toNat)
        case atStart => exact ⟨0, none, 0, [], Nat.zero_le _, rfl, hbr, Keeps.refl _ _, Nat.le_refl _, x1, x2, x3, World.ownsRow_nil _ _ _ _, fun q hq => absurd hq (by omega)⟩
        case round =>
          clear x1 x2 x3 i5 f5
          obtain ⟨q, B', e', vs, hq, rfl, hbq, hkq, hszq, x1, x2, x3, hownq, htq⟩ := hrel
          by_cases hltq : q < m
          · have hyr := hys.grow hbq
            obtain ⟨uj, csj, hcj, htj0⟩ := hty.out q hltq
            have htj := htj0.grow hbq
            obtain ⟨b, off, rfl, hbl, hok, hlen, hcell⟩ := hyr.at_ (by decide) hltq
            obtain ⟨d', rfl⟩ : ∃ d', d = d' + 1 := by
              cases d with
              | zero => exact htj.elim
              | succ d' => exact ⟨d', rfl⟩
            obtain ⟨k', i', s', t', A2, n2, c2, B2, m2, e2, xs2, ys2, rfl, hrest⟩ := id htj
            rw [hcj] at hcell
            have e0 : wr.cell? ⟨b, off + q * 7, none⟩ = _ := hcell 0 _ rfl
            have e1 := hcell 1 _ rfl
            have e2' := hcell 2 _ rfl
            have e3 := hcell 3 _ rfl
            have e4 := hcell 4 _ rfl
            have e5 := hcell 5 _ rfl
            have e6 := hcell 6 _ rfl
            replace hrest := Lib.hid hrest
            clear hcell hcj htj0
            replace htj := Lib.hid htj
            have hsb := hbq.size
            go_wp2_with fail
            refine wp_name (fun wa => Below wr.heap.size wr wa ∧ Bx wa wr.heap.size [.string uj, .int .i64 k', .int .i64 i', .int .i64 s', .string t', .slice A2 n2 c2, .slice B2 m2 e2]) ⟨by repeat (first | with_reducible assumption | with_reducible exact G.refl _ | with_reducible refine G.drew ?_ | with_reducible refine G.drewN ?_ _ | with_reducible refine G.alloc ?_ _ | with_reducible refine Below.setCell ?_ (by first | (simp; done) | (simp; omega)) _ | with_reducible refine G.trans ?_ hb12 | with_reducible refine G.trans ?_ hb11 | with_reducible refine G.trans ?_ hb10 | with_reducible refine G.trans ?_ hb9 | with_reducible refine G.trans ?_ hb8 | with_reducible refine G.trans ?_ hb7 | with_reducible refine G.trans ?_ hb6 | with_reducible refine G.trans ?_ hb5 | with_reducible refine G.trans ?_ hb4 | with_reducible refine G.trans ?_ hb3 | with_reducible refine G.trans ?_ hb2 | with_reducible refine G.trans ?_ hb1 | with_reducible refine G.trans ?_ hb | assumption), by repeat (first | with_reducible assumption | (with_reducible exact Bx.new (by simp; done) (by rfl)) | (with_reducible refine Bx.alloc ?_ _) | (with_reducible refine Bx.drewN ?_ _) | ((with_reducible apply Bx.put); rotate_right; (first | rfl | skip)) | (with_reducible refine Bx.other ?_ (by first | (simp; done) | (simp; omega)) _))⟩ ?_
            rintro wa ⟨hba, y⟩
            have x3a := x3.grow hba
            obtain ⟨o5, f5⟩ := x3a.2 5 _ rfl
            have lt3 := x3a.lt
            have lty := y.lt
            have y0 := (y.2 0 _ rfl).1
            have y1 := (y.2 1 _ rfl).1
            have y2 := (y.2 2 _ rfl).1
            have y3 := (y.2 3 _ rfl).1
            have y4 := (y.2 4 _ rfl).1
            have y5 := (y.2 5 _ rfl).1
            have y6 := (y.2 6 _ rfl).1
            clear e0 e1 e2' e3 e4 e5 e6
            refine wp_region_ord [(0, 1), (1, 1), (2, 1), (3, 1), (4, 1), (5, 1), (6, 2), (7, 1), (8, 2), (9, 3), (10, 0), (11, 3)] [9, 11] 5 (by kernel_rfl) (by decide +kernel) ?_
            simp only [pickO, List.append_eq, List.cons_append, List.nil_append, List.getElem?_cons_succ, List.getElem?_cons_zero]
            intro w0 hG
            (repeat ((first | (with_reducible refine ord_q1 ?_) | (with_reducible refine ord_q0 ?_)); intro K hK; first | (refine Or.inr ⟨?_, ?_⟩; (focus (go_simp; first | done | (simp [undef]; done))); go_simp; (with_reducible refine hK _ ?_); clear hK K) | (refine Or.inl ⟨?_, ?_⟩; (focus (go_simp; done)); apply Exists.intro; refine And.intro ?_ ?_; (focus (first | (intro wq hq; obtain ⟨hcq, hfq⟩ := G.old hq; go_simp; (first | done | exact rfl); done) | (intro wq; go_simp; (first | done | exact rfl); done))); go_simp; (with_reducible refine hK _ ?_); clear hK K) | fail))
            have hG1 : Below wr.heap.size wr w0 := G.trans hba hG.b
            have hI0 := (htj.out).grow hG1
            (with_reducible refine ord_run ?_ hG)
            intro K hK
            go_simp
            go_at_call 70; (with_reducible refine (IH.out _ _ hI0).mono ?_); rintro e' w2 ⟨cs2, rfl, ht2, hb2⟩; obtain ⟨k2, i2, s2, t2, A3, n3, c3, B3, m3, e3, xs3, ys3, rfl, hrest2⟩ := id ht2; replace hrest2 := Lib.hid hrest2; replace ht2 := Lib.hid ht2
            replace hG := Grew.trans hG hb2
            (try dsimp only)
            (with_reducible refine hK _ _ hG ?_)
            clear hK K
            (repeat ((first | (with_reducible refine ord_q1 ?_) | (with_reducible refine ord_q0 ?_)); intro K hK; first | (refine Or.inr ⟨?_, ?_⟩; (focus (go_simp; first | done | (simp [undef]; done))); go_simp; (with_reducible refine hK _ ?_); clear hK K) | (refine Or.inl ⟨?_, ?_⟩; (focus (go_simp; done)); apply Exists.intro; refine And.intro ?_ ?_; (focus (first | (intro wq hq; obtain ⟨hcq, hfq⟩ := G.old hq; go_simp; (first | done | exact rfl); done) | (intro wq; go_simp; (first | done | exact rfl); done))); go_simp; (with_reducible refine hK _ ?_); clear hK K) | fail))
            (with_reducible refine ord_run ?_ hG)
            intro K hK
            go_simp
            replace hG := Grew.alloc hG (.cells #[.string uj, .int .i64 k2, .int .i64 i2, .int .i64 s2, .string t2, .slice A3 n3 c3, .slice B3 m3 e3] 116)
            (with_reducible refine hK _ _ hG ?_)
            clear hK K
            (repeat ((first | (with_reducible refine ord_q1 ?_) | (with_reducible refine ord_q0 ?_)); intro K hK; first | (refine Or.inr ⟨?_, ?_⟩; (focus (go_simp; first | done | (simp [undef]; done))); go_simp; (with_reducible refine hK _ ?_); clear hK K) | (refine Or.inl ⟨?_, ?_⟩; (focus (go_simp; done)); apply Exists.intro; refine And.intro ?_ ?_; (focus (first | (intro wq hq; obtain ⟨hcq, hfq⟩ := G.old hq; go_simp; (first | done | exact rfl); done) | (intro wq; go_simp; (first | done | exact rfl); done))); go_simp; (with_reducible refine hK _ ?_); clear hK K) | fail))
            have hbw2 : Below wr.heap.size wr w2 := G.trans hG1 hb2
            have hown2 := own_grow hownq hbw2
            have hz := hownq.1
            have hol := fun q hq => hownq.lt q hq
            have hs0 := hG1.size
            have hs2 := hbw2.size
            have htn : Tree (Beside w4.heap.size (.slice B' q e')) w2 (d' + 1) [.int .i64 k2, .int .i64 i2, .int .i64 s2, .string t2, .slice A3 n3 c3, .slice B3 m3 e3] := ht2.out.mono fun b _ hb => ⟨Nat.le_trans (Nat.le_trans hszq.out hs0) hb, fun e => by
              have h1 := (hol b e).2
              have h2 : w0.heap.size ≤ b := hb
              omega⟩
            replace htn := Lib.hid htn
            (with_reducible refine ord_tail ?_); intro K hK
            refine step_appB rfl (.tmp 34) (.tmp 41) _ rfl w4.heap.size 116 j0 _ 7 104 Try.underlying26 hj0 hy0 hy1 hy2 rfl (by decide) (.slice B' q e') q vs rfl (hown2.alloc _) (some ⟨w2.heap.size, 0, none⟩) 1 1 [.string uj, .int .i64 k2, .int .i64 i2, .int .i64 s2, .string t2, .slice A3 n3 c3, .slice B3 m3 e3] rfl (Sl.new rfl rfl) (by simp [Value.oneCell']) (by show _ ≤ 2 ^ 63 - 1; omega) (by omega) (by have := hszq.out; simp; omega) ?_
            intro A5 c5 w5 hown5 hc5 hm5 hg5 hob5
            have hb5 : Below w4.heap.size wr w5 := Below.grown ((hbw2.mono hszq.out).alloc (by have := hszq.out; omega) _) hg5 (by have := hszq.out; simp; omega) (fun q hq => (hol q hq).1)
            have htr5 : Hid (∀ p, p < q + 1 → ∃ u cs', (((vs ++ ([.string uj, .int .i64 k2, .int .i64 i2, .int .i64 s2, .string t2, .slice A3 n3 c3, .slice B3 m3 e3] : List Value)).drop (p * 7)).take 7) = .string u :: cs' ∧ Tree (Beside w4.heap.size (.slice A5 (q + 1) c5)) w5 (d' + 1) cs') := by
              intro p hp
              rcases Nat.lt_or_ge p q with hpj | hpj
              · obtain ⟨u, cs', hu, ht⟩ := htq.out p hpj
                exact ⟨u, cs', (chunk_old hz hpj).trans hu, (((ht.grow hbw2).grow (G.alloc (G.refl _) _)).appended hg5 hob5)⟩
              · obtain rfl : p = q := by omega
                exact ⟨_, _, chunk_new hz rfl, ((htn.out).grow (G.alloc (G.refl _) _)).appended hg5 hob5⟩
            have hsz3 := hsz3.out
            have hszr := hszr.out
            have x1 := x1.below hb5 (by omega)
            have x2 := x2.below hb5 (by omega)
            have x3 := x3.below hb5 (by omega)
            have hbw5 : Below w.heap.size w w5 := hbq.trans (hb5.mono (by omega))
            have hk5 : Keeps (From w3.heap.size) w4 w5 := hkq.trans' hszq.out hb5
            have hs5 := hb5.size
            (with_reducible refine hK _ _ ?_); clear hK K
            obtain ⟨o4, f4⟩ := x3.2 5 _ rfl
            (repeat ((first | (with_reducible refine ord_q1 ?_) | (with_reducible refine ord_q0 ?_)); intro K hK; first | (refine Or.inr ⟨?_, ?_⟩; (focus (go_simp; first | done | (simp [undef]; done))); go_simp; (with_reducible refine hK _ ?_); clear hK K) | (refine Or.inl ⟨?_, ?_⟩; (focus (go_simp; done)); apply Exists.intro; refine And.intro ?_ ?_; (focus (first | (intro wq hq; obtain ⟨hcq, hfq⟩ := G.old hq; go_simp; (first | done | exact rfl); done) | (intro wq; go_simp; (first | done | exact rfl); done))); go_simp; (with_reducible refine hK _ ?_); clear hK K) | fail))
            ((with_reducible refine ord_tail ?_); intro K hK; go_simp; (with_reducible refine hK _ _ ?_); clear hK K)
            (with_reducible refine ord_nil ?_)
            go_wp2_with fail
            go_roundw
            case rel => exact ⟨q + 1, A5, c5, _, by omega, by go_num, by repeat (first | with_reducible assumption | with_reducible exact G.refl _ | with_reducible refine G.drew ?_ | with_reducible refine G.drewN ?_ _ | with_reducible refine G.alloc ?_ _ | with_reducible refine Below.setCell ?_ (by first | (simp; done) | (simp; omega)) _ | with_reducible refine G.trans ?_ hb12 | with_reducible refine G.trans ?_ hb11 | with_reducible refine G.trans ?_ hb10 | with_reducible refine G.trans ?_ hb9 | with_reducible refine G.trans ?_ hb8 | with_reducible refine G.trans ?_ hb7 | with_reducible refine G.trans ?_ hb6 | with_reducible refine G.trans ?_ hb5 | with_reducible refine G.trans ?_ hb4 | with_reducible refine G.trans ?_ hb3 | with_reducible refine G.trans ?_ hb2 | with_reducible refine G.trans ?_ hb1 | with_reducible refine G.trans ?_ hb | assumption), hk5.setCell (by simp; omega) _, by unfold Hid; simp [World.setCell]; have := hszq.out; omega, Bx.other x1 (by simp; omega) _, Bx.other x2 (by simp) _, Bx.put x3 rfl, own_keep hown5 ((Keeps.refl _ _).setCell (by simp; omega) _), fun p hp => let ⟨u, cs', hu, ht⟩ := htr5.out p hp; ⟨u, cs', hu, ht.keep ((Keeps.refl _ _).setCell (fun h => by have := h.1; simp at this; omega) _)⟩⟩
            case measure => simp [intOf]; omega
          · obtain rfl : q = m := by omega
            obtain ⟨a0, g0⟩ := x2.2 0 _ rfl
            obtain ⟨a1, g1⟩ := x2.2 1 _ rfl
            obtain ⟨a2, g2⟩ := x2.2 2 _ rfl
            obtain ⟨a3, g3⟩ := x2.2 3 _ rfl
            obtain ⟨a4, g4⟩ := x2.2 4 _ rfl
            obtain ⟨a5, g5⟩ := x2.2 5 _ rfl
            obtain ⟨d0, _⟩ := x3.2 0 _ rfl
            obtain ⟨d1, _⟩ := x3.2 1 _ rfl
            obtain ⟨d2, _⟩ := x3.2 2 _ rfl
            obtain ⟨d3, _⟩ := x3.2 3 _ rfl
            obtain ⟨d4, _⟩ := x3.2 4 _ rfl
            obtain ⟨d5, _⟩ := x3.2 5 _ rfl
            go_wp2_with fail
            have hsz3 := hsz3.out
            have hszr := hszr.out
            have hszq := hszq.out
            obtain ⟨wF, hF⟩ : ∃ wF, ((((((wr.setCell ⟨w.heap.size + 1, 0, none⟩ (.int .i64 k)).setCell ⟨w.heap.size + 1, 1, none⟩ (.int .i64 i)).setCell ⟨w.heap.size + 1, 2, none⟩ (.int .i64 s)).setCell ⟨w.heap.size + 1, 3, none⟩ (.string t)).setCell ⟨w.heap.size + 1, 4, none⟩ (.slice A' j c')).setCell ⟨w.heap.size + 1, 5, none⟩ (.slice B' q e')) = wF := ⟨_, rfl⟩
            rw [hF]
            have z : Bx wF (w.heap.size + 1) [.int .i64 k, .int .i64 i, .int .i64 s, .string t, .slice A' j c', .slice B' q e'] := by rw [← hF]; exact Bx.put (Bx.put (Bx.put (Bx.put (Bx.put (Bx.put x2 rfl) rfl) rfl) rfl) rfl) rfl
            have zb : Below w.heap.size w wF := by rw [← hF]; exact (((((hbq.setCell (by simp) _).setCell (by simp) _).setCell (by simp) _).setCell (by simp) _).setCell (by simp) _).setCell (by simp) _
            have zk : Keeps (From w3.heap.size) wr wF := by rw [← hF]; exact ((((((Keeps.refl _ _).setCell (by simp; omega) _).setCell (by simp; omega) _).setCell (by simp; omega) _).setCell (by simp; omega) _).setCell (by simp; omega) _).setCell (by simp; omega) _
            clear hF a0 a1 a2 a3 a4 a5 d0 d1 d2 d3 d4 d5 g0 g1 g2 g3 g4 g5
            have a0 := (z.2 0 _ rfl).1
            have a1 := (z.2 1 _ rfl).1
            have a2 := (z.2 2 _ rfl).1
            have a3 := (z.2 3 _ rfl).1
            have a4 := (z.2 4 _ rfl).1
            have a5 := (z.2 5 _ rfl).1
            have zk4 := hkq.trans zk
            have T : Tree (From w.heap.size) wF (d + 1) [.int .i64 k, .int .i64 i, .int .i64 s, .string t, .slice A' j c', .slice B' q e'] := by
              refine ⟨k, i, s, t, A', j, c', B', q, e', zs, vs, rfl, hn8, hm8, ?_, ?_, fun p hp => ?_, fun p hp => ?_⟩
              · exact ((Rw.of_own hown).keep zk4).mono (by decide) fun b _ hb => by have : w3.heap.size ≤ b := hb; show w.heap.size ≤ b; omega
              · exact ((Rw.of_own hownq).keep (zk.mono fun b hb => by have : w4.heap.size ≤ b := hb; show w3.heap.size ≤ b; omega)).mono (by decide) fun b _ hb => by have : w4.heap.size ≤ b := hb; show w.heap.size ≤ b; omega
              · exact ((htr.out p hp).keep (zk4.mono fun b hb => hb.1)).mono fun b _ hb => by have := hb.1; show w.heap.size ≤ b; omega
              · obtain ⟨u, cs', hu, ht⟩ := htq.out p hp
                exact ⟨u, cs', hu, (ht.keep (zk.mono fun b hb => by have := hb.1; show w3.heap.size ≤ b; omega)).mono fun b _ hb => by have := hb.1; show w.heap.size ≤ b; omega⟩
            refine bodyPost_ret (v := .agg #[.int .i64 k, .int .i64 i, .int .i64 s, .string t, .slice A' j c', .slice B' q e']) (by simp only [results, Try.results70]; go_simp) rfl ⟨_, rfl, T, zb⟩
end Go.Proofs.Ytjldpodehffbnaa
