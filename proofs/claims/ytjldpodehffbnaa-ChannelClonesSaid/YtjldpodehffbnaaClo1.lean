/- Clone of a channel. -/
import Derived.Test.YtjldpodehffbnaaChan2
import Derived.Test.YtjldpodehffbnaaChan3
namespace Go.Proofs.Ytjldpodehffbnaa
set_option linter.unusedVariables false
set_option linter.unnecessarySimpa false
set_option linter.unusedSimpArgs false
open Go.RowKit

/-- The items of all slots of a ring: those of the channel where it has one. -/
theorem ChanIn.slots {ok : Nat → Prop} {w : World} {b r : Nat} {c : Ch} {first : Nat} {ring : List Value} {A B : Option Addr} {n cc m d : Nat} (h : ChanIn ok w b r c first ring A B n cc m d) :
    ∃ f : Nat → It, (∀ q, q < c.cap → ItemV ok w ((ring.drop (q * 11)).take 11) (f q)) ∧ ∀ j it, c.items[j]? = some it → f ((first + j) % c.cap) = it := by
  obtain ⟨_, _, _, _, _, h6, h7, _, _, _, _, h12, h13⟩ := h
  have each : ∀ q, ∃ it, (q < c.cap → ItemV ok w ((ring.drop (q * 11)).take 11) it) ∧ ∀ j it', c.items[j]? = some it' → (first + j) % c.cap = q → it = it' := fun q => by
    by_cases hex : ∃ j it', c.items[j]? = some it' ∧ (first + j) % c.cap = q
    · obtain ⟨j, it', hj, hq⟩ := hex
      refine ⟨it', fun _ => by rw [← hq]; exact h12 j it' hj, fun j2 it2 hj2 hq2 => ?_⟩
      have hjl := (List.getElem?_eq_some_iff.1 hj).1
      have hjl2 := (List.getElem?_eq_some_iff.1 hj2).1
      have he : j2 = j := by
        rw [← hq2, ix h6 (by omega), ix h6 (by omega)] at hq
        split at hq <;> split at hq <;> omega
      subst he
      rw [hj] at hj2
      cases hj2
      rfl
    · by_cases hq : q < c.cap
      · obtain ⟨it, hi⟩ := h13 q hq
        exact ⟨it, fun _ => hi, fun j it' hj hqq => absurd ⟨j, it', hj, hqq⟩ hex⟩
      · exact ⟨⟨0, [], 0, 0⟩, fun h => absurd h hq, fun j it' hj hqq => absurd ⟨j, it', hj, hqq⟩ hex⟩
  refine ⟨fun q => Classical.choose (each q), fun q hq => (Classical.choose_spec (each q)).1 hq, fun j it hj => (Classical.choose_spec (each _)).2 j it hj rfl⟩
/-- A copy of a channel has come back. -/
def RetClo (c : Ch) (w : World) (e : Ending) (w' : World) : Prop :=
  ∃ b r, e = .returned (.pointer (some ⟨b, 0, none⟩)) ∧ w.heap.size ≤ b ∧ w.heap.size ≤ r ∧ (∀ ok : Nat → Prop, ¬ ok b → ¬ ok r → (∀ x, w.heap.size ≤ x → x ≠ b → x ≠ r → ok x) → ChanAt ok w' b r c) ∧ Below w.heap.size w w'
set_option maxRecDepth 20000 in set_option maxHeartbeats 4000000 in
theorem clone_any' {ok : Nat → Prop} {w : World} {b r : Nat} {c : Ch} (h : ChanAt ok w b r c) :
    Calls Try.prog 34 #[.pointer (some ⟨b, 0, none⟩)] w (RetClo c w) := by
  obtain ⟨i0, hi0, hz0, hz1, hz2⟩ := info_parts Try.infoI33
  obtain ⟨first, ring, A, B, n, cc, m, d, hI⟩ := h
  obtain ⟨f, hf1, hf2⟩ := hI.slots
  have hc4 := hI.2.2.2.2.2.2.2.1
  have hfc := hI.2.2.2.2.2.1
  have hlc := hI.2.2.2.2.2.2.1
  have hrl := hI.2.2.1
  have hmk := fun w => run_makeSlice (P := Try.prog) w 79 33 i0 _ Try.underlying79 hi0 hz0 .i64 .i64 c.cap c.cap (by omega) (Int.le_refl _) (by rw [hz1, Int.toNat_natCast]; omega) (by rw [hz2]; omega) (by omega)
  simp only [hz1, Int.toNat_natCast] at hmk
  obtain ⟨L, hL⟩ : ∃ L, madeCells (Value.agg #[.int .i64 0, .slice none 0 0, .int .i64 0, .slice none 0 0, .int .i64 0, .int .i64 0, .int .i64 0, .string ⟨#[]⟩, .slice none 0 0, .slice none 0 0, .slice none 0 0]).cells (c.cap * 11) = L := ⟨_, rfl⟩
  have hsz : L.size = c.cap * 11 := by rw [← hL, size_madeCells]
  rw [hL] at hmk
  replace hsz := Lib.hid hsz
  clear hL
  have HI := Lib.hid hI
  have hf1 := Lib.hid hf1
  have hf2 := Lib.hid hf2
  have k0 := (hI.1.2 0 _ rfl).1
  have k1 := (hI.1.2 1 _ rfl).1
  have k2 := (hI.1.2 2 _ rfl).1
  have k3 := (hI.1.2 3 _ rfl).1
  have k4 := (hI.1.2 4 _ rfl).1
  have k5 := (hI.1.2 5 _ rfl).1
  have k6 := (hI.1.2 6 _ rfl).1
  have k7 := (hI.1.2 7 _ rfl).1
  have ltb := hI.1.lt
  replace hrl := Lib.hid hrl
  clear hI
  go_enter Try.func34, Try.ntmps34
  go_wp2_with fail
  refine wp_name (fun wx => Below w.heap.size w wx ∧ Bx wx w.heap.size [.slice (some ⟨w.heap.size + 1, 0, none⟩) c.cap c.cap, .int .i64 first, .int .i64 c.items.length, .int .i64 c.me, .slice A n cc, .int .i64 c.le, .slice B m d, .bool c.used] ∧ Bx wx (w.heap.size + 1) L.toList) ⟨by repeat (first | with_reducible assumption | with_reducible exact G.refl _ | with_reducible refine G.drew ?_ | with_reducible refine G.drewN ?_ _ | with_reducible refine G.alloc ?_ _ | with_reducible refine Below.setCell ?_ (by first | (simp; done) | (simp; omega)) _ | with_reducible refine G.trans ?_ hb12 | with_reducible refine G.trans ?_ hb11 | with_reducible refine G.trans ?_ hb10 | with_reducible refine G.trans ?_ hb9 | with_reducible refine G.trans ?_ hb8 | with_reducible refine G.trans ?_ hb7 | with_reducible refine G.trans ?_ hb6 | with_reducible refine G.trans ?_ hb5 | with_reducible refine G.trans ?_ hb4 | with_reducible refine G.trans ?_ hb3 | with_reducible refine G.trans ?_ hb2 | with_reducible refine G.trans ?_ hb1 | with_reducible refine G.trans ?_ hb | assumption), Bx.alloc (Bx.new rfl rfl) _, Bx.new (by simp) (by simp)⟩ ?_
  rintro w1 ⟨hb1, hT1, hR1⟩
  clear k0 k1 k2 k3 k4 k5 k6 k7
  have hl1 : L.toList.length = c.cap * 11 := by rw [Array.length_toList, hsz.out]
  replace hT1 := Lib.hid hT1
  replace hR1 := Lib.hid hR1
  replace hl1 := Lib.hid hl1
  replace hmk := Lib.hid hmk
  go_loopw [23] (fun iv wr => ∃ (i : Nat) (rg : List Value), i ≤ c.cap ∧ iv = .int .i64 i ∧ Hid (Bx wr w.heap.size [.slice (some ⟨w.heap.size + 1, 0, none⟩) c.cap c.cap, .int .i64 first, .int .i64 c.items.length, .int .i64 c.me, .slice A n cc, .int .i64 c.le, .slice B m d, .bool c.used]) ∧ Hid (Bx wr (w.heap.size + 1) rg) ∧ Hid (rg.length = c.cap * 11) ∧ Hid (∀ q, q < i → ItemV (fun x => w.heap.size ≤ x ∧ x ≠ w.heap.size ∧ x ≠ w.heap.size + 1) wr ((rg.drop (q * 11)).take 11) (f q)) ∧ Below w.heap.size w wr) (fun iv _ => c.cap - (intOf iv).toNat)
  case atStart => exact ⟨0, L.toList, Nat.zero_le _, rfl, hT1, hR1, hl1, fun q hq => absurd hq (by omega), hb1⟩
  case round =>
    clear hT1 hR1 hl1 hb1
    obtain ⟨i, rg, hi, rfl, hT, hR, hl, hit, hbr⟩ := hrel
    by_cases hlt : i < c.cap
    · have hIr := HI.out.grow hbr
      have hch := hIr.2.1.chunk i
      have hv := (hf1.out i hlt).grow hbr
      obtain ⟨z0, A5, n5, c5', z1, A6, n6, c6', z2, z3, z4, z5, A7, n7, c7', A8, n8, c8', A9, n9, c9', he⟩ := item_cells hv
      rw [he] at hv hch
      have e0 : wr.cell? ⟨r, i * 11, none⟩ = _ := hch 0 _ rfl
      have e1 := hch 1 _ rfl
      have e2 := hch 2 _ rfl
      have e3 := hch 3 _ rfl
      have e4 := hch 4 _ rfl
      have e5 := hch 5 _ rfl
      have e6 := hch 6 _ rfl
      have e7 := hch 7 _ rfl
      have e8 := hch 8 _ rfl
      have e9 := hch 9 _ rfl
      have e10 := hch 10 _ rfl
      have ltr := hIr.2.1.lt
      have t0 := (hT.out.2 0 _ rfl).1
      have ltT := hT.out.lt
      replace hv := Lib.hid hv
      clear hch he hIr
      go_wp2_with fail
      refine wp_name (fun wx => Below wr.heap.size wr wx ∧ Bx wx wr.heap.size [.int .i64 z0, .slice A5 n5 c5', .int .i64 z1, .slice A6 n6 c6', .int .i64 z2, .int .i64 z3, .int .i64 z4, .string z5, .slice A7 n7 c7', .slice A8 n8 c8', .slice A9 n9 c9']) ⟨by repeat (first | with_reducible assumption | with_reducible exact G.refl _ | with_reducible refine G.drew ?_ | with_reducible refine G.drewN ?_ _ | with_reducible refine G.alloc ?_ _ | with_reducible refine Below.setCell ?_ (by first | (simp; done) | (simp; omega)) _ | with_reducible refine G.trans ?_ hb12 | with_reducible refine G.trans ?_ hb11 | with_reducible refine G.trans ?_ hb10 | with_reducible refine G.trans ?_ hb9 | with_reducible refine G.trans ?_ hb8 | with_reducible refine G.trans ?_ hb7 | with_reducible refine G.trans ?_ hb6 | with_reducible refine G.trans ?_ hb5 | with_reducible refine G.trans ?_ hb4 | with_reducible refine G.trans ?_ hb3 | with_reducible refine G.trans ?_ hb2 | with_reducible refine G.trans ?_ hb1 | with_reducible refine G.trans ?_ hb | assumption), by repeat (first | with_reducible assumption | (with_reducible exact Bx.new (by simp; done) (by rfl)) | (with_reducible refine Bx.alloc ?_ _) | (with_reducible refine Bx.drewN ?_ _) | ((with_reducible apply Bx.put); rotate_right; (first | rfl | skip)) | (with_reducible refine Bx.other ?_ (by first | (simp; done) | (simp; omega)) _))⟩ ?_
      rintro w4 ⟨hb4, x⟩
      have hbw4 := G.trans hbr hb4
      obtain ⟨c0, c1, c2, c3, c4, c5, c6, c7, c8, c9, c10⟩ := x.c11
      have ltx := x.lt
      replace t0 := G.cell t0 hb4
      replace ltT := cell_lt t0
      dsimp only at ltT
      replace hv := Lib.hid (hv.out.grow hb4)
      clear e0 e1 e2 e3 e4 e5 e6 e7 e8 e9 e10 ltr x
      refine wp_region_ord [(0, 1), (1, 1), (2, 1), (3, 1), (4, 2), (5, 1), (6, 3)] [6] 5 (by kernel_rfl) (by decide +kernel) ?_
      simp only [pickO, List.append_eq, List.cons_append, List.nil_append, List.getElem?_cons_succ, List.getElem?_cons_zero]
      intro w0 hG
      (repeat ((first | (with_reducible refine ord_q1 ?_) | (with_reducible refine ord_q0 ?_)); intro K hK; first | (refine Or.inr ⟨?_, ?_⟩; (focus (go_simp; first | done | (simp [undef]; done))); go_simp; (with_reducible refine hK _ ?_); clear hK K) | (refine Or.inl ⟨?_, ?_⟩; (focus (go_simp; done)); apply Exists.intro; refine And.intro ?_ ?_; (focus (first | (intro wq hq; obtain ⟨hcq, hfq⟩ := G.old hq; go_simp; (first | done | exact rfl); done) | (intro wq; go_simp; (first | done | exact rfl); done))); go_simp; (with_reducible refine hK _ ?_); clear hK K) | fail))
      have hs0 : w4.heap.size ≤ w0.heap.size := hG.b.size
      (with_reducible refine ord_run ?_ hG)
      intro K hK
      go_simp
      go_at_call 46; (with_reducible refine (cloneI_any (hv.out.grow hG.b)).mono ?_); rintro e' w7 ⟨cs', rfl, hit7, hb7⟩; obtain ⟨y0, A15, n15, c15', y1, A16, n16, c16', y2, y3, y4, y5, A17, n17, c17', A18, n18, c18', A19, n19, c19', rfl⟩ := item_cells hit7; replace hit7 := Lib.hid hit7
      replace hG := Grew.trans hG hb7
      (try dsimp only)
      (with_reducible refine hK _ _ hG ?_)
      clear hK K
      (repeat ((first | (with_reducible refine ord_q1 ?_) | (with_reducible refine ord_q0 ?_)); intro K hK; first | (refine Or.inr ⟨?_, ?_⟩; (focus (go_simp; first | done | (simp [undef]; done))); go_simp; (with_reducible refine hK _ ?_); clear hK K) | (refine Or.inl ⟨?_, ?_⟩; (focus (go_simp; done)); apply Exists.intro; refine And.intro ?_ ?_; (focus (first | (intro wq hq; obtain ⟨hcq, hfq⟩ := G.old hq; go_simp; (first | done | exact rfl); done) | (intro wq; go_simp; (first | done | exact rfl); done))); go_simp; (with_reducible refine hK _ ?_); clear hK K) | fail))
      have hGG := hG.b
      have hb17 : Below wr.heap.size wr w7 := G.trans hb4 hGG
      have hR7 := hR.out.grow hb17
      have hT7 := hT.out.grow hb17
      have hri : i * 11 + 11 ≤ rg.length := by rw [hl.out]; omega
      obtain ⟨⟨q0, q1, q2, q3, q4, q5, q6, q7, q8, q9, q10⟩, ⟨f0, f1, f2, f3, f4, f5, f6, f7, f8, f9, f10⟩⟩ := hR7.ex11 i hri
      obtain ⟨a0, q0⟩ := q0
      obtain ⟨a1, q1⟩ := q1
      obtain ⟨a2, q2⟩ := q2
      obtain ⟨a3, q3⟩ := q3
      obtain ⟨a4, q4⟩ := q4
      obtain ⟨a5, q5⟩ := q5
      obtain ⟨a6, q6⟩ := q6
      obtain ⟨a7, q7⟩ := q7
      obtain ⟨a8, q8⟩ := q8
      obtain ⟨a9, q9⟩ := q9
      obtain ⟨a10, q10⟩ := q10
      (repeat ((first | (with_reducible refine ord_q1 ?_) | (with_reducible refine ord_q0 ?_)); intro K hK; first | (refine Or.inr ⟨?_, ?_⟩; (focus (go_simp; first | done | (simp [undef]; done))); go_simp; (with_reducible refine hK _ ?_); clear hK K) | (refine Or.inl ⟨?_, ?_⟩; (focus (go_simp; done)); apply Exists.intro; refine And.intro ?_ ?_; (focus (first | (intro wq hq; obtain ⟨hcq, hfq⟩ := G.old hq; go_simp; (first | done | exact rfl); done) | (intro wq; go_simp; (first | done | exact rfl); done))); go_simp; (with_reducible refine hK _ ?_); clear hK K) | fail))
      ((with_reducible refine ord_tail ?_); intro K hK; go_simp; (with_reducible refine hK _ _ ?_); clear hK K)
      (with_reducible refine ord_nil ?_)
      clear c0 c1 c2 c3 c4 c5 c6 c7 c8 c9 c10 ltx q0 q1 q2 q3 q4 q5 q6 q7 q8 q9 q10 f0 f1 f2 f3 f4 f5 f6 f7 f8 f9 f10
      obtain ⟨wF, hF⟩ : ∃ wF, wF = w7.setCells (w.heap.size + 1) (i * 11) [.int .i64 y0, .slice A15 n15 c15', .int .i64 y1, .slice A16 n16 c16', .int .i64 y2, .int .i64 y3, .int .i64 y4, .string y5, .slice A17 n17 c17', .slice A18 n18 c18', .slice A19 n19 c19'] := ⟨_, rfl⟩
      have zr : Bx wF (w.heap.size + 1) (upd rg i [.int .i64 y0, .slice A15 n15 c15', .int .i64 y1, .slice A16 n16 c16', .int .i64 y2, .int .i64 y3, .int .i64 y4, .string y5, .slice A17 n17 c17', .slice A18 n18 c18', .slice A19 n19 c19']) := by rw [hF]; exact hR7.upd hri rfl
      have zk : Keeps (fun x => x ≠ w.heap.size + 1) w7 wF := by rw [hF]; exact Keeps.setCells (fun h => h rfl) _ _ _ (Keeps.refl _ _)
      have zb : Below 0 w7 wF := by rw [hF]; exact Below.setCells' (Nat.zero_le _) _ _ _ (Below.refl _ _)
      change Exit.inBlock _ _ Exit.normal _ (w7.setCells (w.heap.size + 1) (i * 11) [.int .i64 y0, .slice A15 n15 c15', .int .i64 y1, .slice A16 n16 c16', .int .i64 y2, .int .i64 y3, .int .i64 y4, .string y5, .slice A17 n17 c17', .slice A18 n18 c18', .slice A19 n19 c19'])
      rw [← hF]
      clear hF
      have hbF : Below w.heap.size w wF := (G.trans hbr hb17).trans ⟨zb.os, zb.tape, zb.output, zb.size, fun k hk => zk.2 k (by omega) (by have := (G.trans hbr hb17).size; omega)⟩
      have zT := hT7.keep zk (by omega)
      have hRl := hR.out.lt
      have h4s := hb4.size
      have hge : w.heap.size ≤ w0.heap.size := Nat.le_trans hbw4.size hs0
      have hnew : Hid (∀ q, q < i + 1 → ItemV (fun x => w.heap.size ≤ x ∧ x ≠ w.heap.size ∧ x ≠ w.heap.size + 1) wF (((upd rg i [.int .i64 y0, .slice A15 n15 c15', .int .i64 y1, .slice A16 n16 c16', .int .i64 y2, .int .i64 y3, .int .i64 y4, .string y5, .slice A17 n17 c17', .slice A18 n18 c18', .slice A19 n19 c19']).drop (q * 11)).take 11) (f q)) := fun q hq => by
        by_cases hqi : q = i
        · subst hqi
          rw [upd_same hri rfl]
          exact (hit7.out.mono fun x hx (hx' : _ ≤ x) => ⟨by omega, by omega, by omega⟩).keep (zk.mono fun x hx => hx.2.2)
        · rw [upd_other hri rfl hqi]
          exact ((hit.out q (by omega)).grow hb17).keep (zk.mono fun x hx => hx.2.2)
      have hlen' : Hid ((upd rg i [.int .i64 y0, .slice A15 n15 c15', .int .i64 y1, .slice A16 n16 c16', .int .i64 y2, .int .i64 y3, .int .i64 y4, .string y5, .slice A17 n17 c17', .slice A18 n18 c18', .slice A19 n19 c19']).length = c.cap * 11) := by unfold Hid; rw [upd_len hri rfl]; exact hl.out
      replace zr := Lib.hid zr
      replace zT := Lib.hid zT
      clear hR7 hT7 hb17 hGG zk zb hri
      go_wp2_with fail
      go_roundw
      case rel => exact ⟨i + 1, _, by omega, by go_num, zT, zr, hlen', hnew, hbF⟩
      case measure => simp [intOf]; omega
    · obtain rfl : i = c.cap := by omega
      go_wp2_with fail
      have k3 := ((HI.out.grow hbr).1.2 3 _ rfl).1
      have k4 := ((HI.out.grow hbr).1.2 4 _ rfl).1
      have k5 := ((HI.out.grow hbr).1.2 5 _ rfl).1
      have k6 := ((HI.out.grow hbr).1.2 6 _ rfl).1
      have ltbr := (HI.out.grow hbr).1.lt
      have H4 := Lib.hid (HI.out.grow hbr).2.2.2.1
      have H5 := Lib.hid (HI.out.grow hbr).2.2.2.2.1
      refine wp_region_ord [(0, 1), (1, 1), (2, 1), (3, 1), (5, 1), (6, 1), (7, 1), (8, 1), (4, 2), (9, 2), (10, 1), (11, 3), (12, 0), (13, 3)] [11, 13] 5 (by kernel_rfl) (by decide +kernel) ?_
      simp only [pickO, List.append_eq, List.cons_append, List.nil_append, List.getElem?_cons_succ, List.getElem?_cons_zero]
      intro w0 hG
      (repeat ((first | (with_reducible refine ord_q1 ?_) | (with_reducible refine ord_q0 ?_)); intro K hK; first | (refine Or.inr ⟨?_, ?_⟩; (focus (go_simp; first | done | (simp [undef]; done))); go_simp; (with_reducible refine hK _ ?_); clear hK K) | (refine Or.inl ⟨?_, ?_⟩; (focus (go_simp; done)); apply Exists.intro; refine And.intro ?_ ?_; (focus (first | (intro wq hq; obtain ⟨hcq, hfq⟩ := G.old hq; go_simp; (first | done | exact rfl); done) | (intro wq; go_simp; (first | done | exact rfl); done))); go_simp; (with_reducible refine hK _ ?_); clear hK K) | fail))
      have hs0 : wr.heap.size ≤ w0.heap.size := hG.b.size
      (with_reducible refine ord_run ?_ hG)
      intro K hK
      go_simp
      go_at_call 45; (with_reducible refine (cloneStamp_any c.me (H4.out.grow hG.b)).mono ?_); rintro e' w5 ⟨A5, c5, rfl, hp5, hb5⟩
      replace hG := Grew.trans hG hb5
      (try dsimp only)
      (with_reducible refine hK _ _ hG ?_)
      clear hK K
      (repeat ((first | (with_reducible refine ord_q1 ?_) | (with_reducible refine ord_q0 ?_)); intro K hK; first | (refine Or.inr ⟨?_, ?_⟩; (focus (go_simp; first | done | (simp [undef]; done))); go_simp; (with_reducible refine hK _ ?_); clear hK K) | (refine Or.inl ⟨?_, ?_⟩; (focus (go_simp; done)); apply Exists.intro; refine And.intro ?_ ?_; (focus (first | (intro wq hq; obtain ⟨hcq, hfq⟩ := G.old hq; go_simp; (first | done | exact rfl); done) | (intro wq; go_simp; (first | done | exact rfl); done))); go_simp; (with_reducible refine hK _ ?_); clear hK K) | fail))
      (with_reducible refine ord_run ?_ hG)
      intro K hK
      go_simp
      go_at_call 45; (with_reducible refine (cloneStamp_any c.le (H5.out.grow hG.b)).mono ?_); rintro e' w6 ⟨A6, c6, rfl, hp6, hb6⟩
      replace hG := Grew.trans hG hb6
      (try dsimp only)
      (with_reducible refine hK _ _ hG ?_)
      clear hK K
      (repeat ((first | (with_reducible refine ord_q1 ?_) | (with_reducible refine ord_q0 ?_)); intro K hK; first | (refine Or.inr ⟨?_, ?_⟩; (focus (go_simp; first | done | (simp [undef]; done))); go_simp; (with_reducible refine hK _ ?_); clear hK K) | (refine Or.inl ⟨?_, ?_⟩; (focus (go_simp; done)); apply Exists.intro; refine And.intro ?_ ?_; (focus (first | (intro wq hq; obtain ⟨hcq, hfq⟩ := G.old hq; go_simp; (first | done | exact rfl); done) | (intro wq; go_simp; (first | done | exact rfl); done))); go_simp; (with_reducible refine hK _ ?_); clear hK K) | fail))
      have hGG := hG.b
      have zT := hT.out.grow hGG
      have zR := hR.out.grow hGG
      have hwr := hT.out.lt
      have hwr2 := hR.out.lt
      obtain ⟨i3, g3⟩ := zT.2 3 _ rfl
      obtain ⟨i4, g4⟩ := zT.2 4 _ rfl
      obtain ⟨i5, g5⟩ := zT.2 5 _ rfl
      obtain ⟨i6, g6⟩ := zT.2 6 _ rfl
      (repeat ((first | (with_reducible refine ord_q1 ?_) | (with_reducible refine ord_q0 ?_)); intro K hK; first | (refine Or.inr ⟨?_, ?_⟩; (focus (go_simp; first | done | (simp [undef]; done))); go_simp; (with_reducible refine hK _ ?_); clear hK K) | (refine Or.inl ⟨?_, ?_⟩; (focus (go_simp; done)); apply Exists.intro; refine And.intro ?_ ?_; (focus (first | (intro wq hq; obtain ⟨hcq, hfq⟩ := G.old hq; go_simp; (first | done | exact rfl); done) | (intro wq; go_simp; (first | done | exact rfl); done))); go_simp; (with_reducible refine hK _ ?_); clear hK K) | fail))
      ((with_reducible refine ord_tail ?_); intro K hK; go_simp; (with_reducible refine hK _ _ ?_); clear hK K)
      (repeat ((first | (with_reducible refine ord_q1 ?_) | (with_reducible refine ord_q0 ?_)); intro K hK; first | (refine Or.inr ⟨?_, ?_⟩; (focus (go_simp; first | done | (simp [undef]; done))); go_simp; (with_reducible refine hK _ ?_); clear hK K) | (refine Or.inl ⟨?_, ?_⟩; (focus (go_simp; done)); apply Exists.intro; refine And.intro ?_ ?_; (focus (first | (intro wq hq; obtain ⟨hcq, hfq⟩ := G.old hq; go_simp; (first | done | exact rfl); done) | (intro wq; go_simp; (first | done | exact rfl); done))); go_simp; (with_reducible refine hK _ ?_); clear hK K) | fail))
      ((with_reducible refine ord_tail ?_); intro K hK; go_simp; (with_reducible refine hK _ _ ?_); clear hK K)
      (with_reducible refine ord_nil ?_)
      go_wp2_with fail
      go_ret
      have hs5 := hb5.size
      have hbw6 := G.trans hbr hGG
      refine ⟨w.heap.size, w.heap.size + 1, rfl, Nat.le_refl _, by omega, fun ok hn1 hn2 hok => ?_, (((hbw6.setCell (Nat.le_refl _) _).setCell (Nat.le_refl _) _).setCell (Nat.le_refl _) _).setCell (Nat.le_refl _) _⟩
      have hk : Keeps ok w6 ((((w6.setCell ⟨w.heap.size, 3, none⟩ (.int .i64 c.me)).setCell ⟨w.heap.size, 4, none⟩ (.slice A5 c.mp.length c5)).setCell ⟨w.heap.size, 5, none⟩ (.int .i64 c.le)).setCell ⟨w.heap.size, 6, none⟩ (.slice A6 c.lp.length c6)) := ((((Keeps.refl _ _).setCell hn1 _).setCell hn1 _).setCell hn1 _).setCell hn1 _
      have hsl : ∀ q, q < c.cap → ItemV ok ((((w6.setCell ⟨w.heap.size, 3, none⟩ (.int .i64 c.me)).setCell ⟨w.heap.size, 4, none⟩ (.slice A5 c.mp.length c5)).setCell ⟨w.heap.size, 5, none⟩ (.int .i64 c.le)).setCell ⟨w.heap.size, 6, none⟩ (.slice A6 c.lp.length c6)) ((rg.drop (q * 11)).take 11) (f q) := fun q hq => (((hit.out q hq).grow hGG).mono fun x _ hx => hok x hx.1 hx.2.1 hx.2.2).keep hk
      refine ⟨first, rg, A5, A6, c.mp.length, c5, c.lp.length, c6, Bx.put (Bx.put (Bx.put (Bx.put zT rfl) rfl) rfl) rfl, Bx.other (Bx.other (Bx.other (Bx.other zR (by simp) _) (by simp) _) (by simp) _) (by simp) _, hl.out, ?_, ?_, hfc, hlc, hc4, by omega, hn1, hn2, fun j it hj => ?_, fun q hq => ⟨_, hsl q hq⟩⟩
      · exact ((hp5.mono fun x _ (hx : _ ≤ x) => hok x (by omega) (by omega) (by omega)).grow hb6).keep hk
      · exact (hp6.mono fun x _ (hx : _ ≤ x) => hok x (by omega) (by omega) (by omega)).keep hk
      · have hfj := hf2.out j it hj
        rw [← hfj]
        exact hsl _ (Nat.mod_lt _ (by omega))
end Go.Proofs.Ytjldpodehffbnaa
