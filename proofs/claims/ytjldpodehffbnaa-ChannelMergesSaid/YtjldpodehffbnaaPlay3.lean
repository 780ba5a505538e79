/- The model's next. -/
import Derived.Test.YtjldpodehffbnaaPlay2
namespace Go.Proofs.Ytjldpodehffbnaa
set_option linter.unusedVariables false
set_option linter.unnecessarySimpa false
set_option linter.unusedSimpArgs false
open Go.RowKit

/-- The model's first item in memory. -/
theorem ModR.first {ok : Nat → Prop} {base : Nat} {w : World} {mb : Nat} {c : Ch} {A : Option Addr} (h : ModR ok base w mb c A) (hn : 0 < c.items.length) :
    ∃ it g off q z0 A5 n5 c5' z1 A6 n6 c6' z2 z3 z4 z5 A7 n7 c7' A8 n8 c8' A9 n9 c9', (it.e = leE c ∧ it.p = leP c) ∧ g < w.heap.size ∧ mb < w.heap.size ∧ c.items.length ≤ q ∧ w.cell? ⟨mb, 1, none⟩ = some (.slice (some ⟨g, off, none⟩) c.items.length q) ∧
      ItemV (OkM ok A) w [.int .i64 z0, .slice A5 n5 c5', .int .i64 z1, .slice A6 n6 c6', .int .i64 z2, .int .i64 z3, .int .i64 z4, .string z5, .slice A7 n7 c7', .slice A8 n8 c8', .slice A9 n9 c9'] it ∧
      w.cell? ⟨g, off, none⟩ = some (.int .i64 z0) ∧ w.cell? ⟨g, off + 1, none⟩ = some (.slice A5 n5 c5') ∧ w.cell? ⟨g, off + 2, none⟩ = some (.int .i64 z1) ∧ w.cell? ⟨g, off + 3, none⟩ = some (.slice A6 n6 c6') ∧ w.cell? ⟨g, off + 4, none⟩ = some (.int .i64 z2) ∧
      w.cell? ⟨g, off + 5, none⟩ = some (.int .i64 z3) ∧ w.cell? ⟨g, off + 6, none⟩ = some (.int .i64 z4) ∧ w.cell? ⟨g, off + 7, none⟩ = some (.string z5) ∧ w.cell? ⟨g, off + 8, none⟩ = some (.slice A7 n7 c7') ∧ w.cell? ⟨g, off + 9, none⟩ = some (.slice A8 n8 c8') ∧ w.cell? ⟨g, off + 10, none⟩ = some (.slice A9 n9 c9') := by
  rcases hit : c.items with _ | ⟨it, l⟩
  · rw [hit] at hn; exact absurd hn (Nat.lt_irrefl _)
  have h0 : c.items[0]? = some it := by rw [hit]; rfl
  obtain ⟨q, P1, P2, n1, c1, n2, c2, hbx, _, _, hq⟩ := h.box
  obtain ⟨g, off, z0, A5, n5, c5', z1, A6, n6, c6', z2, z3, z4, z5, A7, n7, c7', A8, n8, c8', A9, n9, c9', rfl, hgl, hiv, hch⟩ := h.item h0
  have f0 := hch 0 _ rfl
  have f1 := hch 1 _ rfl
  have f2 := hch 2 _ rfl
  have f3 := hch 3 _ rfl
  have f4 := hch 4 _ rfl
  have f5 := hch 5 _ rfl
  have f6 := hch 6 _ rfl
  have f7 := hch 7 _ rfl
  have f8 := hch 8 _ rfl
  have f9 := hch 9 _ rfl
  have f10 := hch 10 _ rfl
  simp only [Nat.zero_mul, Nat.add_zero] at f0 f1 f2 f3 f4 f5 f6 f7 f8 f9 f10
  have e1 : leE c = it.e := by unfold leE; rw [hit]
  have e2 : leP c = it.p := by unfold leP; rw [hit]
  rw [← hit]
  exact ⟨it, g, off, q, z0, A5, n5, c5', z1, A6, n6, c6', z2, z3, z4, z5, A7, n7, c7', A8, n8, c8', A9, n9, c9', ⟨e1.symm, e2.symm⟩, hgl, hbx.lt, hq, (hbx.2 1 _ rfl).1, hiv, f0, f1, f2, f3, f4, f5, f6, f7, f8, f9, f10⟩
/-- The models in memory. -/
def ModsAt (ok : Nat → Prop) (L : Nat) (w : World) (prs : List PRec) : Prop := ∀ p ∈ prs, ModR ok L w p.mb p.c p.A
theorem ModsAt.grow {ok : Nat → Prop} {L : Nat} {w w' : World} {prs : List PRec} (h : ModsAt ok L w prs) (hb : Below w.heap.size w w') : ModsAt ok L w' prs := fun p hp => (h p hp).grow hb
theorem Sl.getM {w : World} {A : Option Addr} {n : Nat} {l : List PRec} (h : Sl w A n (mps l)) {k : Nat} (hk : k < n) : ∃ b off p, A = some ⟨b, off, none⟩ ∧ b < w.heap.size ∧ l[k]? = some p ∧ w.cell? ⟨b, off + k, none⟩ = some (.pointer (some ⟨p.mb, 0, none⟩)) := by
  obtain ⟨b, off, e, hb, hc⟩ := h.2 (by omega)
  have hl : k < l.length := by have := h.1; simp [mps] at this; omega
  exact ⟨b, off, l[k], e, hb, List.getElem?_eq_getElem hl, hc k _ (by simp [mps, List.getElem?_eq_getElem hl, PRec.mv])⟩
theorem Sl.getM2 {w : World} {b off n : Nat} {l : List PRec} (h : Sl w (some ⟨b, off, none⟩) n (mps l)) {k : Nat} (hk : k < n) {p : PRec} (hx : l[k]? = some p) : w.cell? ⟨b, off + k, none⟩ = some (.pointer (some ⟨p.mb, 0, none⟩)) := by
  obtain ⟨b', off', x', e, _, hx', hc⟩ := h.getM hk
  simp only [Option.some.injEq, Addr.mk.injEq, and_true] at e
  obtain ⟨rfl, rfl⟩ := e
  rw [hx] at hx'
  cases hx'
  exact hc
theorem Sl.lenM {w : World} {A : Option Addr} {n : Nat} {l : List PRec} (h : Sl w A n (mps l)) : l.length = n := by have := h.1; simpa [mps] using this
set_option maxRecDepth 20000 in set_option maxHeartbeats 4000000 in
theorem nextM_any {ok : Nat → Prop} {L : Nat} {w : World} {P : Option Addr} {n cp : Nat} {l : List PRec} (hl : Sl w P n (mps l)) (hn : n ≤ 1024) (hc : ModsAt ok L w l) :
    Calls Try.prog 29 #[.slice P n cp] w fun e' w' => e' = .returned (.tuple #[.int .i64 (nextC (cps l)).1, .bool (nextC (cps l)).2]) ∧ Below w.heap.size w w' := by
  have HC := Lib.hid hc
  have hlen := Lib.hid hl.lenM
  clear hc
  go_enter Try.func29, Try.ntmps29
  go_wp2
  go_loopw [4, 5] (fun bv iv wr => ∃ k : Nat, k ≤ n ∧ iv = .int .i64 k ∧ Hid (bv = .int .i64 (bestV (bestO (cps l) k))) ∧ Below w.heap.size w wr) (fun _ iv _ => n - (intOf iv).toNat)
  case atStart => exact ⟨0, Nat.zero_le _, rfl, rfl, G.refl _⟩
  case round =>
    obtain ⟨k, hk, rfl, hbv, hbr⟩ := hrel
    have hbv := hbv.out
    subst hbv
    by_cases hlt : k < n
    · obtain ⟨bx, ox, p, rfl, hbx, hpk, hcx⟩ := (hl.grow hbr).getM hlt
      have hM : Hid (ModR ok L wr p.mb p.c p.A) := (HC.out p (List.mem_of_getElem? hpk)).grow hbr
      have hbk : Hid (bestO (cps l) (k + 1) = stepB k (bestO (cps l) k) (some (p.b, p.r, p.c))) := by unfold Hid; show (match (cps l)[k]? with | some x => stepB k (bestO (cps l) k) x | none => bestO (cps l) k) = _; rw [cps_get hpk]
      have hpk' := Lib.hid hpk
      clear hpk
      by_cases hc0 : 0 < p.c.items.length
      · have hc0' : (0 : Int) < (p.c.items.length : Int) := by omega
        obtain ⟨ita, ga, offa, qa, z0a, A5a, n5a, c5a, z1a, A6a, n6a, c6a, z2a, z3a, z4a, z5a, A7a, n7a, c7a, A8a, n8a, c8a, A9a, n9a, c9a, ⟨hea, hpa⟩, hgla, ltma, hqa, m1a, hiva, f0a, f1a, f2a, f3a, f4a, f5a, f6a, f7a, f8a, f9a, f10a⟩ := hM.out.first hc0
        replace hiva := Lib.hid hiva
        replace hpa := Lib.hid hpa
        replace hea := Lib.hid hea
        rcases hbo : bestO (cps l) k with _ | ⟨j, bc⟩
        · have hs : Hid (bestO (cps l) (k + 1) = some (k, p.c)) := by unfold Hid; rw [hbk.out, hbo]; simp [stepB, better, hc0]
          replace hbo := Lib.hid hbo
          have hbj : bestV none = -1 := rfl
          rw [hbj]
          clear hbj
          go_wp2_with fail
          refine wp_region_ord [(0, 1), (1, 1), (2, 1), (3, 1), (4, 1), (5, 1), (6, 1), (7, 1), (8, 1), (9, 1), (10, 1), (11, 1), (12, 1), (13, 1), (14, 1), (15, 1), (16, 1), (17, 1), (18, 1), (19, 1), (20, 1), (21, 1), (23, 1), (24, 1), (25, 1), (26, 1), (27, 1), (28, 1), (29, 1), (30, 1), (31, 1), (22, 2), (32, 2), (33, 2), (34, 1), (35, 1), (36, 1)] [] 5 (by kernel_rfl) (by decide +kernel) ?_
          simp only [pickO, List.append_eq, List.cons_append, List.nil_append, List.getElem?_cons_succ, List.getElem?_cons_zero]
          intro w0 hG
          (repeat ((first | (with_reducible refine ord_q1 ?_) | (with_reducible refine ord_q0 ?_)); intro K hK; first | (refine Or.inr ⟨?_, ?_⟩; (focus (go_simp; first | done | (simp [undef]; done))); go_simp; (with_reducible refine hK _ ?_); clear hK K) | (refine Or.inl ⟨?_, ?_⟩; (focus (go_simp; done)); apply Exists.intro; refine And.intro ?_ ?_; (focus (first | (intro wq hq; obtain ⟨hcq, hfq⟩ := G.old hq; go_simp; (first | done | exact rfl); done) | (intro wq; go_simp; (first | done | exact rfl); done))); go_simp; (with_reducible refine hK _ ?_); clear hK K) | fail))
          (with_reducible refine ord_skip ?_ hG ?_); (focus (go_simp; first | done | (simp [undef]; done))); intro K hK; go_simp; (with_reducible refine hK _ ?_); clear hK K; (repeat ((first | (with_reducible refine ord_q1 ?_) | (with_reducible refine ord_q0 ?_)); intro K hK; first | (refine Or.inr ⟨?_, ?_⟩; (focus (go_simp; first | done | (simp [undef]; done))); go_simp; (with_reducible refine hK _ ?_); clear hK K) | (refine Or.inl ⟨?_, ?_⟩; (focus (go_simp; done)); apply Exists.intro; refine And.intro ?_ ?_; (focus (first | (intro wq hq; obtain ⟨hcq, hfq⟩ := G.old hq; go_simp; (first | done | exact rfl); done) | (intro wq; go_simp; (first | done | exact rfl); done))); go_simp; (with_reducible refine hK _ ?_); clear hK K) | fail))
          (with_reducible refine ord_skip ?_ hG ?_); (focus (go_simp; first | done | (simp [undef]; done))); intro K hK; go_simp; (with_reducible refine hK _ ?_); clear hK K; (repeat ((first | (with_reducible refine ord_q1 ?_) | (with_reducible refine ord_q0 ?_)); intro K hK; first | (refine Or.inr ⟨?_, ?_⟩; (focus (go_simp; first | done | (simp [undef]; done))); go_simp; (with_reducible refine hK _ ?_); clear hK K) | (refine Or.inl ⟨?_, ?_⟩; (focus (go_simp; done)); apply Exists.intro; refine And.intro ?_ ?_; (focus (first | (intro wq hq; obtain ⟨hcq, hfq⟩ := G.old hq; go_simp; (first | done | exact rfl); done) | (intro wq; go_simp; (first | done | exact rfl); done))); go_simp; (with_reducible refine hK _ ?_); clear hK K) | fail))
          (with_reducible refine ord_skip ?_ hG ?_); (focus (go_simp; first | done | (simp [undef]; done))); intro K hK; go_simp; (with_reducible refine hK _ ?_); clear hK K; (repeat ((first | (with_reducible refine ord_q1 ?_) | (with_reducible refine ord_q0 ?_)); intro K hK; first | (refine Or.inr ⟨?_, ?_⟩; (focus (go_simp; first | done | (simp [undef]; done))); go_simp; (with_reducible refine hK _ ?_); clear hK K) | (refine Or.inl ⟨?_, ?_⟩; (focus (go_simp; done)); apply Exists.intro; refine And.intro ?_ ?_; (focus (first | (intro wq hq; obtain ⟨hcq, hfq⟩ := G.old hq; go_simp; (first | done | exact rfl); done) | (intro wq; go_simp; (first | done | exact rfl); done))); go_simp; (with_reducible refine hK _ ?_); clear hK K) | fail))
          (with_reducible refine ord_nil ?_)
          go_wp2_with fail
          go_roundw
          case rel => exact ⟨k + 1, by omega, by go_num, by unfold Hid; rw [hs.out]; rfl, G.trans hbr hG.b⟩
          case measure => simp [intOf]; omega
        · obtain ⟨hjk, ⟨bb, br, hjx⟩, hb0⟩ := bestO_at (cps l) k hbo
          obtain ⟨pj, hpj⟩ : ∃ pj, l[j]? = some pj := ⟨_, List.getElem?_eq_getElem (by rw [hlen.out]; omega)⟩
          have hcj' := cps_get hpj
          rw [hjx] at hcj'
          simp only [Option.some.injEq, Prod.mk.injEq] at hcj'
          obtain ⟨-, -, hbc⟩ := hcj'
          subst hbc
          have hcj : wr.cell? ⟨bx, ox + j, none⟩ = some (.pointer (some ⟨pj.mb, 0, none⟩)) := (hl.grow hbr).getM2 (by omega) hpj
          obtain ⟨itb, gb, offb, qb, z0b, A5b, n5b, c5b, z1b, A6b, n6b, c6b, z2b, z3b, z4b, z5b, A7b, n7b, c7b, A8b, n8b, c8b, A9b, n9b, c9b, ⟨heb, hpb⟩, hglb, ltmb, hqb, m1b, hivb, f0b, f1b, f2b, f3b, f4b, f5b, f6b, f7b, f8b, f9b, f10b⟩ := ((HC.out pj (List.mem_of_getElem? hpj)).grow hbr).first hb0
          have hb0' : (0 : Int) < (pj.c.items.length : Int) := by omega
          obtain ⟨v, hv⟩ : ∃ v, cmpS ita.e ita.p itb.e itb.p = v := ⟨_, rfl⟩
          have hs0 : Hid (bestO (cps l) (k + 1) = if v < 0 then some (k, p.c) else some (j, pj.c)) := by
            unfold Hid
            rw [hbk.out, hbo]
            rw [hea.out, hpa.out, heb, hpb] at hv
            simp [stepB, better, hc0, hv]
          replace hv := Lib.hid hv
          replace hivb := Lib.hid hivb
          replace heb := Lib.hid heb
          replace hpb := Lib.hid hpb
          have hj0 : ¬ (j : Int) < 0 := by omega
          have hj1 : (0 : Int) ≤ (j : Int) := by omega
          have hj2 : (j : Int) < (n : Int) := by omega
          replace hbo := Lib.hid hbo
          replace hjx := Lib.hid hjx
          replace hpj := Lib.hid hpj
          have hbj : bestV (some (j, pj.c)) = (j : Int) := rfl
          rw [hbj]
          clear hbj
          have hln : j < n := by omega
          go_wp2_with fail
          have ltx := cell_lt hcj
          dsimp only at ltx
          by_cases hvn : v < 0
          · have hs : Hid (bestO (cps l) (k + 1) = some (k, p.c)) := by unfold Hid; rw [hs0.out, if_pos hvn]
            refine wp_region_ord [(0, 1), (1, 1), (2, 1), (3, 1), (4, 1), (5, 1), (6, 1), (7, 1), (8, 1), (9, 1), (10, 1), (11, 1), (12, 1), (13, 1), (14, 1), (15, 1), (16, 1), (17, 1), (18, 1), (19, 1), (20, 1), (21, 1), (23, 1), (24, 1), (25, 1), (26, 1), (27, 1), (28, 1), (29, 1), (30, 1), (31, 1), (22, 2), (32, 2), (33, 2), (34, 1), (35, 1), (36, 1)] [] 5 (by kernel_rfl) (by decide +kernel) ?_
            simp only [pickO, List.append_eq, List.cons_append, List.nil_append, List.getElem?_cons_succ, List.getElem?_cons_zero]
            intro w0 hG
            (repeat ((first | (with_reducible refine ord_q1 ?_) | (with_reducible refine ord_q0 ?_)); intro K hK; first | (refine Or.inr ⟨?_, ?_⟩; (focus (go_simp; first | done | (simp [undef]; done))); go_simp; (with_reducible refine hK _ ?_); clear hK K) | (refine Or.inl ⟨?_, ?_⟩; (focus (go_simp; done)); apply Exists.intro; refine And.intro ?_ ?_; (focus (first | (intro wq hq; obtain ⟨hcq, hfq⟩ := G.old hq; go_simp; (first | done | exact rfl); done) | (intro wq; go_simp; (first | done | exact rfl); done))); go_simp; (with_reducible refine hK _ ?_); clear hK K) | fail))
            (with_reducible refine ord_run ?_ hG)
            intro K hK
            go_simp
            go_at_call 17; (with_reducible refine (ofc_any hiva.out hG.b).mono ?_); rintro e' w2 ⟨X1, x1, y1, rfl, hp1, hb2⟩
            replace hG := Grew.trans hG hb2
            (try dsimp only)
            (with_reducible refine hK _ _ hG ?_)
            clear hK K
            (repeat ((first | (with_reducible refine ord_q1 ?_) | (with_reducible refine ord_q0 ?_)); intro K hK; first | (refine Or.inr ⟨?_, ?_⟩; (focus (go_simp; first | done | (simp [undef]; done))); go_simp; (with_reducible refine hK _ ?_); clear hK K) | (refine Or.inl ⟨?_, ?_⟩; (focus (go_simp; done)); apply Exists.intro; refine And.intro ?_ ?_; (focus (first | (intro wq hq; obtain ⟨hcq, hfq⟩ := G.old hq; go_simp; (first | done | exact rfl); done) | (intro wq; go_simp; (first | done | exact rfl); done))); go_simp; (with_reducible refine hK _ ?_); clear hK K) | fail))
            (with_reducible refine ord_run ?_ hG)
            intro K hK
            go_simp
            go_at_call 17; (with_reducible refine (ofc_any hivb.out hG.b).mono ?_); rintro e' w3 ⟨X2, x2, y2, rfl, hp2, hb3⟩
            replace hG := Grew.trans hG hb3
            (try dsimp only)
            (with_reducible refine hK _ _ hG ?_)
            clear hK K
            (repeat ((first | (with_reducible refine ord_q1 ?_) | (with_reducible refine ord_q0 ?_)); intro K hK; first | (refine Or.inr ⟨?_, ?_⟩; (focus (go_simp; first | done | (simp [undef]; done))); go_simp; (with_reducible refine hK _ ?_); clear hK K) | (refine Or.inl ⟨?_, ?_⟩; (focus (go_simp; done)); apply Exists.intro; refine And.intro ?_ ?_; (focus (first | (intro wq hq; obtain ⟨hcq, hfq⟩ := G.old hq; go_simp; (first | done | exact rfl); done) | (intro wq; go_simp; (first | done | exact rfl); done))); go_simp; (with_reducible refine hK _ ?_); clear hK K) | fail))
            (with_reducible refine ord_run ?_ hG)
            intro K hK
            go_simp
            go_at_call 25; (with_reducible refine (compare_any ita.e itb.e X1 X2 x1 x2 y1 y2 ita.p itb.p _ (hp1.sl.grow hb3) hp2.sl hp1.max).mono ?_); rintro e' w4 ⟨rfl, hb4⟩; rw [hv.out]
            replace hG := Grew.trans hG hb4
            (try dsimp only)
            (with_reducible refine hK _ _ hG ?_)
            clear hK K
            (repeat ((first | (with_reducible refine ord_q1 ?_) | (with_reducible refine ord_q0 ?_)); intro K hK; first | (refine Or.inr ⟨?_, ?_⟩; (focus (go_simp; first | done | (simp [undef]; done))); go_simp; (with_reducible refine hK _ ?_); clear hK K) | (refine Or.inl ⟨?_, ?_⟩; (focus (go_simp; done)); apply Exists.intro; refine And.intro ?_ ?_; (focus (first | (intro wq hq; obtain ⟨hcq, hfq⟩ := G.old hq; go_simp; (first | done | exact rfl); done) | (intro wq; go_simp; (first | done | exact rfl); done))); go_simp; (with_reducible refine hK _ ?_); clear hK K) | fail))
            (with_reducible refine ord_nil ?_)
            go_wp2_with fail
            go_roundw
            case rel => exact ⟨k + 1, by omega, by go_num, by unfold Hid; rw [hs.out]; rfl, G.trans hbr hG.b⟩
            case measure => simp [intOf]; omega
          · have hs : Hid (bestO (cps l) (k + 1) = some (j, pj.c)) := by unfold Hid; rw [hs0.out, if_neg hvn]
            refine wp_region_ord [(0, 1), (1, 1), (2, 1), (3, 1), (4, 1), (5, 1), (6, 1), (7, 1), (8, 1), (9, 1), (10, 1), (11, 1), (12, 1), (13, 1), (14, 1), (15, 1), (16, 1), (17, 1), (18, 1), (19, 1), (20, 1), (21, 1), (23, 1), (24, 1), (25, 1), (26, 1), (27, 1), (28, 1), (29, 1), (30, 1), (31, 1), (22, 2), (32, 2), (33, 2), (34, 1), (35, 1), (36, 1)] [] 5 (by kernel_rfl) (by decide +kernel) ?_
            simp only [pickO, List.append_eq, List.cons_append, List.nil_append, List.getElem?_cons_succ, List.getElem?_cons_zero]
            intro w0 hG
            (repeat ((first | (with_reducible refine ord_q1 ?_) | (with_reducible refine ord_q0 ?_)); intro K hK; first | (refine Or.inr ⟨?_, ?_⟩; (focus (go_simp; first | done | (simp [undef]; done))); go_simp; (with_reducible refine hK _ ?_); clear hK K) | (refine Or.inl ⟨?_, ?_⟩; (focus (go_simp; done)); apply Exists.intro; refine And.intro ?_ ?_; (focus (first | (intro wq hq; obtain ⟨hcq, hfq⟩ := G.old hq; go_simp; (first | done | exact rfl); done) | (intro wq; go_simp; (first | done | exact rfl); done))); go_simp; (with_reducible refine hK _ ?_); clear hK K) | fail))
            (with_reducible refine ord_run ?_ hG)
            intro K hK
            go_simp
            go_at_call 17; (with_reducible refine (ofc_any hiva.out hG.b).mono ?_); rintro e' w2 ⟨X1, x1, y1, rfl, hp1, hb2⟩
            replace hG := Grew.trans hG hb2
            (try dsimp only)
            (with_reducible refine hK _ _ hG ?_)
            clear hK K
            (repeat ((first | (with_reducible refine ord_q1 ?_) | (with_reducible refine ord_q0 ?_)); intro K hK; first | (refine Or.inr ⟨?_, ?_⟩; (focus (go_simp; first | done | (simp [undef]; done))); go_simp; (with_reducible refine hK _ ?_); clear hK K) | (refine Or.inl ⟨?_, ?_⟩; (focus (go_simp; done)); apply Exists.intro; refine And.intro ?_ ?_; (focus (first | (intro wq hq; obtain ⟨hcq, hfq⟩ := G.old hq; go_simp; (first | done | exact rfl); done) | (intro wq; go_simp; (first | done | exact rfl); done))); go_simp; (with_reducible refine hK _ ?_); clear hK K) | fail))
            (with_reducible refine ord_run ?_ hG)
            intro K hK
            go_simp
            go_at_call 17; (with_reducible refine (ofc_any hivb.out hG.b).mono ?_); rintro e' w3 ⟨X2, x2, y2, rfl, hp2, hb3⟩
            replace hG := Grew.trans hG hb3
            (try dsimp only)
            (with_reducible refine hK _ _ hG ?_)
            clear hK K
            (repeat ((first | (with_reducible refine ord_q1 ?_) | (with_reducible refine ord_q0 ?_)); intro K hK; first | (refine Or.inr ⟨?_, ?_⟩; (focus (go_simp; first | done | (simp [undef]; done))); go_simp; (with_reducible refine hK _ ?_); clear hK K) | (refine Or.inl ⟨?_, ?_⟩; (focus (go_simp; done)); apply Exists.intro; refine And.intro ?_ ?_; (focus (first | (intro wq hq; obtain ⟨hcq, hfq⟩ := G.old hq; go_simp; (first | done | exact rfl); done) | (intro wq; go_simp; (first | done | exact rfl); done))); go_simp; (with_reducible refine hK _ ?_); clear hK K) | fail))
            (with_reducible refine ord_run ?_ hG)
            intro K hK
            go_simp
            go_at_call 25; (with_reducible refine (compare_any ita.e itb.e X1 X2 x1 x2 y1 y2 ita.p itb.p _ (hp1.sl.grow hb3) hp2.sl hp1.max).mono ?_); rintro e' w4 ⟨rfl, hb4⟩; rw [hv.out]
            replace hG := Grew.trans hG hb4
            (try dsimp only)
            (with_reducible refine hK _ _ hG ?_)
            clear hK K
            (repeat ((first | (with_reducible refine ord_q1 ?_) | (with_reducible refine ord_q0 ?_)); intro K hK; first | (refine Or.inr ⟨?_, ?_⟩; (focus (go_simp; first | done | (simp [undef]; done))); go_simp; (with_reducible refine hK _ ?_); clear hK K) | (refine Or.inl ⟨?_, ?_⟩; (focus (go_simp; done)); apply Exists.intro; refine And.intro ?_ ?_; (focus (first | (intro wq hq; obtain ⟨hcq, hfq⟩ := G.old hq; go_simp; (first | done | exact rfl); done) | (intro wq; go_simp; (first | done | exact rfl); done))); go_simp; (with_reducible refine hK _ ?_); clear hK K) | fail))
            (with_reducible refine ord_nil ?_)
            go_wp2_with fail
            go_roundw
            case rel => exact ⟨k + 1, by omega, by go_num, by unfold Hid; rw [hs.out]; rfl, G.trans hbr hG.b⟩
            case measure => simp [intOf]; omega
      · have hs : Hid (bestO (cps l) (k + 1) = bestO (cps l) k) := by unfold Hid; rw [hbk.out]; simp [stepB, hc0]
        have hz : p.c.items.length = 0 := by omega
        obtain ⟨V, hV⟩ : ∃ V, bestV (bestO (cps l) k) = V := ⟨_, rfl⟩
        rw [hV]
        replace hV := Lib.hid hV
        obtain ⟨q, P1, P2, n1, c1, n2, c2, hbx1, _, _, _⟩ := hM.out.box
        have m1 := (hbx1.2 1 _ rfl).1
        have ltm := hbx1.lt
        rw [hz] at m1
        clear hc0 hbx1
        go_wp2_with fail
        refine wp_region_ord [(0, 1), (1, 1), (2, 1), (3, 1), (4, 1), (5, 1), (6, 1), (7, 1), (8, 1), (9, 1), (10, 1), (11, 1), (12, 1), (13, 1), (14, 1), (15, 1), (16, 1), (17, 1), (18, 1), (19, 1), (20, 1), (21, 1), (23, 1), (24, 1), (25, 1), (26, 1), (27, 1), (28, 1), (29, 1), (30, 1), (31, 1), (22, 2), (32, 2), (33, 2), (34, 1), (35, 1), (36, 1)] [] 5 (by kernel_rfl) (by decide +kernel) ?_
        simp only [pickO, List.append_eq, List.cons_append, List.nil_append, List.getElem?_cons_succ, List.getElem?_cons_zero]
        intro w0 hG
        (repeat ((first | (with_reducible refine ord_q1 ?_) | (with_reducible refine ord_q0 ?_)); intro K hK; first | (refine Or.inr ⟨?_, ?_⟩; (focus (go_simp; first | done | (simp [undef]; done))); go_simp; (with_reducible refine hK _ ?_); clear hK K) | (refine Or.inl ⟨?_, ?_⟩; (focus (go_simp; done)); apply Exists.intro; refine And.intro ?_ ?_; (focus (first | (intro wq hq; obtain ⟨hcq, hfq⟩ := G.old hq; go_simp; (first | done | exact rfl); done) | (intro wq; go_simp; (first | done | exact rfl); done))); go_simp; (with_reducible refine hK _ ?_); clear hK K) | fail))
        (with_reducible refine ord_skip ?_ hG ?_); (focus (go_simp; first | done | (simp [undef]; done))); intro K hK; go_simp; (with_reducible refine hK _ ?_); clear hK K; (repeat ((first | (with_reducible refine ord_q1 ?_) | (with_reducible refine ord_q0 ?_)); intro K hK; first | (refine Or.inr ⟨?_, ?_⟩; (focus (go_simp; first | done | (simp [undef]; done))); go_simp; (with_reducible refine hK _ ?_); clear hK K) | (refine Or.inl ⟨?_, ?_⟩; (focus (go_simp; done)); apply Exists.intro; refine And.intro ?_ ?_; (focus (first | (intro wq hq; obtain ⟨hcq, hfq⟩ := G.old hq; go_simp; (first | done | exact rfl); done) | (intro wq; go_simp; (first | done | exact rfl); done))); go_simp; (with_reducible refine hK _ ?_); clear hK K) | fail))
        (with_reducible refine ord_skip ?_ hG ?_); (focus (go_simp; first | done | (simp [undef]; done))); intro K hK; go_simp; (with_reducible refine hK _ ?_); clear hK K; (repeat ((first | (with_reducible refine ord_q1 ?_) | (with_reducible refine ord_q0 ?_)); intro K hK; first | (refine Or.inr ⟨?_, ?_⟩; (focus (go_simp; first | done | (simp [undef]; done))); go_simp; (with_reducible refine hK _ ?_); clear hK K) | (refine Or.inl ⟨?_, ?_⟩; (focus (go_simp; done)); apply Exists.intro; refine And.intro ?_ ?_; (focus (first | (intro wq hq; obtain ⟨hcq, hfq⟩ := G.old hq; go_simp; (first | done | exact rfl); done) | (intro wq; go_simp; (first | done | exact rfl); done))); go_simp; (with_reducible refine hK _ ?_); clear hK K) | fail))
        (with_reducible refine ord_skip ?_ hG ?_); (focus (go_simp; first | done | (simp [undef]; done))); intro K hK; go_simp; (with_reducible refine hK _ ?_); clear hK K; (repeat ((first | (with_reducible refine ord_q1 ?_) | (with_reducible refine ord_q0 ?_)); intro K hK; first | (refine Or.inr ⟨?_, ?_⟩; (focus (go_simp; first | done | (simp [undef]; done))); go_simp; (with_reducible refine hK _ ?_); clear hK K) | (refine Or.inl ⟨?_, ?_⟩; (focus (go_simp; done)); apply Exists.intro; refine And.intro ?_ ?_; (focus (first | (intro wq hq; obtain ⟨hcq, hfq⟩ := G.old hq; go_simp; (first | done | exact rfl); done) | (intro wq; go_simp; (first | done | exact rfl); done))); go_simp; (with_reducible refine hK _ ?_); clear hK K) | fail))
        (with_reducible refine ord_nil ?_)
        go_wp2_with fail
        go_roundw
        case rel => exact ⟨k + 1, by omega, by go_num, by unfold Hid; rw [hs.out, hV.out], G.trans hbr hG.b⟩
        case measure => simp [intOf]; omega
    · obtain rfl : k = n := by omega
      have hlc : Hid ((cps l).length = k) := by unfold Hid; simp [cps, hlen.out]
      rcases hbo : bestO (cps l) k with _ | ⟨j, bc⟩
      · have hs : Hid (nextC (cps l) = (0, false)) := by unfold Hid nextC; rw [hlc.out, hbo]
        have hbj : bestV none = -1 := rfl
        rw [hbj]
        clear hbj hbo
        go_wp2_with fail
        go_loopw [6] (fun iv wx => iv = .int .i64 0 ∧ Below w.heap.size w wx) (fun _ _ => 0)
        case atStart => exact ⟨rfl, hbr⟩
        case round =>
          clear hbr
          obtain ⟨rfl, hbr⟩ := hrel
          by_cases hk0 : 0 < k
          · go_wp2_with fail
            exact bodyPost_ret (v := .tuple #[.int .i64 0, .bool false]) (by simp only [results, Try.results29]; go_simp) rfl ⟨by rw [hs.out], hbr⟩
          · go_wp2_with fail
            exact bodyPost_ret (v := .tuple #[.int .i64 0, .bool false]) (by simp only [results, Try.results29]; go_simp) rfl ⟨by rw [hs.out], hbr⟩
      · obtain ⟨hjk, ⟨bb, br, hjx⟩, hb0⟩ := bestO_at (cps l) k hbo
        obtain ⟨pj, hpj⟩ : ∃ pj, l[j]? = some pj := ⟨_, List.getElem?_eq_getElem (by rw [hlen.out]; omega)⟩
        have hcj' := cps_get hpj
        rw [hjx] at hcj'
        simp only [Option.some.injEq, Prod.mk.injEq] at hcj'
        obtain ⟨-, -, hbc⟩ := hcj'
        subst hbc
        have hs0 : Hid (nextC (cps l) = if (cps l).any (lessO (leE pj.c) (leP pj.c)) = true then (0, false) else ((j : Int), true)) := by unfold Hid nextC; rw [hlc.out, hbo]
        have hbj : bestV (some (j, pj.c)) = (j : Int) := rfl
        rw [hbj]
        have hj0 : ¬ (j : Int) < 0 := by omega
        have hj1 : (0 : Int) ≤ (j : Int) := by omega
        replace hb0 := Lib.hid hb0
        replace hjx := Lib.hid hjx
        clear hbj hbo
        go_wp2_with fail
        go_loopw [6] (fun iv wx => ∃ i : Nat, i ≤ k ∧ iv = .int .i64 i ∧ Hid (∀ q p, q < i → l[q]? = some p → 0 ≤ cmpS (leE p.c) (leP p.c) (leE pj.c) (leP pj.c)) ∧ Below w.heap.size w wx) (fun iv _ => k - (intOf iv).toNat)
        case atStart => exact ⟨0, Nat.zero_le _, rfl, fun q p hq => absurd hq (by omega), hbr⟩
        case round =>
          clear hbr
          obtain ⟨i, hi, rfl, hall, hbr⟩ := hrel
          by_cases hlt : i < k
          · obtain ⟨bx, ox, p, rfl, hbx, hpi, hcx⟩ := (hl.grow hbr).getM hlt
            have hM : Hid (ModR ok L wr p.mb p.c p.A) := (HC.out p (List.mem_of_getElem? hpi)).grow hbr
            have hcj : wr.cell? ⟨bx, ox + j, none⟩ = some (.pointer (some ⟨pj.mb, 0, none⟩)) := (hl.grow hbr).getM2 (by omega) hpj
            obtain ⟨itb, gb, offb, qb, z0b, A5b, n5b, c5b, z1b, A6b, n6b, c6b, z2b, z3b, z4b, z5b, A7b, n7b, c7b, A8b, n8b, c8b, A9b, n9b, c9b, ⟨heb, hpb⟩, hglb, ltmb, hqb, m1b, hivb, f0b, f1b, f2b, f3b, f4b, f5b, f6b, f7b, f8b, f9b, f10b⟩ := ((HC.out pj (List.mem_of_getElem? hpj)).grow hbr).first hb0.out
            have hb0' : (0 : Int) < (pj.c.items.length : Int) := by have := hb0.out; omega
            have hb1 : 0 < pj.c.items.length := hb0.out
            obtain ⟨v, hv⟩ : ∃ v, cmpS (leE p.c) (leP p.c) itb.e itb.p = v := ⟨_, rfl⟩
            have hv2 : Hid (cmpS (leE p.c) (leP p.c) (leE pj.c) (leP pj.c) = v) := by unfold Hid; rw [← heb, ← hpb]; exact hv
            replace hv := Lib.hid hv
            replace hivb := Lib.hid hivb
            replace heb := Lib.hid heb
            replace hpb := Lib.hid hpb
            have hj2 : (j : Int) < (k : Int) := by omega
            replace hpi := Lib.hid hpi
            have hpj' := Lib.hid hpj
            have ltx := cell_lt hcj
            dsimp only at ltx
            go_wp2_with fail
            refine wp_region_ord [(0, 1), (1, 1), (2, 1), (3, 1), (5, 1), (6, 1), (7, 1), (8, 1), (9, 1), (10, 1), (11, 1), (12, 1), (13, 1), (4, 2), (14, 2), (15, 2), (16, 1)] [] 5 (by kernel_rfl) (by decide +kernel) ?_
            simp only [pickO, List.append_eq, List.cons_append, List.nil_append, List.getElem?_cons_succ, List.getElem?_cons_zero]
            intro w0 hG
            (repeat ((first | (with_reducible refine ord_q1 ?_) | (with_reducible refine ord_q0 ?_)); intro K hK; first | (refine Or.inr ⟨?_, ?_⟩; (focus (go_simp; first | done | (simp [undef]; done))); go_simp; (with_reducible refine hK _ ?_); clear hK K) | (refine Or.inl ⟨?_, ?_⟩; (focus (go_simp; done)); apply Exists.intro; refine And.intro ?_ ?_; (focus (first | (intro wq hq; obtain ⟨hcq, hfq⟩ := G.old hq; go_simp; (first | done | exact rfl); done) | (intro wq; go_simp; (first | done | exact rfl); done))); go_simp; (with_reducible refine hK _ ?_); clear hK K) | fail))
            (with_reducible refine ord_run ?_ hG)
            intro K hK
            go_simp
            go_at_call 32; (with_reducible refine (mleast_any (hM.out.grow hG.b).at_).mono ?_); rintro e' w2 ⟨X1, x1, y1, rfl, hp1, hb2⟩
            replace hG := Grew.trans hG hb2
            (try dsimp only)
            (with_reducible refine hK _ _ hG ?_)
            clear hK K
            (repeat ((first | (with_reducible refine ord_q1 ?_) | (with_reducible refine ord_q0 ?_)); intro K hK; first | (refine Or.inr ⟨?_, ?_⟩; (focus (go_simp; first | done | (simp [undef]; done))); go_simp; (with_reducible refine hK _ ?_); clear hK K) | (refine Or.inl ⟨?_, ?_⟩; (focus (go_simp; done)); apply Exists.intro; refine And.intro ?_ ?_; (focus (first | (intro wq hq; obtain ⟨hcq, hfq⟩ := G.old hq; go_simp; (first | done | exact rfl); done) | (intro wq; go_simp; (first | done | exact rfl); done))); go_simp; (with_reducible refine hK _ ?_); clear hK K) | fail))
            (with_reducible refine ord_run ?_ hG)
            intro K hK
            go_simp
            go_at_call 17; (with_reducible refine (ofc_any hivb.out hG.b).mono ?_); rintro e' w3 ⟨X2, x2, y2, rfl, hp2, hb3⟩
            replace hG := Grew.trans hG hb3
            (try dsimp only)
            (with_reducible refine hK _ _ hG ?_)
            clear hK K
            (repeat ((first | (with_reducible refine ord_q1 ?_) | (with_reducible refine ord_q0 ?_)); intro K hK; first | (refine Or.inr ⟨?_, ?_⟩; (focus (go_simp; first | done | (simp [undef]; done))); go_simp; (with_reducible refine hK _ ?_); clear hK K) | (refine Or.inl ⟨?_, ?_⟩; (focus (go_simp; done)); apply Exists.intro; refine And.intro ?_ ?_; (focus (first | (intro wq hq; obtain ⟨hcq, hfq⟩ := G.old hq; go_simp; (first | done | exact rfl); done) | (intro wq; go_simp; (first | done | exact rfl); done))); go_simp; (with_reducible refine hK _ ?_); clear hK K) | fail))
            (with_reducible refine ord_run ?_ hG)
            intro K hK
            go_simp
            go_at_call 25; (with_reducible refine (compare_any (leE p.c) itb.e X1 X2 x1 x2 y1 y2 (leP p.c) itb.p _ (hp1.sl.grow hb3) hp2.sl hp1.max).mono ?_); rintro e' w4 ⟨rfl, hb4⟩; rw [hv.out]
            replace hG := Grew.trans hG hb4
            (try dsimp only)
            (with_reducible refine hK _ _ hG ?_)
            clear hK K
            (repeat ((first | (with_reducible refine ord_q1 ?_) | (with_reducible refine ord_q0 ?_)); intro K hK; first | (refine Or.inr ⟨?_, ?_⟩; (focus (go_simp; first | done | (simp [undef]; done))); go_simp; (with_reducible refine hK _ ?_); clear hK K) | (refine Or.inl ⟨?_, ?_⟩; (focus (go_simp; done)); apply Exists.intro; refine And.intro ?_ ?_; (focus (first | (intro wq hq; obtain ⟨hcq, hfq⟩ := G.old hq; go_simp; (first | done | exact rfl); done) | (intro wq; go_simp; (first | done | exact rfl); done))); go_simp; (with_reducible refine hK _ ?_); clear hK K) | fail))
            (with_reducible refine ord_nil ?_)
            by_cases hv0 : v < 0
            · have hs : Hid (nextC (cps l) = (0, false)) := by
                unfold Hid
                rw [hs0.out, if_pos]
                rw [List.any_eq_true]
                refine ⟨p.cp, by unfold cps; exact List.mem_map_of_mem (List.mem_of_getElem? hpi.out), ?_⟩
                show decide (cmpS (leE p.c) (leP p.c) (leE pj.c) (leP pj.c) < 0) = true
                rw [hv2.out]
                exact decide_eq_true hv0
              go_wp2_with fail
              exact bodyPost_ret (v := .tuple #[.int .i64 0, .bool false]) (by simp only [results, Try.results29]; go_simp) rfl ⟨by rw [hs.out], G.trans hbr hG.b⟩
            · go_wp2_with fail
              go_roundw
              case rel => exact ⟨i + 1, by omega, by go_num, fun q p' hq hp' => by
                rcases Nat.lt_or_ge q i with h | h
                · exact hall.out q p' h hp'
                · obtain rfl : q = i := by omega
                  rw [hpi.out] at hp'
                  cases hp'
                  rw [hv2.out]
                  omega, G.trans hbr hG.b⟩
              case measure => simp [intOf]; omega
          · obtain rfl : i = k := by omega
            have hs : Hid (nextC (cps l) = ((j : Int), true)) := by
              unfold Hid
              rw [hs0.out, if_neg]
              rw [List.any_eq_true]
              rintro ⟨x, hx, hl0⟩
              unfold cps at hx
              rw [List.mem_map] at hx
              obtain ⟨p, hp, rfl⟩ := hx
              obtain ⟨q, hq⟩ := List.getElem?_of_mem hp
              have hq' := (List.getElem?_eq_some_iff.1 hq).1
              rw [hlen.out] at hq'
              exact absurd (of_decide_eq_true hl0) (Int.not_lt.2 (hall.out q p hq' hq))
            go_wp2_with fail
            exact bodyPost_ret (v := .tuple #[.int .i64 j, .bool true]) (by simp only [results, Try.results29]; go_simp) rfl ⟨by rw [hs.out], hbr⟩
end Go.Proofs.Ytjldpodehffbnaa
