/- The law StampSorts returns true: the walk. -/
import Derived.Test.YtjldpodehffbnaaDoorSo8
import Derived.Test.YtjldpodehffbnaaDoorKnown
namespace Go.Proofs.YtjldpodehffbnaaDoor
set_option linter.unusedVariables false
set_option linter.unnecessarySimpa false
set_option linter.unusedSimpArgs false
open Go.RowKit

/-- At how many of the first k places p holds. -/
def cnt (p : Nat → Bool) : Nat → Nat
  | 0 => 0
  | k + 1 => cnt p k + (if p k then 1 else 0)
theorem cnt_le (p : Nat → Bool) : ∀ k, cnt p k ≤ k
  | 0 => Nat.le_refl _
  | k + 1 => by have := cnt_le p k; unfold cnt; split <;> omega
theorem cnt_congr {p q : Nat → Bool} : ∀ {k : Nat}, (∀ x, x < k → p x = q x) → cnt p k = cnt q k
  | 0, _ => rfl
  | k + 1, h => by unfold cnt; rw [cnt_congr fun x hx => h x (by omega), h k (by omega)]
theorem cnt_one {p q : Nat → Bool} {j : Nat} : ∀ {k : Nat}, (∀ x, x < k → x ≠ j → p x = q x) → j < k → cnt p k + (if q j then 1 else 0) = cnt q k + (if p j then 1 else 0)
  | 0, _, hj => by omega
  | k + 1, h, hj => by
    by_cases e : j = k
    · subst e
      unfold cnt
      rw [cnt_congr fun x hx => h x (by omega) (by omega)]
      omega
    · have ih := cnt_one (fun x hx => h x (by omega)) (show j < k by omega)
      unfold cnt
      rw [h k (by omega) (fun e' => e e'.symm)]
      omega
theorem cnt_bij (p : Nat → Bool) : ∀ (n : Nat) (s t : Nat → Nat), (∀ x, s (t x) = x) → (∀ x, t (s x) = x) → (∀ x, n ≤ x → s x = x) → cnt (fun x => p (s x)) n = cnt p n
  | 0, _, _, _, _, _ => rfl
  | k + 1, s, t, h1, h2, h3 => by
    have ht : ∀ x, k + 1 ≤ x → t x = x := fun x hx => by
      have := h2 x
      rwa [h3 x hx] at this
    have hjk : t k ≤ k := by
      rcases Nat.lt_or_ge k (t k) with h | h
      · have e := h3 (t k) (by omega)
        rw [h1] at e
        omega
      · exact h
    have hsj : s (t k) = k := h1 k
    have hsk : ∀ x, s x = k → x = t k := fun x hx => by rw [← hx, h2]
    let s' := fun x => if x = k then k else if x = t k then s k else s x
    let t' := fun x => if x = k then k else if x = s k then t k else t x
    have ih := cnt_bij p k s' t' (fun x => by
      simp only [s', t']
      by_cases e1 : x = k
      · simp [e1]
      · rw [if_neg e1]
        by_cases e2 : x = s k
        · rw [if_pos e2]
          by_cases e3 : t k = k
          · rw [if_pos e3]
            rw [e2]
            have := h1 k
            rw [e3] at this
            exact this.symm
          · rw [if_neg e3, if_pos rfl, e2]
        · rw [if_neg e2]
          have e3 : t x ≠ k := fun e => e2 (by rw [← e, h1])
          have e4 : t x ≠ t k := fun e => e1 (by have := congrArg s e; rwa [h1, h1] at this)
          rw [if_neg e3, if_neg e4, h1]) (fun x => by
      simp only [s', t']
      by_cases e1 : x = k
      · simp [e1]
      · rw [if_neg e1]
        by_cases e2 : x = t k
        · rw [if_pos e2]
          by_cases e3 : s k = k
          · have e4 : x = k := by rw [e2]; have := h2 k; rw [e3] at this; exact this
            exact absurd e4 e1
          · rw [if_neg e3, if_pos rfl, e2]
        · rw [if_neg e2]
          have e3 : s x ≠ k := fun e => e2 (hsk x e)
          have e4 : s x ≠ s k := fun e => e1 (by have := congrArg t e; rwa [h2, h2] at this)
          rw [if_neg e3, if_neg e4, h2]) (fun x hx => by
      simp only [s']
      by_cases e1 : x = k
      · simp [e1]
      · rw [if_neg e1, if_neg (by omega), h3 x (by omega)])
    show cnt (fun x => p (s x)) k + (if p (s k) then 1 else 0) = cnt p k + (if p k then 1 else 0)
    rw [← ih]
    by_cases e : t k = k
    · have hs : s k = k := by have := hsj; rwa [e] at this
      rw [hs]
      congr 1
      refine cnt_congr fun x hx => ?_
      simp only [s']
      rw [if_neg (by omega), if_neg (by omega)]
    · have e1 : s' (t k) = s k := by simp only [s']; rw [if_neg e]; simp
      have hd := cnt_one (p := fun x => p (s x)) (q := fun x => p (s' x)) (j := t k) (k := k) (fun x hx hxj => by
        simp only [s']
        rw [if_neg (by omega), if_neg hxj]) (by omega)
      rw [e1, hsj] at hd
      exact hd
theorem Re.cnt {n : Nat} {f g : Sq} (h : Re 0 n f g) (p : El → Bool) : cnt (fun x => p (g x)) n = cnt (fun x => p (f x)) n := by
  obtain ⟨s, t, h1, h2, h3, h4⟩ := h
  rw [cnt_congr (q := fun x => p (f (s x))) fun x _ => by rw [h4]]
  exact cnt_bij (fun x => p (f x)) n s t h1 h2 fun x hx => h3 x (.inr hx)

theorem StL.take {ok : Nat → Prop} {w : World} {A : Option Addr} {n c : Nat} {l : List (Int × List Int)} (h : StL ok w A n c l) {k : Nat} (hk : k ≤ n) : StL ok w A k c (l.take k) := by
  obtain ⟨zs, ⟨h1, h1', hs, ho⟩, h2, h3⟩ := h
  refine ⟨zs.take (k * 2), ⟨by omega, h1', hs.take (Nat.mul_le_mul_right 2 hk), fun h0 => ho (by omega)⟩, by simp; omega, fun q e p hq => ?_⟩
  rw [List.getElem?_take] at hq
  split at hq
  · rename_i hqk
    obtain ⟨A', n', c', h4, h5⟩ := h3 q e p hq
    refine ⟨A', n', c', ?_, h5⟩
    rw [← h4, List.drop_take, List.take_take, Nat.min_eq_left (by omega)]
  · cases hq
theorem StL.len {ok : Nat → Prop} {w : World} {A : Option Addr} {n c : Nat} {l : List (Int × List Int)} (h : StL ok w A n c l) : l.length = n := by obtain ⟨_, _, h2, _⟩ := h; exact h2
theorem StL.cap {ok : Nat → Prop} {w : World} {A : Option Addr} {n c : Nat} {l : List (Int × List Int)} (h : StL ok w A n c l) : n ≤ c ∧ c ≤ maxLen := by obtain ⟨_, h2, _⟩ := h; exact ⟨h2.1, h2.2.1⟩
theorem cmpX_of {x : El} {e : Int} {p : List Int} {y : El} (h : x.e = e ∧ x.p = p) : cmpS y.e y.p e p = cmpX y x := by unfold cmpX; rw [h.1, h.2]
set_option maxRecDepth 20000 in set_option maxHeartbeats 2000000 in
theorem stampSorts_any {ok : Nat → Prop} (A : Option Addr) (n c : Nat) (l : List (Int × List Int)) (w : World) (h : StL ok w A n c l) (ht : Pow10 w) :
    Calls Tryd.prog 10 #[.slice A n c] w fun e' w' => e' = .returned (.bool true) ∧ Below w.heap.size w w' := by
  obtain ⟨hnc, hcm⟩ := h.cap
  have hK := h.take (k := min n 40) (Nat.min_le_left _ _)
  obtain ⟨K, hKe⟩ : ∃ K, min n 40 = K := ⟨_, rfl⟩
  rw [hKe] at hK
  have hK40 : K ≤ 40 := by omega
  have hKc : K ≤ c := by omega
  obtain ⟨L, hL⟩ : ∃ L, l.take K = L := ⟨_, rfl⟩
  rw [hL] at hK
  have hlen := hK.len
  have hmin : min (n : Int) 40 = (K : Int) := by omega
  have hK0 : (0 : Int) ≤ (K : Int) := by omega
  have hKc' : (K : Int) ≤ (c : Int) := by omega
  replace hK := Lib.hid hK
  replace hlen := Lib.hid hlen
  have htt := Lib.hid ht
  clear h hL ht
  unfold maxLen at hcm
  go_enter Tryd.func10, Tryd.ntmps10
  go_wp2_with fail
  refine (sort_any hK.out (by omega)).mono ?_
  rintro e1 w1 ⟨P, q, B, f, g, rfl, hcq, hqm, hb1, hR, hBw, hre, hsrt, hf⟩
  rw [hlen.out] at hcq hR hre hsrt ⊢
  have hf' := Lib.hid hf
  have hre' := Lib.hid hre
  have hsrt' := Lib.hid hsrt
  have HR := Lib.hid hR
  have HK := Lib.hid (hK.out.grow hb1)
  clear hf hre hsrt hR
  go_wp2_with fail
  refine (known_any _ (htt.out.grow hb1)).mono ?_
  rintro e2 w2 ⟨rfl, hb2⟩
  have hbw2 := G.trans hb1 hb2
  replace HR := Lib.hid (HR.out.grow hb2)
  replace HK := Lib.hid (HK.out.grow hb2)
  have hKK : ((K : Int) != (K : Int)) = false := by simp
  clear hb1 hb2 hK htt
  go_wp2_with fail
  go_loopw [4] (fun iv wr => ∃ i : Nat, i ≤ K ∧ iv = .int .i64 i ∧ Below w2.heap.size w2 wr) (fun iv _ => K - (intOf iv).toNat)
  case atStart => exact ⟨0, Nat.zero_le _, rfl, G.refl _⟩
  case round =>
    obtain ⟨i, hi, rfl, hbr⟩ := hrel
    by_cases hlt : i < K
    · obtain ⟨⟨ei, pi⟩, hxi⟩ := getI_nonneg (l := L) (q := i) (by have := hlen.out; omega)
      have hfi := hf'.out i ei pi hxi
      have hii : (i : Int) < K := by omega
      replace hbr := Lib.hid hbr
      replace hxi := Lib.hid hxi
      go_wp2_with fail
      go_loopw [5, 6] (fun nv kv wr => ∃ k : Nat, k ≤ K ∧ kv = .int .i64 k ∧ nv = .int .i64 ((cnt (fun x => decide (cmpX (f x) (f i) = 0)) k : Int) - (cnt (fun x => decide (cmpX (g x) (f i) = 0)) k : Int)) ∧ Below w2.heap.size w2 wr) (fun _ kv _ => K - (intOf kv).toNat)
      case atStart => exact ⟨0, Nat.zero_le _, rfl, rfl, hbr.out⟩
      case round =>
        clear hbr
        obtain ⟨k, hk, rfl, rfl, hbr⟩ := hrel
        by_cases hlk : k < K
        · have hkk : (k : Int) < K := by omega
          obtain ⟨⟨ek, pk⟩, hxk⟩ := getI_nonneg (l := L) (q := k) (by have := hlen.out; omega)
          have hfk := hf'.out k ek pk hxk
          obtain ⟨b, off, Ak, nk, ck, hA1, hbl, x0, x1, hpk⟩ := (HK.out.grow hbr).at_ hxk
          obtain ⟨b', off', Ai, ni, ci, hA2, _, y0, y1, hpi⟩ := (HK.out.grow hbr).at_ hxi.out
          rw [hA1] at hA2
          simp only [Option.some.injEq, Addr.mk.injEq, and_true] at hA2
          obtain ⟨rfl, rfl⟩ := hA2
          subst hA1
          have hRr := HR.out.grow hbr
          obtain ⟨z0, z1, _, _⟩ := hRr.one hlk
          have hPP := hRr.at_ (by omega)
          subst hPP
          have hBl := hRr.lt (by omega)
          have hek1 := (hRr.el k hlk).1
          have hek2 := Lib.hid (hRr.el k hlk).2.1
          obtain ⟨d1, hd1⟩ : ∃ d, decide (cmpS ek pk ei pi = 0) = d := ⟨_, rfl⟩
          obtain ⟨d2, hd2⟩ : ∃ d, decide (cmpS (g k).e (g k).p ei pi = 0) = d := ⟨_, rfl⟩
          have e1 : decide (cmpX (f k) (f i) = 0) = d1 := by rw [← hd1, ← hfk.1, ← hfk.2, ← hfi.1, ← hfi.2]; rfl
          have e2 : decide (cmpX (g k) (f i) = 0) = d2 := by rw [← hd2, ← hfi.1, ← hfi.2]; rfl
          have hc1 := cnt_le (fun x => decide (cmpX (f x) (f i) = 0)) k
          have hc2 := cnt_le (fun x => decide (cmpX (g x) (f i) = 0)) k
          have hs1 : cnt (fun x => decide (cmpX (f x) (f i) = 0)) (k + 1) = cnt (fun x => decide (cmpX (f x) (f i) = 0)) k + (if d1 then 1 else 0) := by rw [← e1]; rfl
          have hs2 : cnt (fun x => decide (cmpX (g x) (f i) = 0)) (k + 1) = cnt (fun x => decide (cmpX (g x) (f i) = 0)) k + (if d2 then 1 else 0) := by rw [← e2]; rfl
          obtain ⟨n1, hn1⟩ : ∃ x, cnt (fun x => decide (cmpX (f x) (f i) = 0)) k = x := ⟨_, rfl⟩
          obtain ⟨n2, hn2⟩ : ∃ x, cnt (fun x => decide (cmpX (g x) (f i) = 0)) k = x := ⟨_, rfl⟩
          rw [hn1] at hc1 hs1 ⊢
          rw [hn2] at hc2 hs2 ⊢
          replace hd1 := Lib.hid hd1
          replace hd2 := Lib.hid hd2
          replace hpk := Lib.hid hpk
          replace hpi := Lib.hid hpi
          replace hek1 := Lib.hid hek1
          replace hs1 := Lib.hid hs1
          replace hs2 := Lib.hid hs2
          replace hxk := Lib.hid hxk
          replace hfk := Lib.hid hfk
          replace hfi := Lib.hid hfi
          have hbr' := Lib.hid hbr
          clear hbr hRr hn1 hn2 e1 e2
          go_wp2_with fail
          refine wp_region_ord [(0, 1), (1, 1), (2, 1), (3, 1), (4, 1), (5, 1), (6, 1), (7, 1), (8, 2)] [] 5 (by kernel_rfl) (by decide +kernel) ?_
          simp only [pickO, List.append_eq, List.cons_append, List.nil_append, List.getElem?_cons_succ, List.getElem?_cons_zero]
          intro w0 hG
          (repeat ((first | (with_reducible refine ord_q1 ?_) | (with_reducible refine ord_q0 ?_)); intro K hK; first | (refine Or.inr ⟨?_, ?_⟩; (focus (go_simp; first | done | (simp [undef]; done))); go_simp; (with_reducible refine hK _ ?_); clear hK K) | (refine Or.inl ⟨?_, ?_⟩; (focus (go_simp; done)); apply Exists.intro; refine And.intro ?_ ?_; (focus (first | (intro wq hq; obtain ⟨hcq, hfq⟩ := G.old hq; go_simp; (first | done | exact rfl); done) | (intro wq; go_simp; (first | done | exact rfl); done))); go_simp; (with_reducible refine hK _ ?_); clear hK K) | fail))
          (with_reducible refine ord_run ?_ hG)
          intro K hK
          go_simp
          go_at_call 23; (with_reducible refine (same_any ek ei Ak Ai nk ni ck ci pk pi _ (hpk.out.sl.grow hG.b) (hpi.out.sl.grow hG.b) hpk.out.max hpi.out.max).mono ?_); rintro e' w5 ⟨rfl, hb5⟩; rw [hd1.out]
          replace hG := Grew.trans hG hb5
          (try dsimp only)
          (with_reducible refine hK _ _ hG ?_)
          clear hK K
          (repeat ((first | (with_reducible refine ord_q1 ?_) | (with_reducible refine ord_q0 ?_)); intro K hK; first | (refine Or.inr ⟨?_, ?_⟩; (focus (go_simp; first | done | (simp [undef]; done))); go_simp; (with_reducible refine hK _ ?_); clear hK K) | (refine Or.inl ⟨?_, ?_⟩; (focus (go_simp; done)); apply Exists.intro; refine And.intro ?_ ?_; (focus (first | (intro wq hq; obtain ⟨hcq, hfq⟩ := G.old hq; go_simp; (first | done | exact rfl); done) | (intro wq; go_simp; (first | done | exact rfl); done))); go_simp; (with_reducible refine hK _ ?_); clear hK K) | fail))
          (with_reducible refine ord_nil ?_)
          have hg5 := hG.b
          have x0 := G.cell x0 hg5
          have x1 := G.cell x1 hg5
          have y0 := G.cell y0 hg5
          have y1 := G.cell y1 hg5
          have z0 := G.cell z0 hg5
          have z1 := G.cell z1 hg5
          have lz := cell_lt z0
          have ly := cell_lt y0
          dsimp only at lz ly
          rcases d1 with _ | _
          all_goals (go_wp2_with fail)
          · refine wp_region_ord [(0, 1), (1, 1), (2, 1), (3, 1), (4, 1), (5, 1), (6, 1), (7, 1), (8, 2)] [] 5 (by kernel_rfl) (by decide +kernel) ?_
            simp only [pickO, List.append_eq, List.cons_append, List.nil_append, List.getElem?_cons_succ, List.getElem?_cons_zero]
            intro w0 hG
            (repeat ((first | (with_reducible refine ord_q1 ?_) | (with_reducible refine ord_q0 ?_)); intro K hK; first | (refine Or.inr ⟨?_, ?_⟩; (focus (go_simp; first | done | (simp [undef]; done))); go_simp; (with_reducible refine hK _ ?_); clear hK K) | (refine Or.inl ⟨?_, ?_⟩; (focus (go_simp; done)); apply Exists.intro; refine And.intro ?_ ?_; (focus (first | (intro wq hq; obtain ⟨hcq, hfq⟩ := G.old hq; go_simp; (first | done | exact rfl); done) | (intro wq; go_simp; (first | done | exact rfl); done))); go_simp; (with_reducible refine hK _ ?_); clear hK K) | fail))
            (with_reducible refine ord_run ?_ hG)
            intro K hK
            go_simp
            go_at_call 23; (with_reducible refine (same_any (g k).e ei (g k).A Ai (g k).m ni (g k).c ci (g k).p pi _ ((hek1.out.grow hg5).grow hG.b) ((hpi.out.sl.grow hg5).grow hG.b) hek2.out hpi.out.max).mono ?_); rintro e' w6 ⟨rfl, hb6⟩; rw [hd2.out]
            replace hG := Grew.trans hG hb6
            (try dsimp only)
            (with_reducible refine hK _ _ hG ?_)
            clear hK K
            (repeat ((first | (with_reducible refine ord_q1 ?_) | (with_reducible refine ord_q0 ?_)); intro K hK; first | (refine Or.inr ⟨?_, ?_⟩; (focus (go_simp; first | done | (simp [undef]; done))); go_simp; (with_reducible refine hK _ ?_); clear hK K) | (refine Or.inl ⟨?_, ?_⟩; (focus (go_simp; done)); apply Exists.intro; refine And.intro ?_ ?_; (focus (first | (intro wq hq; obtain ⟨hcq, hfq⟩ := G.old hq; go_simp; (first | done | exact rfl); done) | (intro wq; go_simp; (first | done | exact rfl); done))); go_simp; (with_reducible refine hK _ ?_); clear hK K) | fail))
            (with_reducible refine ord_nil ?_)
            have hg6 := hG.b
            rcases d2 with _ | _
            all_goals (go_wp2_with fail)
            · go_roundw
              case rel => exact ⟨k + 1, by omega, by go_num, by rw [hs1.out, hs2.out]; go_num, G.trans hbr'.out (G.trans hg5 hg6)⟩
              case measure => simp [intOf]; omega
            · go_roundw
              case rel => exact ⟨k + 1, by omega, by go_num, by rw [hs1.out, hs2.out]; go_num, G.trans hbr'.out (G.trans hg5 hg6)⟩
              case measure => simp [intOf]; omega
          · refine wp_region_ord [(0, 1), (1, 1), (2, 1), (3, 1), (4, 1), (5, 1), (6, 1), (7, 1), (8, 2)] [] 5 (by kernel_rfl) (by decide +kernel) ?_
            simp only [pickO, List.append_eq, List.cons_append, List.nil_append, List.getElem?_cons_succ, List.getElem?_cons_zero]
            intro w0 hG
            (repeat ((first | (with_reducible refine ord_q1 ?_) | (with_reducible refine ord_q0 ?_)); intro K hK; first | (refine Or.inr ⟨?_, ?_⟩; (focus (go_simp; first | done | (simp [undef]; done))); go_simp; (with_reducible refine hK _ ?_); clear hK K) | (refine Or.inl ⟨?_, ?_⟩; (focus (go_simp; done)); apply Exists.intro; refine And.intro ?_ ?_; (focus (first | (intro wq hq; obtain ⟨hcq, hfq⟩ := G.old hq; go_simp; (first | done | exact rfl); done) | (intro wq; go_simp; (first | done | exact rfl); done))); go_simp; (with_reducible refine hK _ ?_); clear hK K) | fail))
            (with_reducible refine ord_run ?_ hG)
            intro K hK
            go_simp
            go_at_call 23; (with_reducible refine (same_any (g k).e ei (g k).A Ai (g k).m ni (g k).c ci (g k).p pi _ ((hek1.out.grow hg5).grow hG.b) ((hpi.out.sl.grow hg5).grow hG.b) hek2.out hpi.out.max).mono ?_); rintro e' w6 ⟨rfl, hb6⟩; rw [hd2.out]
            replace hG := Grew.trans hG hb6
            (try dsimp only)
            (with_reducible refine hK _ _ hG ?_)
            clear hK K
            (repeat ((first | (with_reducible refine ord_q1 ?_) | (with_reducible refine ord_q0 ?_)); intro K hK; first | (refine Or.inr ⟨?_, ?_⟩; (focus (go_simp; first | done | (simp [undef]; done))); go_simp; (with_reducible refine hK _ ?_); clear hK K) | (refine Or.inl ⟨?_, ?_⟩; (focus (go_simp; done)); apply Exists.intro; refine And.intro ?_ ?_; (focus (first | (intro wq hq; obtain ⟨hcq, hfq⟩ := G.old hq; go_simp; (first | done | exact rfl); done) | (intro wq; go_simp; (first | done | exact rfl); done))); go_simp; (with_reducible refine hK _ ?_); clear hK K) | fail))
            (with_reducible refine ord_nil ?_)
            have hg6 := hG.b
            rcases d2 with _ | _
            all_goals (go_wp2_with fail)
            · go_roundw
              case rel => exact ⟨k + 1, by omega, by go_num, by rw [hs1.out, hs2.out]; go_num, G.trans hbr'.out (G.trans hg5 hg6)⟩
              case measure => simp [intOf]; omega
            · go_roundw
              case rel => exact ⟨k + 1, by omega, by go_num, by rw [hs1.out, hs2.out]; go_num, G.trans hbr'.out (G.trans hg5 hg6)⟩
              case measure => simp [intOf]; omega
        · obtain rfl : k = K := by omega
          have hz : ((cnt (fun x => decide (cmpX (f x) (f i) = 0)) k : Int) - (cnt (fun x => decide (cmpX (g x) (f i) = 0)) k : Int)) = 0 := by
            rw [hre'.out.cnt fun y => decide (cmpX y (f i) = 0)]
            omega
          rw [hz]
          replace hfi := Lib.hid hfi
          have f2 : IntKind.i64.wrap ((i : Int) + 1) = ((i + 1 : Nat) : Int) := by rw [IntWalk.i64_in _ (by omega)]; omega
          obtain ⟨i1, hi1⟩ : ∃ x, i + 1 = x := ⟨_, rfl⟩
          rw [hi1] at f2
          by_cases hi0 : 0 < i
          · have hi0z : (0 : Int) < (i : Int) := by omega
            have hRr := HR.out.grow hbr
            have hPP := hRr.at_ (by omega)
            subst hPP
            obtain ⟨j, hj⟩ : ∃ j, i - 1 = j := ⟨_, rfl⟩
            have f3 : IntKind.i64.wrap ((i : Int) - 1) = (j : Int) := by rw [IntWalk.i64_in _ (by omega)]; omega
            have hjk : j < k := by omega
            obtain ⟨z0, z1, _, _⟩ := hRr.one hlt
            obtain ⟨u0, u1, _, _⟩ := hRr.one hjk
            have hBl := hRr.lt (by omega)
            have hek1 := (hRr.el i hlt).1
            have hek2 := Lib.hid (hRr.el i hlt).2.1
            have hej1 := Lib.hid (hRr.el j hjk).1
            have hles : Hid (decide (cmpS (g i).e (g i).p (g j).e (g j).p < 0) = false) := by
              have := hsrt'.out j i (Nat.zero_le _) (by omega) hlt
              have := cmpX_neg (g j) (g i)
              have : cmpS (g i).e (g i).p (g j).e (g j).p = cmpX (g i) (g j) := rfl
              unfold Hid
              simp
              omega
            replace hek1 := Lib.hid hek1
            replace hi1 := Lib.hid hi1
            replace hj := Lib.hid hj
            replace hbr := Lib.hid hbr
            clear hz hRr
            go_wp2_with fail
            refine wp_region_ord [(0, 1), (1, 1), (2, 1), (3, 1), (4, 1), (5, 1), (6, 1), (7, 1), (8, 1), (9, 1), (10, 1), (11, 1), (12, 1), (13, 1), (14, 1), (15, 2), (16, 1), (17, 1)] [] 5 (by kernel_rfl) (by decide +kernel) ?_
            simp only [pickO, List.append_eq, List.cons_append, List.nil_append, List.getElem?_cons_succ, List.getElem?_cons_zero]
            intro w0 hG
            (repeat ((first | (with_reducible refine ord_q1 ?_) | (with_reducible refine ord_q0 ?_)); intro K hK; first | (refine Or.inr ⟨?_, ?_⟩; (focus (go_simp; first | done | (simp [undef]; done))); go_simp; (with_reducible refine hK _ ?_); clear hK K) | (refine Or.inl ⟨?_, ?_⟩; (focus (go_simp; done)); apply Exists.intro; refine And.intro ?_ ?_; (focus (first | (intro wq hq; obtain ⟨hcq, hfq⟩ := G.old hq; go_simp; (first | done | exact rfl); done) | (intro wq; go_simp; (first | done | exact rfl); done))); go_simp; (with_reducible refine hK _ ?_); clear hK K) | fail))
            (with_reducible refine ord_run ?_ hG)
            intro K hK
            go_simp
            go_at_call 27; (with_reducible refine (less_any (g i).e (g j).e (g i).A (g j).A (g i).m (g j).m (g i).c (g j).c (g i).p (g j).p _ (hek1.out.grow hG.b) (hej1.out.grow hG.b) hek2.out).mono ?_); rintro e' w6 ⟨rfl, hb6⟩; rw [hles.out]
            replace hG := Grew.trans hG hb6
            (try dsimp only)
            (with_reducible refine hK _ _ hG ?_)
            clear hK K
            (repeat ((first | (with_reducible refine ord_q1 ?_) | (with_reducible refine ord_q0 ?_)); intro K hK; first | (refine Or.inr ⟨?_, ?_⟩; (focus (go_simp; first | done | (simp [undef]; done))); go_simp; (with_reducible refine hK _ ?_); clear hK K) | (refine Or.inl ⟨?_, ?_⟩; (focus (go_simp; done)); apply Exists.intro; refine And.intro ?_ ?_; (focus (first | (intro wq hq; obtain ⟨hcq, hfq⟩ := G.old hq; go_simp; (first | done | exact rfl); done) | (intro wq; go_simp; (first | done | exact rfl); done))); go_simp; (with_reducible refine hK _ ?_); clear hK K) | fail))
            (with_reducible refine ord_nil ?_)
            have hg6 := hG.b
            go_wp2_with fail
            go_roundw
            case rel => exact ⟨i1, by have := hi1.out; omega, rfl, G.trans hbr.out hg6⟩
            case measure => have := hi1.out; simp [intOf]; omega
          · have hi0z : ¬ (0 : Int) < (i : Int) := by omega
            replace hi1 := Lib.hid hi1
            replace hbr := Lib.hid hbr
            clear hz
            go_wp2_with fail
            refine wp_region_ord [(0, 1), (1, 1), (2, 1), (3, 1), (4, 1), (5, 1), (6, 1), (7, 1), (8, 1), (9, 1), (10, 1), (11, 1), (12, 1), (13, 1), (14, 1), (15, 2), (16, 1), (17, 1)] [] 5 (by kernel_rfl) (by decide +kernel) ?_
            simp only [pickO, List.append_eq, List.cons_append, List.nil_append, List.getElem?_cons_succ, List.getElem?_cons_zero]
            intro w0 hG
            (repeat ((first | (with_reducible refine ord_q1 ?_) | (with_reducible refine ord_q0 ?_)); intro K hK; first | (refine Or.inr ⟨?_, ?_⟩; (focus (go_simp; first | done | (simp [undef]; done))); go_simp; (with_reducible refine hK _ ?_); clear hK K) | (refine Or.inl ⟨?_, ?_⟩; (focus (go_simp; done)); apply Exists.intro; refine And.intro ?_ ?_; (focus (first | (intro wq hq; obtain ⟨hcq, hfq⟩ := G.old hq; go_simp; (first | done | exact rfl); done) | (intro wq; go_simp; (first | done | exact rfl); done))); go_simp; (with_reducible refine hK _ ?_); clear hK K) | fail))
            (with_reducible refine ord_skipS ?_ hG ?_); (focus (go_simp; first | done | (simp [undef]; done))); intro K hK; go_simp; (with_reducible refine hK _ ?_); clear hK K; (repeat ((first | (with_reducible refine ord_q1 ?_) | (with_reducible refine ord_q0 ?_)); intro K hK; first | (refine Or.inr ⟨?_, ?_⟩; (focus (go_simp; first | done | (simp [undef]; done))); go_simp; (with_reducible refine hK _ ?_); clear hK K) | (refine Or.inl ⟨?_, ?_⟩; (focus (go_simp; done)); apply Exists.intro; refine And.intro ?_ ?_; (focus (first | (intro wq hq; obtain ⟨hcq, hfq⟩ := G.old hq; go_simp; (first | done | exact rfl); done) | (intro wq; go_simp; (first | done | exact rfl); done))); go_simp; (with_reducible refine hK _ ?_); clear hK K) | fail))
            (with_reducible refine ord_nil ?_)
            have hg6 := hG.b
            go_wp2_with fail
            go_roundw
            case rel => exact ⟨i1, by have := hi1.out; omega, rfl, G.trans hbr.out hg6⟩
            case measure => have := hi1.out; simp [intOf]; omega
    · have hii : ¬ (i : Int) < K := by omega
      go_wp2_with fail
      go_ret
      exact ⟨rfl, G.trans hbw2 hbr⟩
end Go.Proofs.YtjldpodehffbnaaDoor
