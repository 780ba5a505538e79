/- The law StampAntichains returns true: the walk. -/
import Derived.Test.YtjldpodehffbnaaDoorLawSorts
namespace Go.Proofs.YtjldpodehffbnaaDoor
set_option linter.unusedVariables false
set_option linter.unnecessarySimpa false
set_option linter.unusedSimpArgs false
open Go.RowKit

theorem pre_lt : ∀ (xs ys : List Int), xs.length < ys.length → ys.take xs.length = xs → cmpL xs ys < 0
  | [], [], h, _ => by simp at h
  | [], _ :: _, _, _ => by simp [cmpL]
  | _ :: _, [], h, _ => by simp at h
  | x :: xs, y :: ys, h, ht => by
    simp only [List.length_cons, List.take_succ_cons, List.cons.injEq] at ht
    obtain ⟨rfl, ht⟩ := ht
    simp only [cmpL]
    rw [if_pos (cmpI_zero.2 rfl)]
    exact pre_lt xs ys (by simpa using h) ht
theorem pre_between : ∀ (xs ys zs : List Int), cmpL xs ys ≤ 0 → cmpL ys zs ≤ 0 → zs.take xs.length = xs → xs = ys ∨ (xs.length < ys.length ∧ ys.take xs.length = xs)
  | [], [], _, _, _, _ => .inl rfl
  | [], _ :: _, _, _, _, _ => .inr ⟨by simp, by simp⟩
  | _ :: _, [], _, h, _, _ => by simp [cmpL] at h
  | _ :: _, _ :: _, [], _, h, _ => by simp [cmpL] at h
  | x :: xs, y :: ys, z :: zs, h1, h2, ht => by
    simp only [List.length_cons, List.take_succ_cons, List.cons.injEq] at ht
    obtain ⟨rfl, ht⟩ := ht
    simp only [cmpL] at h1 h2
    have e1 := cmpI_neg z y
    have e2 : cmpI z y = 0 := by
      by_cases h : cmpI z y = 0
      · exact h
      · rw [if_neg h] at h1
        have h3 : ¬ cmpI y z = 0 := by omega
        rw [if_neg h3] at h2
        omega
    obtain rfl := cmpI_zero.1 e2
    rw [if_pos e2] at h1
    rw [if_pos e2] at h2
    rcases pre_between xs ys zs h1 h2 ht with h | ⟨h, h'⟩
    · exact .inl (by rw [h])
    · exact .inr ⟨by simpa using h, by simp only [List.length_cons, List.take_succ_cons, h']⟩
/-- y is x, or descends from x. -/
def Akin (x y : El) : Prop := cmpX x y = 0 ∨ descS y.e y.p x.e x.p = true
theorem descS_lt {e f : Int} {xs ys : List Int} (h : descS f ys e xs = true) : cmpS e xs f ys < 0 := by
  unfold descS at h
  simp only [decide_eq_true_eq] at h
  obtain ⟨rfl, h1, h2⟩ := h
  rw [cmpS_same]
  exact pre_lt xs ys h1 h2
theorem Akin.between {x y z : El} (h1 : cmpX x y ≤ 0) (h2 : cmpX y z ≤ 0) (h : Akin x z) : Akin x y := by
  rcases h with h | h
  · have h3 : cmpX z x ≤ 0 := by rw [cmpX_neg x z]; omega
    have h4 := cmpX_trans h2 h3
    rw [cmpX_neg x y] at h4
    exact .inl (by omega)
  · unfold descS at h
    simp only [decide_eq_true_eq] at h
    obtain ⟨he, hl, ht⟩ := h
    have hxy : x.e = y.e := by
      unfold cmpX cmpS at h1 h2
      have a1 : cmpI x.e y.e ≤ 0 := by
        by_cases h : cmpI x.e y.e = 0
        · omega
        · rw [if_neg h] at h1; exact h1
      have a2 : cmpI y.e z.e ≤ 0 := by
        by_cases h : cmpI y.e z.e = 0
        · omega
        · rw [if_neg h] at h2; exact h2
      rw [he, cmpI_neg x.e y.e] at a2
      exact cmpI_zero.1 (by omega)
    unfold cmpX at h1 h2
    rw [hxy, cmpS_same] at h1
    rw [he, hxy, cmpS_same] at h2
    rcases pre_between x.p y.p z.p h1 h2 ht with h | ⟨h, h'⟩
    · exact .inl (cmpS_zero.2 ⟨hxy, h⟩)
    · refine .inr ?_
      unfold descS
      simp only [decide_eq_true_eq]
      exact ⟨hxy.symm, h, h'⟩
theorem anti_iff {n : Nat} {f g : Sq} (hre : Re 0 n f g) (hs : Srt g 0 n) :
    (∀ i, i + 1 < n → ¬ Akin (g i) (g (i + 1))) ↔ ∀ i k, i < n → k < n → i ≠ k → ¬ Akin (f k) (f i) := by
  obtain ⟨s, t, h1, h2, h3, h4⟩ := hre
  have ht : ∀ x, x < n → t x < n := fun x hx => by
    rcases Nat.lt_or_ge (t x) n with h | h
    · exact h
    · have := h3 (t x) (.inr h); rw [h1] at this; omega
  have hsn : ∀ x, x < n → s x < n := fun x hx => by
    rcases Nat.lt_or_ge (s x) n with h | h
    · exact h
    · have := h3 (s x) (.inr h)
      have := congrArg t this
      rw [h2, h2] at this
      omega
  have hgt : ∀ x, g (t x) = f x := fun x => by rw [h4, h1]
  constructor
  · intro h i k hi hk hik hA
    have key : ∀ u v, u < v → v < n → ¬ Akin (g u) (g v) := fun u v huv hvn hA => by
      refine h u (by omega) ?_
      exact Akin.between (hs u (u + 1) (Nat.zero_le _) (by omega) (by omega)) (hs (u + 1) v (Nat.zero_le _) (by omega) hvn) hA
    rw [← hgt i, ← hgt k] at hA
    have hne : t i ≠ t k := fun e => hik (by have := congrArg s e; rwa [h1, h1] at this)
    rcases Nat.lt_or_ge (t k) (t i) with hlt | hge
    · exact key _ _ hlt (ht i hi) hA
    · have hle := hs (t i) (t k) (Nat.zero_le _) hge (ht k hk)
      rcases hA with hA | hA
      · exact key (t i) (t k) (by omega) (ht k hk) (.inl (by rw [cmpX_neg (g (t k))]; omega))
      · have := descS_lt hA
        have e : cmpS (g (t k)).e (g (t k)).p (g (t i)).e (g (t i)).p = cmpX (g (t k)) (g (t i)) := rfl
        rw [e, cmpX_neg (g (t i))] at this
        omega
  · intro h i hi hA
    rw [h4, h4] at hA
    exact h (s (i + 1)) (s i) (hsn _ hi) (hsn _ (by omega)) (fun e => by have := congrArg t e; rw [h2, h2] at this; omega) hA
/-- What the law asks of two places. -/
def Okp (l : List (Int × List Int)) (i k : Nat) : Prop := ∀ e p e' p', l[i]? = some (e, p) → l[k]? = some (e', p') → i ≠ k → cmpS e p e' p' ≠ 0 ∧ descS e p e' p' = false
theorem ok_akin {l : List (Int × List Int)} {f : Sq} (hf : ∀ i e p, l[i]? = some (e, p) → (f i).e = e ∧ (f i).p = p) : (∀ i k, i < l.length → k < l.length → i ≠ k → ¬ Akin (f k) (f i)) ↔ ∀ i k, Okp l i k := by
  constructor
  · intro h i k e p e' p' hi hk hik
    have h1 := h i k (List.getElem?_eq_some_iff.1 hi).1 (List.getElem?_eq_some_iff.1 hk).1 hik
    obtain ⟨a1, a2⟩ := hf i e p hi
    obtain ⟨b1, b2⟩ := hf k e' p' hk
    unfold Akin cmpX at h1
    rw [a1, a2, b1, b2] at h1
    refine ⟨fun h0 => h1 (.inl (by rw [cmpS_neg e e' p p', h0]; rfl)), ?_⟩
    rw [Bool.eq_false_iff]
    exact fun h0 => h1 (.inr h0)
  · intro h i k hi hk hik hA
    obtain ⟨⟨e, p⟩, hxi⟩ := getI_nonneg hi
    obtain ⟨⟨e', p'⟩, hxk⟩ := getI_nonneg hk
    obtain ⟨a1, a2⟩ := hf i e p hxi
    obtain ⟨b1, b2⟩ := hf k e' p' hxk
    obtain ⟨c1, c2⟩ := h i k e p e' p' hxi hxk hik
    unfold Akin cmpX at hA
    rw [a1, a2, b1, b2] at hA
    rcases hA with hA | hA
    · exact c1 (by rw [cmpS_neg e' e p' p, hA]; rfl)
    · rw [hA] at c2; cases c2
/-- Antichain's answer. -/
def AntiR (w : World) (l : List (Int × List Int)) (e : Ending) (w' : World) : Prop := ∃ b, e = .returned (.bool b) ∧ (b = true ↔ ∀ i k, Okp l i k) ∧ Below w.heap.size w w'
theorem AntiR.no {w w' : World} {l : List (Int × List Int)} (h : ¬ ∀ i k, Okp l i k) (hb : Below w.heap.size w w') : AntiR w l (.returned (.bool false)) w' := ⟨false, rfl, ⟨fun h => (by cases h), fun h' => absurd h' h⟩, hb⟩
theorem AntiR.yes {w w' : World} {l : List (Int × List Int)} (h : ∀ i k, Okp l i k) (hb : Below w.heap.size w w') : AntiR w l (.returned (.bool true)) w' := ⟨true, rfl, ⟨fun _ => h, fun _ => rfl⟩, hb⟩
set_option maxRecDepth 20000 in set_option maxHeartbeats 2000000 in
theorem antichain_any {ok : Nat → Prop} {w : World} {A : Option Addr} {n c : Nat} {l : List (Int × List Int)} (h : StL ok w A n c l) (hn : n ≤ 100000) :
    Calls Tryd.prog 31 #[.slice A n c] w (AntiR w l) := by
  have hl := h.len
  have hc1 := sort_any h hn
  clear h
  subst hl
  obtain ⟨n, hnl⟩ : ∃ n, l.length = n := ⟨_, rfl⟩
  rw [hnl] at hn hc1 ⊢
  have HL := Lib.hid hnl
  have f1 : IntKind.i64.wrap ((n : Int) - 1) = (n : Int) - 1 := by rw [IntWalk.i64_in _ (by omega)]
  obtain ⟨N, hN⟩ : ∃ N, n - 1 = N := ⟨_, rfl⟩
  have f2 : max (0 : Int) ((n : Int) - 1) = (N : Int) := by omega
  go_enter Tryd.func31, Tryd.ntmps31
  go_wp2_with fail
  refine hc1.mono ?_
  rintro e1 w1 ⟨P, q, B, f, g, rfl, hcq, hqm, hb1, hR, hBw, hre, hsrt, hf⟩
  rw [HL.out] at hcq hR hre hsrt ⊢
  have hiff : Hid ((∀ i, i + 1 < n → ¬ Akin (g i) (g (i + 1))) ↔ ∀ i k, Okp l i k) := by
    unfold Hid
    rw [anti_iff hre hsrt, ← HL.out]
    exact ok_akin hf
  replace HR := Lib.hid hR
  replace hN := Lib.hid hN
  clear hf hre hsrt hc1 hnl hR
  go_wp2_with fail
  go_loopw [11] (fun iv wr => ∃ i : Nat, i ≤ N ∧ iv = .int .i64 i ∧ Below w1.heap.size w1 wr ∧ ∀ j, j < i → ¬ Akin (g j) (g (j + 1))) (fun iv _ => N - (intOf iv).toNat)
  case atStart => exact ⟨0, Nat.zero_le _, rfl, G.refl _, fun j hj => by omega⟩
  case round =>
    obtain ⟨i, hi, rfl, hbr, hall⟩ := hrel
    clear f1 f2
    by_cases hlt : i < N
    · have hin : i + 1 < n := by have := hN.out; omega
      have hRr := HR.out.grow hbr
      have hPP := hRr.at_ (by omega)
      subst hPP
      have f3 : IntKind.i64.wrap ((i : Int) + 1) = ((i + 1 : Nat) : Int) := by rw [IntWalk.i64_in _ (by omega)]; omega
      obtain ⟨j, hj⟩ : ∃ j, i + 1 = j := ⟨_, rfl⟩
      rw [hj] at f3 hin
      have hi' : i < n := by omega
      obtain ⟨x0, x1, _, _⟩ := hRr.one hi'
      obtain ⟨y0, y1, _, _⟩ := hRr.one hin
      have hBl := hRr.lt (by omega)
      have ei := Lib.hid (hRr.el i hi').1
      have ej := Lib.hid (hRr.el j hin).1
      have mi := Lib.hid (hRr.el i hi').2.1
      have mj := Lib.hid (hRr.el j hin).2.2.2
      obtain ⟨d1, hd1⟩ : ∃ d, (cmpS (g i).e (g i).p (g j).e (g j).p == 0) = d := ⟨_, rfl⟩
      obtain ⟨d2, hd2⟩ : ∃ d, descS (g j).e (g j).p (g i).e (g i).p = d := ⟨_, rfl⟩
      have hak : Hid (Akin (g i) (g j) ↔ d1 = true ∨ d2 = true) := by
        unfold Hid Akin cmpX
        rw [← hd1, ← hd2, beq_iff_eq]
      replace hd1 := Lib.hid hd1
      replace hd2 := Lib.hid hd2
      replace hj := Lib.hid hj
      replace hbr := Lib.hid hbr
      replace hall := Lib.hid hall
      have hbad : Hid (Akin (g i) (g j) → ¬ ∀ i k, Okp l i k) := fun h h' => (hiff.out.2 h') i (by have := hj.out; omega) (by rw [hj.out]; exact h)
      clear hRr
      rcases d1 with _ | _
      · rcases d2 with _ | _
        · have hno : Hid (¬ Akin (g i) (g j)) := fun h => by rcases hak.out.1 h with h | h <;> cases h
          go_wp2_with fail
          refine wp_region_ord [(0, 1), (1, 1), (2, 1), (3, 1), (4, 1), (5, 1), (6, 1), (7, 1), (8, 1), (9, 2), (10, 1), (11, 1), (12, 1), (13, 1), (14, 1), (15, 1), (16, 1), (17, 1), (18, 1), (19, 1), (20, 2), (21, 1)] [] 5 (by kernel_rfl) (by decide +kernel) ?_
          simp only [pickO, List.append_eq, List.cons_append, List.nil_append, List.getElem?_cons_succ, List.getElem?_cons_zero]
          intro w0 hG
          (repeat ((first | (with_reducible refine ord_q1 ?_) | (with_reducible refine ord_q0 ?_)); intro K hK; first | (refine Or.inr ⟨?_, ?_⟩; (focus (go_simp; first | done | (simp [undef]; done))); go_simp; (with_reducible refine hK _ ?_); clear hK K) | (refine Or.inl ⟨?_, ?_⟩; (focus (go_simp; done)); apply Exists.intro; refine And.intro ?_ ?_; (focus (first | (intro wq hq; obtain ⟨hcq, hfq⟩ := G.old hq; go_simp; (first | done | exact rfl); done) | (intro wq; go_simp; (first | done | exact rfl); done))); go_simp; (with_reducible refine hK _ ?_); clear hK K) | fail))
          (with_reducible refine ord_run ?_ hG)
          intro K hK
          go_simp
          go_at_call 26; (with_reducible refine (equal_any (g i).e (g j).e (g i).A (g j).A (g i).m (g j).m (g i).c (g j).c (g i).p (g j).p _ (ei.out.grow hG.b) (ej.out.grow hG.b) mi.out).mono ?_); rintro e' w5 ⟨rfl, hb5⟩; rw [hd1.out]
          replace hG := Grew.trans hG hb5
          (try dsimp only)
          (with_reducible refine hK _ _ hG ?_)
          clear hK K
          (repeat ((first | (with_reducible refine ord_q1 ?_) | (with_reducible refine ord_q0 ?_)); intro K hK; first | (refine Or.inr ⟨?_, ?_⟩; (focus (go_simp; first | done | (simp [undef]; done))); go_simp; (with_reducible refine hK _ ?_); clear hK K) | (refine Or.inl ⟨?_, ?_⟩; (focus (go_simp; done)); apply Exists.intro; refine And.intro ?_ ?_; (focus (first | (intro wq hq; obtain ⟨hcq, hfq⟩ := G.old hq; go_simp; (first | done | exact rfl); done) | (intro wq; go_simp; (first | done | exact rfl); done))); go_simp; (with_reducible refine hK _ ?_); clear hK K) | fail))
          (with_reducible refine ord_run ?_ hG)
          intro K hK
          go_simp
          go_at_call 18; (with_reducible refine (descends_any (g j).e (g i).e (g j).A (g i).A (g j).m (g i).m (g j).c (g i).c (g j).p (g i).p _ (ej.out.grow hG.b) (ei.out.grow hG.b) mi.out mj.out).mono ?_); rintro e' w6 ⟨rfl, hb6⟩; rw [hd2.out]
          replace hG := Grew.trans hG hb6
          (try dsimp only)
          (with_reducible refine hK _ _ hG ?_)
          clear hK K
          (repeat ((first | (with_reducible refine ord_q1 ?_) | (with_reducible refine ord_q0 ?_)); intro K hK; first | (refine Or.inr ⟨?_, ?_⟩; (focus (go_simp; first | done | (simp [undef]; done))); go_simp; (with_reducible refine hK _ ?_); clear hK K) | (refine Or.inl ⟨?_, ?_⟩; (focus (go_simp; done)); apply Exists.intro; refine And.intro ?_ ?_; (focus (first | (intro wq hq; obtain ⟨hcq, hfq⟩ := G.old hq; go_simp; (first | done | exact rfl); done) | (intro wq; go_simp; (first | done | exact rfl); done))); go_simp; (with_reducible refine hK _ ?_); clear hK K) | fail))
          (with_reducible refine ord_nil ?_)
          have hg6 := hG.b
          go_wp2_with fail
          go_roundw
          case rel => exact ⟨j, by have := hj.out; omega, rfl, G.trans hbr.out hg6, fun k hk => by
            rcases Nat.lt_or_ge k i with h | h
            · exact hall.out k h
            · have : k = i := by have := hj.out; omega
              rw [this, hj.out]; exact hno.out⟩
          case measure => have := hj.out; simp [intOf]; omega
        · have hyes := Lib.hid (hbad.out (hak.out.2 (.inr rfl)))
          go_wp2_with fail
          refine wp_region_ord [(0, 1), (1, 1), (2, 1), (3, 1), (4, 1), (5, 1), (6, 1), (7, 1), (8, 1), (9, 2), (10, 1), (11, 1), (12, 1), (13, 1), (14, 1), (15, 1), (16, 1), (17, 1), (18, 1), (19, 1), (20, 2), (21, 1)] [] 5 (by kernel_rfl) (by decide +kernel) ?_
          simp only [pickO, List.append_eq, List.cons_append, List.nil_append, List.getElem?_cons_succ, List.getElem?_cons_zero]
          intro w0 hG
          (repeat ((first | (with_reducible refine ord_q1 ?_) | (with_reducible refine ord_q0 ?_)); intro K hK; first | (refine Or.inr ⟨?_, ?_⟩; (focus (go_simp; first | done | (simp [undef]; done))); go_simp; (with_reducible refine hK _ ?_); clear hK K) | (refine Or.inl ⟨?_, ?_⟩; (focus (go_simp; done)); apply Exists.intro; refine And.intro ?_ ?_; (focus (first | (intro wq hq; obtain ⟨hcq, hfq⟩ := G.old hq; go_simp; (first | done | exact rfl); done) | (intro wq; go_simp; (first | done | exact rfl); done))); go_simp; (with_reducible refine hK _ ?_); clear hK K) | fail))
          (with_reducible refine ord_run ?_ hG)
          intro K hK
          go_simp
          go_at_call 26; (with_reducible refine (equal_any (g i).e (g j).e (g i).A (g j).A (g i).m (g j).m (g i).c (g j).c (g i).p (g j).p _ (ei.out.grow hG.b) (ej.out.grow hG.b) mi.out).mono ?_); rintro e' w5 ⟨rfl, hb5⟩; rw [hd1.out]
          replace hG := Grew.trans hG hb5
          (try dsimp only)
          (with_reducible refine hK _ _ hG ?_)
          clear hK K
          (repeat ((first | (with_reducible refine ord_q1 ?_) | (with_reducible refine ord_q0 ?_)); intro K hK; first | (refine Or.inr ⟨?_, ?_⟩; (focus (go_simp; first | done | (simp [undef]; done))); go_simp; (with_reducible refine hK _ ?_); clear hK K) | (refine Or.inl ⟨?_, ?_⟩; (focus (go_simp; done)); apply Exists.intro; refine And.intro ?_ ?_; (focus (first | (intro wq hq; obtain ⟨hcq, hfq⟩ := G.old hq; go_simp; (first | done | exact rfl); done) | (intro wq; go_simp; (first | done | exact rfl); done))); go_simp; (with_reducible refine hK _ ?_); clear hK K) | fail))
          (with_reducible refine ord_run ?_ hG)
          intro K hK
          go_simp
          go_at_call 18; (with_reducible refine (descends_any (g j).e (g i).e (g j).A (g i).A (g j).m (g i).m (g j).c (g i).c (g j).p (g i).p _ (ej.out.grow hG.b) (ei.out.grow hG.b) mi.out mj.out).mono ?_); rintro e' w6 ⟨rfl, hb6⟩; rw [hd2.out]
          replace hG := Grew.trans hG hb6
          (try dsimp only)
          (with_reducible refine hK _ _ hG ?_)
          clear hK K
          (repeat ((first | (with_reducible refine ord_q1 ?_) | (with_reducible refine ord_q0 ?_)); intro K hK; first | (refine Or.inr ⟨?_, ?_⟩; (focus (go_simp; first | done | (simp [undef]; done))); go_simp; (with_reducible refine hK _ ?_); clear hK K) | (refine Or.inl ⟨?_, ?_⟩; (focus (go_simp; done)); apply Exists.intro; refine And.intro ?_ ?_; (focus (first | (intro wq hq; obtain ⟨hcq, hfq⟩ := G.old hq; go_simp; (first | done | exact rfl); done) | (intro wq; go_simp; (first | done | exact rfl); done))); go_simp; (with_reducible refine hK _ ?_); clear hK K) | fail))
          (with_reducible refine ord_nil ?_)
          have hg6 := hG.b
          go_wp2_with fail
          go_ret
          exact AntiR.no hyes.out (G.trans hb1 (G.trans hbr.out hg6))
      · have hyes := Lib.hid (hbad.out (hak.out.2 (.inl rfl)))
        go_wp2_with fail
        refine wp_region_ord [(0, 1), (1, 1), (2, 1), (3, 1), (4, 1), (5, 1), (6, 1), (7, 1), (8, 1), (9, 2), (10, 1), (11, 1), (12, 1), (13, 1), (14, 1), (15, 1), (16, 1), (17, 1), (18, 1), (19, 1), (20, 2), (21, 1)] [] 5 (by kernel_rfl) (by decide +kernel) ?_
        simp only [pickO, List.append_eq, List.cons_append, List.nil_append, List.getElem?_cons_succ, List.getElem?_cons_zero]
        intro w0 hG
        (repeat ((first | (with_reducible refine ord_q1 ?_) | (with_reducible refine ord_q0 ?_)); intro K hK; first | (refine Or.inr ⟨?_, ?_⟩; (focus (go_simp; first | done | (simp [undef]; done))); go_simp; (with_reducible refine hK _ ?_); clear hK K) | (refine Or.inl ⟨?_, ?_⟩; (focus (go_simp; done)); apply Exists.intro; refine And.intro ?_ ?_; (focus (first | (intro wq hq; obtain ⟨hcq, hfq⟩ := G.old hq; go_simp; (first | done | exact rfl); done) | (intro wq; go_simp; (first | done | exact rfl); done))); go_simp; (with_reducible refine hK _ ?_); clear hK K) | fail))
        (with_reducible refine ord_run ?_ hG)
        intro K hK
        go_simp
        go_at_call 26; (with_reducible refine (equal_any (g i).e (g j).e (g i).A (g j).A (g i).m (g j).m (g i).c (g j).c (g i).p (g j).p _ (ei.out.grow hG.b) (ej.out.grow hG.b) mi.out).mono ?_); rintro e' w5 ⟨rfl, hb5⟩; rw [hd1.out]
        replace hG := Grew.trans hG hb5
        (try dsimp only)
        (with_reducible refine hK _ _ hG ?_)
        clear hK K
        (repeat ((first | (with_reducible refine ord_q1 ?_) | (with_reducible refine ord_q0 ?_)); intro K hK; first | (refine Or.inr ⟨?_, ?_⟩; (focus (go_simp; first | done | (simp [undef]; done))); go_simp; (with_reducible refine hK _ ?_); clear hK K) | (refine Or.inl ⟨?_, ?_⟩; (focus (go_simp; done)); apply Exists.intro; refine And.intro ?_ ?_; (focus (first | (intro wq hq; obtain ⟨hcq, hfq⟩ := G.old hq; go_simp; (first | done | exact rfl); done) | (intro wq; go_simp; (first | done | exact rfl); done))); go_simp; (with_reducible refine hK _ ?_); clear hK K) | fail))
        (with_reducible refine ord_skipS ?_ hG ?_); (focus (go_simp; first | done | (simp [undef]; done))); intro K hK; go_simp; (with_reducible refine hK _ ?_); clear hK K; (repeat ((first | (with_reducible refine ord_q1 ?_) | (with_reducible refine ord_q0 ?_)); intro K hK; first | (refine Or.inr ⟨?_, ?_⟩; (focus (go_simp; first | done | (simp [undef]; done))); go_simp; (with_reducible refine hK _ ?_); clear hK K) | (refine Or.inl ⟨?_, ?_⟩; (focus (go_simp; done)); apply Exists.intro; refine And.intro ?_ ?_; (focus (first | (intro wq hq; obtain ⟨hcq, hfq⟩ := G.old hq; go_simp; (first | done | exact rfl); done) | (intro wq; go_simp; (first | done | exact rfl); done))); go_simp; (with_reducible refine hK _ ?_); clear hK K) | fail))
        (with_reducible refine ord_nil ?_)
        have hg6 := hG.b
        go_wp2_with fail
        go_ret
        exact AntiR.no hyes.out (G.trans hb1 (G.trans hbr.out hg6))
    · have hii : ¬ (i : Int) < N := by omega
      have hfin : Hid (∀ i k, Okp l i k) := hiff.out.1 fun j hj => hall j (by have := hN.out; omega)
      replace hall := Lib.hid hall
      go_wp2_with fail
      go_ret
      exact AntiR.yes hfin.out (G.trans hb1 hbr)
theorem Okp.same {l : List (Int × List Int)} {i : Nat} : Okp l i i := fun _ _ _ _ _ _ h => absurd rfl h
theorem Okp.iff {l : List (Int × List Int)} {i k : Nat} {e e' : Int} {p p' : List Int} (hi : l[i]? = some (e, p)) (hk : l[k]? = some (e', p')) (hik : i ≠ k) : Okp l i k ↔ ¬ (decide (cmpS e p e' p' = 0) = true ∨ descS e p e' p' = true) := by
  constructor
  · intro h h'
    obtain ⟨h1, h2⟩ := h e p e' p' hi hk hik
    rcases h' with h' | h'
    · exact h1 (of_decide_eq_true h')
    · rw [h2] at h'; cases h'
  · intro h e1 p1 e2 p2 h1 h2 _
    rw [hi] at h1
    rw [hk] at h2
    cases h1
    cases h2
    refine ⟨fun h0 => h (.inl (decide_eq_true h0)), ?_⟩
    rw [Bool.eq_false_iff]
    exact fun h0 => h (.inr h0)
/-- What has been asked ahead of (i, k). -/
def Asked (l : List (Int × List Int)) (i k : Nat) : Prop := (∀ i' k', i' < i → Okp l i' k') ∧ ∀ k', k' < k → Okp l i k'
theorem Asked.next {l : List (Int × List Int)} {i k : Nat} : Asked l i (k + 1) ↔ Asked l i k ∧ Okp l i k := by
  constructor
  · intro h
    exact ⟨⟨h.1, fun k' hk => h.2 k' (by omega)⟩, h.2 k (by omega)⟩
  · intro h
    refine ⟨h.1.1, fun k' hk => ?_⟩
    rcases Nat.lt_or_ge k' k with h' | h'
    · exact h.1.2 k' h'
    · have : k' = k := by omega
      rw [this]; exact h.2
theorem Asked.row {l : List (Int × List Int)} {i K : Nat} (hK : l.length = K) : Asked l i K ↔ Asked l (i + 1) 0 := by
  constructor
  · intro h
    refine ⟨fun i' k' hi => ?_, fun k' hk => by omega⟩
    rcases Nat.lt_or_ge i' i with h' | h'
    · exact h.1 i' k' h'
    · have : i' = i := by omega
      rw [this]
      rcases Nat.lt_or_ge k' K with h2 | h2
      · exact h.2 k' h2
      · intro _ _ _ _ _ hk _
        rw [List.getElem?_eq_none (by omega)] at hk
        cases hk
  · intro h
    exact ⟨fun i' k' hi => h.1 i' k' (by omega), fun k' _ => h.1 i k' (by omega)⟩
theorem Asked.all {l : List (Int × List Int)} {K : Nat} (hK : l.length = K) : Asked l K 0 ↔ ∀ i k, Okp l i k := by
  constructor
  · intro h i k
    rcases Nat.lt_or_ge i K with h2 | h2
    · exact h.1 i k h2
    · intro _ _ _ _ hi _ _
      rw [List.getElem?_eq_none (by omega)] at hi
      cases hi
  · intro h
    exact ⟨fun i' k' _ => h i' k', fun k' hk => by omega⟩
set_option maxRecDepth 20000 in set_option maxHeartbeats 2000000 in
theorem stampAntichains_any {ok : Nat → Prop} (A : Option Addr) (n c : Nat) (l : List (Int × List Int)) (w : World) (h : StL ok w A n c l) (ht : Pow10 w) :
    Calls Tryd.prog 11 #[.slice A n c] w fun e' w' => e' = .returned (.bool true) ∧ Below w.heap.size w w' := by
  obtain ⟨hnc, hcm⟩ := h.cap
  have hK := h.take (k := min n 40) (Nat.min_le_left _ _)
  obtain ⟨K, hKe⟩ : ∃ K, min n 40 = K := ⟨_, rfl⟩
  rw [hKe] at hK
  have hK40 : K ≤ 40 := by omega
  have hKc : K ≤ c := by omega
  obtain ⟨L, hL⟩ : ∃ L, l.take K = L := ⟨_, rfl⟩
  rw [hL] at hK
  have hlen := hK.len
  have hmin : min (n : Int) 40 = (K : Int) := by omega
  have hK0 : (0 : Int) ≤ (K : Int) := by omega
  have hKc' : (K : Int) ≤ (c : Int) := by omega
  replace hK := Lib.hid hK
  replace hlen := Lib.hid hlen
  have htt := Lib.hid ht
  clear h hL ht
  unfold maxLen at hcm
  go_enter Tryd.func11, Tryd.ntmps11
  go_wp2_with fail
  go_loopw [3, 4] (fun bv iv wr => ∃ (i : Nat) (b : Bool), i ≤ K ∧ iv = .int .i64 i ∧ bv = .bool b ∧ (b = true ↔ Asked L i 0) ∧ Below w.heap.size w wr) (fun _ iv _ => K - (intOf iv).toNat)
  case atStart => exact ⟨0, true, Nat.zero_le _, rfl, rfl, ⟨fun _ => ⟨fun _ _ h => by omega, fun _ h => by omega⟩, fun _ => rfl⟩, G.refl _⟩
  case round =>
    obtain ⟨i, b, hi, rfl, rfl, hb, hbr⟩ := hrel
    by_cases hlt : i < K
    · obtain ⟨⟨ei, pi⟩, hxi⟩ := getI_nonneg (l := L) (q := i) (by have := hlen.out; omega)
      have hii : (i : Int) < K := by omega
      have f2 : IntKind.i64.wrap ((i : Int) + 1) = ((i + 1 : Nat) : Int) := by rw [IntWalk.i64_in _ (by omega)]; omega
      obtain ⟨i1, hi1⟩ : ∃ x, i + 1 = x := ⟨_, rfl⟩
      rw [hi1] at f2
      replace hb := Lib.hid hb
      replace hbr := Lib.hid hbr
      replace hxi := Lib.hid hxi
      replace hi1 := Lib.hid hi1
      go_wp2_with fail
      go_loopw [3, 5] (fun bv kv wr => ∃ (k : Nat) (b : Bool), k ≤ K ∧ kv = .int .i64 k ∧ bv = .bool b ∧ (b = true ↔ Asked L i k) ∧ Below w.heap.size w wr) (fun _ kv _ => K - (intOf kv).toNat)
      case atStart => exact ⟨0, b, Nat.zero_le _, rfl, rfl, hb.out, hbr.out⟩
      case round =>
        clear hb hbr
        obtain ⟨k, b, hk, rfl, rfl, hb, hbr⟩ := hrel
        by_cases hlk : k < K
        · have hkk : (k : Int) < K := by omega
          have f3 : IntKind.i64.wrap ((k : Int) + 1) = ((k + 1 : Nat) : Int) := by rw [IntWalk.i64_in _ (by omega)]; omega
          obtain ⟨⟨ek, pk⟩, hxk⟩ := getI_nonneg (l := L) (q := k) (by have := hlen.out; omega)
          obtain ⟨bk, off, Ak, nk, ck, hA1, hbl, x0, x1, hpk⟩ := (hK.out.grow hbr).at_ hxk
          obtain ⟨b', off', Ai, ni, ci, hA2, _, y0, y1, hpi⟩ := (hK.out.grow hbr).at_ hxi.out
          rw [hA1] at hA2
          simp only [Option.some.injEq, Addr.mk.injEq, and_true] at hA2
          obtain ⟨rfl, rfl⟩ := hA2
          subst hA1
          obtain ⟨d1, hd1⟩ : ∃ d, decide (cmpS ei pi ek pk = 0) = d := ⟨_, rfl⟩
          obtain ⟨d2, hd2⟩ : ∃ d, descS ei pi ek pk = d := ⟨_, rfl⟩
          obtain ⟨k1, hk1⟩ : ∃ x, k + 1 = x := ⟨_, rfl⟩
          rw [hk1] at f3
          have hnx : Asked L i k1 ↔ Asked L i k ∧ Okp L i k := by rw [← hk1]; exact Asked.next
          have hd : i ≠ k → (Okp L i k ↔ ¬ (d1 = true ∨ d2 = true)) := fun h => by rw [← hd1, ← hd2]; exact Okp.iff hxi.out hxk h
          replace hd1 := Lib.hid hd1
          replace hd2 := Lib.hid hd2
          replace hpk := Lib.hid hpk
          replace hpi := Lib.hid hpi
          replace hxk := Lib.hid hxk
          replace hb := Lib.hid hb
          replace hk1 := Lib.hid hk1
          replace hnx := Lib.hid hnx
          replace hd := Lib.hid hd
          have hbr' := Lib.hid hbr
          clear hbr
          by_cases hik : i = k
          · have hik' : ((i : Int) != (k : Int)) = false := by simp [hik]
            replace hik := Lib.hid hik
            go_wp2_with fail
            refine wp_region_ord [(0, 1), (1, 1), (2, 1), (3, 1), (4, 1), (5, 1), (6, 1), (7, 1), (8, 1), (9, 1), (10, 1), (11, 1), (12, 2), (13, 1), (14, 1), (15, 1), (16, 1), (17, 1), (18, 1), (19, 1), (20, 1), (21, 1), (22, 2), (23, 1), (24, 1)] [] 5 (by kernel_rfl) (by decide +kernel) ?_
            simp only [pickO, List.append_eq, List.cons_append, List.nil_append, List.getElem?_cons_succ, List.getElem?_cons_zero]
            intro w0 hG
            (repeat ((first | (with_reducible refine ord_q1 ?_) | (with_reducible refine ord_q0 ?_)); intro K hK; first | (refine Or.inr ⟨?_, ?_⟩; (focus (go_simp; first | done | (simp [undef]; done))); go_simp; (with_reducible refine hK _ ?_); clear hK K) | (refine Or.inl ⟨?_, ?_⟩; (focus (go_simp; done)); apply Exists.intro; refine And.intro ?_ ?_; (focus (first | (intro wq hq; obtain ⟨hcq, hfq⟩ := G.old hq; go_simp; (first | done | exact rfl); done) | (intro wq; go_simp; (first | done | exact rfl); done))); go_simp; (with_reducible refine hK _ ?_); clear hK K) | fail))
            (with_reducible refine ord_skipS ?_ hG ?_); (focus (go_simp; first | done | (simp [undef]; done))); intro K hK; go_simp; (with_reducible refine hK _ ?_); clear hK K; (repeat ((first | (with_reducible refine ord_q1 ?_) | (with_reducible refine ord_q0 ?_)); intro K hK; first | (refine Or.inr ⟨?_, ?_⟩; (focus (go_simp; first | done | (simp [undef]; done))); go_simp; (with_reducible refine hK _ ?_); clear hK K) | (refine Or.inl ⟨?_, ?_⟩; (focus (go_simp; done)); apply Exists.intro; refine And.intro ?_ ?_; (focus (first | (intro wq hq; obtain ⟨hcq, hfq⟩ := G.old hq; go_simp; (first | done | exact rfl); done) | (intro wq; go_simp; (first | done | exact rfl); done))); go_simp; (with_reducible refine hK _ ?_); clear hK K) | fail))
            (with_reducible refine ord_skipS ?_ hG ?_); (focus (go_simp; first | done | (simp [undef]; done))); intro K hK; go_simp; (with_reducible refine hK _ ?_); clear hK K; (repeat ((first | (with_reducible refine ord_q1 ?_) | (with_reducible refine ord_q0 ?_)); intro K hK; first | (refine Or.inr ⟨?_, ?_⟩; (focus (go_simp; first | done | (simp [undef]; done))); go_simp; (with_reducible refine hK _ ?_); clear hK K) | (refine Or.inl ⟨?_, ?_⟩; (focus (go_simp; done)); apply Exists.intro; refine And.intro ?_ ?_; (focus (first | (intro wq hq; obtain ⟨hcq, hfq⟩ := G.old hq; go_simp; (first | done | exact rfl); done) | (intro wq; go_simp; (first | done | exact rfl); done))); go_simp; (with_reducible refine hK _ ?_); clear hK K) | fail))
            (with_reducible refine ord_nil ?_)
            have hg6 := hG.b
            go_wp2_with fail
            go_roundw
            case rel => exact ⟨k1, b, by have := hk1.out; omega, rfl, rfl, by
              rw [hnx.out, hb.out, ← hik.out]
              exact ⟨fun h => ⟨h, Okp.same⟩, fun h => h.1⟩, G.trans hbr'.out hg6⟩
            case measure => have := hk1.out; simp [intOf]; omega
          · have hik' : ((i : Int) != (k : Int)) = true := by simp; omega
            replace hd := Lib.hid (hd.out hik)
            clear hik
            rcases d1 with _ | _
            · rcases d2 with _ | _
              · go_wp2_with fail
                refine wp_region_ord [(0, 1), (1, 1), (2, 1), (3, 1), (4, 1), (5, 1), (6, 1), (7, 1), (8, 1), (9, 1), (10, 1), (11, 1), (12, 2), (13, 1), (14, 1), (15, 1), (16, 1), (17, 1), (18, 1), (19, 1), (20, 1), (21, 1), (22, 2), (23, 1), (24, 1)] [] 5 (by kernel_rfl) (by decide +kernel) ?_
                simp only [pickO, List.append_eq, List.cons_append, List.nil_append, List.getElem?_cons_succ, List.getElem?_cons_zero]
                intro w0 hG
                (repeat ((first | (with_reducible refine ord_q1 ?_) | (with_reducible refine ord_q0 ?_)); intro K hK; first | (refine Or.inr ⟨?_, ?_⟩; (focus (go_simp; first | done | (simp [undef]; done))); go_simp; (with_reducible refine hK _ ?_); clear hK K) | (refine Or.inl ⟨?_, ?_⟩; (focus (go_simp; done)); apply Exists.intro; refine And.intro ?_ ?_; (focus (first | (intro wq hq; obtain ⟨hcq, hfq⟩ := G.old hq; go_simp; (first | done | exact rfl); done) | (intro wq; go_simp; (first | done | exact rfl); done))); go_simp; (with_reducible refine hK _ ?_); clear hK K) | fail))
                (with_reducible refine ord_run ?_ hG)
                intro K hK
                go_simp
                go_at_call 23; (with_reducible refine (same_any ei ek Ai Ak ni nk ci ck pi pk _ (hpi.out.sl.grow hG.b) (hpk.out.sl.grow hG.b) hpi.out.max hpk.out.max).mono ?_); rintro e' w5 ⟨rfl, hb5⟩; rw [hd1.out]
                replace hG := Grew.trans hG hb5
                (try dsimp only)
                (with_reducible refine hK _ _ hG ?_)
                clear hK K
                (repeat ((first | (with_reducible refine ord_q1 ?_) | (with_reducible refine ord_q0 ?_)); intro K hK; first | (refine Or.inr ⟨?_, ?_⟩; (focus (go_simp; first | done | (simp [undef]; done))); go_simp; (with_reducible refine hK _ ?_); clear hK K) | (refine Or.inl ⟨?_, ?_⟩; (focus (go_simp; done)); apply Exists.intro; refine And.intro ?_ ?_; (focus (first | (intro wq hq; obtain ⟨hcq, hfq⟩ := G.old hq; go_simp; (first | done | exact rfl); done) | (intro wq; go_simp; (first | done | exact rfl); done))); go_simp; (with_reducible refine hK _ ?_); clear hK K) | fail))
                (with_reducible refine ord_run ?_ hG)
                intro K hK
                go_simp
                go_at_call 19; (with_reducible refine (ldescends_any ei ek Ai Ak ni nk ci ck pi pk _ (hpi.out.sl.grow hG.b) (hpk.out.sl.grow hG.b) hpi.out.max hpk.out.max).mono ?_); rintro e' w6 ⟨rfl, hb6⟩; rw [hd2.out]
                replace hG := Grew.trans hG hb6
                (try dsimp only)
                (with_reducible refine hK _ _ hG ?_)
                clear hK K
                (repeat ((first | (with_reducible refine ord_q1 ?_) | (with_reducible refine ord_q0 ?_)); intro K hK; first | (refine Or.inr ⟨?_, ?_⟩; (focus (go_simp; first | done | (simp [undef]; done))); go_simp; (with_reducible refine hK _ ?_); clear hK K) | (refine Or.inl ⟨?_, ?_⟩; (focus (go_simp; done)); apply Exists.intro; refine And.intro ?_ ?_; (focus (first | (intro wq hq; obtain ⟨hcq, hfq⟩ := G.old hq; go_simp; (first | done | exact rfl); done) | (intro wq; go_simp; (first | done | exact rfl); done))); go_simp; (with_reducible refine hK _ ?_); clear hK K) | fail))
                (with_reducible refine ord_nil ?_)
                have hg6 := hG.b
                go_wp2_with fail
                go_roundw
                case rel => exact ⟨k1, b, by have := hk1.out; omega, rfl, rfl, by
                  rw [hnx.out, hb.out, hd.out]
                  exact ⟨fun h => ⟨h, fun h => by rcases h with h | h <;> cases h⟩, fun h => h.1⟩, G.trans hbr'.out hg6⟩
                case measure => have := hk1.out; simp [intOf]; omega
              · go_wp2_with fail
                refine wp_region_ord [(0, 1), (1, 1), (2, 1), (3, 1), (4, 1), (5, 1), (6, 1), (7, 1), (8, 1), (9, 1), (10, 1), (11, 1), (12, 2), (13, 1), (14, 1), (15, 1), (16, 1), (17, 1), (18, 1), (19, 1), (20, 1), (21, 1), (22, 2), (23, 1), (24, 1)] [] 5 (by kernel_rfl) (by decide +kernel) ?_
                simp only [pickO, List.append_eq, List.cons_append, List.nil_append, List.getElem?_cons_succ, List.getElem?_cons_zero]
                intro w0 hG
                (repeat ((first | (with_reducible refine ord_q1 ?_) | (with_reducible refine ord_q0 ?_)); intro K hK; first | (refine Or.inr ⟨?_, ?_⟩; (focus (go_simp; first | done | (simp [undef]; done))); go_simp; (with_reducible refine hK _ ?_); clear hK K) | (refine Or.inl ⟨?_, ?_⟩; (focus (go_simp; done)); apply Exists.intro; refine And.intro ?_ ?_; (focus (first | (intro wq hq; obtain ⟨hcq, hfq⟩ := G.old hq; go_simp; (first | done | exact rfl); done) | (intro wq; go_simp; (first | done | exact rfl); done))); go_simp; (with_reducible refine hK _ ?_); clear hK K) | fail))
                (with_reducible refine ord_run ?_ hG)
                intro K hK
                go_simp
                go_at_call 23; (with_reducible refine (same_any ei ek Ai Ak ni nk ci ck pi pk _ (hpi.out.sl.grow hG.b) (hpk.out.sl.grow hG.b) hpi.out.max hpk.out.max).mono ?_); rintro e' w5 ⟨rfl, hb5⟩; rw [hd1.out]
                replace hG := Grew.trans hG hb5
                (try dsimp only)
                (with_reducible refine hK _ _ hG ?_)
                clear hK K
                (repeat ((first | (with_reducible refine ord_q1 ?_) | (with_reducible refine ord_q0 ?_)); intro K hK; first | (refine Or.inr ⟨?_, ?_⟩; (focus (go_simp; first | done | (simp [undef]; done))); go_simp; (with_reducible refine hK _ ?_); clear hK K) | (refine Or.inl ⟨?_, ?_⟩; (focus (go_simp; done)); apply Exists.intro; refine And.intro ?_ ?_; (focus (first | (intro wq hq; obtain ⟨hcq, hfq⟩ := G.old hq; go_simp; (first | done | exact rfl); done) | (intro wq; go_simp; (first | done | exact rfl); done))); go_simp; (with_reducible refine hK _ ?_); clear hK K) | fail))
                (with_reducible refine ord_run ?_ hG)
                intro K hK
                go_simp
                go_at_call 19; (with_reducible refine (ldescends_any ei ek Ai Ak ni nk ci ck pi pk _ (hpi.out.sl.grow hG.b) (hpk.out.sl.grow hG.b) hpi.out.max hpk.out.max).mono ?_); rintro e' w6 ⟨rfl, hb6⟩; rw [hd2.out]
                replace hG := Grew.trans hG hb6
                (try dsimp only)
                (with_reducible refine hK _ _ hG ?_)
                clear hK K
                (repeat ((first | (with_reducible refine ord_q1 ?_) | (with_reducible refine ord_q0 ?_)); intro K hK; first | (refine Or.inr ⟨?_, ?_⟩; (focus (go_simp; first | done | (simp [undef]; done))); go_simp; (with_reducible refine hK _ ?_); clear hK K) | (refine Or.inl ⟨?_, ?_⟩; (focus (go_simp; done)); apply Exists.intro; refine And.intro ?_ ?_; (focus (first | (intro wq hq; obtain ⟨hcq, hfq⟩ := G.old hq; go_simp; (first | done | exact rfl); done) | (intro wq; go_simp; (first | done | exact rfl); done))); go_simp; (with_reducible refine hK _ ?_); clear hK K) | fail))
                (with_reducible refine ord_nil ?_)
                have hg6 := hG.b
                go_wp2_with fail
                go_roundw
                case rel => exact ⟨k1, false, by have := hk1.out; omega, rfl, rfl, by
                  rw [hnx.out, hd.out]
                  exact ⟨fun h => (by cases h), fun h => absurd (by simp) h.2⟩, G.trans hbr'.out hg6⟩
                case measure => have := hk1.out; simp [intOf]; omega
            · go_wp2_with fail
              refine wp_region_ord [(0, 1), (1, 1), (2, 1), (3, 1), (4, 1), (5, 1), (6, 1), (7, 1), (8, 1), (9, 1), (10, 1), (11, 1), (12, 2), (13, 1), (14, 1), (15, 1), (16, 1), (17, 1), (18, 1), (19, 1), (20, 1), (21, 1), (22, 2), (23, 1), (24, 1)] [] 5 (by kernel_rfl) (by decide +kernel) ?_
              simp only [pickO, List.append_eq, List.cons_append, List.nil_append, List.getElem?_cons_succ, List.getElem?_cons_zero]
              intro w0 hG
              (repeat ((first | (with_reducible refine ord_q1 ?_) | (with_reducible refine ord_q0 ?_)); intro K hK; first | (refine Or.inr ⟨?_, ?_⟩; (focus (go_simp; first | done | (simp [undef]; done))); go_simp; (with_reducible refine hK _ ?_); clear hK K) | (refine Or.inl ⟨?_, ?_⟩; (focus (go_simp; done)); apply Exists.intro; refine And.intro ?_ ?_; (focus (first | (intro wq hq; obtain ⟨hcq, hfq⟩ := G.old hq; go_simp; (first | done | exact rfl); done) | (intro wq; go_simp; (first | done | exact rfl); done))); go_simp; (with_reducible refine hK _ ?_); clear hK K) | fail))
              (with_reducible refine ord_run ?_ hG)
              intro K hK
              go_simp
              go_at_call 23; (with_reducible refine (same_any ei ek Ai Ak ni nk ci ck pi pk _ (hpi.out.sl.grow hG.b) (hpk.out.sl.grow hG.b) hpi.out.max hpk.out.max).mono ?_); rintro e' w5 ⟨rfl, hb5⟩; rw [hd1.out]
              replace hG := Grew.trans hG hb5
              (try dsimp only)
              (with_reducible refine hK _ _ hG ?_)
              clear hK K
              (repeat ((first | (with_reducible refine ord_q1 ?_) | (with_reducible refine ord_q0 ?_)); intro K hK; first | (refine Or.inr ⟨?_, ?_⟩; (focus (go_simp; first | done | (simp [undef]; done))); go_simp; (with_reducible refine hK _ ?_); clear hK K) | (refine Or.inl ⟨?_, ?_⟩; (focus (go_simp; done)); apply Exists.intro; refine And.intro ?_ ?_; (focus (first | (intro wq hq; obtain ⟨hcq, hfq⟩ := G.old hq; go_simp; (first | done | exact rfl); done) | (intro wq; go_simp; (first | done | exact rfl); done))); go_simp; (with_reducible refine hK _ ?_); clear hK K) | fail))
              (with_reducible refine ord_skipS ?_ hG ?_); (focus (go_simp; first | done | (simp [undef]; done))); intro K hK; go_simp; (with_reducible refine hK _ ?_); clear hK K; (repeat ((first | (with_reducible refine ord_q1 ?_) | (with_reducible refine ord_q0 ?_)); intro K hK; first | (refine Or.inr ⟨?_, ?_⟩; (focus (go_simp; first | done | (simp [undef]; done))); go_simp; (with_reducible refine hK _ ?_); clear hK K) | (refine Or.inl ⟨?_, ?_⟩; (focus (go_simp; done)); apply Exists.intro; refine And.intro ?_ ?_; (focus (first | (intro wq hq; obtain ⟨hcq, hfq⟩ := G.old hq; go_simp; (first | done | exact rfl); done) | (intro wq; go_simp; (first | done | exact rfl); done))); go_simp; (with_reducible refine hK _ ?_); clear hK K) | fail))
              (with_reducible refine ord_nil ?_)
              have hg6 := hG.b
              go_wp2_with fail
              go_roundw
              case rel => exact ⟨k1, false, by have := hk1.out; omega, rfl, rfl, by
                rw [hnx.out, hd.out]
                exact ⟨fun h => (by cases h), fun h => absurd (by simp) h.2⟩, G.trans hbr'.out hg6⟩
              case measure => have := hk1.out; simp [intOf]; omega
        · obtain rfl : k = K := by omega
          replace hb := Lib.hid hb
          replace hbr := Lib.hid hbr
          go_wp2_with fail
          go_roundw
          case rel => exact ⟨i1, b, by have := hi1.out; omega, rfl, rfl, by rw [hb.out, ← hi1.out]; exact Asked.row hlen.out, hbr.out⟩
          case measure => have := hi1.out; simp [intOf]; omega
    · obtain rfl : i = K := by omega
      have hii : ¬ (i : Int) < i := by omega
      have hbA : Hid (b = true ↔ ∀ i k, Okp L i k) := by unfold Hid; rw [hb, Asked.all hlen.out]
      clear hb
      go_wp2_with fail
      refine (known_any _ (htt.out.grow hbr)).mono ?_
      rintro e2 w2 ⟨rfl, hb2⟩
      replace hbr := Lib.hid (G.trans hbr hb2)
      go_wp2_with fail
      refine (antichain_any (hK.out.grow hbr.out) (by omega)).mono ?_
      rintro e2 w3 ⟨b', rfl, hb', hb3⟩
      have hbb : b' = b := by
        have := hbA.out
        rw [← hb'] at this
        cases b <;> cases b' <;> simp_all
      subst hbb
      clear hb'
      go_wp2_with fail
      (try go_ret)
      exact ⟨rfl, G.trans hbr.out hb3⟩
end Go.Proofs.YtjldpodehffbnaaDoor
