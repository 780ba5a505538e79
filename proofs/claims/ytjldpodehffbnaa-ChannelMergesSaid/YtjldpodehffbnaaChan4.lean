/- Several channels: Next and Frontier. -/
import Derived.Test.YtjldpodehffbnaaChan3
namespace Go.Proofs.Ytjldpodehffbnaa
set_option linter.unusedVariables false
set_option linter.unnecessarySimpa false
set_option linter.unusedSimpArgs false
open Go.RowKit

/-- A pointer to a channel, or nil. -/
abbrev CP := Option (Nat × Nat × Ch)
def chv : CP → Value
  | none => .pointer none
  | some (b, _, _) => .pointer (some ⟨b, 0, none⟩)
def chs (l : List CP) : List Value := l.map chv
def ChansAt (ok : Nat → Prop) (w : World) (l : List CP) : Prop := ∀ b r c, some (b, r, c) ∈ l → ChanAt ok w b r c
theorem ChansAt.grow {ok : Nat → Prop} {w w' : World} {l : List CP} (h : ChansAt ok w l) (hb : Below w.heap.size w w') : ChansAt ok w' l := fun b r c hm => (h b r c hm).grow hb
theorem Sl.atC {w : World} {A : Option Addr} {n : Nat} {l : List CP} (h : Sl w A n (chs l)) {k : Nat} (hk : k < n) :
    ∃ b off x, A = some ⟨b, off, none⟩ ∧ b < w.heap.size ∧ l[k]? = some x ∧ w.cell? ⟨b, off + k, none⟩ = some (chv x) := by
  obtain ⟨b, off, e, hb, hc⟩ := h.2 (by omega)
  have hl : k < l.length := by have := h.1; simp [chs] at this; omega
  exact ⟨b, off, l[k], e, hb, List.getElem?_eq_getElem hl, hc k _ (by simp [chs, List.getElem?_eq_getElem hl])⟩
theorem Sl.lenC {w : World} {A : Option Addr} {n : Nat} {l : List CP} (h : Sl w A n (chs l)) : l.length = n := by have := h.1; simpa [chs] using this
def idxP {α : Type} (f : α → Bool) : List α → Int → Int
  | [], _ => -1
  | x :: r, k => if f x = true then k else idxP f r (k + 1)
theorem idxP_any {α : Type} (f : α → Bool) : ∀ (l : List α) (k : Int), 0 ≤ k → decide (0 ≤ idxP f l k) = l.any f
  | [], _, _ => rfl
  | x :: r, k, h => by
    unfold idxP
    rw [List.any_cons]
    split
    · rename_i hx; rw [hx]; simp [h]
    · rename_i hx
      rw [idxP_any f r (k + 1) (by omega)]
      simp [hx]
theorem idxP_none {α : Type} (f : α → Bool) : ∀ (l : List α) (k : Int), (∀ x ∈ l, f x = false) → idxP f l k = -1
  | [], _, _ => rfl
  | x :: r, k, h => by
    unfold idxP
    rw [if_neg (by rw [h x (by simp)]; simp)]
    exact idxP_none f r (k + 1) fun y hy => h y (by simp [hy])

/-- Is the channel there, and its least stamp less than this one? -/
def lessO (e : Int) (p : List Int) : CP → Bool
  | none => false
  | some (_, _, c) => decide (cmpS (leE c) (leP c) e p < 0)
set_option maxRecDepth 20000 in set_option maxHeartbeats 400000 in
theorem next1_any {ok ok' : Nat → Prop} {w : World} (x : CP) (hx : ∀ b r c, x = some (b, r, c) → ChanAt ok w b r c) {e : Int} {A : Option Addr} {n cc T : Nat} {p : List Int} (ht : Bx w T [.int .i64 e, .slice A n cc]) (hp : PathIs ok' w A n cc p) :
    Calls Try.prog 55 #[chv x, .pointer (some ⟨T, 0, none⟩)] w fun e' w' => e' = .returned (.bool (lessO e p x)) ∧ Below w.heap.size w w' := by
  have t0 := (ht.2 0 _ rfl).1
  have t1 := (ht.2 1 _ rfl).1
  have ltT := ht.lt
  have HP := Lib.hid hp
  clear hp ht
  rcases x with _ | ⟨b, r, c⟩
  · clear hx
    show Calls _ _ #[.pointer none, _] w _
    go_enter Try.func55, Try.ntmps55
    go_wp2_with fail
    refine wp_region_ord [(0, 1), (1, 1), (2, 1), (3, 1), (5, 1), (4, 2), (6, 2), (7, 1), (8, 1), (9, 1)] [] 5 (by kernel_rfl) (by decide +kernel) ?_
    simp only [pickO, List.append_eq, List.cons_append, List.nil_append, List.getElem?_cons_succ, List.getElem?_cons_zero]
    intro w0 hG
    (repeat ((first | (with_reducible refine ord_q1 ?_) | (with_reducible refine ord_q0 ?_)); intro K hK; first | (refine Or.inr ⟨?_, ?_⟩; (focus (go_simp; first | done | (simp [undef]; done))); go_simp; (with_reducible refine hK _ ?_); clear hK K) | (refine Or.inl ⟨?_, ?_⟩; (focus (go_simp; done)); apply Exists.intro; refine And.intro ?_ ?_; (focus (first | (intro wq hq; obtain ⟨hcq, hfq⟩ := G.old hq; go_simp; (first | done | exact rfl); done) | (intro wq; go_simp; (first | done | exact rfl); done))); go_simp; (with_reducible refine hK _ ?_); clear hK K) | fail))
    (with_reducible refine ord_skip ?_ hG ?_); (focus (go_simp; first | done | (simp [undef]; done))); intro K hK; go_simp; (with_reducible refine hK _ ?_); clear hK K; (repeat ((first | (with_reducible refine ord_q1 ?_) | (with_reducible refine ord_q0 ?_)); intro K hK; first | (refine Or.inr ⟨?_, ?_⟩; (focus (go_simp; first | done | (simp [undef]; done))); go_simp; (with_reducible refine hK _ ?_); clear hK K) | (refine Or.inl ⟨?_, ?_⟩; (focus (go_simp; done)); apply Exists.intro; refine And.intro ?_ ?_; (focus (first | (intro wq hq; obtain ⟨hcq, hfq⟩ := G.old hq; go_simp; (first | done | exact rfl); done) | (intro wq; go_simp; (first | done | exact rfl); done))); go_simp; (with_reducible refine hK _ ?_); clear hK K) | fail))
    (with_reducible refine ord_skip ?_ hG ?_); (focus (go_simp; first | done | (simp [undef]; done))); intro K hK; go_simp; (with_reducible refine hK _ ?_); clear hK K; (repeat ((first | (with_reducible refine ord_q1 ?_) | (with_reducible refine ord_q0 ?_)); intro K hK; first | (refine Or.inr ⟨?_, ?_⟩; (focus (go_simp; first | done | (simp [undef]; done))); go_simp; (with_reducible refine hK _ ?_); clear hK K) | (refine Or.inl ⟨?_, ?_⟩; (focus (go_simp; done)); apply Exists.intro; refine And.intro ?_ ?_; (focus (first | (intro wq hq; obtain ⟨hcq, hfq⟩ := G.old hq; go_simp; (first | done | exact rfl); done) | (intro wq; go_simp; (first | done | exact rfl); done))); go_simp; (with_reducible refine hK _ ?_); clear hK K) | fail))
    (with_reducible refine ord_nil ?_)
    go_wp2_with fail
    go_ret
    exact ⟨rfl, hG.b⟩
  · have hC := Lib.hid (hx b r c rfl)
    clear hx
    obtain ⟨v, hv⟩ : ∃ v, cmpS (leE c) (leP c) e p = v := ⟨_, rfl⟩
    have hl : lessO e p (some (b, r, c)) = decide (v < 0) := by rw [← hv]; rfl
    rw [hl]
    replace hv := Lib.hid hv
    clear hl
    show Calls _ _ #[.pointer (some ⟨b, 0, none⟩), _] w _
    go_enter Try.func55, Try.ntmps55
    go_wp2_with fail
    refine wp_region_ord [(0, 1), (1, 1), (2, 1), (3, 1), (5, 1), (4, 2), (6, 2), (7, 1), (8, 1), (9, 1)] [] 5 (by kernel_rfl) (by decide +kernel) ?_
    simp only [pickO, List.append_eq, List.cons_append, List.nil_append, List.getElem?_cons_succ, List.getElem?_cons_zero]
    intro w0 hG
    (repeat ((first | (with_reducible refine ord_q1 ?_) | (with_reducible refine ord_q0 ?_)); intro K hK; first | (refine Or.inr ⟨?_, ?_⟩; (focus (go_simp; first | done | (simp [undef]; done))); go_simp; (with_reducible refine hK _ ?_); clear hK K) | (refine Or.inl ⟨?_, ?_⟩; (focus (go_simp; done)); apply Exists.intro; refine And.intro ?_ ?_; (focus (first | (intro wq hq; obtain ⟨hcq, hfq⟩ := G.old hq; go_simp; (first | done | exact rfl); done) | (intro wq; go_simp; (first | done | exact rfl); done))); go_simp; (with_reducible refine hK _ ?_); clear hK K) | fail))
    (with_reducible refine ord_run ?_ hG)
    intro K hK
    go_simp
    go_at_call 41; (with_reducible refine (least_any (hC.out.grow hG.b)).mono ?_); rintro e' w2 ⟨A', c', rfl, hp2, hb2⟩
    replace hG := Grew.trans hG hb2
    (try dsimp only)
    (with_reducible refine hK _ _ hG ?_)
    clear hK K
    (repeat ((first | (with_reducible refine ord_q1 ?_) | (with_reducible refine ord_q0 ?_)); intro K hK; first | (refine Or.inr ⟨?_, ?_⟩; (focus (go_simp; first | done | (simp [undef]; done))); go_simp; (with_reducible refine hK _ ?_); clear hK K) | (refine Or.inl ⟨?_, ?_⟩; (focus (go_simp; done)); apply Exists.intro; refine And.intro ?_ ?_; (focus (first | (intro wq hq; obtain ⟨hcq, hfq⟩ := G.old hq; go_simp; (first | done | exact rfl); done) | (intro wq; go_simp; (first | done | exact rfl); done))); go_simp; (with_reducible refine hK _ ?_); clear hK K) | fail))
    (with_reducible refine ord_run ?_ hG)
    intro K hK
    go_simp
    go_at_call 25; (with_reducible refine (compare_any (leE c) e A' A (leP c).length n c' cc (leP c) p _ hp2.sl (HP.out.sl.grow hG.b) hp2.max).mono ?_); rintro e' w3 ⟨rfl, hb3⟩; rw [hv.out]
    replace hG := Grew.trans hG hb3
    (try dsimp only)
    (with_reducible refine hK _ _ hG ?_)
    clear hK K
    (repeat ((first | (with_reducible refine ord_q1 ?_) | (with_reducible refine ord_q0 ?_)); intro K hK; first | (refine Or.inr ⟨?_, ?_⟩; (focus (go_simp; first | done | (simp [undef]; done))); go_simp; (with_reducible refine hK _ ?_); clear hK K) | (refine Or.inl ⟨?_, ?_⟩; (focus (go_simp; done)); apply Exists.intro; refine And.intro ?_ ?_; (focus (first | (intro wq hq; obtain ⟨hcq, hfq⟩ := G.old hq; go_simp; (first | done | exact rfl); done) | (intro wq; go_simp; (first | done | exact rfl); done))); go_simp; (with_reducible refine hK _ ?_); clear hK K) | fail))
    (with_reducible refine ord_nil ?_)
    go_wp2_with fail
    all_goals (go_ret; exact ⟨rfl, hG.b⟩)
set_option maxRecDepth 20000 in set_option maxHeartbeats 400000 in
theorem idxN_any {ok ok' : Nat → Prop} {w : World} {P : Option Addr} {n c : Nat} {l : List CP} (hl : Sl w P n (chs l)) (hn : n ≤ maxLen) (hc : ChansAt ok w l) {e : Int} {A : Option Addr} {m cc T : Nat} {p : List Int} (ht : Bx w T [.int .i64 e, .slice A m cc]) (hp : PathIs ok' w A m cc p) :
    Calls Try.prog 72 #[.slice P n c, .func (.func 55) #[] #[.pointer (some ⟨T, 0, none⟩)]] w fun e' w' => e' = .returned (.int .i64 (idxP (lessO e p) l 0)) ∧ Below w.heap.size w w' := by
  unfold maxLen at hn
  have HC := Lib.hid hc
  have HT := Lib.hid ht
  have HP := Lib.hid hp
  have hlen := Lib.hid hl.lenC
  clear hc ht hp
  go_enter Try.func72, Try.ntmps72
  go_wp2
  go_loopw [8] (fun i wr => ∃ k : Nat, k ≤ n ∧ i = .int .i64 k ∧ Hid (idxP (lessO e p) l 0 = idxP (lessO e p) (l.drop k) k) ∧ Below w.heap.size w wr) (fun i _ => n - (intOf i).toNat)
  case atStart => exact ⟨0, Nat.zero_le _, rfl, rfl, G.refl _⟩
  case round =>
    obtain ⟨k, hk, rfl, hi, hbr⟩ := hrel
    by_cases hlt : k < n
    · obtain ⟨bx, ox, x, rfl, hbx, hxk, hcx⟩ := (hl.grow hbr).atC hlt
      have hdx : Hid (l.drop k = x :: l.drop (k+1)) := drop_at hxk
      have hx : ∀ b r c, x = some (b, r, c) → ChanAt ok wr b r c := fun b r c h => (HC.out b r c (by rw [← h]; exact List.mem_of_getElem? hxk)).grow hbr
      replace hx := Lib.hid hx
      clear hxk
      by_cases hxy : lessO e p x = true
      · have hs : Hid (idxP (lessO e p) l 0 = k) := by unfold Hid; rw [hi.out, hdx.out, idxP, if_pos hxy]
        go_wp2_with (go_at_call 55; (with_reducible refine (next1_any x hx.out (HT.out.grow hbr) (HP.out.grow hbr)).mono ?_); rintro e' w2 ⟨rfl, hb2⟩; rw [hxy])
        go_ret
        exact ⟨ret_i hs.out.symm, G.trans hbr hb2⟩
      · have hs : Hid (idxP (lessO e p) l 0 = idxP (lessO e p) (l.drop (k+1)) ((k + 1 : Nat) : Int)) := by unfold Hid; rw [hi.out, hdx.out, idxP, if_neg hxy]; rfl
        have hxy : lessO e p x = false := by simpa using hxy
        go_wp2_with (go_at_call 55; (with_reducible refine (next1_any x hx.out (HT.out.grow hbr) (HP.out.grow hbr)).mono ?_); rintro e' w2 ⟨rfl, hb2⟩; rw [hxy])
        go_roundw
        case rel => exact ⟨k+1, by omega, by go_num, hs, G.trans hbr hb2⟩
        case measure => simp [intOf]; omega
    · have hs : Hid (idxP (lessO e p) l 0 = -1) := by unfold Hid; rw [hi.out, List.drop_of_length_le (by have := hlen.out; omega), idxP]
      go_wp2
      go_ret
      exact ⟨ret_i hs.out.symm, hbr⟩
set_option maxRecDepth 20000 in set_option maxHeartbeats 400000 in
theorem conN_any {ok ok' : Nat → Prop} {w : World} {P : Option Addr} {n c : Nat} {l : List CP} (hl : Sl w P n (chs l)) (hn : n ≤ maxLen) (hc : ChansAt ok w l) {e : Int} {A : Option Addr} {m cc T : Nat} {p : List Int} (ht : Bx w T [.int .i64 e, .slice A m cc]) (hp : PathIs ok' w A m cc p) :
    Calls Try.prog 54 #[.slice P n c, .func (.func 55) #[] #[.pointer (some ⟨T, 0, none⟩)]] w fun e' w' => e' = .returned (.bool (l.any (lessO e p))) ∧ Below w.heap.size w w' := by
  go_enter Try.func54, Try.ntmps54
  go_wp2_with (go_at_call 72; refine (idxN_any hl hn hc ht hp).mono ?_; rintro e' w' ⟨rfl, hb⟩)
  go_ret
  exact ⟨ret_b (idxP_any _ l 0 (Int.le_refl _)), hb⟩
end Go.Proofs.Ytjldpodehffbnaa
