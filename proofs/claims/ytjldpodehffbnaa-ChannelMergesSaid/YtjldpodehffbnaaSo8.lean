/- stamp.Sort: a new list, in order. -/
import Derived.Test.YtjldpodehffbnaaSo7
import Derived.Test.YtjldpodehffbnaaItem1
namespace Go.Proofs.Ytjldpodehffbnaa
set_option linter.unusedVariables false
set_option linter.unnecessarySimpa false
set_option linter.unusedSimpArgs false
open Go.RowKit

/-- A list of stamps in memory. -/
def StL (ok : Nat → Prop) (w : World) (A : Option Addr) (n c : Nat) (l : List (Int × List Int)) : Prop :=
  ∃ zs, Rw ok w 2 A n c zs ∧ l.length = n ∧ ∀ q e p, l[q]? = some (e, p) → ∃ A' n' c', (zs.drop (q * 2)).take 2 = [.int .i64 e, .slice A' n' c'] ∧ PathIs ok w A' n' c' p
theorem StL.keep {ok : Nat → Prop} {w w' : World} {A : Option Addr} {n c : Nat} {l : List (Int × List Int)} (h : StL ok w A n c l) (hk : Keeps ok w w') : StL ok w' A n c l := by
  obtain ⟨zs, h1, h2, h3⟩ := h
  exact ⟨zs, h1.keep hk, h2, fun q e p hq => let ⟨A', n', c', h4, h5⟩ := h3 q e p hq; ⟨A', n', c', h4, h5.keep hk⟩⟩
theorem StL.grow {ok : Nat → Prop} {w w' : World} {A : Option Addr} {n c : Nat} {l : List (Int × List Int)} (h : StL ok w A n c l) (hb : Below w.heap.size w w') : StL ok w' A n c l := h.keep (Keeps.of_below hb)
theorem StL.at_ {ok : Nat → Prop} {w : World} {A : Option Addr} {n c : Nat} {l : List (Int × List Int)} (h : StL ok w A n c l) {j : Nat} {e : Int} {p : List Int} (hj : l[j]? = some (e, p)) :
    ∃ b off A' n' c', A = some ⟨b, off, none⟩ ∧ b < w.heap.size ∧ w.cell? ⟨b, off + j * 2, none⟩ = some (.int .i64 e) ∧ w.cell? ⟨b, off + j * 2 + 1, none⟩ = some (.slice A' n' c') ∧ PathIs ok w A' n' c' p := by
  obtain ⟨zs, h1, h2, h3⟩ := h
  obtain ⟨A', n', c', h4, h5⟩ := h3 j e p hj
  obtain ⟨b, off, hA, hb, _, hl, hc⟩ := h1.at_ (by decide) (show j < n by have := (List.getElem?_eq_some_iff.1 hj).1; omega)
  rw [h4] at hc
  exact ⟨b, off, A', n', c', hA, hb, hc 0 _ rfl, hc 1 _ rfl, h5⟩
theorem PathIs.appended {L : Nat} {v v' : Value} {w w' : World} {A : Option Addr} {n c : Nat} {p : List Int} (h : PathIs (Beside L v) w A n c p) (hg : w.grownBy w' v.ownBlock) (hob : v'.ownBlock = v.ownBlock ∨ v'.ownBlock = some w.heap.size) : PathIs (Beside L v') w' A n c p :=
  ((h.mono (ok' := fun b => Beside L v b ∧ Beside L v' b) fun b hb ho => ⟨ho, Tree.beside_later hob hb ho⟩).keep ((Keeps.refl _ _).grown hg fun k hk => .inr fun hx => hx.1.2 hk)).mono fun b _ h => h.2
theorem PathIs.fit8 {ok : Nat → Prop} {w : World} {A : Option Addr} {n c : Nat} {p : List Int} (h : PathIs ok w A n c p) : Fits (n * 8) := h.2
theorem PathIs.of_own {w : World} {base : Nat} {A : Option Addr} {c : Nat} {p : List Int} (h : w.ownsRow base 3 1 (.slice A p.length c) p.length (i64s p)) (hf : Fits (p.length * 8)) : PathIs (From base) w A p.length c p := ⟨Rw.of_own h, hf⟩
theorem Try.infoS2 : (Try.prog.info? 24).map (fun i => (i.zero, i.size, i.bytes)) = some (some (.agg #[.int .i64 0, .slice none 0 0]), 2, 32) := by kernel_rfl

/-- A row of n elements, each from block base on, and what it holds. -/
structure RowL (base : Nat) (w : World) (P : Option Addr) (n c : Nat) (zs : List Value) (l : List (Int × List Int)) : Prop where
  own : w.ownsRow base 24 2 (.slice P n c) n zs
  len : l.length = n
  el : ∀ q e p, l[q]? = some (e, p) → ∃ A' n' c', (zs.drop (q * 2)).take 2 = [.int .i64 e, .slice A' n' c'] ∧ PathIs (Beside base (.slice P n c)) w A' n' c' p
theorem getI_nonneg {α : Type} {l : List α} {q : Nat} (h : q < l.length) : ∃ x, l[q]? = some x := ⟨_, List.getElem?_eq_getElem h⟩
/-- A row of the call's own as what is sorted. -/
theorem RowL.rowS {base : Nat} {w : World} {P : Option Addr} {n c : Nat} {zs : List Value} {l : List (Int × List Int)} (h : RowL base w P n c zs l) :
    ∃ B f, RowS w P B n f ∧ base ≤ B ∧ (∀ i e p, l[i]? = some (e, p) → (f i).e = e ∧ (f i).p = p) ∧ ∀ i, i < n → 0 < (f i).m → ∀ ad, (f i).A = some ad → base ≤ ad.block := by
  obtain ⟨hown, hl, hel⟩ := h
  have each : ∀ q, q < n → ∃ x : El, (zs.drop (q * 2)).take 2 = [.int .i64 x.e, .slice x.A x.m x.c] ∧ PathIs (Beside base (.slice P n c)) w x.A x.m x.c x.p ∧ ∀ e p, l[q]? = some (e, p) → x.e = e ∧ x.p = p := by
    intro q hq
    obtain ⟨⟨e, p⟩, hx⟩ := getI_nonneg (l := l) (q := q) (by omega)
    obtain ⟨A', n', c', h1, h2⟩ := hel q e p hx
    exact ⟨⟨e, A', n', c', p⟩, h1, h2, fun e' p' h' => by rw [hx] at h'; cases h'; exact ⟨rfl, rfl⟩⟩
  let f : Sq := fun q => if hq : q < n then (each q hq).choose else ⟨0, none, 0, 0, []⟩
  have hf : ∀ q, q < n → (zs.drop (q * 2)).take 2 = [.int .i64 (f q).e, .slice (f q).A (f q).m (f q).c] ∧ PathIs (Beside base (.slice P n c)) w (f q).A (f q).m (f q).c (f q).p ∧ ∀ e p, l[q]? = some (e, p) → (f q).e = e ∧ (f q).p = p := by
    intro q hq
    have := (each q hq).choose_spec
    show _ ∧ _ ∧ _
    simp only [f, dif_pos hq]
    exact this
  have hz := hown.1
  rcases hown.2 with ⟨h0, h0'⟩ | ⟨g, cap, cur, hv, hg, hh, hr⟩
  · have hn0 : n = 0 := by
      first | exact h0' | (simp at h0; omega) | (cases h0; rfl)
    subst hn0
    exact ⟨base, f, ⟨fun h => by omega, fun h => by omega, fun i h => by omega, fun i h => by omega, fun i h => by omega, fun i h => by omega⟩, Nat.le_refl _, fun i e p hi => by have := (List.getElem?_eq_some_iff.1 hi).1; omega, fun i h => by omega⟩
  · obtain ⟨rfl, _, rfl⟩ : P = some ⟨g, 0, none⟩ ∧ n = n ∧ c = cap := by cases hv; exact ⟨rfl, rfl, rfl⟩
    have hgl : g < w.heap.size := (hown.lt g rfl).2
    have hsl := Sl.of_own hown
    have hlc : ∀ q, q < n → ((zs.drop (q * 2)).take 2).length = 2 := fun q hq => by rw [(hf q hq).1]; rfl
    have hcell : ∀ q, q < n → ∀ k u, ((zs.drop (q * 2)).take 2)[k]? = some u → w.cell? ⟨g, q * 2 + k, none⟩ = some u := by
      intro q hq k u hu
      obtain ⟨b, off, hA, _, hc⟩ := hsl.2 (by omega)
      cases hA
      rw [List.getElem?_take] at hu
      split at hu
      · rw [List.getElem?_drop] at hu
        have := hc _ u hu
        rwa [Nat.zero_add] at this
      · cases hu
    refine ⟨g, f, ⟨fun _ => rfl, fun _ => hgl, fun q hq => ?_, fun q hq => ?_, fun k hk => ?_, fun q hq => ?_⟩, hg, fun q e p hq => (hf q (by have := (List.getElem?_eq_some_iff.1 hq).1; omega)).2.2 e p hq, fun q hq h0 ad hA => ((hf q hq).2.1.1.2.2.2 h0 ad hA).1⟩
    · exact hcell q hq 0 _ (by rw [(hf q hq).1]; rfl)
    · exact hcell q hq 1 _ (by rw [(hf q hq).1]; rfl)
    · unfold World.frozen?
      simp [hh]
    · refine ⟨(hf q hq).2.1.sl, (hf q hq).2.1.max, fun ad h0 hA e => ?_, (hf q hq).2.1.cap.1⟩
      have := (hf q hq).2.1.1.2.2.2 h0 ad hA
      exact this.2 (by rw [e]; rfl)

/-- What Sort gives: a row of its own, in order; its elements are those of the list, rearranged. -/
def Sorted (w : World) (l : List (Int × List Int)) (e : Ending) (w' : World) : Prop :=
  ∃ P c B f g, e = .returned (.slice P l.length c) ∧ l.length ≤ c ∧ c ≤ maxLen ∧ Below w.heap.size w w' ∧ RowS w' P B l.length g ∧ w.heap.size ≤ B ∧ Re 0 l.length f g ∧ Srt g 0 l.length ∧ ∀ i e p, l[i]? = some (e, p) → (f i).e = e ∧ (f i).p = p
/-- .. and where the elements' data lie. -/
def SortedL (w : World) (l : List (Int × List Int)) (e : Ending) (w' : World) : Prop :=
  ∃ P c B f g, e = .returned (.slice P l.length c) ∧ l.length ≤ c ∧ c ≤ maxLen ∧ Below w.heap.size w w' ∧ RowS w' P B l.length g ∧ w.heap.size ≤ B ∧ Re 0 l.length f g ∧ Srt g 0 l.length ∧ (∀ i e p, l[i]? = some (e, p) → (f i).e = e ∧ (f i).p = p) ∧
    ∀ i, i < l.length → 0 < (g i).m → ∀ ad, (g i).A = some ad → w.heap.size ≤ ad.block
set_option maxRecDepth 20000 in set_option maxHeartbeats 1000000 in
theorem sort_anyL {ok : Nat → Prop} {w : World} {A : Option Addr} {n c : Nat} {l : List (Int × List Int)} (h : StL ok w A n c l) (hn : n ≤ 100000) :
    Calls Try.prog 42 #[.slice A n c] w (SortedL w l) := by
  obtain ⟨i0, hi0, hz0, hz1, hz2⟩ := info_parts Try.infoS2
  have hl : l.length = n := by obtain ⟨_, _, h2, _⟩ := h; exact h2
  have HS := Lib.hid h
  have hnm : n ≤ maxLen := by obtain ⟨_, h1, _⟩ := h; exact Nat.le_trans h1.1 h1.2.1
  clear h
  replace hl := Lib.hid hl
  go_enter Try.func42, Try.ntmps42
  go_wp2_with fail
  go_loopw [3, 8] (fun ov iv wr => ∃ (k : Nat) (P : Option Addr) (q : Nat) (zs : List Value), k ≤ n ∧ iv = .int .i64 k ∧ ov = .slice P k q ∧ Below w.heap.size w wr ∧ RowL w.heap.size wr P k q zs (l.take k)) (fun _ iv _ => n - (intOf iv).toNat)
  case atStart => exact ⟨0, none, 0, [], Nat.zero_le _, rfl, rfl, Below.refl _ _, ⟨World.ownsRow_nil _ _ _ _, by simp, fun q e p h => by simp at h⟩⟩
  case round =>
    obtain ⟨k, P, q, zs, hk, rfl, rfl, hbr, hrow⟩ := hrel
    by_cases hlt : k < n
    · obtain ⟨⟨e, p⟩, hx⟩ := getI_nonneg (l := l) (q := k) (by have := hl.out; omega)
      obtain ⟨b, off, A', n', c', rfl, hbl, h0, h1, hp⟩ := (HS.out.grow hbr).at_ hx
      obtain ⟨hown, hlen, hel⟩ := hrow
      have hz := hown.1
      have hol := Lib.hid fun q hq => hown.lt q hq
      have hcap := own_cap hown
      replace hel := Lib.hid hel
      replace hx := Lib.hid hx
      replace hp := Lib.hid hp
      replace hlen := Lib.hid hlen
      go_wp2_with fail
      refine wp_name (fun w1 => Below wr.heap.size wr w1 ∧ Bx w1 wr.heap.size [.int .i64 e, .slice A' n' c']) ⟨by repeat (first | with_reducible assumption | with_reducible exact G.refl _ | with_reducible refine G.drew ?_ | with_reducible refine G.drewN ?_ _ | with_reducible refine G.alloc ?_ _ | with_reducible refine Below.setCell ?_ (by first | (simp; done) | (simp; omega)) _ | with_reducible refine G.trans ?_ hb12 | with_reducible refine G.trans ?_ hb11 | with_reducible refine G.trans ?_ hb10 | with_reducible refine G.trans ?_ hb9 | with_reducible refine G.trans ?_ hb8 | with_reducible refine G.trans ?_ hb7 | with_reducible refine G.trans ?_ hb6 | with_reducible refine G.trans ?_ hb5 | with_reducible refine G.trans ?_ hb4 | with_reducible refine G.trans ?_ hb3 | with_reducible refine G.trans ?_ hb2 | with_reducible refine G.trans ?_ hb1 | with_reducible refine G.trans ?_ hb | assumption), by repeat (first | with_reducible assumption | (with_reducible exact Bx.new (by simp; done) (by rfl)) | (with_reducible refine Bx.alloc ?_ _) | (with_reducible refine Bx.drewN ?_ _) | ((with_reducible apply Bx.put); rotate_right; (first | rfl | skip)) | (with_reducible refine Bx.other ?_ (by first | (simp; done) | (simp; omega)) _))⟩ ?_
      rintro w1 ⟨hb1, y⟩
      have y0 := (y.2 0 _ rfl).1
      have y1 := (y.2 1 _ rfl).1
      have lty := y.lt
      have hsr := hbr.size
      clear h0 h1 y
      refine wp_region_ord [(0, 1), (1, 1), (2, 1), (3, 1), (4, 1), (5, 2), (6, 1), (7, 2), (8, 3), (9, 0)] [8] 5 (by kernel_rfl) (by decide +kernel) ?_
      simp only [pickO, List.append_eq, List.cons_append, List.nil_append, List.getElem?_cons_succ, List.getElem?_cons_zero]
      intro w0 hG
      (repeat ((first | (with_reducible refine ord_q1 ?_) | (with_reducible refine ord_q0 ?_)); intro K hK; first | (refine Or.inr ⟨?_, ?_⟩; (focus (go_simp; first | done | (simp [undef]; done))); go_simp; (with_reducible refine hK _ ?_); clear hK K) | (refine Or.inl ⟨?_, ?_⟩; (focus (go_simp; done)); apply Exists.intro; refine And.intro ?_ ?_; (focus (first | (intro wq hq; obtain ⟨hcq, hfq⟩ := G.old hq; go_simp; (first | done | exact rfl); done) | (intro wq; go_simp; (first | done | exact rfl); done))); go_simp; (with_reducible refine hK _ ?_); clear hK K) | fail))
      have hG1 : Below wr.heap.size wr w0 := G.trans hb1 hG.b
      have hs0 := hG1.size
      have hs00 := hG.b.size
      (with_reducible refine ord_run ?_ hG)
      intro K hK
      go_simp
      go_at_call 63; (with_reducible refine (clone_any A' n' c' p _ (hp.out.grow hG1).sl hp.out.cap.1 hp.out.cap.2 hp.out.fit8).mono ?_); rintro e' w2 ⟨A2, c2, rfl, ho2, hb2⟩
      replace hG := Grew.trans hG hb2
      (try dsimp only)
      (with_reducible refine hK _ _ hG ?_)
      clear hK K
      (repeat ((first | (with_reducible refine ord_q1 ?_) | (with_reducible refine ord_q0 ?_)); intro K hK; first | (refine Or.inr ⟨?_, ?_⟩; (focus (go_simp; first | done | (simp [undef]; done))); go_simp; (with_reducible refine hK _ ?_); clear hK K) | (refine Or.inl ⟨?_, ?_⟩; (focus (go_simp; done)); apply Exists.intro; refine And.intro ?_ ?_; (focus (first | (intro wq hq; obtain ⟨hcq, hfq⟩ := G.old hq; go_simp; (first | done | exact rfl); done) | (intro wq; go_simp; (first | done | exact rfl); done))); go_simp; (with_reducible refine hK _ ?_); clear hK K) | fail))
      have hbw2 : Below wr.heap.size wr w2 := G.trans hb1 hG.b
      (with_reducible refine ord_run ?_ hG)
      intro K hK
      go_simp
      replace hG := Grew.alloc hG (.cells #[.int .i64 e, .slice A2 p.length c2] 24)
      (with_reducible refine hK _ _ hG ?_)
      clear hK K
      (repeat ((first | (with_reducible refine ord_q1 ?_) | (with_reducible refine ord_q0 ?_)); intro K hK; first | (refine Or.inr ⟨?_, ?_⟩; (focus (go_simp; first | done | (simp [undef]; done))); go_simp; (with_reducible refine hK _ ?_); clear hK K) | (refine Or.inl ⟨?_, ?_⟩; (focus (go_simp; done)); apply Exists.intro; refine And.intro ?_ ?_; (focus (first | (intro wq hq; obtain ⟨hcq, hfq⟩ := G.old hq; go_simp; (first | done | exact rfl); done) | (intro wq; go_simp; (first | done | exact rfl); done))); go_simp; (with_reducible refine hK _ ?_); clear hK K) | fail))
      have hfit : Fits (p.length * 8) := by rw [hp.out.len]; exact hp.out.fit8
      have hown2 := own_grow hown hbw2
      have hs2 := hbw2.size
      have hin : PathIs (Beside w.heap.size (.slice P k q)) w2 A2 p.length c2 p := (PathIs.of_own ho2 hfit).mono fun x _ (hx : w0.heap.size ≤ x) => ⟨by omega, fun e => by have := (hol.out x e).2; omega⟩
      replace hin := Lib.hid hin
      (with_reducible refine ord_tail ?_); intro K hK
      refine step_appB rfl (.tmp 12) (.tmp 19) _ rfl w.heap.size 24 i0 _ 2 32 Try.underlying52 hi0 hz0 hz1 hz2 rfl (by decide) (.slice P k q) k zs rfl (hown2.alloc _) (some ⟨w2.heap.size, 0, none⟩) 1 1 [.int .i64 e, .slice A2 p.length c2] rfl (Sl.new rfl rfl) (by simp [Value.oneCell']) (by show _ ≤ 2 ^ 63 - 1; omega) (by omega) (by simp; omega) ?_
      intro A3 c3 w5 hown5 hc5 hm5 hg5 hob5
      have hb5 : Below w.heap.size w w5 := Below.grown ((hbr.trans (hbw2.mono hsr)).alloc (by first | omega | (simp; omega)) _) hg5 (by first | omega | (simp; omega)) (fun q hq => (hol.out q hq).1)
      have hrow5 : RowL w.heap.size w5 A3 (k + 1) c3 (zs ++ [.int .i64 e, .slice A2 p.length c2]) (l.take (k + 1)) := by
        refine ⟨hown5, by simp; have := hl.out; omega, fun j e' p' hj => ?_⟩
        rw [List.getElem?_take] at hj
        split at hj
        · rename_i hjk
          rcases Nat.lt_or_ge j k with hjk' | hjk'
          · rw [chunk_old hz hjk']
            obtain ⟨A6, n6, c6, g1, g2⟩ := hel.out j e' p' (by rw [List.getElem?_take, if_pos hjk']; exact hj)
            exact ⟨A6, n6, c6, g1, ((g2.grow hbw2).grow (G.alloc (G.refl _) _)).appended hg5 hob5⟩
          · obtain rfl : j = k := by omega
            rw [hx.out] at hj
            cases hj
            rw [chunk_new hz rfl]
            exact ⟨A2, _, c2, rfl, (hin.out.grow (G.alloc (G.refl _) _)).appended hg5 hob5⟩
        · cases hj
      replace hrow5 := Lib.hid hrow5
      (with_reducible refine hK _ _ ?_); clear hK K
      (repeat ((first | (with_reducible refine ord_q1 ?_) | (with_reducible refine ord_q0 ?_)); intro K hK; first | (refine Or.inr ⟨?_, ?_⟩; (focus (go_simp; first | done | (simp [undef]; done))); go_simp; (with_reducible refine hK _ ?_); clear hK K) | (refine Or.inl ⟨?_, ?_⟩; (focus (go_simp; done)); apply Exists.intro; refine And.intro ?_ ?_; (focus (first | (intro wq hq; obtain ⟨hcq, hfq⟩ := G.old hq; go_simp; (first | done | exact rfl); done) | (intro wq; go_simp; (first | done | exact rfl); done))); go_simp; (with_reducible refine hK _ ?_); clear hK K) | fail))
      (with_reducible refine ord_nil ?_)
      go_wp2_with fail
      go_roundw
      case rel => exact ⟨k + 1, A3, c3, _, by omega, by go_num, rfl, hb5, hrow5.out⟩
      case measure => simp [intOf]; omega
    · obtain rfl : k = n := by omega
      have hll := hl.out
      rw [List.take_of_length_le (by omega)] at hrow
      obtain ⟨B, f, hR, hB, hf, hloc⟩ := hrow.rowS
      replace hloc := Lib.hid hloc
      have hcap := own_cap hrow.own
      have hc1 := sortStable_any hR hn hcap.1
      replace hR := Lib.hid hR
      replace hB := Lib.hid hB
      replace hf := Lib.hid hf
      replace hll := Lib.hid hll
      clear hrow
      go_wp2_with fail
      refine hc1.mono ?_
      rintro e1 w1 ⟨rfl, g, hr1, hk1, hre1, hs1⟩
      have hbw1 : Below w.heap.size w w1 := Kp.below hbr hk1 hbr.size hB.out
      go_wp2_with fail
      go_ret
      have hll' := hll.out
      subst hll'
      exact ⟨P, q, B, f, g, rfl, hcap.1, hcap.2, hbw1, hr1, hB.out, hre1, hs1, hf.out, fun i hi h0 ad hA => by
        obtain ⟨y, _, hy, e⟩ := hre1.in_ (Nat.zero_le i) hi
        rw [e] at h0 hA
        exact hloc.out y hy h0 ad hA⟩
theorem sort_any {ok : Nat → Prop} {w : World} {A : Option Addr} {n c : Nat} {l : List (Int × List Int)} (h : StL ok w A n c l) (hn : n ≤ 100000) :
    Calls Try.prog 42 #[.slice A n c] w (Sorted w l) :=
  (sort_anyL h hn).mono fun e w' ⟨P, c, B, f, g, h1, h2, h3, h4, h5, h6, h7, h8, h9, _⟩ => ⟨P, c, B, f, g, h1, h2, h3, h4, h5, h6, h7, h8, h9⟩
end Go.Proofs.Ytjldpodehffbnaa
