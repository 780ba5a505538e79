/- ChannelNext returns true. -/
import Derived.Test.YtjldpodehffbnaaPlay3
import Derived.Test.YtjldpodehffbnaaCLaw5
import Derived.Test.YtjldpodehffbnaaFront2
import Derived.Test.YtjldpodehffbnaaNextM
import Derived.Test.YtjldpodehffbnaaTree
namespace Go.Proofs.Ytjldpodehffbnaa
set_option linter.unusedVariables false
set_option linter.unnecessarySimpa false
set_option linter.unusedSimpArgs false
open Go.RowKit

/-- The list that the law builds, and the block with the nil. -/
def Wi (base : Nat) (row : Option (Option Addr × Nat × Nat × List Value)) (g5 : Option Nat) (w : World) : Prop :=
  base ≤ w.heap.size ∧ (∀ A n c xs, row = some (A, n, c, xs) → w.ownsRow base 45 1 (.slice A n c) n xs ∧ ∀ g, g5 = some g → (Value.slice A n c).ownBlock ≠ some g) ∧ ∀ g, g5 = some g → Bx w g [.pointer none]
section
variable {base : Nat} {w w' : World} {row : Option (Option Addr × Nat × Nat × List Value)} {g5 : Option Nat}
theorem Wi.start (h : base ≤ w.heap.size) : Wi base none none w := ⟨h, fun A n c xs e => (by cases e), fun g e => (by cases e)⟩
theorem Wi.alloc0 (h : Wi base none g5 w) : Wi base (some (some ⟨w.heap.size, 0, none⟩, 0, 0, [])) g5 (w.alloc (.cells #[] 45)) := by
  obtain ⟨h1, _, h3⟩ := h
  refine ⟨by simp; omega, fun A n c xs e => ?_, fun g e => (h3 g e).alloc _⟩
  cases e
  exact ⟨World.ownsRow_made w #[] 0 h1 (Nat.zero_le _) rfl, fun g e k => by
    have := (h3 g e).lt
    have k' : w.heap.size = g := by simpa [Value.ownBlock] using k
    omega⟩
theorem Wi.alloc5 (h : Wi base row none w) : Wi base row (some w.heap.size) (w.alloc (.cells #[.pointer none] 45)) := by
  obtain ⟨h1, h2, _⟩ := h
  refine ⟨by simp; omega, fun A n c xs e => ?_, fun g e => by cases e; exact Bx.new rfl rfl⟩
  obtain ⟨h4, _⟩ := h2 A n c xs e
  exact ⟨h4.alloc _, fun g e k => by cases e; have := (h4.lt _ k).2; omega⟩
theorem Wi.rowOf (h : Wi base row g5 w) {A : Option Addr} {n c : Nat} {xs : List Value} (e : row = some (A, n, c, xs)) : w.ownsRow base 45 1 (.slice A n c) n xs := (h.2.1 A n c xs e).1
theorem Wi.nil5 {g : Nat} (h : Wi base row (some g) w) : Sl w (some ⟨g, 0, none⟩) (1 * 1) [.pointer none] := ⟨rfl, fun _ => ⟨g, 0, rfl, (h.2.2 g rfl).lt, fun j u hu => by rw [Nat.zero_add]; exact ((h.2.2 g rfl).2 j u hu).1⟩⟩
theorem Wi.base_le (h : Wi base row g5 w) : base ≤ w.heap.size := h.1
theorem Wi.app {A A' : Option Addr} {n n' c c' : Nat} {xs ys : List Value} (h : Wi base (some (A, n, c, xs)) g5 w) (hown : w'.ownsRow base 45 1 (.slice A' n' c') n' ys) (hg : w.grownBy w' (Value.slice A n c).ownBlock)
    (hob : (Value.slice A' n' c').ownBlock = (Value.slice A n c).ownBlock ∨ (Value.slice A' n' c').ownBlock = some w.heap.size) : Wi base (some (A', n', c', ys)) g5 w' := by
  obtain ⟨h1, h2, h3⟩ := h
  obtain ⟨h4, h5⟩ := h2 _ _ _ _ rfl
  refine ⟨Nat.le_trans h1 hg.size, fun A n c xs e => ?_, fun g e => (h3 g e).block hg.size (hg.block _ (h3 g e).lt fun k => h5 g e k.symm)⟩
  cases e
  refine ⟨hown, fun g e k => ?_⟩
  rcases hob with hh | hh
  · rw [hh] at k; exact h5 g e k
  · rw [hh] at k; cases k; have := (h3 _ e).lt; omega
end
theorem nilSl {w : World} {B : Nat} (hB : B = w.heap.size) : Sl (w.alloc (.cells #[.pointer none] 45)) (some ⟨B, 0, none⟩) 1 (chs [none]) := Sl.new hB rfl
theorem Sl.take1 {w : World} {A : Option Addr} {n m : Nat} {xs : List Value} (h : Sl w A n xs) (hm : m ≤ n) : Sl w A (m * 1) (xs.take m) := by
  have hl := h.1
  refine ⟨by rw [List.length_take]; omega, fun hp => ?_⟩
  obtain ⟨b, off, e, hb, hc⟩ := h.2 (by omega)
  refine ⟨b, off, e, hb, fun j u hu => ?_⟩
  rw [List.getElem?_take] at hu
  split at hu
  · exact hc j u hu
  · cases hu
theorem Sl.drop1 {w : World} {b off n m k off' : Nat} {xs : List Value} (h : Sl w (some ⟨b, off, none⟩) n xs) (hm : m ≤ n) (hk : k = n - m) (ho : k = 0 ∨ off' = off + m) : Sl w (some ⟨b, off', none⟩) (k * 1) (xs.drop m) := by
  have hl := h.1
  refine ⟨by rw [List.length_drop]; omega, fun hp => ?_⟩
  obtain ⟨b', off0, e, hb, hc⟩ := h.2 (by omega)
  cases e
  refine ⟨b, off', rfl, hb, fun j u hu => ?_⟩
  rw [List.getElem?_drop] at hu
  have := hc _ u hu
  rcases ho with ho | ho
  · omega
  · rwa [ho, Nat.add_assoc]
theorem Sl.takeC {w : World} {A : Option Addr} {n m : Nat} {l : List CP} (h : Sl w A n (chs l)) (hm : m ≤ n) : Sl w A (m * 1) (chs (l.take m)) := by
  have := h.take1 hm
  unfold chs at *
  rwa [← List.map_take] at this
theorem Sl.dropC {w : World} {b off n m k off' : Nat} {l : List CP} (h : Sl w (some ⟨b, off, none⟩) n (chs l)) (hm : m ≤ n) (hk : k = n - m) (ho : k = 0 ∨ off' = off + m) : Sl w (some ⟨b, off', none⟩) (k * 1) (chs (l.drop m)) := by
  have := h.drop1 hm hk ho
  unfold chs at *
  rwa [← List.map_drop] at this
set_option maxRecDepth 20000 in set_option maxHeartbeats 8000000 in
theorem channelNext_any {w : World} (nn : Int) {A : Option Addr} {n c : Nat} {ps : List (Nat × List (Int × It))} (h : ∃ xs, PlaysV (fun _ => True) w A n c xs ps) (hnn : (Lit.int .u8 nn).wf = true) :
    Calls Try.prog 7 #[.slice A n c, .int .u8 nn] w fun e w' => e = .returned (.bool true) ∧ Below w.heap.size w w' := by
  obtain ⟨iP, hPi, hP0, hP1, hP2⟩ := info_parts Try.infoP
  obtain ⟨xs, h⟩ := h
  have hlen := h.2.1
  have H := Lib.hid h
  have hnr : 0 ≤ nn ∧ nn ≤ 255 := by
    have e1 : IntKind.u8.min = 0 := rfl
    have e2 : IntKind.u8.max = 255 := rfl
    simp [Lit.wf, e1, e2] at hnn
    exact hnn
  clear h hnn
  go_enter Try.func7, Try.ntmps7
  go_wp2_with fail
  refine (known_any _).mono ?_
  rintro e1 w1 ⟨rfl, hb1⟩
  go_wp2_with fail
  refine (fine_any (H.out.grow hb1)).mono ?_
  rintro e2 w2 ⟨rfl, hb2⟩
  have hbw2 := G.trans hb1 hb2
  rcases hfi : fineL ps with _ | _
  · replace hfi := Lib.hid hfi
    go_wp2_with fail
    refine (known_any _).mono ?_
    rintro e3 w3 ⟨rfl, hb3⟩
    go_wp2_with fail
    go_ret
    exact ⟨rfl, G.trans hbw2 hb3⟩
  have hn6 : n ≤ 6 := by have := fine_len hfi; rw [hlen] at this; exact this
  have hall : Hid (∀ p ∈ ps, smallL p.2 = true) := fun p hp => by
    obtain ⟨k, hk⟩ := List.getElem?_of_mem hp
    exact fine_all hfi (j := k) (k := p.1) (ops := p.2) hk
  replace hfi := Lib.hid hfi
  replace hlen := Lib.hid hlen
  go_wp2_with fail
  refine (channels_any (H.out.grow hbw2) hall.out hn6 (fun _ _ => trivial)).mono ?_
  rintro e4 w4 ⟨A1, q1, A2, q2, prs, rfl, hC4, hpl, hM4, hb4⟩
  have hbw4 := G.trans hbw2 hb4
  have hq1 := own_cap hC4.2.1.1
  replace hC4 := Lib.hid hC4
  have hMods := Lib.hid hC4.out.mods
  replace hM4 := Lib.hid hM4
  replace hpl := Lib.hid hpl
  clear hb4 hbw2 hb1 hb2
  obtain ⟨kv, rd, hnx⟩ : ∃ kv rd, nextC (cps prs) = (kv, rd) := ⟨_, _, rfl⟩
  go_wp2_with fail
  refine (nextM_any hC4.out.row2 (by omega) hMods.out).mono ?_
  rintro e5 w5 ⟨rfl, hb5⟩
  rw [hnx]
  dsimp only
  have hb45 := hb5
  go_wp2_with fail
  refine (next_any (hC4.out.row1.grow hb45) (by unfold maxLen; omega) (hC4.out.chans.grow hb45)).mono ?_
  rintro e6 w6 ⟨rfl, hb6⟩
  rw [hnx]
  dsimp only
  have hb46 := G.trans hb45 hb6
  replace hnx := Lib.hid hnx
  have hC6 := Lib.hid (hC4.out.grow hb46)
  have hM6 := Lib.hid (ModsAt.grow hMods.out hb46)
  have hbw6 := G.trans hbw4 hb46
  clear hb5 hb6 hb45 hb46 hC4 hMods
  go_wp2_with fail
  by_cases hn0 : n = 0
  · subst hn0
    refine (frontier00_any hq1.2).mono ?_
    rintro e7 w7 ⟨rfl, hb7⟩
    have hbw7 := G.trans hbw6 hb7
    go_wp2_with fail
    refine (frontier01_any (nilSl (by simp)) (Nat.le_refl _) (by unfold maxLen; decide)).mono ?_
    rintro e8 w8 ⟨rfl, hb8⟩
    have hb9 : Below w.heap.size w w8 := G.trans hbw7 (G.trans (by repeat (first | with_reducible assumption | with_reducible exact G.refl _ | with_reducible refine G.drew ?_ | with_reducible refine G.drewN ?_ _ | with_reducible refine G.alloc ?_ _ | with_reducible refine Below.setCell ?_ (by first | (simp; done) | (simp; omega)) _ | with_reducible refine G.trans ?_ hb12 | with_reducible refine G.trans ?_ hb11 | with_reducible refine G.trans ?_ hb10 | with_reducible refine G.trans ?_ hb9 | with_reducible refine G.trans ?_ hb8 | with_reducible refine G.trans ?_ hb7 | with_reducible refine G.trans ?_ hb6 | with_reducible refine G.trans ?_ hb5 | with_reducible refine G.trans ?_ hb4 | with_reducible refine G.trans ?_ hb3 | with_reducible refine G.trans ?_ hb2 | with_reducible refine G.trans ?_ hb1 | with_reducible refine G.trans ?_ hb | assumption)) hb8)
    go_wp2_with fail
    go_ret
    exact ⟨rfl, by repeat (first | with_reducible assumption | with_reducible exact G.refl _ | with_reducible refine G.drew ?_ | with_reducible refine G.drewN ?_ _ | with_reducible refine G.alloc ?_ _ | with_reducible refine Below.setCell ?_ (by first | (simp; done) | (simp; omega)) _ | with_reducible refine G.trans ?_ hb12 | with_reducible refine G.trans ?_ hb11 | with_reducible refine G.trans ?_ hb10 | with_reducible refine G.trans ?_ hb9 | with_reducible refine G.trans ?_ hb8 | with_reducible refine G.trans ?_ hb7 | with_reducible refine G.trans ?_ hb6 | with_reducible refine G.trans ?_ hb5 | with_reducible refine G.trans ?_ hb4 | with_reducible refine G.trans ?_ hb3 | with_reducible refine G.trans ?_ hb2 | with_reducible refine G.trans ?_ hb1 | with_reducible refine G.trans ?_ hb | assumption)⟩
  have hn0b : ((n : Int) == 0) = false := by simp [hn0]
  have hn0c : (n == 0) = false := by simp [hn0]
  obtain ⟨p0, l0, hpr⟩ : ∃ p l, prs = p :: l := by
    rcases hh : prs with _ | ⟨p, l⟩
    · have := hpl.out; rw [hh] at this; exact absurd this.symm hn0
    · exact ⟨p, l, rfl⟩
  have hcps : cps prs = some (p0.b, p0.r, p0.c) :: cps l0 := by rw [hpr]; rfl
  have hsome : ∀ x ∈ cps prs, x ≠ none := fun x hx => by
    unfold cps at hx
    rw [List.mem_map] at hx
    obtain ⟨p, _, rfl⟩ := hx
    exact fun e => by cases e
  have hsome0 : ∀ x ∈ cps l0, x ≠ none := fun x hx => hsome x (by rw [hcps]; exact List.mem_cons_of_mem _ hx)
  have hmin := minL_le (cps l0) (p0.b, p0.r, p0.c)
  obtain ⟨M, hM⟩ : ∃ M, minL (p0.b, p0.r, p0.c) (cps l0) = M := ⟨_, rfl⟩
  rw [hM] at hmin
  have hge : Hid (∀ p ∈ prs, 0 ≤ cmpS (leE p.c) (leP p.c) (leE M.2.2) (leP M.2.2)) := fun p hp => by
    rw [hpr] at hp
    rcases List.mem_cons.1 hp with rfl | hp
    · exact hmin.1
    · exact hmin.2 _ (cps_mem hp)
  have hrow6 := hC6.out.row1
  have hch6 := hC6.out.chans
  rw [hcps] at hrow6 hch6
  replace hsome := Lib.hid hsome
  replace hM := Lib.hid hM
  replace hcps := Lib.hid hcps
  replace hpr := Lib.hid hpr
  clear hmin
  refine (frontier_any hrow6 hq1.1 hq1.2 (by omega) hch6 hsome0).mono ?_
  rw [hM.out]
  rintro e7 w7 ⟨A7, c7, rfl, hp7, hb7⟩
  replace hrow6 := Lib.hid hrow6
  replace hch6 := Lib.hid hch6
  replace hp7 := Lib.hid hp7
  go_wp2_with fail
  refine wp_name (fun wx => Below w7.heap.size w7 wx ∧ Bx wx w7.heap.size [.int .i64 (leE M.2.2), .slice A7 (leP M.2.2).length c7]) ⟨by repeat (first | with_reducible assumption | with_reducible exact G.refl _ | with_reducible refine G.drew ?_ | with_reducible refine G.drewN ?_ _ | with_reducible refine G.alloc ?_ _ | with_reducible refine Below.setCell ?_ (by first | (simp; done) | (simp; omega)) _ | with_reducible refine G.trans ?_ hb12 | with_reducible refine G.trans ?_ hb11 | with_reducible refine G.trans ?_ hb10 | with_reducible refine G.trans ?_ hb9 | with_reducible refine G.trans ?_ hb8 | with_reducible refine G.trans ?_ hb7 | with_reducible refine G.trans ?_ hb6 | with_reducible refine G.trans ?_ hb5 | with_reducible refine G.trans ?_ hb4 | with_reducible refine G.trans ?_ hb3 | with_reducible refine G.trans ?_ hb2 | with_reducible refine G.trans ?_ hb1 | with_reducible refine G.trans ?_ hb | assumption), by repeat (first | with_reducible assumption | (with_reducible exact Bx.new (by simp; done) (by rfl)) | (with_reducible refine Bx.alloc ?_ _) | (with_reducible refine Bx.drewN ?_ _) | ((with_reducible apply Bx.put); rotate_right; (first | rfl | skip)) | (with_reducible refine Bx.other ?_ (by first | (simp; done) | (simp; omega)) _))⟩ ?_
  rintro w8 ⟨hb78, x8⟩
  have hb68 := G.trans hb7 hb78
  have hbw8 := G.trans hbw6 hb68
  replace hp7 := Lib.hid (hp7.out.grow hb78)
  have hC8 := Lib.hid (hC6.out.grow hb68)
  have hM8 := Lib.hid (ModsAt.grow hM6.out hb68)
  clear hb7 hb78 hb68 hC6 hM6 hbw6 hrow6 hch6
  replace x8 := Lib.hid x8
  go_loopw [16] (fun iv wr => ∃ i : Nat, i ≤ n ∧ iv = .int .i64 i ∧ Below w8.heap.size w8 wr) (fun iv _ => n - (intOf iv).toNat)
  case atStart => exact ⟨0, Nat.zero_le _, rfl, G.refl _⟩
  case round =>
    obtain ⟨i, hi, rfl, hbr⟩ := hrel
    by_cases hlt : i < n
    · obtain ⟨bx, ox, p, hA2, hbx, hpi, hcx⟩ := (hC8.out.grow hbr).row2.getM hlt
      subst hA2
      obtain ⟨v, hv⟩ : ∃ v, cmpS (leE p.c) (leP p.c) (leE M.2.2) (leP M.2.2) = v := ⟨_, rfl⟩
      have hv0 : ¬ v < 0 := by have := hge.out p (List.mem_of_getElem? hpi); rw [hv] at this; omega
      have hMp := Lib.hid ((hM8.out p (List.mem_of_getElem? hpi)).grow hbr)
      have x8r := x8.out.grow hbr
      have y0 := (x8r.2 0 _ rfl).1
      have y1 := (x8r.2 1 _ rfl).1
      have lty := x8r.lt
      replace hv := Lib.hid hv
      replace hpi := Lib.hid hpi
      clear x8r
      go_wp2_with fail
      refine wp_region_ord [(0, 1), (1, 1), (2, 1), (3, 1), (5, 1), (4, 2), (6, 2), (7, 1)] [] 5 (by kernel_rfl) (by decide +kernel) ?_
      simp only [pickO, List.append_eq, List.cons_append, List.nil_append, List.getElem?_cons_succ, List.getElem?_cons_zero]
      intro w0 hG
      (repeat ((first | (with_reducible refine ord_q1 ?_) | (with_reducible refine ord_q0 ?_)); intro K hK; first | (refine Or.inr ⟨?_, ?_⟩; (focus (go_simp; first | done | (simp [undef]; done))); go_simp; (with_reducible refine hK _ ?_); clear hK K) | (refine Or.inl ⟨?_, ?_⟩; (focus (go_simp; done)); apply Exists.intro; refine And.intro ?_ ?_; (focus (first | (intro wq hq; obtain ⟨hcq, hfq⟩ := G.old hq; go_simp; (first | done | exact rfl); done) | (intro wq; go_simp; (first | done | exact rfl); done))); go_simp; (with_reducible refine hK _ ?_); clear hK K) | fail))
      (with_reducible refine ord_run ?_ hG)
      intro K hK
      go_simp
      go_at_call 32; (with_reducible refine (mleast_any (hMp.out.grow hG.b).at_).mono ?_); rintro e' w9 ⟨X9, k9, s9, rfl, hp9, hb9⟩
      replace hG := Grew.trans hG hb9
      (try dsimp only)
      (with_reducible refine hK _ _ hG ?_)
      clear hK K
      (repeat ((first | (with_reducible refine ord_q1 ?_) | (with_reducible refine ord_q0 ?_)); intro K hK; first | (refine Or.inr ⟨?_, ?_⟩; (focus (go_simp; first | done | (simp [undef]; done))); go_simp; (with_reducible refine hK _ ?_); clear hK K) | (refine Or.inl ⟨?_, ?_⟩; (focus (go_simp; done)); apply Exists.intro; refine And.intro ?_ ?_; (focus (first | (intro wq hq; obtain ⟨hcq, hfq⟩ := G.old hq; go_simp; (first | done | exact rfl); done) | (intro wq; go_simp; (first | done | exact rfl); done))); go_simp; (with_reducible refine hK _ ?_); clear hK K) | fail))
      (with_reducible refine ord_run ?_ hG)
      intro K hK
      go_simp
      go_at_call 25; (with_reducible refine (compare_any (leE p.c) (leE M.2.2) X9 A7 k9 (leP M.2.2).length s9 c7 (leP p.c) (leP M.2.2) _ hp9.sl ((hp7.out.grow (G.trans hbr hG.b)).sl) hp9.max).mono ?_); rintro e' w10 ⟨rfl, hb10⟩; rw [hv.out]
      replace hG := Grew.trans hG hb10
      (try dsimp only)
      (with_reducible refine hK _ _ hG ?_)
      clear hK K
      (repeat ((first | (with_reducible refine ord_q1 ?_) | (with_reducible refine ord_q0 ?_)); intro K hK; first | (refine Or.inr ⟨?_, ?_⟩; (focus (go_simp; first | done | (simp [undef]; done))); go_simp; (with_reducible refine hK _ ?_); clear hK K) | (refine Or.inl ⟨?_, ?_⟩; (focus (go_simp; done)); apply Exists.intro; refine And.intro ?_ ?_; (focus (first | (intro wq hq; obtain ⟨hcq, hfq⟩ := G.old hq; go_simp; (first | done | exact rfl); done) | (intro wq; go_simp; (first | done | exact rfl); done))); go_simp; (with_reducible refine hK _ ?_); clear hK K) | fail))
      (with_reducible refine ord_nil ?_)
      go_wp2_with fail
      go_roundw
      case rel => exact ⟨i + 1, by omega, by go_num, G.trans hbr hG.b⟩
      case measure => simp [intOf]; omega
    · obtain rfl : i = n := by omega
      obtain ⟨at_, hat, hat2⟩ : ∃ at_ : Nat, Int.tmod nn ((i : Int) + 1) = (at_ : Int) ∧ at_ ≤ i := by
        have h1 : Int.tmod nn ((i : Int) + 1) = nn % ((i : Int) + 1) := Int.tmod_eq_emod_of_nonneg hnr.1
        have h2 := Int.emod_nonneg nn (show ((i : Int) + 1) ≠ 0 by omega)
        have h3 := Int.emod_lt_of_pos nn (show (0 : Int) < (i : Int) + 1 by omega)
        exact ⟨(nn % ((i : Int) + 1)).toNat, by omega, by omega⟩
      have hw1 : IntKind.i64.wrap nn = nn := IntWalk.i64_in _ (by omega)
      have hw2 : IntKind.i64.wrap ((i : Int) + 1) = (i : Int) + 1 := IntWalk.i64_in _ (by omega)
      have hw3 : IntKind.i64.wrap (at_ : Int) = (at_ : Int) := IntWalk.i64_in _ (by omega)
      have hne : ¬ ((i : Int) + 1 = 0) := by omega
      have hab : Hid ((cps prs).take at_ ++ (cps prs).drop at_ = some (p0.b, p0.r, p0.c) :: cps l0) := by unfold Hid; rw [List.take_append_drop]; exact hcps.out
      have hlt0 : ((cps prs).take at_).length = at_ := by rw [List.length_take]; unfold cps; rw [List.length_map, hpl.out]; omega
      obtain ⟨kv2, hkv2⟩ : ∃ kv2, (if rd = true ∧ (at_ : Int) ≤ kv then kv + 1 else kv) = kv2 := ⟨_, rfl⟩
      have hnx2 : Hid (nextC ((cps prs).take at_ ++ none :: (cps prs).drop at_) = (kv2, rd)) := by
        have := nextC_ins ((cps prs).take at_) ((cps prs).drop at_) (k := kv) (r := rd) (by rw [List.take_append_drop]; exact hnx.out)
        rw [hlt0, hkv2] at this
        exact this
      have hsT : Hid (∀ x ∈ (cps prs).take at_, x ≠ none) := fun x hx => hsome.out x (List.mem_of_mem_take hx)
      have hsD : Hid (∀ x ∈ (cps prs).drop at_, x ≠ none) := fun x hx => hsome.out x (List.mem_of_mem_drop hx)
      have hchW : Hid (∀ wx, Below w8.heap.size w8 wx → ChansAt (okS (ok2 (fun _ => True) (.slice A1 i q1) (.slice A2 i q2)) prs) wx ((cps prs).take at_ ++ none :: (cps prs).drop at_)) := fun wx hb b r c hm => by
        refine (hC8.out.grow hb).chans b r c ?_
        rcases List.mem_append.1 hm with hm | hm
        · exact List.mem_of_mem_take hm
        · rcases List.mem_cons.1 hm with hm | hm
          · cases hm
          · exact List.mem_of_mem_drop hm
      have hchM : Hid (∀ wx, Below w8.heap.size w8 wx → ChansAt (okS (ok2 (fun _ => True) (.slice A1 i q1) (.slice A2 i q2)) prs) wx (some (p0.b, p0.r, p0.c) :: cps l0)) := fun wx hb => by
        have := (hC8.out.grow hb).chans
        rwa [hcps.out] at this
      have hcase : (rd = false ∧ kv2 = kv) ∨ (rd = true ∧ (at_ : Int) ≤ kv ∧ kv2 = kv + 1 ∧ IntKind.i64.wrap (kv + 1) = kv + 1) ∨ (rd = true ∧ ¬ (at_ : Int) ≤ kv ∧ kv2 = kv) := by
        rcases hrd : rd with _ | _
        · left
          rw [hrd] at hkv2
          exact ⟨rfl, by simpa using hkv2.symm⟩
        · right
          have hnx' := hnx.out
          rw [hrd] at hnx' hkv2
          obtain ⟨j, jb, jr, jc, hkj, hjx, _, _⟩ := next_true hnx'
          have hj1 := (List.getElem?_eq_some_iff.1 hjx).1
          have hj2 : (cps prs).length = i := by unfold cps; rw [List.length_map, hpl.out]
          by_cases hle : (at_ : Int) ≤ kv
          · left
            rw [if_pos ⟨rfl, hle⟩] at hkv2
            exact ⟨rfl, hle, hkv2.symm, IntWalk.i64_in _ (by omega)⟩
          · right
            rw [if_neg (fun h => hle h.2)] at hkv2
            exact ⟨rfl, hle, hkv2.symm⟩
      have hEq : (cmpS (leE M.2.2) (leP M.2.2) (leE M.2.2) (leP M.2.2) == 0) = true := by simp [cmpS_zero]
      clear hkv2 hlt0
      have hC9 := Lib.hid (hC8.out.grow hbr)
      have hrow9 := hC9.out.row1
      obtain ⟨bx, ox, hA1, hbl, _⟩ := hrow9.2 (by omega)
      subst hA1
      have hq2 := hq1.1
      have hat3 : at_ ≤ q1 := by omega
      have hat4 : (at_ : Int) ≤ (q1 : Int) := by omega
      have hat5 : (at_ : Int) ≤ (i : Int) := by omega
      replace hrow9 := Lib.hid hrow9
      replace hq1 := Lib.hid hq1
      by_cases hcap : q1 = at_
      · obtain rfl : at_ = i := by omega
        obtain rfl : q1 = at_ := hcap
        go_wp2_with fail
        refine wp_region_tree (.quiet 1 1 (.quiet 2 1 (.quiet 3 1 (.quiet 7 1 (.quiet 8 1 (.quiet 9 1 (.run 0 2 (.run 4 2 (.run 5 2 (.run 6 2 (.run 10 2 (.quiet 11 1 .nil) .stop) .stop) .stop) (.run 5 2 (.run 4 2 (.run 6 2 (.run 10 2 (.quiet 11 1 .nil) .stop) .stop) .stop) .stop)) (.run 5 2 (.run 0 2 (.run 4 2 (.run 6 2 (.run 10 2 (.quiet 11 1 .nil) .stop) .stop) .stop) .stop) .stop)))))))) [] 5 (by kernel_rfl) (by decide +kernel) ?_
        simp only [pickT, List.getElem?_cons_succ, List.getElem?_cons_zero]
        intro w0 hG
        have hG0 := hG.b
        have szG := hG0.size
        (try simp at szG)
        (repeat ((first | (with_reducible refine tree_q1 ?_) | (with_reducible refine tree_q0 ?_)); intro K hK; first | (refine Or.inr ⟨?_, ?_⟩; (focus (go_simp; first | done | (simp [undef]; done))); go_simp; (with_reducible refine hK _ ?_); clear hK K) | (refine Or.inl ⟨?_, ?_⟩; (focus (go_simp; done)); apply Exists.intro; refine And.intro ?_ ?_; (focus (first | (intro wq hq; obtain ⟨hcq, hfq⟩ := G.old hq; go_simp; (first | done | exact rfl); done) | (intro wq; go_simp; (first | done | exact rfl); done))); go_simp; (with_reducible refine hK _ ?_); clear hK K) | fail))
        (with_reducible refine tree_run hG ?_ ?_)
        · intro K hK
          go_simp
          replace hG := Grew.alloc hG (.cells #[] 45)
          (first | (replace hW := Wi.alloc0 hW) | (have hW := Wi.alloc0 (Wi.start hG0.size)))
          (try simp only [World.size_alloc] at hW)
          (with_reducible refine hK _ _ hG ?_)
          clear hK K
          (with_reducible refine tree_run hG ?_ ?_)
          · intro K hK
            refine step_appB rfl (.tmp 95) (.tmp 98) _ rfl wr.heap.size 45 iP _ 1 8 Try.underlying64 hPi hP0 hP1 hP2 rfl (by decide) (.slice (some ⟨_, 0, none⟩) 0 0) 0 [] rfl (hW.rowOf rfl) (some ⟨bx, ox, none⟩) q1 q1 (chs ((cps prs).take q1)) rfl ((hrow9.out.grow hG.b).takeC hat2) (oneCell_chs _) (by show _ ≤ 2 ^ 63 - 1; omega) (by omega) hW.base_le ?_
            intro B4 s4 v4 hown hc1 hc2 hgr hob
            rw [Nat.zero_add] at hown hob ⊢
            rw [List.nil_append] at hown
            replace hG : Grew wr v4 := Below.grown hG.b hgr hW.base_le (fun q hq => ((hW.rowOf rfl).lt q hq).1)
            replace hW := hW.app hown hgr hob
            clear hown hc1 hc2 hgr hob
            (try dsimp only)
            (with_reducible refine hK _ _ hG ?_)
            clear hK K
            (with_reducible refine tree_run hG ?_ ?_)
            · intro K hK
              go_simp
              replace hG := Grew.alloc hG (.cells #[.pointer none] 45)
              (first | (replace hW := Wi.alloc5 hW) | (have hW := Wi.alloc5 (Wi.start hG0.size)))
              (try simp only [World.size_alloc] at hW)
              (with_reducible refine hK _ _ hG ?_)
              clear hK K
              (with_reducible refine tree_run hG ?_ ?_)
              · intro K hK
                refine step_appB rfl (.tmp 99) (.tmp 100) _ rfl wr.heap.size 45 iP _ 1 8 Try.underlying64 hPi hP0 hP1 hP2 rfl (by decide) (.slice B4 q1 s4) q1 _ rfl (hW.rowOf rfl) (some ⟨_, 0, none⟩) 1 1 [.pointer none] rfl hW.nil5 (by simp [Value.oneCell']) (by show _ ≤ 2 ^ 63 - 1; omega) (by omega) hW.base_le ?_
                intro B6 s6 v6 hown hc1 hc2 hgr hob
                skip
                replace hG : Grew wr v6 := Below.grown hG.b hgr hW.base_le (fun q hq => ((hW.rowOf rfl).lt q hq).1)
                replace hW := hW.app hown hgr hob
                clear hown hc1 hc2 hgr hob
                (try dsimp only)
                (with_reducible refine hK _ _ hG ?_)
                clear hK K
                (with_reducible refine tree_run hG ?_ ?_)
                · intro K hK
                  refine step_appB rfl (.tmp 101) (.tmp 104) _ rfl wr.heap.size 45 iP _ 1 8 Try.underlying64 hPi hP0 hP1 hP2 rfl (by decide) (.slice B6 (q1 + 1) s6) (q1 + 1) _ rfl (hW.rowOf rfl) (some ⟨bx, ox, none⟩) 0 0 (chs ((cps prs).drop q1)) rfl ((hrow9.out.grow hG.b).dropC hat2 (by omega) (.inl rfl)) (oneCell_chs _) (by show _ ≤ 2 ^ 63 - 1; omega) (by omega) hW.base_le ?_
                  intro B10 s10 v10 hown hc1 hc2 hgr hob
                  rw [show q1 + 1 + 0 = q1 + 1 by omega] at hown hob ⊢
                  replace hG : Grew wr v10 := Below.grown hG.b hgr hW.base_le (fun q hq => ((hW.rowOf rfl).lt q hq).1)
                  replace hW := hW.app hown hgr hob
                  clear hown hc1 hc2 hgr hob
                  (try dsimp only)
                  (with_reducible refine hK _ _ hG ?_)
                  clear hK K
                  (repeat ((first | (with_reducible refine tree_q1 ?_) | (with_reducible refine tree_q0 ?_)); intro K hK; first | (refine Or.inr ⟨?_, ?_⟩; (focus (go_simp; first | done | (simp [undef]; done))); go_simp; (with_reducible refine hK _ ?_); clear hK K) | (refine Or.inl ⟨?_, ?_⟩; (focus (go_simp; done)); apply Exists.intro; refine And.intro ?_ ?_; (focus (first | (intro wq hq; obtain ⟨hcq, hfq⟩ := G.old hq; go_simp; (first | done | exact rfl); done) | (intro wq; go_simp; (first | done | exact rfl); done))); go_simp; (with_reducible refine hK _ ?_); clear hK K) | fail))
                  (with_reducible refine tree_nil ?_)
                  have hb9 := hG.b
                  have hsl := Sl.of_own1 (hW.rowOf rfl)
                  have hcp := own_cap (hW.rowOf rfl)
                  have hcc : chs ((cps prs).take q1) ++ [Value.pointer none] ++ chs ((cps prs).drop q1) = chs ((cps prs).take q1 ++ none :: (cps prs).drop q1) := by simp [chs, chv]
                  rw [hcc] at hsl
                  replace hsl := Lib.hid hsl
                  clear hW hcc
                  have hb8v : Below w8.heap.size w8 v10 := G.trans hbr hb9
                  have hbwv : Below w.heap.size w v10 := G.trans hbw8 hb8v
                  clear hG hb9
                  go_wp2_with fail
                  refine (next_any hsl.out (by unfold maxLen; omega) (hchW.out v10 hb8v)).mono ?_
                  rintro e11 w11 ⟨rfl, hb11⟩
                  rw [hnx2.out]
                  dsimp only
                  have hb8w : Below w8.heap.size w8 w11 := G.trans hb8v hb11
                  have hbww : Below w.heap.size w w11 := G.trans hbwv hb11
                  replace hsl := Lib.hid (hsl.out.grow hb11)
                  clear hb11 hb8v hbwv
                  go_wp2_with fail
                  refine (frontier1_any hsl.out hab.out hcp.1 hcp.2 (by omega) (hchM.out w11 hb8w) hsT.out hsD.out).mono ?_
                  rw [hM.out]
                  rintro e12 w12 ⟨A12, c12, rfl, hp12, hb12⟩
                  have hb8x : Below w8.heap.size w8 w12 := G.trans hb8w hb12
                  have hbwx : Below w.heap.size w w12 := G.trans hbww hb12
                  replace hp12 := Lib.hid hp12
                  have x12 := x8.out.grow hb8x
                  have y0 := (x12.2 0 _ rfl).1
                  have y1 := (x12.2 1 _ rfl).1
                  have lty := x12.lt
                  have hp7v := Lib.hid (hp7.out.grow hb8x)
                  clear hb12 hb8w hbww x12 hsl
                  rcases hcase with ⟨hrd, hk2⟩ | ⟨hrd, hle, hk2, hkw⟩ | ⟨hrd, hle, hk2⟩
                  all_goals (subst hrd)
                  all_goals (subst hk2)
                  all_goals (go_wp2_with fail)
                  all_goals (refine (equal_any (leE M.2.2) (leE M.2.2) A7 A12 (leP M.2.2).length (leP M.2.2).length c7 c12 (leP M.2.2) (leP M.2.2) _ (hp7v.out.sl.alloc _) (hp12.out.sl.alloc _) hp7v.out.max).mono ?_)
                  all_goals (rintro e13 w13 ⟨rfl, hb13⟩)
                  all_goals (rw [hEq])
                  all_goals (have hb8 : Below w12.heap.size w12 w13 := G.trans (G.alloc (G.refl _) _) hb13)
                  all_goals (go_wp2_with fail)
                  all_goals (go_ret; exact ⟨rfl, G.trans hbwx hb8⟩)
                exact tree_stop
              exact tree_stop
            exact tree_stop
          (with_reducible refine tree_run hG ?_ ?_)
          · intro K hK
            go_simp
            replace hG := Grew.alloc hG (.cells #[.pointer none] 45)
            (first | (replace hW := Wi.alloc5 hW) | (have hW := Wi.alloc5 (Wi.start hG0.size)))
            (try simp only [World.size_alloc] at hW)
            (with_reducible refine hK _ _ hG ?_)
            clear hK K
            (with_reducible refine tree_run hG ?_ ?_)
            · intro K hK
              refine step_appB rfl (.tmp 95) (.tmp 98) _ rfl wr.heap.size 45 iP _ 1 8 Try.underlying64 hPi hP0 hP1 hP2 rfl (by decide) (.slice (some ⟨_, 0, none⟩) 0 0) 0 [] rfl (hW.rowOf rfl) (some ⟨bx, ox, none⟩) q1 q1 (chs ((cps prs).take q1)) rfl ((hrow9.out.grow hG.b).takeC hat2) (oneCell_chs _) (by show _ ≤ 2 ^ 63 - 1; omega) (by omega) hW.base_le ?_
              intro B4 s4 v4 hown hc1 hc2 hgr hob
              rw [Nat.zero_add] at hown hob ⊢
              rw [List.nil_append] at hown
              replace hG : Grew wr v4 := Below.grown hG.b hgr hW.base_le (fun q hq => ((hW.rowOf rfl).lt q hq).1)
              replace hW := hW.app hown hgr hob
              clear hown hc1 hc2 hgr hob
              (try dsimp only)
              (with_reducible refine hK _ _ hG ?_)
              clear hK K
              (with_reducible refine tree_run hG ?_ ?_)
              · intro K hK
                refine step_appB rfl (.tmp 99) (.tmp 100) _ rfl wr.heap.size 45 iP _ 1 8 Try.underlying64 hPi hP0 hP1 hP2 rfl (by decide) (.slice B4 q1 s4) q1 _ rfl (hW.rowOf rfl) (some ⟨_, 0, none⟩) 1 1 [.pointer none] rfl hW.nil5 (by simp [Value.oneCell']) (by show _ ≤ 2 ^ 63 - 1; omega) (by omega) hW.base_le ?_
                intro B6 s6 v6 hown hc1 hc2 hgr hob
                skip
                replace hG : Grew wr v6 := Below.grown hG.b hgr hW.base_le (fun q hq => ((hW.rowOf rfl).lt q hq).1)
                replace hW := hW.app hown hgr hob
                clear hown hc1 hc2 hgr hob
                (try dsimp only)
                (with_reducible refine hK _ _ hG ?_)
                clear hK K
                (with_reducible refine tree_run hG ?_ ?_)
                · intro K hK
                  refine step_appB rfl (.tmp 101) (.tmp 104) _ rfl wr.heap.size 45 iP _ 1 8 Try.underlying64 hPi hP0 hP1 hP2 rfl (by decide) (.slice B6 (q1 + 1) s6) (q1 + 1) _ rfl (hW.rowOf rfl) (some ⟨bx, ox, none⟩) 0 0 (chs ((cps prs).drop q1)) rfl ((hrow9.out.grow hG.b).dropC hat2 (by omega) (.inl rfl)) (oneCell_chs _) (by show _ ≤ 2 ^ 63 - 1; omega) (by omega) hW.base_le ?_
                  intro B10 s10 v10 hown hc1 hc2 hgr hob
                  rw [show q1 + 1 + 0 = q1 + 1 by omega] at hown hob ⊢
                  replace hG : Grew wr v10 := Below.grown hG.b hgr hW.base_le (fun q hq => ((hW.rowOf rfl).lt q hq).1)
                  replace hW := hW.app hown hgr hob
                  clear hown hc1 hc2 hgr hob
                  (try dsimp only)
                  (with_reducible refine hK _ _ hG ?_)
                  clear hK K
                  (repeat ((first | (with_reducible refine tree_q1 ?_) | (with_reducible refine tree_q0 ?_)); intro K hK; first | (refine Or.inr ⟨?_, ?_⟩; (focus (go_simp; first | done | (simp [undef]; done))); go_simp; (with_reducible refine hK _ ?_); clear hK K) | (refine Or.inl ⟨?_, ?_⟩; (focus (go_simp; done)); apply Exists.intro; refine And.intro ?_ ?_; (focus (first | (intro wq hq; obtain ⟨hcq, hfq⟩ := G.old hq; go_simp; (first | done | exact rfl); done) | (intro wq; go_simp; (first | done | exact rfl); done))); go_simp; (with_reducible refine hK _ ?_); clear hK K) | fail))
                  (with_reducible refine tree_nil ?_)
                  have hb9 := hG.b
                  have hsl := Sl.of_own1 (hW.rowOf rfl)
                  have hcp := own_cap (hW.rowOf rfl)
                  have hcc : chs ((cps prs).take q1) ++ [Value.pointer none] ++ chs ((cps prs).drop q1) = chs ((cps prs).take q1 ++ none :: (cps prs).drop q1) := by simp [chs, chv]
                  rw [hcc] at hsl
                  replace hsl := Lib.hid hsl
                  clear hW hcc
                  have hb8v : Below w8.heap.size w8 v10 := G.trans hbr hb9
                  have hbwv : Below w.heap.size w v10 := G.trans hbw8 hb8v
                  clear hG hb9
                  go_wp2_with fail
                  refine (next_any hsl.out (by unfold maxLen; omega) (hchW.out v10 hb8v)).mono ?_
                  rintro e11 w11 ⟨rfl, hb11⟩
                  rw [hnx2.out]
                  dsimp only
                  have hb8w : Below w8.heap.size w8 w11 := G.trans hb8v hb11
                  have hbww : Below w.heap.size w w11 := G.trans hbwv hb11
                  replace hsl := Lib.hid (hsl.out.grow hb11)
                  clear hb11 hb8v hbwv
                  go_wp2_with fail
                  refine (frontier1_any hsl.out hab.out hcp.1 hcp.2 (by omega) (hchM.out w11 hb8w) hsT.out hsD.out).mono ?_
                  rw [hM.out]
                  rintro e12 w12 ⟨A12, c12, rfl, hp12, hb12⟩
                  have hb8x : Below w8.heap.size w8 w12 := G.trans hb8w hb12
                  have hbwx : Below w.heap.size w w12 := G.trans hbww hb12
                  replace hp12 := Lib.hid hp12
                  have x12 := x8.out.grow hb8x
                  have y0 := (x12.2 0 _ rfl).1
                  have y1 := (x12.2 1 _ rfl).1
                  have lty := x12.lt
                  have hp7v := Lib.hid (hp7.out.grow hb8x)
                  clear hb12 hb8w hbww x12 hsl
                  rcases hcase with ⟨hrd, hk2⟩ | ⟨hrd, hle, hk2, hkw⟩ | ⟨hrd, hle, hk2⟩
                  all_goals (subst hrd)
                  all_goals (subst hk2)
                  all_goals (go_wp2_with fail)
                  all_goals (refine (equal_any (leE M.2.2) (leE M.2.2) A7 A12 (leP M.2.2).length (leP M.2.2).length c7 c12 (leP M.2.2) (leP M.2.2) _ (hp7v.out.sl.alloc _) (hp12.out.sl.alloc _) hp7v.out.max).mono ?_)
                  all_goals (rintro e13 w13 ⟨rfl, hb13⟩)
                  all_goals (rw [hEq])
                  all_goals (have hb8 : Below w12.heap.size w12 w13 := G.trans (G.alloc (G.refl _) _) hb13)
                  all_goals (go_wp2_with fail)
                  all_goals (go_ret; exact ⟨rfl, G.trans hbwx hb8⟩)
                exact tree_stop
              exact tree_stop
            exact tree_stop
          exact tree_stop
        (with_reducible refine tree_run hG ?_ ?_)
        · intro K hK
          go_simp
          replace hG := Grew.alloc hG (.cells #[.pointer none] 45)
          (first | (replace hW := Wi.alloc5 hW) | (have hW := Wi.alloc5 (Wi.start hG0.size)))
          (try simp only [World.size_alloc] at hW)
          (with_reducible refine hK _ _ hG ?_)
          clear hK K
          (with_reducible refine tree_run hG ?_ ?_)
          · intro K hK
            go_simp
            replace hG := Grew.alloc hG (.cells #[] 45)
            (first | (replace hW := Wi.alloc0 hW) | (have hW := Wi.alloc0 (Wi.start hG0.size)))
            (try simp only [World.size_alloc] at hW)
            (with_reducible refine hK _ _ hG ?_)
            clear hK K
            (with_reducible refine tree_run hG ?_ ?_)
            · intro K hK
              refine step_appB rfl (.tmp 95) (.tmp 98) _ rfl wr.heap.size 45 iP _ 1 8 Try.underlying64 hPi hP0 hP1 hP2 rfl (by decide) (.slice (some ⟨_, 0, none⟩) 0 0) 0 [] rfl (hW.rowOf rfl) (some ⟨bx, ox, none⟩) q1 q1 (chs ((cps prs).take q1)) rfl ((hrow9.out.grow hG.b).takeC hat2) (oneCell_chs _) (by show _ ≤ 2 ^ 63 - 1; omega) (by omega) hW.base_le ?_
              intro B4 s4 v4 hown hc1 hc2 hgr hob
              rw [Nat.zero_add] at hown hob ⊢
              rw [List.nil_append] at hown
              replace hG : Grew wr v4 := Below.grown hG.b hgr hW.base_le (fun q hq => ((hW.rowOf rfl).lt q hq).1)
              replace hW := hW.app hown hgr hob
              clear hown hc1 hc2 hgr hob
              (try dsimp only)
              (with_reducible refine hK _ _ hG ?_)
              clear hK K
              (with_reducible refine tree_run hG ?_ ?_)
              · intro K hK
                refine step_appB rfl (.tmp 99) (.tmp 100) _ rfl wr.heap.size 45 iP _ 1 8 Try.underlying64 hPi hP0 hP1 hP2 rfl (by decide) (.slice B4 q1 s4) q1 _ rfl (hW.rowOf rfl) (some ⟨_, 0, none⟩) 1 1 [.pointer none] rfl hW.nil5 (by simp [Value.oneCell']) (by show _ ≤ 2 ^ 63 - 1; omega) (by omega) hW.base_le ?_
                intro B6 s6 v6 hown hc1 hc2 hgr hob
                skip
                replace hG : Grew wr v6 := Below.grown hG.b hgr hW.base_le (fun q hq => ((hW.rowOf rfl).lt q hq).1)
                replace hW := hW.app hown hgr hob
                clear hown hc1 hc2 hgr hob
                (try dsimp only)
                (with_reducible refine hK _ _ hG ?_)
                clear hK K
                (with_reducible refine tree_run hG ?_ ?_)
                · intro K hK
                  refine step_appB rfl (.tmp 101) (.tmp 104) _ rfl wr.heap.size 45 iP _ 1 8 Try.underlying64 hPi hP0 hP1 hP2 rfl (by decide) (.slice B6 (q1 + 1) s6) (q1 + 1) _ rfl (hW.rowOf rfl) (some ⟨bx, ox, none⟩) 0 0 (chs ((cps prs).drop q1)) rfl ((hrow9.out.grow hG.b).dropC hat2 (by omega) (.inl rfl)) (oneCell_chs _) (by show _ ≤ 2 ^ 63 - 1; omega) (by omega) hW.base_le ?_
                  intro B10 s10 v10 hown hc1 hc2 hgr hob
                  rw [show q1 + 1 + 0 = q1 + 1 by omega] at hown hob ⊢
                  replace hG : Grew wr v10 := Below.grown hG.b hgr hW.base_le (fun q hq => ((hW.rowOf rfl).lt q hq).1)
                  replace hW := hW.app hown hgr hob
                  clear hown hc1 hc2 hgr hob
                  (try dsimp only)
                  (with_reducible refine hK _ _ hG ?_)
                  clear hK K
                  (repeat ((first | (with_reducible refine tree_q1 ?_) | (with_reducible refine tree_q0 ?_)); intro K hK; first | (refine Or.inr ⟨?_, ?_⟩; (focus (go_simp; first | done | (simp [undef]; done))); go_simp; (with_reducible refine hK _ ?_); clear hK K) | (refine Or.inl ⟨?_, ?_⟩; (focus (go_simp; done)); apply Exists.intro; refine And.intro ?_ ?_; (focus (first | (intro wq hq; obtain ⟨hcq, hfq⟩ := G.old hq; go_simp; (first | done | exact rfl); done) | (intro wq; go_simp; (first | done | exact rfl); done))); go_simp; (with_reducible refine hK _ ?_); clear hK K) | fail))
                  (with_reducible refine tree_nil ?_)
                  have hb9 := hG.b
                  have hsl := Sl.of_own1 (hW.rowOf rfl)
                  have hcp := own_cap (hW.rowOf rfl)
                  have hcc : chs ((cps prs).take q1) ++ [Value.pointer none] ++ chs ((cps prs).drop q1) = chs ((cps prs).take q1 ++ none :: (cps prs).drop q1) := by simp [chs, chv]
                  rw [hcc] at hsl
                  replace hsl := Lib.hid hsl
                  clear hW hcc
                  have hb8v : Below w8.heap.size w8 v10 := G.trans hbr hb9
                  have hbwv : Below w.heap.size w v10 := G.trans hbw8 hb8v
                  clear hG hb9
                  go_wp2_with fail
                  refine (next_any hsl.out (by unfold maxLen; omega) (hchW.out v10 hb8v)).mono ?_
                  rintro e11 w11 ⟨rfl, hb11⟩
                  rw [hnx2.out]
                  dsimp only
                  have hb8w : Below w8.heap.size w8 w11 := G.trans hb8v hb11
                  have hbww : Below w.heap.size w w11 := G.trans hbwv hb11
                  replace hsl := Lib.hid (hsl.out.grow hb11)
                  clear hb11 hb8v hbwv
                  go_wp2_with fail
                  refine (frontier1_any hsl.out hab.out hcp.1 hcp.2 (by omega) (hchM.out w11 hb8w) hsT.out hsD.out).mono ?_
                  rw [hM.out]
                  rintro e12 w12 ⟨A12, c12, rfl, hp12, hb12⟩
                  have hb8x : Below w8.heap.size w8 w12 := G.trans hb8w hb12
                  have hbwx : Below w.heap.size w w12 := G.trans hbww hb12
                  replace hp12 := Lib.hid hp12
                  have x12 := x8.out.grow hb8x
                  have y0 := (x12.2 0 _ rfl).1
                  have y1 := (x12.2 1 _ rfl).1
                  have lty := x12.lt
                  have hp7v := Lib.hid (hp7.out.grow hb8x)
                  clear hb12 hb8w hbww x12 hsl
                  rcases hcase with ⟨hrd, hk2⟩ | ⟨hrd, hle, hk2, hkw⟩ | ⟨hrd, hle, hk2⟩
                  all_goals (subst hrd)
                  all_goals (subst hk2)
                  all_goals (go_wp2_with fail)
                  all_goals (refine (equal_any (leE M.2.2) (leE M.2.2) A7 A12 (leP M.2.2).length (leP M.2.2).length c7 c12 (leP M.2.2) (leP M.2.2) _ (hp7v.out.sl.alloc _) (hp12.out.sl.alloc _) hp7v.out.max).mono ?_)
                  all_goals (rintro e13 w13 ⟨rfl, hb13⟩)
                  all_goals (rw [hEq])
                  all_goals (have hb8 : Below w12.heap.size w12 w13 := G.trans (G.alloc (G.refl _) _) hb13)
                  all_goals (go_wp2_with fail)
                  all_goals (go_ret; exact ⟨rfl, G.trans hbwx hb8⟩)
                exact tree_stop
              exact tree_stop
            exact tree_stop
          exact tree_stop
        exact tree_stop
      · have hcap2 : ¬ q1 ≤ at_ := by omega
        have hcap3 : 0 < q1 - at_ := by omega
        go_wp2_with fail
        refine wp_region_tree (.quiet 1 1 (.quiet 2 1 (.quiet 3 1 (.quiet 7 1 (.quiet 8 1 (.quiet 9 1 (.run 0 2 (.run 4 2 (.run 5 2 (.run 6 2 (.run 10 2 (.quiet 11 1 .nil) .stop) .stop) .stop) (.run 5 2 (.run 4 2 (.run 6 2 (.run 10 2 (.quiet 11 1 .nil) .stop) .stop) .stop) .stop)) (.run 5 2 (.run 0 2 (.run 4 2 (.run 6 2 (.run 10 2 (.quiet 11 1 .nil) .stop) .stop) .stop) .stop) .stop)))))))) [] 5 (by kernel_rfl) (by decide +kernel) ?_
        simp only [pickT, List.getElem?_cons_succ, List.getElem?_cons_zero]
        intro w0 hG
        have hG0 := hG.b
        have szG := hG0.size
        (try simp at szG)
        (repeat ((first | (with_reducible refine tree_q1 ?_) | (with_reducible refine tree_q0 ?_)); intro K hK; first | (refine Or.inr ⟨?_, ?_⟩; (focus (go_simp; first | done | (simp [undef]; done))); go_simp; (with_reducible refine hK _ ?_); clear hK K) | (refine Or.inl ⟨?_, ?_⟩; (focus (go_simp; done)); apply Exists.intro; refine And.intro ?_ ?_; (focus (first | (intro wq hq; obtain ⟨hcq, hfq⟩ := G.old hq; go_simp; (first | done | exact rfl); done) | (intro wq; go_simp; (first | done | exact rfl); done))); go_simp; (with_reducible refine hK _ ?_); clear hK K) | fail))
        (with_reducible refine tree_run hG ?_ ?_)
        · intro K hK
          go_simp
          replace hG := Grew.alloc hG (.cells #[] 45)
          (first | (replace hW := Wi.alloc0 hW) | (have hW := Wi.alloc0 (Wi.start hG0.size)))
          (try simp only [World.size_alloc] at hW)
          (with_reducible refine hK _ _ hG ?_)
          clear hK K
          (with_reducible refine tree_run hG ?_ ?_)
          · intro K hK
            refine step_appB rfl (.tmp 95) (.tmp 98) _ rfl wr.heap.size 45 iP _ 1 8 Try.underlying64 hPi hP0 hP1 hP2 rfl (by decide) (.slice (some ⟨_, 0, none⟩) 0 0) 0 [] rfl (hW.rowOf rfl) (some ⟨bx, ox, none⟩) at_ q1 (chs ((cps prs).take at_)) rfl ((hrow9.out.grow hG.b).takeC hat2) (oneCell_chs _) (by show _ ≤ 2 ^ 63 - 1; omega) (by omega) hW.base_le ?_
            intro B4 s4 v4 hown hc1 hc2 hgr hob
            rw [Nat.zero_add] at hown hob ⊢
            rw [List.nil_append] at hown
            replace hG : Grew wr v4 := Below.grown hG.b hgr hW.base_le (fun q hq => ((hW.rowOf rfl).lt q hq).1)
            replace hW := hW.app hown hgr hob
            clear hown hc1 hc2 hgr hob
            (try dsimp only)
            (with_reducible refine hK _ _ hG ?_)
            clear hK K
            (with_reducible refine tree_run hG ?_ ?_)
            · intro K hK
              go_simp
              replace hG := Grew.alloc hG (.cells #[.pointer none] 45)
              (first | (replace hW := Wi.alloc5 hW) | (have hW := Wi.alloc5 (Wi.start hG0.size)))
              (try simp only [World.size_alloc] at hW)
              (with_reducible refine hK _ _ hG ?_)
              clear hK K
              (with_reducible refine tree_run hG ?_ ?_)
              · intro K hK
                refine step_appB rfl (.tmp 99) (.tmp 100) _ rfl wr.heap.size 45 iP _ 1 8 Try.underlying64 hPi hP0 hP1 hP2 rfl (by decide) (.slice B4 at_ s4) at_ _ rfl (hW.rowOf rfl) (some ⟨_, 0, none⟩) 1 1 [.pointer none] rfl hW.nil5 (by simp [Value.oneCell']) (by show _ ≤ 2 ^ 63 - 1; omega) (by omega) hW.base_le ?_
                intro B6 s6 v6 hown hc1 hc2 hgr hob
                skip
                replace hG : Grew wr v6 := Below.grown hG.b hgr hW.base_le (fun q hq => ((hW.rowOf rfl).lt q hq).1)
                replace hW := hW.app hown hgr hob
                clear hown hc1 hc2 hgr hob
                (try dsimp only)
                (with_reducible refine hK _ _ hG ?_)
                clear hK K
                (with_reducible refine tree_run hG ?_ ?_)
                · intro K hK
                  refine step_appB rfl (.tmp 101) (.tmp 104) _ rfl wr.heap.size 45 iP _ 1 8 Try.underlying64 hPi hP0 hP1 hP2 rfl (by decide) (.slice B6 (at_ + 1) s6) (at_ + 1) _ rfl (hW.rowOf rfl) (some ⟨bx, ox + at_, none⟩) (i - at_) (q1 - at_) (chs ((cps prs).drop at_)) rfl ((hrow9.out.grow hG.b).dropC hat2 rfl (.inr rfl)) (oneCell_chs _) (by show _ ≤ 2 ^ 63 - 1; omega) (by omega) hW.base_le ?_
                  intro B10 s10 v10 hown hc1 hc2 hgr hob
                  rw [show at_ + 1 + (i - at_) = i + 1 by omega] at hown hob ⊢
                  replace hG : Grew wr v10 := Below.grown hG.b hgr hW.base_le (fun q hq => ((hW.rowOf rfl).lt q hq).1)
                  replace hW := hW.app hown hgr hob
                  clear hown hc1 hc2 hgr hob
                  (try dsimp only)
                  (with_reducible refine hK _ _ hG ?_)
                  clear hK K
                  (repeat ((first | (with_reducible refine tree_q1 ?_) | (with_reducible refine tree_q0 ?_)); intro K hK; first | (refine Or.inr ⟨?_, ?_⟩; (focus (go_simp; first | done | (simp [undef]; done))); go_simp; (with_reducible refine hK _ ?_); clear hK K) | (refine Or.inl ⟨?_, ?_⟩; (focus (go_simp; done)); apply Exists.intro; refine And.intro ?_ ?_; (focus (first | (intro wq hq; obtain ⟨hcq, hfq⟩ := G.old hq; go_simp; (first | done | exact rfl); done) | (intro wq; go_simp; (first | done | exact rfl); done))); go_simp; (with_reducible refine hK _ ?_); clear hK K) | fail))
                  (with_reducible refine tree_nil ?_)
                  have hb9 := hG.b
                  have hsl := Sl.of_own1 (hW.rowOf rfl)
                  have hcp := own_cap (hW.rowOf rfl)
                  have hcc : chs ((cps prs).take at_) ++ [Value.pointer none] ++ chs ((cps prs).drop at_) = chs ((cps prs).take at_ ++ none :: (cps prs).drop at_) := by simp [chs, chv]
                  rw [hcc] at hsl
                  replace hsl := Lib.hid hsl
                  clear hW hcc
                  have hb8v : Below w8.heap.size w8 v10 := G.trans hbr hb9
                  have hbwv : Below w.heap.size w v10 := G.trans hbw8 hb8v
                  clear hG hb9
                  go_wp2_with fail
                  refine (next_any hsl.out (by unfold maxLen; omega) (hchW.out v10 hb8v)).mono ?_
                  rintro e11 w11 ⟨rfl, hb11⟩
                  rw [hnx2.out]
                  dsimp only
                  have hb8w : Below w8.heap.size w8 w11 := G.trans hb8v hb11
                  have hbww : Below w.heap.size w w11 := G.trans hbwv hb11
                  replace hsl := Lib.hid (hsl.out.grow hb11)
                  clear hb11 hb8v hbwv
                  go_wp2_with fail
                  refine (frontier1_any hsl.out hab.out hcp.1 hcp.2 (by omega) (hchM.out w11 hb8w) hsT.out hsD.out).mono ?_
                  rw [hM.out]
                  rintro e12 w12 ⟨A12, c12, rfl, hp12, hb12⟩
                  have hb8x : Below w8.heap.size w8 w12 := G.trans hb8w hb12
                  have hbwx : Below w.heap.size w w12 := G.trans hbww hb12
                  replace hp12 := Lib.hid hp12
                  have x12 := x8.out.grow hb8x
                  have y0 := (x12.2 0 _ rfl).1
                  have y1 := (x12.2 1 _ rfl).1
                  have lty := x12.lt
                  have hp7v := Lib.hid (hp7.out.grow hb8x)
                  clear hb12 hb8w hbww x12 hsl
                  rcases hcase with ⟨hrd, hk2⟩ | ⟨hrd, hle, hk2, hkw⟩ | ⟨hrd, hle, hk2⟩
                  all_goals (subst hrd)
                  all_goals (subst hk2)
                  all_goals (go_wp2_with fail)
                  all_goals (refine (equal_any (leE M.2.2) (leE M.2.2) A7 A12 (leP M.2.2).length (leP M.2.2).length c7 c12 (leP M.2.2) (leP M.2.2) _ (hp7v.out.sl.alloc _) (hp12.out.sl.alloc _) hp7v.out.max).mono ?_)
                  all_goals (rintro e13 w13 ⟨rfl, hb13⟩)
                  all_goals (rw [hEq])
                  all_goals (have hb8 : Below w12.heap.size w12 w13 := G.trans (G.alloc (G.refl _) _) hb13)
                  all_goals (go_wp2_with fail)
                  all_goals (go_ret; exact ⟨rfl, G.trans hbwx hb8⟩)
                exact tree_stop
              exact tree_stop
            exact tree_stop
          (with_reducible refine tree_run hG ?_ ?_)
          · intro K hK
            go_simp
            replace hG := Grew.alloc hG (.cells #[.pointer none] 45)
            (first | (replace hW := Wi.alloc5 hW) | (have hW := Wi.alloc5 (Wi.start hG0.size)))
            (try simp only [World.size_alloc] at hW)
            (with_reducible refine hK _ _ hG ?_)
            clear hK K
            (with_reducible refine tree_run hG ?_ ?_)
            · intro K hK
              refine step_appB rfl (.tmp 95) (.tmp 98) _ rfl wr.heap.size 45 iP _ 1 8 Try.underlying64 hPi hP0 hP1 hP2 rfl (by decide) (.slice (some ⟨_, 0, none⟩) 0 0) 0 [] rfl (hW.rowOf rfl) (some ⟨bx, ox, none⟩) at_ q1 (chs ((cps prs).take at_)) rfl ((hrow9.out.grow hG.b).takeC hat2) (oneCell_chs _) (by show _ ≤ 2 ^ 63 - 1; omega) (by omega) hW.base_le ?_
              intro B4 s4 v4 hown hc1 hc2 hgr hob
              rw [Nat.zero_add] at hown hob ⊢
              rw [List.nil_append] at hown
              replace hG : Grew wr v4 := Below.grown hG.b hgr hW.base_le (fun q hq => ((hW.rowOf rfl).lt q hq).1)
              replace hW := hW.app hown hgr hob
              clear hown hc1 hc2 hgr hob
              (try dsimp only)
              (with_reducible refine hK _ _ hG ?_)
              clear hK K
              (with_reducible refine tree_run hG ?_ ?_)
              · intro K hK
                refine step_appB rfl (.tmp 99) (.tmp 100) _ rfl wr.heap.size 45 iP _ 1 8 Try.underlying64 hPi hP0 hP1 hP2 rfl (by decide) (.slice B4 at_ s4) at_ _ rfl (hW.rowOf rfl) (some ⟨_, 0, none⟩) 1 1 [.pointer none] rfl hW.nil5 (by simp [Value.oneCell']) (by show _ ≤ 2 ^ 63 - 1; omega) (by omega) hW.base_le ?_
                intro B6 s6 v6 hown hc1 hc2 hgr hob
                skip
                replace hG : Grew wr v6 := Below.grown hG.b hgr hW.base_le (fun q hq => ((hW.rowOf rfl).lt q hq).1)
                replace hW := hW.app hown hgr hob
                clear hown hc1 hc2 hgr hob
                (try dsimp only)
                (with_reducible refine hK _ _ hG ?_)
                clear hK K
                (with_reducible refine tree_run hG ?_ ?_)
                · intro K hK
                  refine step_appB rfl (.tmp 101) (.tmp 104) _ rfl wr.heap.size 45 iP _ 1 8 Try.underlying64 hPi hP0 hP1 hP2 rfl (by decide) (.slice B6 (at_ + 1) s6) (at_ + 1) _ rfl (hW.rowOf rfl) (some ⟨bx, ox + at_, none⟩) (i - at_) (q1 - at_) (chs ((cps prs).drop at_)) rfl ((hrow9.out.grow hG.b).dropC hat2 rfl (.inr rfl)) (oneCell_chs _) (by show _ ≤ 2 ^ 63 - 1; omega) (by omega) hW.base_le ?_
                  intro B10 s10 v10 hown hc1 hc2 hgr hob
                  rw [show at_ + 1 + (i - at_) = i + 1 by omega] at hown hob ⊢
                  replace hG : Grew wr v10 := Below.grown hG.b hgr hW.base_le (fun q hq => ((hW.rowOf rfl).lt q hq).1)
                  replace hW := hW.app hown hgr hob
                  clear hown hc1 hc2 hgr hob
                  (try dsimp only)
                  (with_reducible refine hK _ _ hG ?_)
                  clear hK K
                  (repeat ((first | (with_reducible refine tree_q1 ?_) | (with_reducible refine tree_q0 ?_)); intro K hK; first | (refine Or.inr ⟨?_, ?_⟩; (focus (go_simp; first | done | (simp [undef]; done))); go_simp; (with_reducible refine hK _ ?_); clear hK K) | (refine Or.inl ⟨?_, ?_⟩; (focus (go_simp; done)); apply Exists.intro; refine And.intro ?_ ?_; (focus (first | (intro wq hq; obtain ⟨hcq, hfq⟩ := G.old hq; go_simp; (first | done | exact rfl); done) | (intro wq; go_simp; (first | done | exact rfl); done))); go_simp; (with_reducible refine hK _ ?_); clear hK K) | fail))
                  (with_reducible refine tree_nil ?_)
                  have hb9 := hG.b
                  have hsl := Sl.of_own1 (hW.rowOf rfl)
                  have hcp := own_cap (hW.rowOf rfl)
                  have hcc : chs ((cps prs).take at_) ++ [Value.pointer none] ++ chs ((cps prs).drop at_) = chs ((cps prs).take at_ ++ none :: (cps prs).drop at_) := by simp [chs, chv]
                  rw [hcc] at hsl
                  replace hsl := Lib.hid hsl
                  clear hW hcc
                  have hb8v : Below w8.heap.size w8 v10 := G.trans hbr hb9
                  have hbwv : Below w.heap.size w v10 := G.trans hbw8 hb8v
                  clear hG hb9
                  go_wp2_with fail
                  refine (next_any hsl.out (by unfold maxLen; omega) (hchW.out v10 hb8v)).mono ?_
                  rintro e11 w11 ⟨rfl, hb11⟩
                  rw [hnx2.out]
                  dsimp only
                  have hb8w : Below w8.heap.size w8 w11 := G.trans hb8v hb11
                  have hbww : Below w.heap.size w w11 := G.trans hbwv hb11
                  replace hsl := Lib.hid (hsl.out.grow hb11)
                  clear hb11 hb8v hbwv
                  go_wp2_with fail
                  refine (frontier1_any hsl.out hab.out hcp.1 hcp.2 (by omega) (hchM.out w11 hb8w) hsT.out hsD.out).mono ?_
                  rw [hM.out]
                  rintro e12 w12 ⟨A12, c12, rfl, hp12, hb12⟩
                  have hb8x : Below w8.heap.size w8 w12 := G.trans hb8w hb12
                  have hbwx : Below w.heap.size w w12 := G.trans hbww hb12
                  replace hp12 := Lib.hid hp12
                  have x12 := x8.out.grow hb8x
                  have y0 := (x12.2 0 _ rfl).1
                  have y1 := (x12.2 1 _ rfl).1
                  have lty := x12.lt
                  have hp7v := Lib.hid (hp7.out.grow hb8x)
                  clear hb12 hb8w hbww x12 hsl
                  rcases hcase with ⟨hrd, hk2⟩ | ⟨hrd, hle, hk2, hkw⟩ | ⟨hrd, hle, hk2⟩
                  all_goals (subst hrd)
                  all_goals (subst hk2)
                  all_goals (go_wp2_with fail)
                  all_goals (refine (equal_any (leE M.2.2) (leE M.2.2) A7 A12 (leP M.2.2).length (leP M.2.2).length c7 c12 (leP M.2.2) (leP M.2.2) _ (hp7v.out.sl.alloc _) (hp12.out.sl.alloc _) hp7v.out.max).mono ?_)
                  all_goals (rintro e13 w13 ⟨rfl, hb13⟩)
                  all_goals (rw [hEq])
                  all_goals (have hb8 : Below w12.heap.size w12 w13 := G.trans (G.alloc (G.refl _) _) hb13)
                  all_goals (go_wp2_with fail)
                  all_goals (go_ret; exact ⟨rfl, G.trans hbwx hb8⟩)
                exact tree_stop
              exact tree_stop
            exact tree_stop
          exact tree_stop
        (with_reducible refine tree_run hG ?_ ?_)
        · intro K hK
          go_simp
          replace hG := Grew.alloc hG (.cells #[.pointer none] 45)
          (first | (replace hW := Wi.alloc5 hW) | (have hW := Wi.alloc5 (Wi.start hG0.size)))
          (try simp only [World.size_alloc] at hW)
          (with_reducible refine hK _ _ hG ?_)
          clear hK K
          (with_reducible refine tree_run hG ?_ ?_)
          · intro K hK
            go_simp
            replace hG := Grew.alloc hG (.cells #[] 45)
            (first | (replace hW := Wi.alloc0 hW) | (have hW := Wi.alloc0 (Wi.start hG0.size)))
            (try simp only [World.size_alloc] at hW)
            (with_reducible refine hK _ _ hG ?_)
            clear hK K
            (with_reducible refine tree_run hG ?_ ?_)
            · intro K hK
              refine step_appB rfl (.tmp 95) (.tmp 98) _ rfl wr.heap.size 45 iP _ 1 8 Try.underlying64 hPi hP0 hP1 hP2 rfl (by decide) (.slice (some ⟨_, 0, none⟩) 0 0) 0 [] rfl (hW.rowOf rfl) (some ⟨bx, ox, none⟩) at_ q1 (chs ((cps prs).take at_)) rfl ((hrow9.out.grow hG.b).takeC hat2) (oneCell_chs _) (by show _ ≤ 2 ^ 63 - 1; omega) (by omega) hW.base_le ?_
              intro B4 s4 v4 hown hc1 hc2 hgr hob
              rw [Nat.zero_add] at hown hob ⊢
              rw [List.nil_append] at hown
              replace hG : Grew wr v4 := Below.grown hG.b hgr hW.base_le (fun q hq => ((hW.rowOf rfl).lt q hq).1)
              replace hW := hW.app hown hgr hob
              clear hown hc1 hc2 hgr hob
              (try dsimp only)
              (with_reducible refine hK _ _ hG ?_)
              clear hK K
              (with_reducible refine tree_run hG ?_ ?_)
              · intro K hK
                refine step_appB rfl (.tmp 99) (.tmp 100) _ rfl wr.heap.size 45 iP _ 1 8 Try.underlying64 hPi hP0 hP1 hP2 rfl (by decide) (.slice B4 at_ s4) at_ _ rfl (hW.rowOf rfl) (some ⟨_, 0, none⟩) 1 1 [.pointer none] rfl hW.nil5 (by simp [Value.oneCell']) (by show _ ≤ 2 ^ 63 - 1; omega) (by omega) hW.base_le ?_
                intro B6 s6 v6 hown hc1 hc2 hgr hob
                skip
                replace hG : Grew wr v6 := Below.grown hG.b hgr hW.base_le (fun q hq => ((hW.rowOf rfl).lt q hq).1)
                replace hW := hW.app hown hgr hob
                clear hown hc1 hc2 hgr hob
                (try dsimp only)
                (with_reducible refine hK _ _ hG ?_)
                clear hK K
                (with_reducible refine tree_run hG ?_ ?_)
                · intro K hK
                  refine step_appB rfl (.tmp 101) (.tmp 104) _ rfl wr.heap.size 45 iP _ 1 8 Try.underlying64 hPi hP0 hP1 hP2 rfl (by decide) (.slice B6 (at_ + 1) s6) (at_ + 1) _ rfl (hW.rowOf rfl) (some ⟨bx, ox + at_, none⟩) (i - at_) (q1 - at_) (chs ((cps prs).drop at_)) rfl ((hrow9.out.grow hG.b).dropC hat2 rfl (.inr rfl)) (oneCell_chs _) (by show _ ≤ 2 ^ 63 - 1; omega) (by omega) hW.base_le ?_
                  intro B10 s10 v10 hown hc1 hc2 hgr hob
                  rw [show at_ + 1 + (i - at_) = i + 1 by omega] at hown hob ⊢
                  replace hG : Grew wr v10 := Below.grown hG.b hgr hW.base_le (fun q hq => ((hW.rowOf rfl).lt q hq).1)
                  replace hW := hW.app hown hgr hob
                  clear hown hc1 hc2 hgr hob
                  (try dsimp only)
                  (with_reducible refine hK _ _ hG ?_)
                  clear hK K
                  (repeat ((first | (with_reducible refine tree_q1 ?_) | (with_reducible refine tree_q0 ?_)); intro K hK; first | (refine Or.inr ⟨?_, ?_⟩; (focus (go_simp; first | done | (simp [undef]; done))); go_simp; (with_reducible refine hK _ ?_); clear hK K) | (refine Or.inl ⟨?_, ?_⟩; (focus (go_simp; done)); apply Exists.intro; refine And.intro ?_ ?_; (focus (first | (intro wq hq; obtain ⟨hcq, hfq⟩ := G.old hq; go_simp; (first | done | exact rfl); done) | (intro wq; go_simp; (first | done | exact rfl); done))); go_simp; (with_reducible refine hK _ ?_); clear hK K) | fail))
                  (with_reducible refine tree_nil ?_)
                  have hb9 := hG.b
                  have hsl := Sl.of_own1 (hW.rowOf rfl)
                  have hcp := own_cap (hW.rowOf rfl)
                  have hcc : chs ((cps prs).take at_) ++ [Value.pointer none] ++ chs ((cps prs).drop at_) = chs ((cps prs).take at_ ++ none :: (cps prs).drop at_) := by simp [chs, chv]
                  rw [hcc] at hsl
                  replace hsl := Lib.hid hsl
                  clear hW hcc
                  have hb8v : Below w8.heap.size w8 v10 := G.trans hbr hb9
                  have hbwv : Below w.heap.size w v10 := G.trans hbw8 hb8v
                  clear hG hb9
                  go_wp2_with fail
                  refine (next_any hsl.out (by unfold maxLen; omega) (hchW.out v10 hb8v)).mono ?_
                  rintro e11 w11 ⟨rfl, hb11⟩
                  rw [hnx2.out]
                  dsimp only
                  have hb8w : Below w8.heap.size w8 w11 := G.trans hb8v hb11
                  have hbww : Below w.heap.size w w11 := G.trans hbwv hb11
                  replace hsl := Lib.hid (hsl.out.grow hb11)
                  clear hb11 hb8v hbwv
                  go_wp2_with fail
                  refine (frontier1_any hsl.out hab.out hcp.1 hcp.2 (by omega) (hchM.out w11 hb8w) hsT.out hsD.out).mono ?_
                  rw [hM.out]
                  rintro e12 w12 ⟨A12, c12, rfl, hp12, hb12⟩
                  have hb8x : Below w8.heap.size w8 w12 := G.trans hb8w hb12
                  have hbwx : Below w.heap.size w w12 := G.trans hbww hb12
                  replace hp12 := Lib.hid hp12
                  have x12 := x8.out.grow hb8x
                  have y0 := (x12.2 0 _ rfl).1
                  have y1 := (x12.2 1 _ rfl).1
                  have lty := x12.lt
                  have hp7v := Lib.hid (hp7.out.grow hb8x)
                  clear hb12 hb8w hbww x12 hsl
                  rcases hcase with ⟨hrd, hk2⟩ | ⟨hrd, hle, hk2, hkw⟩ | ⟨hrd, hle, hk2⟩
                  all_goals (subst hrd)
                  all_goals (subst hk2)
                  all_goals (go_wp2_with fail)
                  all_goals (refine (equal_any (leE M.2.2) (leE M.2.2) A7 A12 (leP M.2.2).length (leP M.2.2).length c7 c12 (leP M.2.2) (leP M.2.2) _ (hp7v.out.sl.alloc _) (hp12.out.sl.alloc _) hp7v.out.max).mono ?_)
                  all_goals (rintro e13 w13 ⟨rfl, hb13⟩)
                  all_goals (rw [hEq])
                  all_goals (have hb8 : Below w12.heap.size w12 w13 := G.trans (G.alloc (G.refl _) _) hb13)
                  all_goals (go_wp2_with fail)
                  all_goals (go_ret; exact ⟨rfl, G.trans hbwx hb8⟩)
                exact tree_stop
              exact tree_stop
            exact tree_stop
          exact tree_stop
        exact tree_stop
end Go.Proofs.Ytjldpodehffbnaa
