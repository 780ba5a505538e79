/- fine and channels: the channels and their models in two lists. -/
import Derived.Test.YtjldpodehffbnaaPlay1
import Derived.Test.YtjldpodehffbnaaCLaw4
namespace Go.Proofs.Ytjldpodehffbnaa
set_option linter.unusedVariables false
set_option linter.unnecessarySimpa false
set_option linter.unusedSimpArgs false
open Go.RowKit

/-- Two blocks' cells. -/
structure Two (T1 : Nat) (l1 : List Value) (T2 : Nat) (l2 : List Value) (w : World) : Prop where
  a : Bx w T1 l1
  b : Bx w T2 l2
def PRec.cp (p : PRec) : CP := some (p.b, p.r, p.c)
def PRec.mv (p : PRec) : Value := .pointer (some ⟨p.mb, 0, none⟩)
def cps (l : List PRec) : List CP := l.map PRec.cp
def mps (l : List PRec) : List Value := l.map PRec.mv
/-- Data outside of the two rows. -/
def ok2 (ok : Nat → Prop) (v1 v2 : Value) : Nat → Prop := fun x => ok x ∧ v1.ownBlock ≠ some x ∧ v2.ownBlock ≠ some x
def ChW (ok : Nat → Prop) (L : Nat) (w : World) (prs l1 l2 : List PRec) (A1 : Option Addr) (n1 q1 : Nat) (A2 : Option Addr) (n2 q2 : Nat) : Prop :=
  PlaysW (ok2 ok (.slice A1 n1 q1) (.slice A2 n2 q2)) L w prs ∧ (w.ownsRow L 45 1 (.slice A1 n1 q1) n1 (chs (cps l1)) ∧ w.ownsRow L 58 1 (.slice A2 n2 q2) n2 (mps l2)) ∧
    (∀ p ∈ prs, ∀ x, p.has x → (Value.slice A1 n1 q1).ownBlock ≠ some x ∧ (Value.slice A2 n2 q2).ownBlock ≠ some x) ∧ (∀ x, (Value.slice A1 n1 q1).ownBlock = some x → (Value.slice A2 n2 q2).ownBlock ≠ some x) ∧ L ≤ w.heap.size
section
variable {ok : Nat → Prop} {L : Nat} {w w' : World} {prs l1 l2 : List PRec} {A1 A2 A' : Option Addr} {n1 n2 q1 q2 q' : Nat}
theorem ChW.start (ok : Nat → Prop) (w : World) : ChW ok w.heap.size w [] [] [] none 0 0 none 0 0 :=
  ⟨PlaysW.nil _ _ _, ⟨World.ownsRow_nil _ _ _ _, World.ownsRow_nil _ _ _ _⟩, fun p hp => (List.not_mem_nil hp).elim, fun x e => (by cases e), Nat.le_refl _⟩
theorem ChW.grow (h : ChW ok L w prs l1 l2 A1 n1 q1 A2 n2 q2) (hb : Below w.heap.size w w') : ChW ok L w' prs l1 l2 A1 n1 q1 A2 n2 q2 := by
  obtain ⟨h1, h2, h3, h4, h5⟩ := h
  exact ⟨h1.grow hb, ⟨own_block h2.1 fun g hg => hb.block _ (h2.1.lt g hg).2, own_block h2.2 fun g hg => hb.block _ (h2.2.lt g hg).2⟩, h3, h4, Nat.le_trans h5 hb.size⟩
theorem ChW.fresh (h : ChW ok L w prs l1 l2 A1 n1 q1 A2 n2 q2) (hf : ∀ x, L ≤ x → ok x) : ∀ x, w.heap.size ≤ x → okS (ok2 ok (.slice A1 n1 q1) (.slice A2 n2 q2)) prs x := by
  obtain ⟨h1, h2, h3, h4, h5⟩ := h
  exact fun x hx => ⟨⟨hf x (by omega), fun e => by have := (h2.1.lt x e).2; omega, fun e => by have := (h2.2.lt x e).2; omega⟩, fun p hp hh => by have := (h1.in_ hp hh).2; omega⟩
theorem ChW.old (h : ChW ok L w prs l1 l2 A1 n1 q1 A2 n2 q2) : ∀ x, x < L → ok x → okS (ok2 ok (.slice A1 n1 q1) (.slice A2 n2 q2)) prs x := by
  obtain ⟨h1, h2, h3, h4, h5⟩ := h
  exact fun x hx ho => ⟨⟨ho, fun e => by have := (h2.1.lt x e).1; omega, fun e => by have := (h2.2.lt x e).1; omega⟩, fun p hp hh => by have := (h1.in_ hp hh).1; omega⟩
theorem ChW.add {base b r mb : Nat} {c : Ch} {A : Option Addr} (h : ChW ok L w prs l1 l2 A1 n1 q1 A2 n2 q2) (hb : Below w.heap.size w w') (hP : PlayW (okS (ok2 ok (.slice A1 n1 q1) (.slice A2 n2 q2)) prs) base w' b r mb c c A) (h1 : w.heap.size ≤ b ∧ w.heap.size ≤ r ∧ w.heap.size ≤ mb ∧ w.heap.size ≤ base) :
    ChW ok L w' (prs ++ [⟨b, r, mb, A, c⟩]) l1 l2 A1 n1 q1 A2 n2 q2 := by
  obtain ⟨_, g2, g3, g4, g5⟩ := h.grow hb
  refine ⟨h.1.add hb hP h1 h.2.2.2.2, g2, fun p hp x hx => ?_, g4, g5⟩
  rcases List.mem_append.1 hp with hp | hp
  · exact g3 p hp x hx
  · rw [List.mem_singleton] at hp
    subst hp
    have hge : w.heap.size ≤ x := by
      rcases hx with rfl | rfl | rfl | ⟨ad, e, rfl⟩
      · exact h1.1
      · exact h1.2.1
      · exact h1.2.2.1
      · have := hP.row ad e; omega
    exact ⟨fun e => by have := (h.2.1.1.lt x e).2; omega, fun e => by have := (h.2.1.2.lt x e).2; omega⟩
/-- A channel more in the first list. -/
theorem ChW.app1 {p : PRec} (h : ChW ok L w prs l1 l2 A1 n1 q1 A2 n2 q2) (hg : w.grownBy w' (Value.slice A1 n1 q1).ownBlock) (hob : (Value.slice A' (n1 + 1) q').ownBlock = (Value.slice A1 n1 q1).ownBlock ∨ (Value.slice A' (n1 + 1) q').ownBlock = some w.heap.size)
    (hown : w'.ownsRow L 45 1 (.slice A' (n1 + 1) q') (n1 + 1) (chs (cps l1) ++ [chv p.cp])) : ChW ok L w' prs (l1 ++ [p]) l2 A' (n1 + 1) q' A2 n2 q2 := by
  obtain ⟨h1, h2, h3, h4, h5⟩ := h
  have hblk : ∀ x, x < w.heap.size → (Value.slice A1 n1 q1).ownBlock ≠ some x → w'.heap[x]? = w.heap[x]? := fun x hx hn => hg.block x hx (fun e => hn e.symm)
  have hup : ∀ x, x < w.heap.size → ok2 ok (.slice A1 n1 q1) (.slice A2 n2 q2) x → ok2 ok (.slice A1 n1 q1) (.slice A2 n2 q2) x ∧ ok2 ok (.slice A' (n1 + 1) q') (.slice A2 n2 q2) x := fun x hx ho =>
    ⟨ho, ho.1, fun e => by rcases hob with h | h; (rw [h] at e; exact ho.2.1 e); (rw [h] at e; cases e; omega), ho.2.2⟩
  have hk : Keeps (fun x => ok2 ok (.slice A1 n1 q1) (.slice A2 n2 q2) x ∧ ok2 ok (.slice A' (n1 + 1) q') (.slice A2 n2 q2) x) w w' := (Keeps.refl _ _).grown hg fun k hk => .inr fun hx => hx.1.2.1 hk
  refine ⟨?_, ⟨?_, own_block h2.2 fun g hg' => hblk g (h2.2.lt g hg').2 (fun e => h4 g e hg')⟩, fun p hp x hx => ⟨fun e => ?_, (h3 p hp x hx).2⟩, fun x e1 e2 => ?_, Nat.le_trans h5 hg.size⟩
  · exact ((h1.mono hup).keep (hk.mono fun x hx => hx.1) fun p hp x hx => hblk x (h1.in_ hp hx).2 (h3 p hp x hx).1).mono fun x _ hx => hx.2
  · have e : chs (cps (l1 ++ [p])) = chs (cps l1) ++ [chv p.cp] := by simp [chs, cps]
    rw [e]
    exact hown
  · rcases hob with h | h
    · rw [h] at e; exact (h3 p hp x hx).1 e
    · rw [h] at e; cases e; have := (h1.in_ hp hx).2; omega
  · rcases hob with h | h
    · rw [h] at e1; exact h4 x e1 e2
    · rw [h] at e1; cases e1; have := (h2.2.lt _ e2).2; omega
/-- A model more in the second list. -/
theorem ChW.app2 {p : PRec} (h : ChW ok L w prs l1 l2 A1 n1 q1 A2 n2 q2) (hg : w.grownBy w' (Value.slice A2 n2 q2).ownBlock) (hob : (Value.slice A' (n2 + 1) q').ownBlock = (Value.slice A2 n2 q2).ownBlock ∨ (Value.slice A' (n2 + 1) q').ownBlock = some w.heap.size)
    (hown : w'.ownsRow L 58 1 (.slice A' (n2 + 1) q') (n2 + 1) (mps l2 ++ [p.mv])) : ChW ok L w' prs l1 (l2 ++ [p]) A1 n1 q1 A' (n2 + 1) q' := by
  obtain ⟨h1, h2, h3, h4, h5⟩ := h
  have hblk : ∀ x, x < w.heap.size → (Value.slice A2 n2 q2).ownBlock ≠ some x → w'.heap[x]? = w.heap[x]? := fun x hx hn => hg.block x hx (fun e => hn e.symm)
  have hup : ∀ x, x < w.heap.size → ok2 ok (.slice A1 n1 q1) (.slice A2 n2 q2) x → ok2 ok (.slice A1 n1 q1) (.slice A2 n2 q2) x ∧ ok2 ok (.slice A1 n1 q1) (.slice A' (n2 + 1) q') x := fun x hx ho =>
    ⟨ho, ho.1, ho.2.1, fun e => by rcases hob with h | h; (rw [h] at e; exact ho.2.2 e); (rw [h] at e; cases e; omega)⟩
  have hk : Keeps (fun x => ok2 ok (.slice A1 n1 q1) (.slice A2 n2 q2) x ∧ ok2 ok (.slice A1 n1 q1) (.slice A' (n2 + 1) q') x) w w' := (Keeps.refl _ _).grown hg fun k hk => .inr fun hx => hx.1.2.2 hk
  refine ⟨?_, ⟨own_block h2.1 fun g hg' => hblk g (h2.1.lt g hg').2 (h4 g hg'), ?_⟩, fun p hp x hx => ⟨(h3 p hp x hx).1, fun e => ?_⟩, fun x e1 e2 => ?_, Nat.le_trans h5 hg.size⟩
  · exact ((h1.mono hup).keep (hk.mono fun x hx => hx.1) fun p hp x hx => hblk x (h1.in_ hp hx).2 (h3 p hp x hx).2).mono fun x _ hx => hx.2
  · have e : mps (l2 ++ [p]) = mps l2 ++ [p.mv] := by simp [mps]
    rw [e]
    exact hown
  · rcases hob with h | h
    · rw [h] at e; exact (h3 p hp x hx).2 e
    · rw [h] at e; cases e; have := (h1.in_ hp hx).2; omega
  · rcases hob with h | h
    · rw [h] at e2; exact h4 x e1 e2
    · rw [h] at e2; cases e2; have := (h2.1.lt _ e1).2; omega
end
/-- A list of plays: their capacities and operations. -/
def PlaysV (ok : Nat → Prop) (w : World) (A : Option Addr) (n c : Nat) (xs : List Value) (ps : List (Nat × List (Int × It))) : Prop :=
  Rw ok w 2 A n c xs ∧ ps.length = n ∧ ∀ (j k : Nat) (ops : List (Int × It)), ps[j]? = some (k, ops) → k ≤ 255 ∧ (∀ o ∈ ops, 0 ≤ o.1 ∧ o.1 ≤ 255) ∧ ∃ A' n' c' ys, (xs.drop (j * 2)).take 2 = [.int .u8 k, .slice A' n' c'] ∧ OpsV ok w A' n' c' ys ops
theorem PlaysV.grow {ok : Nat → Prop} {w w' : World} {A : Option Addr} {n c : Nat} {xs : List Value} {ps : List (Nat × List (Int × It))} (h : PlaysV ok w A n c xs ps) (hb : Below w.heap.size w w') : PlaysV ok w' A n c xs ps :=
  ⟨h.1.grow hb, h.2.1, fun j k ops hj => let ⟨h1, h2, A', n', c', ys, h3, h4⟩ := h.2.2 j k ops hj; ⟨h1, h2, A', n', c', ys, h3, h4.grow hb⟩⟩
theorem OpsV.mono {ok ok' : Nat → Prop} {w : World} {A : Option Addr} {n c : Nat} {xs : List Value} {ops : List (Int × It)} (h : OpsV ok w A n c xs ops) (hk : ∀ x, x < w.heap.size → ok x → ok' x) : OpsV ok' w A n c xs ops :=
  ⟨h.1.mono (by decide) hk, h.2.1, fun j k it hj => let ⟨cs, h1, h2⟩ := h.2.2 j k it hj; ⟨cs, h1, h2.mono hk⟩⟩
def fineL (ps : List (Nat × List (Int × It))) : Bool := (ps.all fun p => smallL p.2) && decide (ps.length ≤ 6)
theorem fine_all {ps : List (Nat × List (Int × It))} (h : fineL ps = true) {j k : Nat} {ops : List (Int × It)} (hj : ps[j]? = some (k, ops)) : smallL ops = true := by
  unfold fineL at h
  simp only [Bool.and_eq_true, List.all_eq_true] at h
  exact h.1 _ (List.mem_of_getElem? hj)
theorem fine_len {ps : List (Nat × List (Int × It))} (h : fineL ps = true) : ps.length ≤ 6 := by
  unfold fineL at h
  simp only [Bool.and_eq_true, decide_eq_true_eq] at h
  exact h.2
set_option maxRecDepth 20000 in set_option maxHeartbeats 1000000 in
theorem fine_any {ok : Nat → Prop} {w : World} {A : Option Addr} {n c : Nat} {xs : List Value} {ps : List (Nat × List (Int × It))} (h : PlaysV ok w A n c xs ps) :
    Calls Try.prog 27 #[.slice A n c] w fun e w' => e = .returned (.bool (fineL ps)) ∧ Below w.heap.size w w' := by
  have hn := Nat.le_trans h.1.1 h.1.2.1
  unfold maxLen at hn
  have H := Lib.hid h
  have hlen := Lib.hid h.2.1
  clear h
  go_enter Try.func27, Try.ntmps27
  go_wp2_with fail
  go_loopw [3] (fun iv wr => ∃ k : Nat, k ≤ n ∧ iv = .int .i64 k ∧ Below w.heap.size w wr ∧ Hid (∀ p ∈ ps.take k, smallL p.2 = true)) (fun iv _ => n - (intOf iv).toNat)
  case atStart => exact ⟨0, Nat.zero_le _, rfl, G.refl _, fun p hp => by simp at hp⟩
  case round =>
    obtain ⟨k, hk, rfl, hbr, hall⟩ := hrel
    by_cases hlt : k < n
    · obtain ⟨⟨kc, ops⟩, hop⟩ : ∃ o, ps[k]? = some o := ⟨_, List.getElem?_eq_getElem (by rw [hlen.out]; exact hlt)⟩
      obtain ⟨_, _, A', n', c', ys, hch, hov⟩ := (H.out.grow hbr).2.2 k kc ops hop
      obtain ⟨bx, ox, rfl, hbl, _, _, hcell⟩ := (H.out.grow hbr).1.at_ (by decide) hlt
      rw [hch] at hcell
      have e0 : wr.cell? ⟨bx, ox + k * 2, none⟩ = _ := hcell 0 _ rfl
      have e1 := hcell 1 _ rfl
      replace hop := Lib.hid hop
      replace hov := Lib.hid hov
      clear hcell hch
      go_wp2_with fail
      refine (small_any hov.out).mono ?_
      rintro e3 w3 ⟨rfl, hb3⟩
      rcases hsm : smallL ops with _ | _
      · have hf : Hid (fineL ps = false) := by
          unfold Hid fineL
          rw [Bool.and_eq_false_iff]
          left
          rw [Bool.eq_false_iff]
          intro hh
          rw [List.all_eq_true] at hh
          rw [hh _ (List.mem_of_getElem? hop.out)] at hsm
          cases hsm
        replace hsm := Lib.hid hsm
        go_wp2_with fail
        go_ret
        exact ⟨ret_b hf.out.symm, G.trans hbr hb3⟩
      · have hall' : Hid (∀ p ∈ ps.take (k + 1), smallL p.2 = true) := fun p hp => by
          rw [List.take_add_one, hop.out] at hp
          rcases List.mem_append.1 hp with hp | hp
          · exact hall.out p hp
          · simp at hp
            subst hp
            exact hsm
        replace hsm := Lib.hid hsm
        go_wp2_with fail
        go_roundw
        case rel => exact ⟨k + 1, by omega, by go_num, G.trans hbr hb3, hall'⟩
        case measure => simp [intOf]; omega
    · obtain rfl : k = n := by omega
      have hf : Hid (fineL ps = decide (k ≤ 6)) := by
        unfold Hid fineL
        rw [hlen.out]
        have : ps.all (fun p => smallL p.2) = true := by
          rw [List.all_eq_true]
          have := hall.out
          rw [List.take_of_length_le (by rw [hlen.out]; exact Nat.le_refl _)] at this
          exact this
        rw [this, Bool.true_and]
      go_wp2_with fail
      go_ret
      refine ⟨ret_b ?_, hbr⟩
      rw [hf.out]
      simp only [decide_eq_decide]
      omega
theorem Try.infoM : (Try.prog.info? 58).map (fun i => (i.zero, i.size, i.bytes)) = some (some (.pointer none), 1, 8) := by kernel_rfl
/-- The channels and their models have come back. -/
def RetChans (ok : Nat → Prop) (w : World) (n : Nat) (e : Ending) (w' : World) : Prop :=
  ∃ A1 q1 A2 q2 prs, e = .returned (.tuple #[.slice A1 n q1, .slice A2 n q2, .bool true]) ∧ ChW ok w.heap.size w' prs prs prs A1 n q1 A2 n q2 ∧ prs.length = n ∧ (∀ p ∈ prs, ∃ K, 1 ≤ K ∧ K ≤ 256 ∧ Made K p.c) ∧ Below w.heap.size w w'
set_option maxRecDepth 20000 in set_option maxHeartbeats 2000000 in
theorem channels_any {ok : Nat → Prop} {w : World} {A : Option Addr} {n c : Nat} {xs : List Value} {ps : List (Nat × List (Int × It))} (h : PlaysV ok w A n c xs ps) (hsm : ∀ p ∈ ps, smallL p.2 = true) (hn6 : n ≤ 6) (hf : ∀ x, w.heap.size ≤ x → ok x) :
    Calls Try.prog 28 #[.slice A n c] w (RetChans ok w n) := by
  obtain ⟨iP, hPi, hP0, hP1, hP2⟩ := info_parts Try.infoP
  obtain ⟨iM, hMi, hM0, hM1, hM2⟩ := info_parts Try.infoM
  have H := Lib.hid h
  have hlen := Lib.hid h.2.1
  have hf := Lib.hid hf
  have hsm := Lib.hid hsm
  clear h
  go_enter Try.func28, Try.ntmps28
  go_wp2_with fail
  go_loopw [2, 3, 5] (fun cv mv iv wr => ∃ (k : Nat) (prs : List PRec) (A1 : Option Addr) (q1 : Nat) (A2 : Option Addr) (q2 : Nat), k ≤ n ∧ iv = .int .i64 k ∧ cv = .slice A1 k q1 ∧ mv = .slice A2 k q2 ∧ Hid (ChW ok w.heap.size wr prs prs prs A1 k q1 A2 k q2) ∧ Hid (prs.length = k ∧ ∀ p ∈ prs, ∃ K, 1 ≤ K ∧ K ≤ 256 ∧ Made K p.c) ∧ Below w.heap.size w wr) (fun _ _ iv _ => n - (intOf iv).toNat)
  case atStart => exact ⟨0, [], none, 0, none, 0, Nat.zero_le _, rfl, rfl, rfl, ChW.start ok w, ⟨rfl, fun p hp => (List.not_mem_nil hp).elim⟩, G.refl _⟩
  case round =>
    obtain ⟨k, prs, A1, q1, A2, q2, hk, rfl, rfl, rfl, hC, hM, hbr⟩ := hrel
    by_cases hlt : k < n
    · obtain ⟨⟨kc, ops⟩, hop⟩ : ∃ o, ps[k]? = some o := ⟨_, List.getElem?_eq_getElem (by rw [hlen.out]; exact hlt)⟩
      obtain ⟨hk1, hkd, A', n', c', ys, hch, hov⟩ := (H.out.grow hbr).2.2 k kc ops hop
      obtain ⟨_, _, A'', n'', c'', ys', hch', hov0⟩ := H.out.2.2 k kc ops hop
      rw [hch] at hch'
      cases hch'
      obtain ⟨bx, ox, rfl, hbl, _, _, hcell⟩ := (H.out.grow hbr).1.at_ (by decide) hlt
      rw [hch] at hcell
      have e0 : wr.cell? ⟨bx, ox + k * 2, none⟩ = _ := hcell 0 _ rfl
      have e1 := hcell 1 _ rfl
      have hs := hsm.out _ (List.mem_of_getElem? hop)
      have hs40 := small40 hs
      have hl' := hov.2.1
      replace hs := Lib.hid hs
      replace hop := Lib.hid hop
      replace hov := Lib.hid hov
      replace hov0 := Lib.hid hov0
      clear hcell hch
      go_wp2_with fail
      refine (small_any hov.out).mono ?_
      rintro e3 w3 ⟨rfl, hb3⟩
      rw [hs.out]
      replace e0 := G.cell e0 hb3
      replace e1 := G.cell e1 hb3
      have ltx := cell_lt e0
      dsimp only at ltx
      have hC3 := Lib.hid (hC.out.grow hb3)
      have hbw3 := G.trans hbr hb3
      have hw1 : IntKind.i64.wrap (kc : Int) = (kc : Int) := IntWalk.i64_in _ (by omega)
      obtain ⟨K, hK⟩ : ∃ K : Nat, K = kc + 1 := ⟨_, rfl⟩
      have hw2 : IntKind.i64.wrap (1 + (kc : Int)) = (K : Int) := by rw [IntWalk.i64_in _ (by omega)]; omega
      have hK1 : 1 ≤ K := by omega
      have hK2 : K ≤ 1024 := by omega
      have hK3 := Lib.hid (show K ≤ 256 by omega)
      have hn40 : n' ≤ 40 := by omega
      clear hK
      clear hC
      go_wp2_with fail
      refine wp_region_ord [(0, 1), (1, 1), (2, 1), (3, 1), (4, 1), (5, 1), (6, 1), (7, 1), (8, 1), (9, 1), (10, 1), (11, 1), (12, 2), (13, 1), (14, 1), (15, 1), (16, 1), (17, 1), (18, 1), (19, 1)] [] 5 (by kernel_rfl) (by decide +kernel) ?_
      simp only [pickO, List.append_eq, List.cons_append, List.nil_append, List.getElem?_cons_succ, List.getElem?_cons_zero]
      intro w0 hG
      (repeat ((first | (with_reducible refine ord_q1 ?_) | (with_reducible refine ord_q0 ?_)); intro K hK; first | (refine Or.inr ⟨?_, ?_⟩; (focus (go_simp; first | done | (simp [undef]; done))); go_simp; (with_reducible refine hK _ ?_); clear hK K) | (refine Or.inl ⟨?_, ?_⟩; (focus (go_simp; done)); apply Exists.intro; refine And.intro ?_ ?_; (focus (first | (intro wq hq; obtain ⟨hcq, hfq⟩ := G.old hq; go_simp; (first | done | exact rfl); done) | (intro wq; go_simp; (first | done | exact rfl); done))); go_simp; (with_reducible refine hK _ ?_); clear hK K) | fail))
      have hC0 := hC3.out.grow hG.b
      have hov4 := (hov0.out.mono hC3.out.old).grow (G.trans hbw3 hG.b)
      (with_reducible refine ord_run ?_ hG)
      intro K hK
      go_simp
      go_at_call 26; (with_reducible refine (play_any hK1 hK2 hov4 hkd hn40 (hC0.fresh hf.out)).mono ?_); rintro e4 w4 ⟨b, r, mb, ch, A4, base, rfl, hP4, hM4, hwb4, hb4⟩
      replace hG := Grew.trans hG hb4
      (try dsimp only)
      (with_reducible refine hK _ _ hG ?_)
      clear hK K
      (repeat ((first | (with_reducible refine ord_q1 ?_) | (with_reducible refine ord_q0 ?_)); intro K hK; first | (refine Or.inr ⟨?_, ?_⟩; (focus (go_simp; first | done | (simp [undef]; done))); go_simp; (with_reducible refine hK _ ?_); clear hK K) | (refine Or.inl ⟨?_, ?_⟩; (focus (go_simp; done)); apply Exists.intro; refine And.intro ?_ ?_; (focus (first | (intro wq hq; obtain ⟨hcq, hfq⟩ := G.old hq; go_simp; (first | done | exact rfl); done) | (intro wq; go_simp; (first | done | exact rfl); done))); go_simp; (with_reducible refine hK _ ?_); clear hK K) | fail))
      (with_reducible refine ord_nil ?_)
      have hC4 := hC0.add hb4 hP4 hwb4
      have hbw4 := G.trans hbw3 hG.b
      obtain ⟨p, hp⟩ : ∃ p : PRec, p = ⟨b, r, mb, A4, ch⟩ := ⟨_, rfl⟩
      have hpM : Made K p.c := by rw [hp]; exact hM4
      have hp1 : Value.pointer (some ⟨b, 0, none⟩) = chv p.cp := by rw [hp]; rfl
      have hp2 : Value.pointer (some ⟨mb, 0, none⟩) = p.mv := by rw [hp]; rfl
      rw [← hp] at hC4
      have hC5 := hC4.grow (G.alloc (G.refl _) (.cells #[.pointer (some ⟨b, 0, none⟩)] 45))
      have hbw5 := hbw4.alloc hbw4.size (.cells #[.pointer (some ⟨b, 0, none⟩)] 45)
      have ho1 := hC5.2.1.1
      have hbs5 := hbw5.size
      replace hp1 := Lib.hid hp1
      replace hp2 := Lib.hid hp2
      replace hC5 := Lib.hid hC5
      clear hC4 hC0 hov4 hP4 hM4 hwb4 hG hb4 hC3 hp e0 e1 ltx
      go_wp2_with (at_builtin; first | (refine wpList_appB rfl (.tmp 41) (.tmp 43) _ rfl w.heap.size 45 iP _ 1 8 Try.underlying64 hPi hP0 hP1 hP2 rfl (by decide) (.slice A1 k q1) k (chs (cps prs)) rfl ho1 (some ⟨w4.heap.size, 0, none⟩) 1 1 [.pointer (some ⟨b, 0, none⟩)] rfl (Sl.new rfl rfl) (by simp [Value.oneCell']) (by show _ ≤ 2 ^ 63 - 1; omega) (by omega) hbs5 ?_; intro B1 s1 w6 hown6 hc6 hm6 hg6 hob6; rw [hp1.out] at hown6; refine wpL_name (fun wx => Hid (ChW ok w.heap.size wx (prs ++ [p]) (prs ++ [p]) prs B1 (k + 1) s1 A2 k q2) ∧ Below w.heap.size w wx) ⟨hC5.out.app1 hg6 hob6 hown6, hbw5.grown hg6 hbs5 (fun q hq => (ho1.lt q hq).1)⟩ ?_; clear hown6 hc6 hm6 hg6 hob6; rintro w7 ⟨hC7, hbw7⟩; have hC8 := hC7.out.grow (G.alloc (G.refl _) (.cells #[.pointer (some ⟨mb, 0, none⟩)] 58)); have hbw8 := hbw7.alloc hbw7.size (.cells #[.pointer (some ⟨mb, 0, none⟩)] 58); have ho2 := hC8.2.1.2; have hbs8 := hbw8.size; replace hC8 := Lib.hid hC8) | (refine wpList_appB rfl (.tmp 45) (.tmp 47) _ rfl w.heap.size 58 iM _ 1 8 Try.underlying65 hMi hM0 hM1 hM2 rfl (by decide) (.slice A2 k q2) k (mps prs) rfl ho2 (some ⟨w7.heap.size, 0, none⟩) 1 1 [.pointer (some ⟨mb, 0, none⟩)] rfl (Sl.new rfl rfl) (by simp [Value.oneCell']) (by show _ ≤ 2 ^ 63 - 1; omega) (by omega) hbs8 ?_; intro B2 s2 w9 hown9 hc9 hm9 hg9 hob9; rw [hp2.out] at hown9; refine wpL_name (fun wx => Hid (ChW ok w.heap.size wx (prs ++ [p]) (prs ++ [p]) (prs ++ [p]) B1 (k + 1) s1 B2 (k + 1) s2) ∧ Below w.heap.size w wx) ⟨hC8.out.app2 hg9 hob9 hown9, hbw8.grown hg9 hbs8 (fun q hq => (ho2.lt q hq).1)⟩ ?_; clear hown9 hc9 hm9 hg9 hob9; rintro wA ⟨hCA, hbwA⟩))
      go_roundw
      case rel => exact ⟨k + 1, prs ++ [p], B1, s1, B2, s2, by omega, by go_num, rfl, rfl, hCA, ⟨by simp [hM.out.1], fun q hq => by
        rcases List.mem_append.1 hq with hq | hq
        · exact hM.out.2 q hq
        · rw [List.mem_singleton] at hq; subst hq; exact ⟨K, hK1, hK3.out, hpM⟩⟩, hbwA⟩
      case measure => simp [intOf]; omega
    · obtain rfl : k = n := by omega
      go_wp2_with fail
      exact bodyPost_ret (v := .tuple #[.slice A1 k q1, .slice A2 k q2, .bool true]) (by simp only [results, Try.results28]; go_simp) rfl ⟨A1, q1, A2, q2, prs, rfl, hC.out, hM.out.1, hM.out.2, hbr⟩
theorem cps_get {l : List PRec} {k : Nat} {p : PRec} (h : l[k]? = some p) : (cps l)[k]? = some (some (p.b, p.r, p.c)) := by simp [cps, h, PRec.cp]
end Go.Proofs.Ytjldpodehffbnaa
