/- ChannelMarks returns true: the walk. -/
import Derived.Test.YtjldpodehffbnaaCLaw2
namespace Go.Proofs.Ytjldpodehffbnaa
set_option linter.unusedVariables false
set_option linter.unnecessarySimpa false
set_option linter.unusedSimpArgs false
open Go.RowKit

set_option maxRecDepth 20000 in set_option maxHeartbeats 400000 in
theorem room_any {ok : Nat → Prop} {w : World} {b r : Nat} {c : Ch} (h : ChanAt ok w b r c) :
    Calls Try.prog 20 #[.pointer (some ⟨b, 0, none⟩)] w fun e w' => e = .returned (.int .i64 ((c.cap : Int) - (c.items.length : Int))) ∧ w' = w := by
  have hb : c.items.length ≤ c.cap ∧ c.cap ≤ 1024 := by
    obtain ⟨_, _, _, _, _, _, _, _, h1⟩ := h
    exact ⟨h1.2.2.2.2.2.2.1, h1.2.2.2.2.2.2.2.1⟩
  have hw : IntKind.i64.wrap ((c.cap : Int) - (c.items.length : Int)) = (c.cap : Int) - (c.items.length : Int) := IntWalk.i64_in _ (by omega)
  go_enter Try.func20, Try.ntmps20
  go_wp2_with (first
    | (go_at_call 39; (with_reducible refine (capacity_any h).mono ?_); rintro e1 w1 ⟨rfl, hw1⟩; subst hw1)
    | (go_at_call 21; (with_reducible refine (len_any h).mono ?_); rintro e2 w2 ⟨rfl, hw2⟩; subst hw2)
    | fail)
  go_ret
  exact ⟨rfl, rfl⟩

abbrev u16s (l : List Int) : List Value := l.map (Value.int .u16)
/-- A list of marks. -/
def MarksV (w : World) (A : Option Addr) (n c : Nat) (l : List Int) : Prop := Sl w A n (u16s l) ∧ n ≤ c ∧ c ≤ maxLen ∧ ∀ x ∈ l, 0 ≤ x ∧ x ≤ 65535
theorem Sl.atU {w : World} {A : Option Addr} {n : Nat} {xs : List Int} (h : Sl w A n (u16s xs)) {k : Nat} (hk : k < n) :
    ∃ b off x, A = some ⟨b, off, none⟩ ∧ b < w.heap.size ∧ xs[k]? = some x ∧ w.cell? ⟨b, off + k, none⟩ = some (.int .u16 x) := by
  obtain ⟨b, off, e, hb, hc⟩ := h.2 (by omega)
  have hl : k < xs.length := by have := h.1; simp at this; omega
  exact ⟨b, off, xs[k], e, hb, List.getElem?_eq_getElem hl, hc k _ (by simp [List.getElem?_eq_getElem hl])⟩
/-- An empty channel with a mark. -/
def chM (k : Nat) (e : Int) : Ch := ⟨k, [], e, [], 0, [], false⟩
theorem adv_chM {k : Nat} {e f : Int} (h : e ≤ f) : advC (chM k e) f [] = (0, chM k f) := by
  unfold advC
  rw [if_neg]
  · rfl
  · show ¬ cmpS f [] e [] < 0
    by_cases he : f = e
    · subst he; rw [cmpS_self]; decide
    · rw [cmpS_ne he, cmpI_gt (by omega)]; decide
theorem put_chM (k0 : Int) {k : Nat} (hk : 0 < k) (e : Int) (it : It) : (putC k0 (chM k e) it).1 = if k0 = 0 then (if it.e < e then 24 else 0) else k0 := by
  unfold putC
  by_cases h0 : k0 = 0
  · subst h0
    rw [if_neg (by simp), if_pos rfl]
    have hc : cmpS it.e it.p (chM k e).me (chM k e).mp < 0 ↔ it.e < e := by
      show cmpS it.e it.p e [] < 0 ↔ it.e < e
      by_cases he : it.e = e
      · rw [he]
        constructor
        · intro h
          exfalso
          rw [cmpS_same] at h
          cases hp : it.p with
          | nil => rw [hp] at h; exact absurd h (by decide)
          | cons a l => rw [hp] at h; exact absurd h (by simp [cmpL])
        · intro h; omega
      · rw [cmpS_ne he]
        unfold cmpI
        split
        · simp [*]
        · split
          · constructor
            · intro h; exact absurd h (by decide)
            · intro h; omega
          · omega
    by_cases hl : it.e < e
    · rw [if_pos (.inl (hc.2 hl)), if_pos hl]
    · rw [if_neg, if_neg, if_neg hl]
      · show ¬ (0 = k); omega
      · rintro (h | ⟨h, _⟩)
        · exact hl (hc.1 h)
        · exact Bool.noConfusion h
  · rw [if_pos h0, if_neg h0]
def sumI : List Int → Int
  | [] => 0
  | x :: l => x + sumI l
theorem sumI_app (l m : List Int) : sumI (l ++ m) = sumI l + sumI m := by
  induction l with
  | nil => simp [sumI]
  | cons a l ih => simp [sumI, ih]; omega
theorem sumI_bd {l : List Int} (h : ∀ x ∈ l, 0 ≤ x ∧ x ≤ 65535) : 0 ≤ sumI l ∧ sumI l ≤ 65535 * l.length := by
  induction l with
  | nil => simp [sumI]
  | cons a l ih =>
    have h1 := h a (by simp)
    have h2 := ih fun x hx => h x (by simp [hx])
    simp only [sumI, List.length_cons]
    omega
set_option maxRecDepth 20000 in set_option maxHeartbeats 2000000 in
theorem channelMarks_any {w : World} (cp : Int) (hcp : (Lit.int .u8 cp).wf = true) {A : Option Addr} {n c : Nat} {ms : List Int} (hm : MarksV w A n c ms) {cs : List Value} {it : It} (h : ItemV (fun _ => True) w cs it) :
    Calls Try.prog 4 #[.int .u8 cp, .slice A n c, .agg cs.toArray] w fun e w' => e = .returned (.bool true) ∧ Below w.heap.size w w' := by
  obtain ⟨z0, A5, n5, c5', z1, A6, n6, c6', z2, z3, z4, z5, A7, n7, c7', A8, n8, c8', A9, n9, c9', rfl⟩ := item_cells h
  have H := Lib.hid h
  have H0 := Lib.hid h
  have HM := Lib.hid hm
  have hcap : 0 ≤ cp ∧ cp ≤ 255 := by
    have e1 : IntKind.u8.min = 0 := rfl
    have e2 : IntKind.u8.max = 255 := rfl
    simp [Lit.wf, e1, e2] at hcp
    exact hcp
  obtain ⟨K, hK⟩ : ∃ K : Nat, cp + 1 = (K : Int) := ⟨(cp + 1).toNat, by omega⟩
  have hlen : ms.length = n := by have := hm.1.1; simpa using this
  have hn9 : n ≤ maxLen := Nat.le_trans hm.2.1 hm.2.2.1
  unfold maxLen at hn9
  clear h hm hcp
  go_enter Try.func4, Try.ntmps4
  go_wp2_with fail
  refine (known_any _).mono ?_
  rintro e1 w1 ⟨rfl, hb1⟩
  have x1 : Bx w1 w.heap.size [.int .i64 z0, .slice A5 n5 c5', .int .i64 z1, .slice A6 n6 c6', .int .i64 z2, .int .i64 z3, .int .i64 z4, .string z5, .slice A7 n7 c7', .slice A8 n8 c8', .slice A9 n9 c9'] := Bx.grow (by repeat (first | with_reducible assumption | (with_reducible exact Bx.new (by simp; done) (by rfl)) | (with_reducible refine Bx.alloc ?_ _) | (with_reducible refine Bx.drewN ?_ _) | ((with_reducible apply Bx.put); rotate_right; (first | rfl | skip)) | (with_reducible refine Bx.other ?_ (by first | (simp; done) | (simp; omega)) _))) hb1
  have hbw1 : Below w.heap.size w w1 := G.trans (by repeat (first | with_reducible assumption | with_reducible exact G.refl _ | with_reducible refine G.drew ?_ | with_reducible refine G.drewN ?_ _ | with_reducible refine G.alloc ?_ _ | with_reducible refine Below.setCell ?_ (by first | (simp; done) | (simp; omega)) _ | with_reducible refine G.trans ?_ hb12 | with_reducible refine G.trans ?_ hb11 | with_reducible refine G.trans ?_ hb10 | with_reducible refine G.trans ?_ hb9 | with_reducible refine G.trans ?_ hb8 | with_reducible refine G.trans ?_ hb7 | with_reducible refine G.trans ?_ hb6 | with_reducible refine G.trans ?_ hb5 | with_reducible refine G.trans ?_ hb4 | with_reducible refine G.trans ?_ hb3 | with_reducible refine G.trans ?_ hb2 | with_reducible refine G.trans ?_ hb1 | with_reducible refine G.trans ?_ hb | assumption)) hb1
  replace H := Lib.hid (H.out.grow hbw1)
  clear hb1
  by_cases h100 : 100 < n
  · have h100' : (100 : Int) < (n : Int) := by omega
    go_wp2_with fail
    refine (known_any _).mono ?_
    rintro e3 w3 ⟨rfl, hb3⟩
    go_wp2_with fail
    go_ret
    exact ⟨rfl, G.trans hbw1 hb3⟩
  have h100' : ¬ (100 : Int) < (n : Int) := by omega
  obtain ⟨c0, c1, c2, c3, c4, c5, c6, c7, c8, c9, c10⟩ := x1.c11
  go_wp2_with fail
  refine (small_any (ops_one rfl H.out trivial rfl)).mono ?_
  rw [smallL_one]
  rintro e2 w2 ⟨rfl, hb2⟩
  have hb12 : Below w1.heap.size w1 w2 := G.trans (by repeat (first | with_reducible assumption | with_reducible exact G.refl _ | with_reducible refine G.drew ?_ | with_reducible refine G.drewN ?_ _ | with_reducible refine G.alloc ?_ _ | with_reducible refine Below.setCell ?_ (by first | (simp; done) | (simp; omega)) _ | with_reducible refine G.trans ?_ hb12 | with_reducible refine G.trans ?_ hb11 | with_reducible refine G.trans ?_ hb10 | with_reducible refine G.trans ?_ hb9 | with_reducible refine G.trans ?_ hb8 | with_reducible refine G.trans ?_ hb7 | with_reducible refine G.trans ?_ hb6 | with_reducible refine G.trans ?_ hb5 | with_reducible refine G.trans ?_ hb4 | with_reducible refine G.trans ?_ hb3 | with_reducible refine G.trans ?_ hb2 | with_reducible refine G.trans ?_ hb1 | with_reducible refine G.trans ?_ hb | assumption)) hb2
  have hbw2 := G.trans hbw1 hb12
  replace H := Lib.hid (H.out.grow hb12)
  replace x1 := x1.grow hb12
  clear hb2 hb12 c0 c1 c2 c3 c4 c5 c6 c7 c8 c9 c10
  rcases smallI it with _ | _
  · go_wp2_with fail
    refine (known_any _).mono ?_
    rintro e3 w3 ⟨rfl, hb3⟩
    go_wp2_with fail
    go_ret
    exact ⟨rfl, G.trans hbw2 hb3⟩
  have hw1 : IntKind.i64.wrap cp = cp := IntWalk.i64_in _ (by omega)
  have hw2 : IntKind.i64.wrap (1 + cp) = (K : Int) := by rw [IntWalk.i64_in _ (by omega)]; omega
  go_wp2_with fail
  refine (new_any K _ (by omega) (by omega)).mono ?_
  rintro e3 w3 ⟨b, r, rfl, hbb, hrr, C, hb3⟩
  have hbw3 := G.trans hbw2 hb3
  have C3 : ChanAt (Bar [b, r]) w3 b r (chM K 0) := C _ (by simp) (by simp)
  have lt3 := C3.lt
  have x1lt := x1.lt
  have hxb : w.heap.size ≠ b ∧ w.heap.size ≠ r := by omega
  have hwb : w.heap.size ≤ b ∧ w.heap.size ≤ r := by omega
  have HI : Hid (ItemV (Bar [b, r]) w [.int .i64 z0, .slice A5 n5 c5', .int .i64 z1, .slice A6 n6 c6', .int .i64 z2, .int .i64 z3, .int .i64 z4, .string z5, .slice A7 n7 c7', .slice A8 n8 c8', .slice A9 n9 c9'] it) := H0.out.mono fun q hq _ hm => by simp at hm; omega
  replace x1 := x1.grow hb3
  have hok : Hid (∀ wx : World, w3.heap.size ≤ wx.heap.size → ∀ q, wx.heap.size ≤ q → Bar [b, r] q) := fun wx h1 q h2 hm => by simp at hm; omega
  clear C H H0 hbb hrr hb3 hbw2 hbw1
  replace C3 := Lib.hid C3
  go_wp2_with fail
  go_loopw [9, 10] (fun ev iv wr => ∃ k : Nat, k ≤ n ∧ iv = .int .i64 k ∧ Hid (ev = .int .i64 (sumI (ms.take k)) ∧ ChanAt (Bar [b, r]) wr b r (chM K (sumI (ms.take k))) ∧ w3.heap.size ≤ wr.heap.size) ∧ Below w.heap.size w wr ∧ Bx wr w.heap.size [.int .i64 z0, .slice A5 n5 c5', .int .i64 z1, .slice A6 n6 c6', .int .i64 z2, .int .i64 z3, .int .i64 z4, .string z5, .slice A7 n7 c7', .slice A8 n8 c8', .slice A9 n9 c9']) (fun _ iv _ => n - (intOf iv).toNat)
  case atStart => exact ⟨0, Nat.zero_le _, rfl, ⟨rfl, C3.out, Nat.le_refl _⟩, hbw3, x1⟩
  case round =>
    clear x1 C3
    obtain ⟨k, hk, rfl, hrl, hbr, x1⟩ := hrel
    obtain ⟨hev, hC, hszr⟩ := hrl.out
    subst hev
    have HC := Lib.hid hC
    clear hC hrl
    have hbd := sumI_bd (l := ms.take k) fun x hx => HM.out.2.2.2 x (List.mem_of_mem_take hx)
    have hbl : ((ms.take k).length : Int) ≤ 100 := by rw [List.length_take]; omega
    obtain ⟨S, hS⟩ : ∃ S, sumI (ms.take k) = S := ⟨_, rfl⟩
    rw [hS] at HC hbd ⊢
    by_cases hlt : k < n
    · obtain ⟨bx, ox, x, rfl, hbx, hxk, hcx⟩ := (HM.out.1.grow hbr).atU hlt
      have hx := HM.out.2.2.2 x (List.mem_of_getElem? hxk)
      have hS1 : Hid (sumI (ms.take (k + 1)) = S + x) := by
        unfold Hid
        rw [List.take_add_one, hxk, sumI_app, hS]
        simp [sumI]
      have hwx : IntKind.i64.wrap x = x := IntWalk.i64_in _ (by omega)
      have hws : IntKind.i64.wrap (S + x) = S + x := IntWalk.i64_in _ (by omega)
      have hsx : 0 ≤ x := hx.1
      clear hxk hS
      go_wp2_with fail
      refine (advance_any HC.out (PathIs.nil _ _) (hok.out wr hszr)).mono ?_
      rintro e4 w4 ⟨he, hC4, hch⟩
      rw [adv_chM (by omega)] at he hC4
      subst he
      have hb4 : Below w.heap.size w w4 := hbr.trans (hch.below hwb.1 hwb.2 hbr.size)
      have x4 := x1.keep hch.2 hxb
      have hs4 := hch.size
      have R4 : Hid (∀ P : Ending → World → Prop, P (.returned (.int .i64 (K : Int))) w4 → Calls Try.prog 20 #[.pointer (some ⟨b, 0, none⟩)] w4 P) := fun P hP => (room_any hC4).mono fun e' w' h => by
        obtain ⟨rfl, rfl⟩ := h
        have e1 : (((chM K (S + x)).cap : Int) - ((chM K (S + x)).items.length : Int)) = (K : Int) := by show (K : Int) - ((0 : Nat) : Int) = K; omega
        rw [e1]
        exact hP
      have L4 : Hid (∀ P : Ending → World → Prop, P (.returned (.int .i64 0)) w4 → Calls Try.prog 21 #[.pointer (some ⟨b, 0, none⟩)] w4 P) := fun P hP => (len_any hC4).mono fun e' w' h => by
        obtain ⟨rfl, rfl⟩ := h
        exact hP
      replace hC4 := Lib.hid hC4
      replace x4 := Lib.hid x4
      replace hch := Lib.hid hch
      go_wp2_with fail
      refine R4.out _ ?_
      go_wp2_with fail
      refine L4.out _ ?_
      go_wp2_with fail
      go_roundw
      case rel => exact ⟨k + 1, by omega, by go_num, ⟨by rw [hS1.out], by rw [hS1.out]; exact hC4.out, by omega⟩, hb4, x4.out⟩
      case measure => simp [intOf]; omega
    · have hke : k = n := by omega
      have hS1 := Lib.hid hS
      obtain ⟨c0, c1, c2, c3, c4, c5, c6, c7, c8, c9, c10⟩ := x1.c11
      clear hS
      go_wp2_with fail
      obtain ⟨kk, hkk⟩ : ∃ kk, chkI (zeroC [.int .i64 z0, .slice A5 n5 c5', .int .i64 z1, .slice A6 n6 c6', .int .i64 z2, .int .i64 z3, .int .i64 z4, .string z5, .slice A7 n7 c7', .slice A8 n8 c8', .slice A9 n9 c9']) it = kk := ⟨_, rfl⟩
      have LK := lcheck_any (HI.out.grow hbr)
      have PT := fun (wx : World) (h1 : Below wr.heap.size wr wx) => put_any (HC.out.grow h1) (HI.out.grow (G.trans hbr h1)) (hok.out wx (Nat.le_trans hszr h1.size))
      rw [hkk] at LK PT
      replace PT := Lib.hid PT
      refine LK.mono ?_
      rintro e4 w4 ⟨rfl, hb4⟩
      have hbw4 := G.trans hbr hb4
      replace x1 := x1.grow hb4
      have hpt := put_chM kk (k := K) (by omega) S it
      replace hkk := Lib.hid hkk
      clear LK c0 c1 c2 c3 c4 c5 c6 c7 c8 c9 c10
      obtain ⟨c0, c1, c2, c3, c4, c5, c6, c7, c8, c9, c10⟩ := x1.c11
      by_cases hk0 : kk = 0
      · subst hk0
        rw [if_pos rfl] at hpt
        go_wp2_with fail
        refine (ofc_any HI.out hbw4).mono ?_
        rintro e5 w5 ⟨A', n', c', rfl, hp5, hb5⟩
        have hbw5 := G.trans hb4 hb5
        have hbv5 := G.trans hbw4 hb5
        replace x1 := x1.grow hb5
        clear c0 c1 c2 c3 c4 c5 c6 c7 c8 c9 c10
        obtain ⟨c0, c1, c2, c3, c4, c5, c6, c7, c8, c9, c10⟩ := x1.c11
        clear hp5
        go_wp2_with fail
        refine id (?_ : (_ : Act → World → Prop) (Act.put _ _ (Value.int .i64 it.e)) w5)
        by_cases hl : it.e < S
        · rw [if_pos hl] at hpt
          go_wp2_with fail
          refine (PT.out _ hbw5).mono ?_
          rintro e6 w6 ⟨he, _, hc6⟩
          rw [hpt] at he
          subst he
          have hb6 : Below w.heap.size w w6 := hbv5.trans (hc6.below hwb.1 hwb.2 hbv5.size)
          clear hc6
          go_wp2_with fail
          go_ret
          exact ⟨rfl, hb6⟩
        · rw [if_neg hl] at hpt
          go_wp2_with fail
          refine (PT.out _ hbw5).mono ?_
          rintro e6 w6 ⟨he, _, hc6⟩
          rw [hpt] at he
          subst he
          have hb6 : Below w.heap.size w w6 := hbv5.trans (hc6.below hwb.1 hwb.2 hbv5.size)
          clear hc6
          go_wp2_with fail
          go_ret
          exact ⟨rfl, hb6⟩
      · rw [if_neg hk0] at hpt
        have hkb : (kk == 0) = false := by simp [hk0]
        clear hk0
        go_wp2_with fail
        refine (PT.out _ hb4).mono ?_
        rintro e6 w6 ⟨he, _, hc6⟩
        rw [hpt] at he
        subst he
        have hb6 : Below w.heap.size w w6 := hbw4.trans (hc6.below hwb.1 hwb.2 hbw4.size)
        clear hc6
        go_wp2_with fail
        go_ret
        exact ⟨rfl, hb6⟩
end Go.Proofs.Ytjldpodehffbnaa
