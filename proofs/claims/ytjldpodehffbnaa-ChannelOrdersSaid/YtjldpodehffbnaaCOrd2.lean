/- ChannelOrders returns true: the walk. Printed by mkcord.py. -/
import Derived.Test.YtjldpodehffbnaaCOrd1
namespace Go.Proofs.Ytjldpodehffbnaa
set_option linter.unusedVariables false
set_option linter.unnecessarySimpa false
set_option linter.unusedSimpArgs false
open Go.RowKit

theorem putC_ne {k : Int} {c : Ch} {it : It} (h : (putC k c it).1 ≠ 0) : (putC k c it).2 = c := by
  unfold putC at h ⊢
  split
  · rfl
  · rename_i h1
    rw [if_neg h1] at h
    split
    · rfl
    · rename_i h2
      rw [if_neg h2] at h
      split
      · rfl
      · rename_i h3
        rw [if_neg h3] at h
        exact absurd rfl h
section
variable {P : Program}
theorem wpList_name {ops : Array Oper} {rest : List Oper} {a : Act} {w : World} {Q : Exit → Act → World → Prop} (D : World → Prop) (h1 : D w) (h2 : ∀ wx, D wx → wpList P ops Q rest a wx) : wpList P ops Q rest a w := h2 w h1
end
set_option maxRecDepth 20000 in set_option maxHeartbeats 4000000 in
theorem channelOrders_any {w : World} (cp : Int) (hcp : (Lit.int .u8 cp).wf = true) {A : Option Addr} {n c : Nat} {ops : List (Int × It)} (h : (∃ xs, OpsV (fun _ => True) w A n c xs ops) ∧ ∀ o ∈ ops, 0 ≤ o.1 ∧ o.1 ≤ 255) :
    Calls Try.prog 5 #[.int .u8 cp, .slice A n c] w fun e w' => e = .returned (.bool true) ∧ Below w.heap.size w w' := by
  obtain ⟨⟨xs, hops⟩, hkd⟩ := h
  obtain ⟨i0, hi0, hz0, hz1, hz2⟩ := info_parts Try.infoSt
  have H := Lib.hid hops
  have hkd := Lib.hid hkd
  have hlen := Lib.hid hops.2.1
  have hcap : 0 ≤ cp ∧ cp ≤ 255 := by
    have e1 : IntKind.u8.min = 0 := rfl
    have e2 : IntKind.u8.max = 255 := rfl
    simp [Lit.wf, e1, e2] at hcp
    exact hcp
  obtain ⟨K, hK⟩ : ∃ K : Nat, cp + 1 = (K : Int) := ⟨(cp + 1).toNat, by omega⟩
  clear hops hcp
  go_enter Try.func5, Try.ntmps5
  go_wp2_with fail
  refine (known_any _).mono ?_
  rintro e1 w1 ⟨rfl, hb1⟩
  go_wp2_with fail
  refine (small_any (H.out.grow hb1)).mono ?_
  rintro e2 w2 ⟨rfl, hb2⟩
  have hbw2 := G.trans hb1 hb2
  rcases hsm : smallL ops with _ | _
  · replace hsm := Lib.hid hsm
    go_wp2_with fail
    refine (known_any _).mono ?_
    rintro e3 w3 ⟨rfl, hb3⟩
    go_wp2_with fail
    go_ret
    exact ⟨rfl, G.trans hbw2 hb3⟩
  have hn40 : n ≤ 40 := by
    unfold smallL at hsm
    simp only [Bool.and_eq_true, decide_eq_true_eq] at hsm
    rw [hlen.out] at hsm
    exact hsm.1
  clear hsm
  have hw1 : IntKind.i64.wrap cp = cp := IntWalk.i64_in _ (by omega)
  have hw2 : IntKind.i64.wrap (1 + cp) = (K : Int) := by rw [IntWalk.i64_in _ (by omega)]; omega
  go_wp2_with fail
  refine (new_any K _ (by omega) (by omega)).mono ?_
  rintro e3 w3 ⟨b, r, rfl, hbb, hrr, C, hb3⟩
  have hbw3 := G.trans hbw2 hb3
  have C3 : ChanAt (OkO b r (.slice none 0 0) (.slice none 0 0)) w3 b r (ch0 K) := C _ (fun h => h.1 rfl) (fun h => h.2.1 rfl)
  have lt3 := C3.lt
  have hs2 := hbw2.size
  have hwb : Hid (w.heap.size ≤ b ∧ w.heap.size ≤ r) := by unfold Hid; omega
  have hwbase : Hid (w.heap.size ≤ w3.heap.size) := hbw3.size
  have O3 : OrdW w3.heap.size b r w3 (ch0 K) none 0 0 none 0 0 [] [] := ⟨C3, SL.nil _ _ _, SL.nil _ _ _, lt3.1, lt3.2, Nat.le_refl _, fun x e => by cases e⟩
  replace O3 := Lib.hid O3
  replace hbw3 := Lib.hid hbw3
  clear C C3 lt3 hbb hrr hb1 hb2 hb3 hbw2 hs2
  go_wp2_with fail
  go_loopw [7, 8, 9] (fun mv tv iv wr => ∃ (k : Nat) (ch : Ch) (A1 : Option Addr) (n1 q1 : Nat) (A2 : Option Addr) (n2 q2 : Nat) (mks tks : List Ent), k ≤ n ∧ iv = .int .i64 k ∧ mv = .slice A1 n1 q1 ∧ tv = .slice A2 n2 q2 ∧ Hid (OrdW w3.heap.size b r wr ch A1 n1 q1 A2 n2 q2 mks tks) ∧ Hid (OInv K ch mks tks ∧ n1 ≤ k) ∧ Below w.heap.size w wr) (fun _ _ iv _ => n - (intOf iv).toNat)
  case atStart => exact ⟨0, ch0 K, none, 0, 0, none, 0, 0, [], [], Nat.zero_le _, rfl, rfl, rfl, O3.out, ⟨OInv.start K, Nat.le_refl _⟩, hbw3.out⟩
  case round =>
    clear O3 hbw3
    obtain ⟨k, ch, A1, n1, q1, A2, n2, q2, mks, tks, hk, rfl, rfl, rfl, hO, hI, hbr⟩ := hrel
    by_cases hlt : k < n
    · have hko : k < ops.length := by rw [hlen.out]; exact hlt
      obtain ⟨⟨kd, it⟩, hop⟩ : ∃ o, ops[k]? = some o := ⟨_, List.getElem?_eq_getElem hko⟩
      have hkk := hkd.out _ (List.mem_of_getElem? hop)
      dsimp only at hkk
      obtain ⟨cs, hch, hiv⟩ := (H.out.grow hbr).2.2 k kd it hop
      obtain ⟨cs0, hch0, hiv0⟩ := H.out.2.2 k kd it hop
      rw [hch] at hch0
      cases hch0
      obtain ⟨bx, ox, rfl, hbl, _, _, hcell⟩ := (H.out.grow hbr).1.at_ (by decide) hlt
      rw [hch] at hcell
      obtain ⟨z0, A5, n5, c5', z1, A6, n6, c6', z2, z3, z4, z5, B7, n7, c7', B8, n8, c8', B9, n9, c9', rfl⟩ := item_cells hiv
      have e0 : wr.cell? ⟨bx, ox + k * 12, none⟩ = _ := hcell 0 _ rfl
      have e1 := hcell 1 _ rfl
      have e2 := hcell 2 _ rfl
      have e3 := hcell 3 _ rfl
      have e4 := hcell 4 _ rfl
      have e5 := hcell 5 _ rfl
      have e6 := hcell 6 _ rfl
      have e7 := hcell 7 _ rfl
      have e8 := hcell 8 _ rfl
      have e9 := hcell 9 _ rfl
      have e10 := hcell 10 _ rfl
      have e11 := hcell 11 _ rfl
      have hItem : Hid (∀ wx, Below w.heap.size w wx → ItemV (OkO b r (.slice A1 n1 q1) (.slice A2 n2 q2)) wx [.int .i64 z0, .slice A5 n5 c5', .int .i64 z1, .slice A6 n6 c6', .int .i64 z2, .int .i64 z3, .int .i64 z4, .string z5, .slice B7 n7 c7', .slice B8 n8 c8', .slice B9 n9 c9'] it) := fun wx hbx => (hiv0.mono fun x hx _ => ⟨by have := hwb.out; omega, by have := hwb.out; omega, fun e => by have := (hO.out.2.1.lt e).1; have := hwbase.out; omega, fun e => by have := (hO.out.2.2.1.lt e).1; have := hwbase.out; omega⟩).grow hbx
      have hq4 : Int.tmod kd 4 = 0 ∨ Int.tmod kd 4 = 1 ∨ Int.tmod kd 4 = 2 ∨ Int.tmod kd 4 = 3 := by
        rw [Int.tmod_eq_emod_of_nonneg hkk.1]; omega
      clear hcell hch hop hiv hiv0
      rcases hq4 with hq | hq | hq | hq
      · have hmd : Int.tmod kd 4 = 0 := hq
        go_wp2_with fail
        refine (mark_any hO.out.1).mono ?_
        rintro e4 w4 ⟨A', c', rfl, hp4, hb4⟩
        replace e1 := G.cell e1 hb4
        replace e2 := G.cell e2 hb4
        replace e3 := G.cell e3 hb4
        replace e4 := G.cell e4 hb4
        replace e5 := G.cell e5 hb4
        replace e6 := G.cell e6 hb4
        replace e7 := G.cell e7 hb4
        replace e8 := G.cell e8 hb4
        replace e9 := G.cell e9 hb4
        replace e10 := G.cell e10 hb4
        replace e11 := G.cell e11 hb4
        have ltx := cell_lt e1
        dsimp only at ltx
        have hp4' := Lib.hid (hp4.mono fun q _ hq => hO.out.fresh q hq)
        have hO4 := Lib.hid (hO.out.grow hb4)
        clear hp4
        go_wp2_with fail
        refine calls_name (fun wx => Below w4.heap.size w4 wx ∧ Bx wx w4.heap.size [.int .i64 ch.me, .slice A' ch.mp.length c']) ⟨by repeat (first | with_reducible assumption | with_reducible exact G.refl _ | with_reducible refine G.drew ?_ | with_reducible refine G.drewN ?_ _ | with_reducible refine G.alloc ?_ _ | with_reducible refine Below.setCell ?_ (by first | (simp; done) | (simp; omega)) _ | with_reducible refine G.trans ?_ hb12 | with_reducible refine G.trans ?_ hb11 | with_reducible refine G.trans ?_ hb10 | with_reducible refine G.trans ?_ hb9 | with_reducible refine G.trans ?_ hb8 | with_reducible refine G.trans ?_ hb7 | with_reducible refine G.trans ?_ hb6 | with_reducible refine G.trans ?_ hb5 | with_reducible refine G.trans ?_ hb4 | with_reducible refine G.trans ?_ hb3 | with_reducible refine G.trans ?_ hb2 | with_reducible refine G.trans ?_ hb1 | with_reducible refine G.trans ?_ hb | assumption), by repeat (first | with_reducible assumption | (with_reducible exact Bx.new (by simp; done) (by rfl)) | (with_reducible refine Bx.alloc ?_ _) | (with_reducible refine Bx.drewN ?_ _) | ((with_reducible apply Bx.put); rotate_right; (first | rfl | skip)) | (with_reducible refine Bx.other ?_ (by first | (simp; done) | (simp; omega)) _))⟩ ?_
        rintro w5 ⟨hb5, x5⟩
        clear e1 e2 e3 e4 e5 e6 e7 e8 e9 e10 e11 ltx
        have hO5 := Lib.hid (hO4.out.grow hb5)
        have hp5 := Lib.hid (hp4'.out.grow hb5)
        have hb45 : Below wr.heap.size wr w5 := G.trans hb4 hb5
        have hbw5 : Below w.heap.size w w5 := G.trans hbr hb45
        refine (put_any hO5.out.1 (hItem.out w5 hbw5) hO5.out.fresh).mono ?_
        rintro e6 w6 ⟨he, hC6, hch6⟩
        obtain ⟨v, hv⟩ : ∃ v, (putC (chkI (zeroC [.int .i64 z0, .slice A5 n5 c5', .int .i64 z1, .slice A6 n6 c6', .int .i64 z2, .int .i64 z3, .int .i64 z4, .string z5, .slice B7 n7 c7', .slice B8 n8 c8', .slice B9 n9 c9']) it) ch it).1 = v := ⟨_, rfl⟩
        rw [hv] at he
        subst he
        have hO6 := Lib.hid (hO5.out.chan hch6 hC6)
        have hlt4 : w4.heap.size ≠ b ∧ w4.heap.size ≠ r := by have := hO4.out.1.lt; omega
        have x6 := x5.keep hch6.2 hlt4
        have hp6 := Lib.hid (hp5.out.keep (hch6.keeps (fun h => h.1 rfl) (fun h => h.2.1 rfl)))
        have hbw6 : Below w.heap.size w w6 := hbw5.trans (hch6.below hwb.out.1 hwb.out.2 hbw5.size)
        have hI6 : Hid (v = 0 → OInv K (putC (chkI (zeroC [.int .i64 z0, .slice A5 n5 c5', .int .i64 z1, .slice A6 n6 c6', .int .i64 z2, .int .i64 z3, .int .i64 z4, .string z5, .slice B7 n7 c7', .slice B8 n8 c8', .slice B9 n9 c9']) it) ch it).2 (mks ++ [(ch.me, ch.mp)]) tks) := fun h => hI.out.1.put (by rw [hv]; exact h)
        have hC0 : Hid (v ≠ 0 → (putC (chkI (zeroC [.int .i64 z0, .slice A5 n5 c5', .int .i64 z1, .slice A6 n6 c6', .int .i64 z2, .int .i64 z3, .int .i64 z4, .string z5, .slice B7 n7 c7', .slice B8 n8 c8', .slice B9 n9 c9']) it) ch it).2 = ch) := fun h => putC_ne (by rw [hv]; exact h)
        obtain ⟨ch6, hch⟩ : ∃ ch6, (putC (chkI (zeroC [.int .i64 z0, .slice A5 n5 c5', .int .i64 z1, .slice A6 n6 c6', .int .i64 z2, .int .i64 z3, .int .i64 z4, .string z5, .slice B7 n7 c7', .slice B8 n8 c8', .slice B9 n9 c9']) it) ch it).2 = ch6 := ⟨_, rfl⟩
        rw [hch] at hO6 hI6 hC0
        obtain ⟨y0', y1'⟩ := And.intro (x6.2 0 _ rfl).1 (x6.2 1 _ rfl).1
        clear hv hch hC6 hch6 hO5 hp5 hO4 hp4' x5 hb5 hb4 hb45
        by_cases hv0 : v = 0
        · subst hv0
          have hI7 := hI6.out rfl
          replace hI7 := Lib.hid hI7
          have hO6a := hO6.out.grow (G.alloc (G.refl _) (.cells #[.int .i64 ch.me, .slice A' ch.mp.length c'] 24))
          obtain ⟨zs1, o1, l1, d1⟩ := id hO6a.2.1
          have hbs := hO6a.2.2.2.2.2.1
          have hz1' := o1.1
          replace hO6a := Lib.hid hO6a
          replace d1 := Lib.hid d1
          have hn1 : n1 ≤ 40 := by have := hI.out.2; omega
          clear hI6 hC0
          go_wp2_with (at_builtin; refine wpList_appB rfl (.tmp 56) (.tmp 58) _ rfl w3.heap.size 24 i0 _ 2 32 Try.underlying52 hi0 hz0 hz1 hz2 rfl (by decide) (.slice A1 n1 q1) n1 zs1 rfl o1 (some ⟨w6.heap.size, 0, none⟩) 1 1 [.int .i64 ch.me, .slice A' ch.mp.length c'] rfl (Sl.new rfl rfl) (by simp [Value.oneCell']) (by show _ ≤ 2 ^ 63 - 1; omega) (by omega) hbs ?_; intro A7 q7 w7 hown7 hc7 hm7 hg7 hob7; refine wpList_name (fun wx => OrdW w3.heap.size b r wx ch6 A7 (n1 + 1) q7 A2 n2 q2 (mks ++ [(ch.me, ch.mp)]) tks ∧ Below w.heap.size w wx) ⟨hO6a.out.app1 hg7 hob7 hz1' l1 d1.out hown7 (hp6.out.grow (G.alloc (G.refl _) _)), (hbw6.alloc hbw6.size _).grown hg7 (by have := hbw6.size; simp; omega) (fun q hq => Nat.le_trans hwbase.out (o1.lt q hq).1)⟩ ?_; clear hown7 hc7 hm7 hg7 hob7; rintro w8 ⟨hO8, hbw8⟩; replace hO8 := Lib.hid hO8)
          clear hO6a o1 d1 x6 y0' y1' hO6 hp6 hbw6
          have hnk : n1 ≤ k := hI.out.2
          have hlens := (hI7.out).lens
          have hcapk : (ch6).items.length ≤ K := by
            obtain ⟨_, _, _, _, _, _, _, _, hci⟩ := (hO8.out).1
            have := hci.2.2.2.2.2.2.1
            rw [(hI7.out).cap] at this
            exact this
          have hm1 := (let ⟨_, _, h, _⟩ := (hO8.out).2.1; h : ((mks ++ [(ch.me, ch.mp)])).length = (n1 + 1))
          have ht1 := (let ⟨_, _, h, _⟩ := (hO8.out).2.2.1; h : (tks).length = n2)
          have hwl : IntKind.i64.wrap (((ch6).items.length : Int) + (n2 : Nat)) = (((n1 + 1) : Nat) : Int) := by rw [IntWalk.i64_in _ (by omega)]; omega
          have hnl : ¬ (K < (ch6).items.length) := by omega
          have LN : Hid (∀ P : Ending → World → Prop, P (.returned (.int .i64 ((ch6).items.length : Int))) w8 → Calls Try.prog 21 #[.pointer (some ⟨b, 0, none⟩)] w8 P) := fun P hP => (len_any (hO8.out).1).mono fun e' w' h => by
            obtain ⟨rfl, rfl⟩ := h
            exact hP
          have FIN := Lib.hid (And.intro (hO8.out) (And.intro (hI7.out) (hbw8)))
          go_wp2_with fail
          refine LN.out _ ?_
          go_wp2_with fail
          refine LN.out _ ?_
          go_wp2_with fail
          go_roundw
          case rel => exact ⟨k + 1, ch6, A7, (n1 + 1), q7, A2, n2, q2, (mks ++ [(ch.me, ch.mp)]), tks, by omega, by go_num, rfl, rfl, FIN.out.1, ⟨FIN.out.2.1, by omega⟩, FIN.out.2.2⟩
          case measure => simp [intOf]; omega

        · have hch0 := hC0.out hv0
          subst hch0
          have hvb : (v == 0) = false := by simp [hv0]
          clear hv0 hI6 x6 y0' y1' hp6
          have hnk : n1 ≤ k := hI.out.2
          have hlens := (hI.out.1).lens
          have hcapk : (ch6).items.length ≤ K := by
            obtain ⟨_, _, _, _, _, _, _, _, hci⟩ := (hO6.out).1
            have := hci.2.2.2.2.2.2.1
            rw [(hI.out.1).cap] at this
            exact this
          have hm1 := (let ⟨_, _, h, _⟩ := (hO6.out).2.1; h : (mks).length = n1)
          have ht1 := (let ⟨_, _, h, _⟩ := (hO6.out).2.2.1; h : (tks).length = n2)
          have hwl : IntKind.i64.wrap (((ch6).items.length : Int) + (n2 : Nat)) = ((n1 : Nat) : Int) := by rw [IntWalk.i64_in _ (by omega)]; omega
          have hnl : ¬ (K < (ch6).items.length) := by omega
          have LN : Hid (∀ P : Ending → World → Prop, P (.returned (.int .i64 ((ch6).items.length : Int))) w6 → Calls Try.prog 21 #[.pointer (some ⟨b, 0, none⟩)] w6 P) := fun P hP => (len_any (hO6.out).1).mono fun e' w' h => by
            obtain ⟨rfl, rfl⟩ := h
            exact hP
          have FIN := Lib.hid (And.intro (hO6.out) (And.intro (hI.out.1) (hbw6)))
          go_wp2_with fail
          refine LN.out _ ?_
          go_wp2_with fail
          refine LN.out _ ?_
          go_wp2_with fail
          go_roundw
          case rel => exact ⟨k + 1, ch6, A1, n1, q1, A2, n2, q2, mks, tks, by omega, by go_num, rfl, rfl, FIN.out.1, ⟨FIN.out.2.1, by omega⟩, FIN.out.2.2⟩
          case measure => simp [intOf]; omega
      · have hmd : Int.tmod kd 4 = 1 := hq
        go_wp2_with fail
        refine (mark_any hO.out.1).mono ?_
        rintro e4 w4 ⟨A', c', rfl, hp4, hb4⟩
        replace e1 := G.cell e1 hb4
        replace e2 := G.cell e2 hb4
        replace e3 := G.cell e3 hb4
        replace e4 := G.cell e4 hb4
        replace e5 := G.cell e5 hb4
        replace e6 := G.cell e6 hb4
        replace e7 := G.cell e7 hb4
        replace e8 := G.cell e8 hb4
        replace e9 := G.cell e9 hb4
        replace e10 := G.cell e10 hb4
        replace e11 := G.cell e11 hb4
        have ltx := cell_lt e1
        dsimp only at ltx
        have hp4' := Lib.hid (hp4.mono fun q _ hq => hO.out.fresh q hq)
        have hO4 := Lib.hid (hO.out.grow hb4)
        clear hp4
        go_wp2_with fail
        refine calls_name (fun wx => Below w4.heap.size w4 wx ∧ Bx wx w4.heap.size [.int .i64 ch.me, .slice A' ch.mp.length c']) ⟨by repeat (first | with_reducible assumption | with_reducible exact G.refl _ | with_reducible refine G.drew ?_ | with_reducible refine G.drewN ?_ _ | with_reducible refine G.alloc ?_ _ | with_reducible refine Below.setCell ?_ (by first | (simp; done) | (simp; omega)) _ | with_reducible refine G.trans ?_ hb12 | with_reducible refine G.trans ?_ hb11 | with_reducible refine G.trans ?_ hb10 | with_reducible refine G.trans ?_ hb9 | with_reducible refine G.trans ?_ hb8 | with_reducible refine G.trans ?_ hb7 | with_reducible refine G.trans ?_ hb6 | with_reducible refine G.trans ?_ hb5 | with_reducible refine G.trans ?_ hb4 | with_reducible refine G.trans ?_ hb3 | with_reducible refine G.trans ?_ hb2 | with_reducible refine G.trans ?_ hb1 | with_reducible refine G.trans ?_ hb | assumption), by repeat (first | with_reducible assumption | (with_reducible exact Bx.new (by simp; done) (by rfl)) | (with_reducible refine Bx.alloc ?_ _) | (with_reducible refine Bx.drewN ?_ _) | ((with_reducible apply Bx.put); rotate_right; (first | rfl | skip)) | (with_reducible refine Bx.other ?_ (by first | (simp; done) | (simp; omega)) _))⟩ ?_
        rintro w5 ⟨hb5, x5⟩
        clear e1 e2 e3 e4 e5 e6 e7 e8 e9 e10 e11 ltx
        have hO5 := Lib.hid (hO4.out.grow hb5)
        have hp5 := Lib.hid (hp4'.out.grow hb5)
        have hb45 : Below wr.heap.size wr w5 := G.trans hb4 hb5
        have hbw5 : Below w.heap.size w w5 := G.trans hbr hb45
        refine (put_any hO5.out.1 (hItem.out w5 hbw5) hO5.out.fresh).mono ?_
        rintro e6 w6 ⟨he, hC6, hch6⟩
        obtain ⟨v, hv⟩ : ∃ v, (putC (chkI (zeroC [.int .i64 z0, .slice A5 n5 c5', .int .i64 z1, .slice A6 n6 c6', .int .i64 z2, .int .i64 z3, .int .i64 z4, .string z5, .slice B7 n7 c7', .slice B8 n8 c8', .slice B9 n9 c9']) it) ch it).1 = v := ⟨_, rfl⟩
        rw [hv] at he
        subst he
        have hO6 := Lib.hid (hO5.out.chan hch6 hC6)
        have hlt4 : w4.heap.size ≠ b ∧ w4.heap.size ≠ r := by have := hO4.out.1.lt; omega
        have x6 := x5.keep hch6.2 hlt4
        have hp6 := Lib.hid (hp5.out.keep (hch6.keeps (fun h => h.1 rfl) (fun h => h.2.1 rfl)))
        have hbw6 : Below w.heap.size w w6 := hbw5.trans (hch6.below hwb.out.1 hwb.out.2 hbw5.size)
        have hI6 : Hid (v = 0 → OInv K (putC (chkI (zeroC [.int .i64 z0, .slice A5 n5 c5', .int .i64 z1, .slice A6 n6 c6', .int .i64 z2, .int .i64 z3, .int .i64 z4, .string z5, .slice B7 n7 c7', .slice B8 n8 c8', .slice B9 n9 c9']) it) ch it).2 (mks ++ [(ch.me, ch.mp)]) tks) := fun h => hI.out.1.put (by rw [hv]; exact h)
        have hC0 : Hid (v ≠ 0 → (putC (chkI (zeroC [.int .i64 z0, .slice A5 n5 c5', .int .i64 z1, .slice A6 n6 c6', .int .i64 z2, .int .i64 z3, .int .i64 z4, .string z5, .slice B7 n7 c7', .slice B8 n8 c8', .slice B9 n9 c9']) it) ch it).2 = ch) := fun h => putC_ne (by rw [hv]; exact h)
        obtain ⟨ch6, hch⟩ : ∃ ch6, (putC (chkI (zeroC [.int .i64 z0, .slice A5 n5 c5', .int .i64 z1, .slice A6 n6 c6', .int .i64 z2, .int .i64 z3, .int .i64 z4, .string z5, .slice B7 n7 c7', .slice B8 n8 c8', .slice B9 n9 c9']) it) ch it).2 = ch6 := ⟨_, rfl⟩
        rw [hch] at hO6 hI6 hC0
        obtain ⟨y0', y1'⟩ := And.intro (x6.2 0 _ rfl).1 (x6.2 1 _ rfl).1
        clear hv hch hC6 hch6 hO5 hp5 hO4 hp4' x5 hb5 hb4 hb45
        by_cases hv0 : v = 0
        · subst hv0
          have hI7 := hI6.out rfl
          replace hI7 := Lib.hid hI7
          have hO6a := hO6.out.grow (G.alloc (G.refl _) (.cells #[.int .i64 ch.me, .slice A' ch.mp.length c'] 24))
          obtain ⟨zs1, o1, l1, d1⟩ := id hO6a.2.1
          have hbs := hO6a.2.2.2.2.2.1
          have hz1' := o1.1
          replace hO6a := Lib.hid hO6a
          replace d1 := Lib.hid d1
          have hn1 : n1 ≤ 40 := by have := hI.out.2; omega
          clear hI6 hC0
          go_wp2_with (at_builtin; refine wpList_appB rfl (.tmp 56) (.tmp 58) _ rfl w3.heap.size 24 i0 _ 2 32 Try.underlying52 hi0 hz0 hz1 hz2 rfl (by decide) (.slice A1 n1 q1) n1 zs1 rfl o1 (some ⟨w6.heap.size, 0, none⟩) 1 1 [.int .i64 ch.me, .slice A' ch.mp.length c'] rfl (Sl.new rfl rfl) (by simp [Value.oneCell']) (by show _ ≤ 2 ^ 63 - 1; omega) (by omega) hbs ?_; intro A7 q7 w7 hown7 hc7 hm7 hg7 hob7; refine wpList_name (fun wx => OrdW w3.heap.size b r wx ch6 A7 (n1 + 1) q7 A2 n2 q2 (mks ++ [(ch.me, ch.mp)]) tks ∧ Below w.heap.size w wx) ⟨hO6a.out.app1 hg7 hob7 hz1' l1 d1.out hown7 (hp6.out.grow (G.alloc (G.refl _) _)), (hbw6.alloc hbw6.size _).grown hg7 (by have := hbw6.size; simp; omega) (fun q hq => Nat.le_trans hwbase.out (o1.lt q hq).1)⟩ ?_; clear hown7 hc7 hm7 hg7 hob7; rintro w8 ⟨hO8, hbw8⟩; replace hO8 := Lib.hid hO8)
          clear hO6a o1 d1 x6 y0' y1' hO6 hp6 hbw6
          have hnk : n1 ≤ k := hI.out.2
          have hlens := (hI7.out).lens
          have hcapk : (ch6).items.length ≤ K := by
            obtain ⟨_, _, _, _, _, _, _, _, hci⟩ := (hO8.out).1
            have := hci.2.2.2.2.2.2.1
            rw [(hI7.out).cap] at this
            exact this
          have hm1 := (let ⟨_, _, h, _⟩ := (hO8.out).2.1; h : ((mks ++ [(ch.me, ch.mp)])).length = (n1 + 1))
          have ht1 := (let ⟨_, _, h, _⟩ := (hO8.out).2.2.1; h : (tks).length = n2)
          have hwl : IntKind.i64.wrap (((ch6).items.length : Int) + (n2 : Nat)) = (((n1 + 1) : Nat) : Int) := by rw [IntWalk.i64_in _ (by omega)]; omega
          have hnl : ¬ (K < (ch6).items.length) := by omega
          have LN : Hid (∀ P : Ending → World → Prop, P (.returned (.int .i64 ((ch6).items.length : Int))) w8 → Calls Try.prog 21 #[.pointer (some ⟨b, 0, none⟩)] w8 P) := fun P hP => (len_any (hO8.out).1).mono fun e' w' h => by
            obtain ⟨rfl, rfl⟩ := h
            exact hP
          have FIN := Lib.hid (And.intro (hO8.out) (And.intro (hI7.out) (hbw8)))
          go_wp2_with fail
          refine LN.out _ ?_
          go_wp2_with fail
          refine LN.out _ ?_
          go_wp2_with fail
          go_roundw
          case rel => exact ⟨k + 1, ch6, A7, (n1 + 1), q7, A2, n2, q2, (mks ++ [(ch.me, ch.mp)]), tks, by omega, by go_num, rfl, rfl, FIN.out.1, ⟨FIN.out.2.1, by omega⟩, FIN.out.2.2⟩
          case measure => simp [intOf]; omega

        · have hch0 := hC0.out hv0
          subst hch0
          have hvb : (v == 0) = false := by simp [hv0]
          clear hv0 hI6 x6 y0' y1' hp6
          have hnk : n1 ≤ k := hI.out.2
          have hlens := (hI.out.1).lens
          have hcapk : (ch6).items.length ≤ K := by
            obtain ⟨_, _, _, _, _, _, _, _, hci⟩ := (hO6.out).1
            have := hci.2.2.2.2.2.2.1
            rw [(hI.out.1).cap] at this
            exact this
          have hm1 := (let ⟨_, _, h, _⟩ := (hO6.out).2.1; h : (mks).length = n1)
          have ht1 := (let ⟨_, _, h, _⟩ := (hO6.out).2.2.1; h : (tks).length = n2)
          have hwl : IntKind.i64.wrap (((ch6).items.length : Int) + (n2 : Nat)) = ((n1 : Nat) : Int) := by rw [IntWalk.i64_in _ (by omega)]; omega
          have hnl : ¬ (K < (ch6).items.length) := by omega
          have LN : Hid (∀ P : Ending → World → Prop, P (.returned (.int .i64 ((ch6).items.length : Int))) w6 → Calls Try.prog 21 #[.pointer (some ⟨b, 0, none⟩)] w6 P) := fun P hP => (len_any (hO6.out).1).mono fun e' w' h => by
            obtain ⟨rfl, rfl⟩ := h
            exact hP
          have FIN := Lib.hid (And.intro (hO6.out) (And.intro (hI.out.1) (hbw6)))
          go_wp2_with fail
          refine LN.out _ ?_
          go_wp2_with fail
          refine LN.out _ ?_
          go_wp2_with fail
          go_roundw
          case rel => exact ⟨k + 1, ch6, A1, n1, q1, A2, n2, q2, mks, tks, by omega, by go_num, rfl, rfl, FIN.out.1, ⟨FIN.out.2.1, by omega⟩, FIN.out.2.2⟩
          case measure => simp [intOf]; omega
      · have hmd : Int.tmod kd 4 = 2 := hq
        go_wp2_with fail
        refine (of_any (hItem.out wr hbr)).mono ?_
        rintro e4 w4 ⟨A', n', c', rfl, hp4, hb4⟩
        have hbw4 := G.trans hbr hb4
        have hO4 := Lib.hid (hO.out.grow hb4)
        replace hp4 := Lib.hid hp4
        clear e0 e1 e2 e3 e4 e5 e6 e7 e8 e9 e10 e11
        go_wp2_with fail
        refine (advance_any hO4.out.1 hp4.out hO4.out.fresh).mono ?_
        rintro e5 w5 ⟨rfl, hC5, hch5⟩
        have hO5 := Lib.hid (hO4.out.chan hch5 hC5)
        have hI5 := Lib.hid (hI.out.1.adv it.e it.p)
        have hbw5 : Below w.heap.size w w5 := hbw4.trans (hch5.below hwb.out.1 hwb.out.2 hbw4.size)
        clear hC5 hch5 hO4 hp4 hb4 hbw4
        have hnk : n1 ≤ k := hI.out.2
        have hlens := (hI5.out).lens
        have hcapk : ((advC ch it.e it.p).2).items.length ≤ K := by
          obtain ⟨_, _, _, _, _, _, _, _, hci⟩ := (hO5.out).1
          have := hci.2.2.2.2.2.2.1
          rw [(hI5.out).cap] at this
          exact this
        have hm1 := (let ⟨_, _, h, _⟩ := (hO5.out).2.1; h : (mks).length = n1)
        have ht1 := (let ⟨_, _, h, _⟩ := (hO5.out).2.2.1; h : (tks).length = n2)
        have hwl : IntKind.i64.wrap ((((advC ch it.e it.p).2).items.length : Int) + (n2 : Nat)) = ((n1 : Nat) : Int) := by rw [IntWalk.i64_in _ (by omega)]; omega
        have hnl : ¬ (K < ((advC ch it.e it.p).2).items.length) := by omega
        have LN : Hid (∀ P : Ending → World → Prop, P (.returned (.int .i64 (((advC ch it.e it.p).2).items.length : Int))) w5 → Calls Try.prog 21 #[.pointer (some ⟨b, 0, none⟩)] w5 P) := fun P hP => (len_any (hO5.out).1).mono fun e' w' h => by
          obtain ⟨rfl, rfl⟩ := h
          exact hP
        have FIN := Lib.hid (And.intro (hO5.out) (And.intro (hI5.out) (hbw5)))
        go_wp2_with fail
        refine LN.out _ ?_
        go_wp2_with fail
        refine LN.out _ ?_
        go_wp2_with fail
        go_roundw
        case rel => exact ⟨k + 1, (advC ch it.e it.p).2, A1, n1, q1, A2, n2, q2, mks, tks, by omega, by go_num, rfl, rfl, FIN.out.1, ⟨FIN.out.2.1, by omega⟩, FIN.out.2.2⟩
        case measure => simp [intOf]; omega
      · have hmd : Int.tmod kd 4 = 3 := hq
        clear e1 e2 e3 e4 e5 e6 e7 e8 e9 e10 e11
        go_wp2_with fail
        rcases hcit : ch.items with _ | ⟨it0, l0⟩
        · refine (take0_any hO.out.1 hcit).mono ?_
          rintro e4 w4 ⟨rfl, hb4⟩
          have hbw4 := G.trans hbr hb4
          have hO4 := Lib.hid (hO.out.grow hb4)
          replace hcit := Lib.hid hcit
          clear e0
          go_wp2_with fail
          refine calls_name (fun wx => OrdW w3.heap.size b r wx ch A1 n1 q1 A2 n2 q2 mks tks ∧ Below w.heap.size w wx) ⟨hO4.out.grow (G.alloc (G.refl _) _), hbw4.alloc hbw4.size _⟩ ?_
          rintro w5 ⟨hO5, hbw5⟩
          replace hO5 := Lib.hid hO5
          have hnk : n1 ≤ k := hI.out.2
          have hlens := (hI.out.1).lens
          have hcapk : (ch).items.length ≤ K := by
            obtain ⟨_, _, _, _, _, _, _, _, hci⟩ := (hO5.out).1
            have := hci.2.2.2.2.2.2.1
            rw [(hI.out.1).cap] at this
            exact this
          have hm1 := (let ⟨_, _, h, _⟩ := (hO5.out).2.1; h : (mks).length = n1)
          have ht1 := (let ⟨_, _, h, _⟩ := (hO5.out).2.2.1; h : (tks).length = n2)
          have hwl : IntKind.i64.wrap (((ch).items.length : Int) + (n2 : Nat)) = ((n1 : Nat) : Int) := by rw [IntWalk.i64_in _ (by omega)]; omega
          have hnl : ¬ (K < (ch).items.length) := by omega
          have LN : Hid (∀ P : Ending → World → Prop, P (.returned (.int .i64 ((ch).items.length : Int))) w5 → Calls Try.prog 21 #[.pointer (some ⟨b, 0, none⟩)] w5 P) := fun P hP => (len_any (hO5.out).1).mono fun e' w' h => by
            obtain ⟨rfl, rfl⟩ := h
            exact hP
          have FIN := Lib.hid (And.intro (hO5.out) (And.intro (hI.out.1) (hbw5)))
          skip
          refine LN.out _ ?_
          go_wp2_with fail
          refine LN.out _ ?_
          go_wp2_with fail
          go_roundw
          case rel => exact ⟨k + 1, ch, A1, n1, q1, A2, n2, q2, mks, tks, by omega, by go_num, rfl, rfl, FIN.out.1, ⟨FIN.out.2.1, by omega⟩, FIN.out.2.2⟩
          case measure => simp [intOf]; omega

        · refine (take1_any hO.out.1 hcit).mono ?_
          rintro e4 w4 ⟨cs4, rfl, hiv4, hC4, hch4⟩
          obtain ⟨x0, X5, m5, d5', x1, X6, m6, d6', x2, x3, x4, x5, X7, m7, d7', X8, m8, d8', X9, m9, d9', rfl⟩ := item_cells hiv4
          have hO4 := Lib.hid (hO.out.chan hch4 hC4)
          have hbw4 : Below w.heap.size w w4 := hbr.trans (hch4.below hwb.out.1 hwb.out.2 hbr.size)
          have hI4 := Lib.hid (hI.out.1.take hcit)
          have hl4 : ch.items.length = l0.length + 1 := by rw [hcit]; rfl
          have hn2 : n2 ≤ 40 := by
            have h1 := hI.out.1.lens
            have h2 := hI.out.2
            have h3 := (let ⟨_, _, h, _⟩ := hO.out.2.1; h : mks.length = n1)
            have h4 := (let ⟨_, _, h, _⟩ := hO.out.2.2.1; h : tks.length = n2)
            omega
          replace hcit := Lib.hid hcit
          replace hiv4 := Lib.hid hiv4
          clear e0 hC4 hch4 hl4
          go_wp2_with fail
          refine (stampc_any hiv4.out (by repeat (first | with_reducible assumption | with_reducible exact G.refl _ | with_reducible refine G.drew ?_ | with_reducible refine G.drewN ?_ _ | with_reducible refine G.alloc ?_ _ | with_reducible refine Below.setCell ?_ (by first | (simp; done) | (simp; omega)) _ | with_reducible refine G.trans ?_ hb12 | with_reducible refine G.trans ?_ hb11 | with_reducible refine G.trans ?_ hb10 | with_reducible refine G.trans ?_ hb9 | with_reducible refine G.trans ?_ hb8 | with_reducible refine G.trans ?_ hb7 | with_reducible refine G.trans ?_ hb6 | with_reducible refine G.trans ?_ hb5 | with_reducible refine G.trans ?_ hb4 | with_reducible refine G.trans ?_ hb3 | with_reducible refine G.trans ?_ hb2 | with_reducible refine G.trans ?_ hb1 | with_reducible refine G.trans ?_ hb | assumption))).mono ?_
          rintro e5 w5 ⟨A', c', rfl, hp5, hb5⟩
          have hb45 : Below w4.heap.size w4 w5 := G.trans (by repeat (first | with_reducible assumption | with_reducible exact G.refl _ | with_reducible refine G.drew ?_ | with_reducible refine G.drewN ?_ _ | with_reducible refine G.alloc ?_ _ | with_reducible refine Below.setCell ?_ (by first | (simp; done) | (simp; omega)) _ | with_reducible refine G.trans ?_ hb12 | with_reducible refine G.trans ?_ hb11 | with_reducible refine G.trans ?_ hb10 | with_reducible refine G.trans ?_ hb9 | with_reducible refine G.trans ?_ hb8 | with_reducible refine G.trans ?_ hb7 | with_reducible refine G.trans ?_ hb6 | with_reducible refine G.trans ?_ hb5 | with_reducible refine G.trans ?_ hb4 | with_reducible refine G.trans ?_ hb3 | with_reducible refine G.trans ?_ hb2 | with_reducible refine G.trans ?_ hb1 | with_reducible refine G.trans ?_ hb | assumption)) hb5
          have hO5 := Lib.hid (hO4.out.grow hb45)
          have hp5' := Lib.hid (hp5.mono fun q _ hq => hO4.out.fresh q (by have : _ ≤ q := hq; simp at this; omega))
          have hbw5 := G.trans hbw4 hb45
          have hO5a := hO5.out.grow (G.alloc (G.refl _) (.cells #[.int .i64 it0.e, .slice A' it0.p.length c'] 24))
          obtain ⟨zs2, o2, l2, d2⟩ := id hO5a.2.2.1
          have hbs := hO5a.2.2.2.2.2.1
          have hz2' := o2.1
          replace hO5a := Lib.hid hO5a
          replace d2 := Lib.hid d2
          clear hp5 hb5
          go_wp2_with (at_builtin; refine wpList_appB rfl (.tmp 79) (.tmp 82) _ rfl w3.heap.size 24 i0 _ 2 32 Try.underlying52 hi0 hz0 hz1 hz2 rfl (by decide) (.slice A2 n2 q2) n2 zs2 rfl o2 (some ⟨w5.heap.size, 0, none⟩) 1 1 [.int .i64 it0.e, .slice A' it0.p.length c'] rfl (Sl.new rfl rfl) (by simp [Value.oneCell']) (by show _ ≤ 2 ^ 63 - 1; omega) (by omega) hbs ?_; intro B2 s2 w7 hown7 hc7 hm7 hg7 hob7; refine wpList_name (fun wx => OrdW w3.heap.size b r wx { ch with items := l0 } A1 n1 q1 B2 (n2 + 1) s2 mks (tks ++ [(it0.e, it0.p)]) ∧ Below w.heap.size w wx) ⟨hO5a.out.app2 hg7 hob7 hz2' l2 d2.out hown7 (hp5'.out.grow (G.alloc (G.refl _) _)), (hbw5.alloc hbw5.size _).grown hg7 (by have := hbw5.size; simp; omega) (fun q hq => Nat.le_trans hwbase.out (o2.lt q hq).1)⟩ ?_; clear hown7 hc7 hm7 hg7 hob7; rintro w8 ⟨hO8, hbw8⟩; replace hO8 := Lib.hid hO8)
          clear hO5a o2 d2 hO5 hO4 hbw5 hbw4 hb45
          have hnk : n1 ≤ k := hI.out.2
          have hlens := ((show OInv K { ch with items := l0 } mks (tks ++ [(it0.e, it0.p)]) from hI4.out)).lens
          have hcapk : ({ ch with items := l0 }).items.length ≤ K := by
            obtain ⟨_, _, _, _, _, _, _, _, hci⟩ := (hO8.out).1
            have := hci.2.2.2.2.2.2.1
            rw [((show OInv K { ch with items := l0 } mks (tks ++ [(it0.e, it0.p)]) from hI4.out)).cap] at this
            exact this
          have hm1 := (let ⟨_, _, h, _⟩ := (hO8.out).2.1; h : (mks).length = n1)
          have ht1 := (let ⟨_, _, h, _⟩ := (hO8.out).2.2.1; h : ((tks ++ [(it0.e, it0.p)])).length = (n2 + 1))
          have hwl : IntKind.i64.wrap ((({ ch with items := l0 }).items.length : Int) + ((n2 + 1) : Nat)) = ((n1 : Nat) : Int) := by rw [IntWalk.i64_in _ (by omega)]; omega
          have hnl : ¬ (K < ({ ch with items := l0 }).items.length) := by omega
          have LN : Hid (∀ P : Ending → World → Prop, P (.returned (.int .i64 (({ ch with items := l0 }).items.length : Int))) w8 → Calls Try.prog 21 #[.pointer (some ⟨b, 0, none⟩)] w8 P) := fun P hP => (len_any (hO8.out).1).mono fun e' w' h => by
            obtain ⟨rfl, rfl⟩ := h
            exact hP
          have FIN := Lib.hid (And.intro (hO8.out) (And.intro ((show OInv K { ch with items := l0 } mks (tks ++ [(it0.e, it0.p)]) from hI4.out)) (hbw8)))
          go_wp2_with fail
          refine LN.out _ ?_
          go_wp2_with fail
          refine LN.out _ ?_
          go_wp2_with fail
          go_roundw
          case rel => exact ⟨k + 1, { ch with items := l0 }, A1, n1, q1, B2, (n2 + 1), s2, mks, (tks ++ [(it0.e, it0.p)]), by omega, by go_num, rfl, rfl, FIN.out.1, ⟨FIN.out.2.1, by omega⟩, FIN.out.2.2⟩
          case measure => simp [intOf]; omega
    · have hm1 := (let ⟨_, _, h, _⟩ := hO.out.2.1; h : mks.length = n1)
      have ht1 := (let ⟨_, _, h, _⟩ := hO.out.2.2.1; h : tks.length = n2)
      have hlens := hI.out.1.lens
      have hn1 : n1 ≤ 40 := by have := hI.out.2; omega
      go_wp2_with fail
      go_loopw [13] (fun jv wx => ∃ j : Nat, j ≤ n2 ∧ jv = .int .i64 j ∧ Hid (OrdW w3.heap.size b r wx ch A1 n1 q1 A2 n2 q2 mks tks) ∧ Below w.heap.size w wx) (fun jv _ => n2 - (intOf jv).toNat)
      case atStart => exact ⟨0, Nat.zero_le _, rfl, hO, hbr⟩
      case round =>
        clear hO hbr
        obtain ⟨j, hj, rfl, hOx, hbx⟩ := hrel
        by_cases hlj : j < n2
        · obtain ⟨⟨e1, p1⟩, ht⟩ : ∃ a, tks[j]? = some a := ⟨_, List.getElem?_eq_getElem (by omega)⟩
          obtain ⟨⟨e2, p2⟩, hm⟩ : ∃ a, mks[j]? = some a := ⟨_, List.getElem?_eq_getElem (by omega)⟩
          obtain ⟨zs1, o1, l1, d1⟩ := id hOx.out.2.1
          obtain ⟨zs2, o2, l2, d2⟩ := id hOx.out.2.2.1
          obtain ⟨At, nt, ct, htc, htp⟩ := d2 j e1 p1 ht
          obtain ⟨Am, nm, cm, hmc, hmp⟩ := d1 j e2 p2 hm
          have hj1 : j < n1 := by omega
          obtain ⟨bt, ot, hA2, hbt, _, _, hct⟩ := (Rw.of_own o2).at_ (by decide) hlj
          obtain ⟨bm, om, hA1, hbm, _, _, hcm⟩ := (Rw.of_own o1).at_ (by decide) hj1
          have hct0 := fun q (hq : q < n2) => (Rw.of_own o2).at_ (by decide) hq
          subst hA2 hA1
          rw [htc] at hct
          rw [hmc] at hcm
          have t0 : wr.cell? ⟨bt, ot + j * 2, none⟩ = _ := hct 0 _ rfl
          have t1 := hct 1 _ rfl
          have m0 : wr.cell? ⟨bm, om + j * 2, none⟩ = _ := hcm 0 _ rfl
          have m1 := hcm 1 _ rfl
          obtain ⟨v1, hv1⟩ : ∃ v, cmpS e1 p1 e2 p2 = v := ⟨_, rfl⟩
          have hv10 : ¬ v1 < 0 := by have := hI.out.1.taken_mk ht hm; unfold cmpE at this; rw [hv1] at this; omega
          have HT := Lib.hid htp
          have HM := Lib.hid hmp
          replace hv1 := Lib.hid hv1
          by_cases hj00 : j = 0
          · subst hj00
            simp only [Nat.zero_mul, Nat.add_zero] at t0 t1 m0 m1
            clear hct hcm hct0 o1 o2 d1 d2 ht hm
            go_wp2_with fail
            have lt1 := cell_lt t0
            have lt2 := cell_lt m0
            dsimp only at lt1 lt2
            refine wp_region_ord [(0, 1), (1, 1), (2, 1), (3, 1), (4, 1), (5, 1), (6, 1), (7, 1), (8, 2), (9, 1), (10, 1), (11, 1), (12, 1), (13, 1), (14, 1), (15, 1), (16, 1), (17, 1), (18, 1), (19, 1), (20, 1), (21, 1), (22, 1), (23, 2), (24, 1), (25, 1), (26, 1)] [] 5 (by kernel_rfl) (by decide +kernel) ?_
            simp only [pickO, List.getElem?_cons_succ, List.getElem?_cons_zero]
            intro w0 hG
            (repeat ((first | (with_reducible refine ord_q1 ?_) | (with_reducible refine ord_q0 ?_)); intro K hK; first | (refine Or.inr ⟨?_, ?_⟩; (focus (go_simp; first | done | (simp [undef]; done))); go_simp; (with_reducible refine hK _ ?_); clear hK K) | (refine Or.inl ⟨?_, ?_⟩; (focus (go_simp; done)); apply Exists.intro; refine And.intro ?_ ?_; (focus (first | (intro wq hq; obtain ⟨hcq, hfq⟩ := G.old hq; go_simp; (first | done | exact rfl); done) | (intro wq; go_simp; (first | done | exact rfl); done))); go_simp; (with_reducible refine hK _ ?_); clear hK K) | fail))
            (with_reducible refine ord_run ?_ hG)
            intro K hK
            go_simp
            go_at_call 25; (with_reducible refine (compare_any e1 e2 At Am nt nm ct cm p1 p2 _ (HT.out.sl.grow hG.b) (HM.out.sl.grow hG.b) HT.out.max).mono ?_); rintro e' w8 ⟨rfl, hb8⟩; rw [hv1.out]
            replace hG := Grew.trans hG hb8
            (try dsimp only)
            (with_reducible refine hK _ _ hG ?_)
            clear hK K
            (repeat ((first | (with_reducible refine ord_q1 ?_) | (with_reducible refine ord_q0 ?_)); intro K hK; first | (refine Or.inr ⟨?_, ?_⟩; (focus (go_simp; first | done | (simp [undef]; done))); go_simp; (with_reducible refine hK _ ?_); clear hK K) | (refine Or.inl ⟨?_, ?_⟩; (focus (go_simp; done)); apply Exists.intro; refine And.intro ?_ ?_; (focus (first | (intro wq hq; obtain ⟨hcq, hfq⟩ := G.old hq; go_simp; (first | done | exact rfl); done) | (intro wq; go_simp; (first | done | exact rfl); done))); go_simp; (with_reducible refine hK _ ?_); clear hK K) | fail))
            (with_reducible refine ord_skip ?_ hG ?_); (focus (go_simp; first | done | (simp [undef]; done))); intro K hK; go_simp; (with_reducible refine hK _ ?_); clear hK K; (repeat ((first | (with_reducible refine ord_q1 ?_) | (with_reducible refine ord_q0 ?_)); intro K hK; first | (refine Or.inr ⟨?_, ?_⟩; (focus (go_simp; first | done | (simp [undef]; done))); go_simp; (with_reducible refine hK _ ?_); clear hK K) | (refine Or.inl ⟨?_, ?_⟩; (focus (go_simp; done)); apply Exists.intro; refine And.intro ?_ ?_; (focus (first | (intro wq hq; obtain ⟨hcq, hfq⟩ := G.old hq; go_simp; (first | done | exact rfl); done) | (intro wq; go_simp; (first | done | exact rfl); done))); go_simp; (with_reducible refine hK _ ?_); clear hK K) | fail))
            (with_reducible refine ord_nil ?_)
            go_wp2_with fail
            go_roundw
            case rel => exact ⟨1, by omega, by go_num, hOx.out.grow hG.b, G.trans hbx hG.b⟩
            case measure => simp [intOf]; omega
          · obtain ⟨j0, hjj⟩ : ∃ j0, j = j0 + 1 := ⟨j - 1, by omega⟩
            obtain ⟨⟨e0, p0⟩, ht0⟩ : ∃ a, tks[j0]? = some a := ⟨_, List.getElem?_eq_getElem (by omega)⟩
            obtain ⟨A0, n0, c0, h0c, h0p⟩ := d2 j0 e0 p0 ht0
            obtain ⟨bt', ot', hA2', _, _, _, hc0⟩ := hct0 j0 (by omega)
            cases hA2'
            rw [h0c] at hc0
            have s0 : wr.cell? ⟨bt, ot + j0 * 2, none⟩ = _ := hc0 0 _ rfl
            have s1 := hc0 1 _ rfl
            obtain ⟨v2, hv2⟩ : ∃ v, cmpS e0 p0 e1 p1 = v := ⟨_, rfl⟩
            have hv20 : ¬ 0 ≤ v2 := by have := hI.out.1.taken_up ht0 (hjj ▸ ht); unfold cmpE at this; rw [hv2] at this; omega
            have HS := Lib.hid h0p
            replace hv2 := Lib.hid hv2
            have hwj : IntKind.i64.wrap ((j : Int) - 1) = (j0 : Int) := by rw [IntWalk.i64_in _ (by omega)]; omega
            have hj2 : j0 < n2 := by omega
            have hj3 : 0 < j := by omega
            replace hjj := Lib.hid hjj
            clear hct hcm hct0 hc0 o1 o2 d1 d2 ht hm ht0
            go_wp2_with fail
            have lt1 := cell_lt t0
            have lt2 := cell_lt m0
            dsimp only at lt1 lt2
            refine wp_region_ord [(0, 1), (1, 1), (2, 1), (3, 1), (4, 1), (5, 1), (6, 1), (7, 1), (8, 2), (9, 1), (10, 1), (11, 1), (12, 1), (13, 1), (14, 1), (15, 1), (16, 1), (17, 1), (18, 1), (19, 1), (20, 1), (21, 1), (22, 1), (23, 2), (24, 1), (25, 1), (26, 1)] [] 5 (by kernel_rfl) (by decide +kernel) ?_
            simp only [pickO, List.getElem?_cons_succ, List.getElem?_cons_zero]
            intro w0 hG
            (repeat ((first | (with_reducible refine ord_q1 ?_) | (with_reducible refine ord_q0 ?_)); intro K hK; first | (refine Or.inr ⟨?_, ?_⟩; (focus (go_simp; first | done | (simp [undef]; done))); go_simp; (with_reducible refine hK _ ?_); clear hK K) | (refine Or.inl ⟨?_, ?_⟩; (focus (go_simp; done)); apply Exists.intro; refine And.intro ?_ ?_; (focus (first | (intro wq hq; obtain ⟨hcq, hfq⟩ := G.old hq; go_simp; (first | done | exact rfl); done) | (intro wq; go_simp; (first | done | exact rfl); done))); go_simp; (with_reducible refine hK _ ?_); clear hK K) | fail))
            (with_reducible refine ord_run ?_ hG)
            intro K hK
            go_simp
            go_at_call 25; (with_reducible refine (compare_any e1 e2 At Am nt nm ct cm p1 p2 _ (HT.out.sl.grow hG.b) (HM.out.sl.grow hG.b) HT.out.max).mono ?_); rintro e' w8 ⟨rfl, hb8⟩; rw [hv1.out]
            replace hG := Grew.trans hG hb8
            (try dsimp only)
            (with_reducible refine hK _ _ hG ?_)
            clear hK K
            (repeat ((first | (with_reducible refine ord_q1 ?_) | (with_reducible refine ord_q0 ?_)); intro K hK; first | (refine Or.inr ⟨?_, ?_⟩; (focus (go_simp; first | done | (simp [undef]; done))); go_simp; (with_reducible refine hK _ ?_); clear hK K) | (refine Or.inl ⟨?_, ?_⟩; (focus (go_simp; done)); apply Exists.intro; refine And.intro ?_ ?_; (focus (first | (intro wq hq; obtain ⟨hcq, hfq⟩ := G.old hq; go_simp; (first | done | exact rfl); done) | (intro wq; go_simp; (first | done | exact rfl); done))); go_simp; (with_reducible refine hK _ ?_); clear hK K) | fail))
            (with_reducible refine ord_run ?_ hG)
            intro K hK
            go_simp
            go_at_call 25; (with_reducible refine (compare_any e0 e1 A0 At n0 nt c0 ct p0 p1 _ (HS.out.sl.grow hG.b) (HT.out.sl.grow hG.b) HS.out.max).mono ?_); rintro e' w9 ⟨rfl, hb9⟩; rw [hv2.out]
            replace hG := Grew.trans hG hb9
            (try dsimp only)
            (with_reducible refine hK _ _ hG ?_)
            clear hK K
            (repeat ((first | (with_reducible refine ord_q1 ?_) | (with_reducible refine ord_q0 ?_)); intro K hK; first | (refine Or.inr ⟨?_, ?_⟩; (focus (go_simp; first | done | (simp [undef]; done))); go_simp; (with_reducible refine hK _ ?_); clear hK K) | (refine Or.inl ⟨?_, ?_⟩; (focus (go_simp; done)); apply Exists.intro; refine And.intro ?_ ?_; (focus (first | (intro wq hq; obtain ⟨hcq, hfq⟩ := G.old hq; go_simp; (first | done | exact rfl); done) | (intro wq; go_simp; (first | done | exact rfl); done))); go_simp; (with_reducible refine hK _ ?_); clear hK K) | fail))
            (with_reducible refine ord_nil ?_)
            go_wp2_with fail
            go_roundw
            case rel => exact ⟨j + 1, by omega, by go_num, hOx.out.grow hG.b, G.trans hbx hG.b⟩
            case measure => simp [intOf]; omega
        · go_wp2_with fail
          go_ret
          exact ⟨rfl, hbx⟩
end Go.Proofs.Ytjldpodehffbnaa
