/- The law SegmentErrors. -/
import Derived.Test.YtbafnlccpbonmaaGreatDoorEr1
namespace Go.Proofs.YtbafnlccpbonmaaGreatDoor
set_option linter.unusedVariables false
set_option linter.unnecessarySimpa false
set_option linter.unusedSimpArgs false
open Go.RowKit

def d6 : List UInt8 := [49, 50, 51, 52, 53, 54]
theorem openG_name {s : Ds} {nm : List UInt8} (hd : s.down = false) (hn : nameC nm = false) (lim : Int) : openG s nm lim = (12, s, none) := by unfold openG; rw [if_neg (by rw [hd]; decide), if_pos hn]
theorem openG_lim {s : Ds} {nm : List UInt8} (hd : s.down = false) (hn : nameC nm = true) {lim : Int} (hl : lim < 64 ∨ 4194304 < lim) : openG s nm lim = (2, s, none) := by unfold openG; rw [if_neg (by rw [hd]; decide), if_neg (by rw [hn]; decide), if_pos hl]
set_option maxRecDepth 20000 in set_option maxHeartbeats 16000000 in
theorem segmentErrors_any (t1 : ByteArray) (lim z : Int) (w : World) (ws1 : t1.size ≤ maxLen) (wl : (Lit.int .i64 lim).wf = true) (wz : (Lit.int .u16 z).wf = true) (hE : Pow10 w ∧ LibVars w) : Calls Tryz.prog 10 #[.string t1, .int .i64 lim, .int .u16 z] w fun e w' => e = .returned (.bool true) ∧ Below w.heap.size w w' := by
  have HP := Lib.hid hE.1
  have HV := Lib.hid hE.2
  obtain ⟨k1, hk1⟩ : ∃ k, k = min t1.size 50 := ⟨_, rfl⟩
  have e1 := take_cut t1 50 k1 hk1
  have m1 : min (t1.size : Int) 50 = (k1 : Int) := by omega
  have p1 : (0 : Int) ≤ (k1 : Int) := by omega
  have q1 : (k1 : Int) ≤ (t1.size : Int) := by omega
  have q3 : k1 ≤ t1.size := by omega
  obtain ⟨nm, hd⟩ : ∃ d, t1.data.toList.take 50 = d := ⟨_, rfl⟩
  have hnl : nm.length ≤ 50 := by rw [← hd, List.length_take]; omega
  rw [hd] at e1
  obtain ⟨Z, rfl, hZ⟩ : ∃ Z : Nat, z = (Z : Int) ∧ Z < 65536 := by
    have h1 : 0 ≤ z ∧ z ≤ 65535 := by
      have e1 : IntKind.u16.min = 0 := rfl
      have e2 : IntKind.u16.max = 65535 := rfl
      simp [Lit.wf, e1, e2] at wz
      exact wz
    exact ⟨z.toNat, by omega, by omega⟩
  obtain ⟨rm, hrm⟩ : ∃ r, Z % 400 = r := ⟨_, rfl⟩
  have hr4 : rm < 400 := by omega
  have z1 : IntKind.i64.wrap (Z : Int) = (Z : Int) := IntWalk.i64_in _ (by omega)
  have z2 : (Z : Int) % 400 = (rm : Int) := by rw [← hrm]; rfl
  have z3 : (Z : Int).tmod 400 = (rm : Int) := by rw [Int.tmod_eq_emod_of_nonneg (by omega)]; exact z2
  have z4 : IntKind.i64.wrap (rm : Int) = (rm : Int) := IntWalk.i64_in _ (by omega)
  clear hd hk1 hE hrm wz
  have KN := Lib.hid (fun (wx : World) (hb : Below w.heap.size w wx) => known_any wx (HP.out.grow hb) (HV.out.grow hb))
  have IS := Lib.hid (fun (wx : World) => isname_any (B nm) wx)
  rw [B_list] at IS
  by_cases hn : nameC nm = true
  · rw [hn] at IS
    replace hn := Lib.hid hn
    by_cases hl1 : lim < 64
    · skip
      go_enter Tryz.func10, Tryz.ntmps10
      go_wp2_with fail
      (refine (new_any (rm : Int) (by omega) (by omega)).mono ?_)
      intro e w1 hr
      obtain ⟨d, rfl, F0⟩ := FD.new (w0 := w) (by repeat (first | with_reducible assumption | with_reducible exact G.refl _ | with_reducible refine G.drew ?_ | with_reducible refine G.drewN ?_ _ | with_reducible refine G.alloc ?_ _ | with_reducible refine Below.setCell ?_ (by first | (simp; done) | (simp; omega)) _ | with_reducible refine G.trans ?_ hb12 | with_reducible refine G.trans ?_ hb11 | with_reducible refine G.trans ?_ hb10 | with_reducible refine G.trans ?_ hb9 | with_reducible refine G.trans ?_ hb8 | with_reducible refine G.trans ?_ hb7 | with_reducible refine G.trans ?_ hb6 | with_reducible refine G.trans ?_ hb5 | with_reducible refine G.trans ?_ hb4 | with_reducible refine G.trans ?_ hb3 | with_reducible refine G.trans ?_ hb2 | with_reducible refine G.trans ?_ hb1 | with_reducible refine G.trans ?_ hb | assumption)) hr
      replace F0 := Lib.hid F0
      clear hr
      go_wp2_with fail
      go_at_call 13
      (with_reducible refine (KN.out _ F0.out.below).mono ?_)
      rintro e w2 ⟨rfl, hb2⟩
      replace F0 := Lib.hid (F0.out.grow hb2)
      clear hb2 KN
      go_wp2_with fail
      go_at_call 25
      have hop := F0.out.open (new_good (by omega) (by omega)) (fun f hf => by cases hf) HP.out HV.out nm lim
      rw [openG_lim rfl hn.out (.inl hl1)] at hop
      (with_reducible refine hop.mono ?_)
      clear hop
      intro e w3 hr
      rcases hr with ⟨x, s3, hR, rfl, F1⟩ | ⟨s3, l3, L3, hR, _, _⟩
      · obtain ⟨rfl, rfl⟩ : x = 2 ∧ s3 = newD (rm : Int) := by simp at hR; exact ⟨hR.1.symm, hR.2.symm⟩
        replace F1 := Lib.hid F1
        clear hR F0
        go_wp2_with fail
        go_at_call 22
        (with_reducible refine (IS.out _).mono ?_)
        rintro e w4 ⟨rfl, hw⟩
        subst hw
        go_wp2_with fail
        go_at_call 25
        (with_reducible refine (open_nil (B nm) lim _).mono ?_)
        rintro e wA ⟨rfl, hw⟩
        subst hw
        go_wp2_with fail
        go_at_call 28
        (with_reducible refine (nil_append _ _).mono ?_)
        rintro e wB ⟨rfl, hw⟩
        subst hw
        go_wp2_with fail
        go_at_call 32
        (with_reducible refine (nil_read _ _).mono ?_)
        rintro e wB ⟨rfl, hw⟩
        subst hw
        go_wp2_with fail
        go_at_call 35
        (with_reducible refine (nil_drop _ _).mono ?_)
        rintro e wB ⟨rfl, hw⟩
        subst hw
        go_wp2_with fail
        go_at_call 34
        (with_reducible refine (nil_sync _).mono ?_)
        rintro e wB ⟨rfl, hw⟩
        subst hw
        go_wp2_with fail
        go_at_call 40
        (with_reducible refine (nil_first _).mono ?_)
        rintro e wB ⟨rfl, hw⟩
        subst hw
        go_wp2_with fail
        go_at_call 33
        (with_reducible refine (nil_last _).mono ?_)
        rintro e wB ⟨rfl, hw⟩
        subst hw
        go_wp2_with fail
        go_at_call 41
        (with_reducible refine (nil_durable _).mono ?_)
        rintro e wB ⟨rfl, hw⟩
        subst hw
        go_wp2_with fail
        go_at_call 42
        (with_reducible refine (nil_segments _).mono ?_)
        rintro e wB ⟨rfl, hw⟩
        subst hw
        go_wp2_with fail
        go_ret
        exact ⟨rfl, F1.out.below⟩
      · simp at hR
    · by_cases hl2 : 4194304 < lim
      · skip
        go_enter Tryz.func10, Tryz.ntmps10
        go_wp2_with fail
        (refine (new_any (rm : Int) (by omega) (by omega)).mono ?_)
        intro e w1 hr
        obtain ⟨d, rfl, F0⟩ := FD.new (w0 := w) (by repeat (first | with_reducible assumption | with_reducible exact G.refl _ | with_reducible refine G.drew ?_ | with_reducible refine G.drewN ?_ _ | with_reducible refine G.alloc ?_ _ | with_reducible refine Below.setCell ?_ (by first | (simp; done) | (simp; omega)) _ | with_reducible refine G.trans ?_ hb12 | with_reducible refine G.trans ?_ hb11 | with_reducible refine G.trans ?_ hb10 | with_reducible refine G.trans ?_ hb9 | with_reducible refine G.trans ?_ hb8 | with_reducible refine G.trans ?_ hb7 | with_reducible refine G.trans ?_ hb6 | with_reducible refine G.trans ?_ hb5 | with_reducible refine G.trans ?_ hb4 | with_reducible refine G.trans ?_ hb3 | with_reducible refine G.trans ?_ hb2 | with_reducible refine G.trans ?_ hb1 | with_reducible refine G.trans ?_ hb | assumption)) hr
        replace F0 := Lib.hid F0
        clear hr
        go_wp2_with fail
        go_at_call 13
        (with_reducible refine (KN.out _ F0.out.below).mono ?_)
        rintro e w2 ⟨rfl, hb2⟩
        replace F0 := Lib.hid (F0.out.grow hb2)
        clear hb2 KN
        go_wp2_with fail
        go_at_call 25
        have hop := F0.out.open (new_good (by omega) (by omega)) (fun f hf => by cases hf) HP.out HV.out nm lim
        rw [openG_lim rfl hn.out (.inr hl2)] at hop
        (with_reducible refine hop.mono ?_)
        clear hop
        intro e w3 hr
        rcases hr with ⟨x, s3, hR, rfl, F1⟩ | ⟨s3, l3, L3, hR, _, _⟩
        · obtain ⟨rfl, rfl⟩ : x = 2 ∧ s3 = newD (rm : Int) := by simp at hR; exact ⟨hR.1.symm, hR.2.symm⟩
          replace F1 := Lib.hid F1
          clear hR F0
          go_wp2_with fail
          go_at_call 22
          (with_reducible refine (IS.out _).mono ?_)
          rintro e w4 ⟨rfl, hw⟩
          subst hw
          go_wp2_with fail
          go_at_call 25
          (with_reducible refine (open_nil (B nm) lim _).mono ?_)
          rintro e wA ⟨rfl, hw⟩
          subst hw
          go_wp2_with fail
          go_at_call 28
          (with_reducible refine (nil_append _ _).mono ?_)
          rintro e wB ⟨rfl, hw⟩
          subst hw
          go_wp2_with fail
          go_at_call 32
          (with_reducible refine (nil_read _ _).mono ?_)
          rintro e wB ⟨rfl, hw⟩
          subst hw
          go_wp2_with fail
          go_at_call 35
          (with_reducible refine (nil_drop _ _).mono ?_)
          rintro e wB ⟨rfl, hw⟩
          subst hw
          go_wp2_with fail
          go_at_call 34
          (with_reducible refine (nil_sync _).mono ?_)
          rintro e wB ⟨rfl, hw⟩
          subst hw
          go_wp2_with fail
          go_at_call 40
          (with_reducible refine (nil_first _).mono ?_)
          rintro e wB ⟨rfl, hw⟩
          subst hw
          go_wp2_with fail
          go_at_call 33
          (with_reducible refine (nil_last _).mono ?_)
          rintro e wB ⟨rfl, hw⟩
          subst hw
          go_wp2_with fail
          go_at_call 41
          (with_reducible refine (nil_durable _).mono ?_)
          rintro e wB ⟨rfl, hw⟩
          subst hw
          go_wp2_with fail
          go_at_call 42
          (with_reducible refine (nil_segments _).mono ?_)
          rintro e wB ⟨rfl, hw⟩
          subst hw
          go_wp2_with fail
          go_ret
          exact ⟨rfl, F1.out.below⟩
        · simp at hR
      · skip
        go_enter Tryz.func10, Tryz.ntmps10
        go_wp2_with fail
        (refine (new_any (rm : Int) (by omega) (by omega)).mono ?_)
        intro e w1 hr
        obtain ⟨d, rfl, F0⟩ := FD.new (w0 := w) (by repeat (first | with_reducible assumption | with_reducible exact G.refl _ | with_reducible refine G.drew ?_ | with_reducible refine G.drewN ?_ _ | with_reducible refine G.alloc ?_ _ | with_reducible refine Below.setCell ?_ (by first | (simp; done) | (simp; omega)) _ | with_reducible refine G.trans ?_ hb12 | with_reducible refine G.trans ?_ hb11 | with_reducible refine G.trans ?_ hb10 | with_reducible refine G.trans ?_ hb9 | with_reducible refine G.trans ?_ hb8 | with_reducible refine G.trans ?_ hb7 | with_reducible refine G.trans ?_ hb6 | with_reducible refine G.trans ?_ hb5 | with_reducible refine G.trans ?_ hb4 | with_reducible refine G.trans ?_ hb3 | with_reducible refine G.trans ?_ hb2 | with_reducible refine G.trans ?_ hb1 | with_reducible refine G.trans ?_ hb | assumption)) hr
        replace F0 := Lib.hid F0
        clear hr
        go_wp2_with fail
        go_at_call 13
        (with_reducible refine (KN.out _ F0.out.below).mono ?_)
        rintro e w2 ⟨rfl, hb2⟩
        replace F0 := Lib.hid (F0.out.grow hb2)
        clear hb2 KN
        go_wp2_with fail
        go_at_call 25
        have hop := FD.fresh F0.out HP.out HV.out rfl rfl (new_good (by omega) (by omega)) (fun f hf => by cases hf) (nm := nm) hn.out (lim := lim) (by omega) (fun m _ => rfl)
        (with_reducible refine hop.mono ?_)
        clear hop F0
        rintro e w3 ⟨L, rfl, s0, hs0, h0⟩
        have HS := Lib.hid hs0
        have H0 := Lib.hid h0
        clear hs0 h0
        go_wp2_with fail
        go_at_call 22
        (with_reducible refine (IS.out _).mono ?_)
        rintro e w4 ⟨rfl, hw⟩
        subst hw
        go_wp2_with fail
        go_at_call 25
        (with_reducible refine (open_nil (B nm) lim _).mono ?_)
        rintro e wA ⟨rfl, hw⟩
        subst hw
        go_wp2_with fail
        go_at_call 28
        (with_reducible refine (nil_append _ _).mono ?_)
        rintro e wB ⟨rfl, hw⟩
        subst hw
        go_wp2_with fail
        go_at_call 32
        (with_reducible refine (nil_read _ _).mono ?_)
        rintro e wB ⟨rfl, hw⟩
        subst hw
        go_wp2_with fail
        go_at_call 35
        (with_reducible refine (nil_drop _ _).mono ?_)
        rintro e wB ⟨rfl, hw⟩
        subst hw
        go_wp2_with fail
        go_at_call 34
        (with_reducible refine (nil_sync _).mono ?_)
        rintro e wB ⟨rfl, hw⟩
        subst hw
        go_wp2_with fail
        go_at_call 40
        (with_reducible refine (nil_first _).mono ?_)
        rintro e wB ⟨rfl, hw⟩
        subst hw
        go_wp2_with fail
        go_at_call 33
        (with_reducible refine (nil_last _).mono ?_)
        rintro e wB ⟨rfl, hw⟩
        subst hw
        go_wp2_with fail
        go_at_call 41
        (with_reducible refine (nil_durable _).mono ?_)
        rintro e wB ⟨rfl, hw⟩
        subst hw
        go_wp2_with fail
        go_at_call 42
        (with_reducible refine (nil_segments _).mono ?_)
        rintro e wB ⟨rfl, hw⟩
        subst hw
        go_wp2_with fail
        go_loopw [21, 22] (fun fv iv wr => ∃ (k fr : Nat) (s : Ds) (l : Lg) (g : List (List (List UInt8))), fr + 22 * k = rm ∧ fv = .int .i64 (fr : Int) ∧ iv = .int .i64 ((k + 1 : Nat) : Int) ∧ Hid (LI w wr d L nm s l (List.replicate k d6) 1 g) ∧ Hid (usedC s.fs = 22 * k ∧ s.fs.length ≤ k ∧ s.room = (rm : Int))) (fun _ iv _ => 40 - (intOf iv).toNat)
        case atStart =>
          refine ⟨0, rm, s0, _, [], by omega, rfl, rfl, H0, Lib.hid ⟨?_, ?_, ?_⟩⟩
          · have h9 := HS.out.used
            have h8 : usedC (newD (rm : Int)).fs = 0 := rfl
            omega
          · have := HS.out.cnt; exact this
          · exact HS.out.room
        case round =>
          obtain ⟨k, fr, s, l, g, hfr, rfl, rfl, H, HQ⟩ := hrel
          clear H0 HS
          have hk19 : k ≤ 18 := by omega
          have hk4 : ((k + 1 : Nat) : Int) ≤ 30 := by omega
          obtain ⟨K1, hK1⟩ : ∃ x, k + 1 = x := ⟨_, rfl⟩
          rw [hK1] at hk4 ⊢
          have hw1 : IntKind.i64.wrap ((K1 : Int) + 1) = ((K1 + 1 : Nat) : Int) := by rw [IntWalk.i64_in _ (by omega)]; omega
          have hw2 : IntKind.i64.wrap ((K1 : Int) - 1) = (k : Int) := by rw [IntWalk.i64_in _ (by omega)]; omega
          have hrl : (List.replicate k d6).length = k := List.length_replicate
          by_cases hf : fr < 22
          · have hf' : (fr : Int) < 22 := by omega
            have AP := Lib.hid (H.out.NoRoom HP.out (dt := d6) (by rw [hrl]; omega) (by decide) (by have := HQ.out.2.1; omega) (by rw [HQ.out.2.2, HQ.out.1, show d6.length = 6 from rfl]; omega))
            rw [show B d6 = (⟨#[49, 50, 51, 52, 53, 54]⟩ : ByteArray) from rfl] at AP
            go_wp2_with fail
            go_at_call 28
            (with_reducible refine AP.out.mono ?_)
            clear AP H
            rintro e w5 ⟨rfl, t, l', g', hL, hg'⟩
            have LA := Lib.hid hL.Last
            rw [hrl] at LA
            clear hL
            go_wp2_with fail
            go_at_call 33
            (with_reducible refine LA.out.mono ?_)
            rintro e w6 ⟨rfl, hL⟩
            have HL := Lib.hid hL
            clear LA
            have hne : l'.parts ≠ [] := fun e => hg' (by
              have := HL.out.inv.parts
              rw [e] at this
              rcases g' with _ | ⟨x, y⟩
              · rfl
              · rw [ptsG] at this
                cases this)
            replace hne := Lib.hid hne
            clear hL hg'
            go_wp2_with fail
            go_at_call 43
            (refine (HL.out.lx.runD (s' := { t with down := true }) (fun S hD => crash_any hD)).mono ?_)
            rintro e w7 ⟨rfl, h7⟩
            have H7 := Lib.hid h7
            have hlk := Lib.hid HL.out.inv.ok
            have hgd := Lib.hid (crash_good HL.out.good)
            have hll : Hid (l'.last ≤ 1000) := Lib.hid (by rw [HL.out.inv.last, hrl]; omega)
            clear h7 HL
            go_wp2_with fail
            go_at_call 25
            (refine (H7.out.runD (Q := fun e => e = .returned (.tuple #[.pointer none, .int .i64 31])) (fun S hD => (open_down hD rfl (B nm) lim).mono fun e w' hr => by
              rcases hr with ⟨x, s3, hR, he, hd⟩ | ⟨s3, l3, L3, hR, _, _⟩
              · obtain ⟨rfl, rfl⟩ : x = 31 ∧ s3 = { t with down := true } := by simp at hR; exact ⟨hR.1.symm, hR.2.symm⟩
                exact ⟨he, hd⟩
              · simp at hR)).mono ?_)
            rintro e w8 ⟨rfl, h8⟩
            replace H7 := Lib.hid h8
            clear h8
            go_wp2_with fail
            go_at_call 28
            have hap := H7.out.Append (EnvL.no HP.out) hlk.out hgd.out [97] (by decide)
            have hda := down_app (s := { t with down := true }) (l := l') (d := [97]) rfl hne.out hll.out (by decide)
            rw [hda, show B [97] = (⟨#[97]⟩ : ByteArray) from rfl] at hap
            obtain ⟨X, hX⟩ : ∃ X, lapp { t with down := true } l' [97] = X := ⟨_, rfl⟩
            have hst : X.2.1 = { t with down := true } ∧ X.2.2 = l' := by rw [← hX]; exact down_same rfl hne.out hll.out (by decide)
            rw [hX, hst.1, hst.2] at hap
            (with_reducible refine hap.mono ?_)
            clear hap hda hX hst
            rintro e w9 ⟨rfl, h9⟩
            replace H7 := Lib.hid h9
            clear h9
            go_wp2_with fail
            go_at_call 34
            have hsy := H7.out.Sync (EnvL.no HP.out) hlk.out
            rw [down_sync rfl hne.out] at hsy
            (with_reducible refine hsy.mono ?_)
            clear hsy
            rintro e wC ⟨rfl, h9⟩
            replace H7 := Lib.hid h9
            clear h9
            go_wp2_with fail
            go_ret
            exact ⟨rfl, H7.out.below⟩
          · have hf' : ¬ (fr : Int) < 22 := by omega
            obtain ⟨f2, hf2⟩ : ∃ x, fr - 22 = x := ⟨_, rfl⟩
            have hw3 : IntKind.i64.wrap ((fr : Int) - 22) = (f2 : Int) := by rw [IntWalk.i64_in _ (by omega)]; omega
            have AP := Lib.hid (H.out.AppendU HP.out (dt := d6) (by rw [hrl]; omega) (by decide) (by have := HQ.out.2.1; omega) (by rw [HQ.out.2.2, HQ.out.1, show d6.length = 6 from rfl]; omega))
            rw [hrl, hK1, show List.replicate k d6 ++ [d6] = List.replicate K1 d6 by rw [← hK1]; exact List.replicate_succ'.symm] at AP
            rw [show B d6 = (⟨#[49, 50, 51, 52, 53, 54]⟩ : ByteArray) from rfl] at AP
            go_wp2_with fail
            go_at_call 28
            (with_reducible refine AP.out.mono ?_)
            clear AP H
            rintro e w5 ⟨rfl, t, l', g', ht, hu, hL⟩
            replace hL := Lib.hid hL
            replace ht := Lib.hid ht
            replace hu := Lib.hid hu
            go_wp2_with fail
            refine ⟨⟨K1, f2, t, l', g', by omega, rfl, rfl, hL, Lib.hid ⟨?_, ?_, ?_⟩⟩, by simp [intOf]; omega⟩
            · rw [hu.out, HQ.out.1, show d6.length = 6 from rfl]; omega
            · have := ht.out.cnt; have := HQ.out.2.1; omega
            · rw [ht.out.room]; exact HQ.out.2.2
  · have hn' : nameC nm = false := by simpa using hn
    rw [hn'] at IS
    replace hn' := Lib.hid hn'
    clear hn
    go_enter Tryz.func10, Tryz.ntmps10
    go_wp2_with fail
    (refine (new_any (rm : Int) (by omega) (by omega)).mono ?_)
    intro e w1 hr
    obtain ⟨d, rfl, F0⟩ := FD.new (w0 := w) (by repeat (first | with_reducible assumption | with_reducible exact G.refl _ | with_reducible refine G.drew ?_ | with_reducible refine G.drewN ?_ _ | with_reducible refine G.alloc ?_ _ | with_reducible refine Below.setCell ?_ (by first | (simp; done) | (simp; omega)) _ | with_reducible refine G.trans ?_ hb12 | with_reducible refine G.trans ?_ hb11 | with_reducible refine G.trans ?_ hb10 | with_reducible refine G.trans ?_ hb9 | with_reducible refine G.trans ?_ hb8 | with_reducible refine G.trans ?_ hb7 | with_reducible refine G.trans ?_ hb6 | with_reducible refine G.trans ?_ hb5 | with_reducible refine G.trans ?_ hb4 | with_reducible refine G.trans ?_ hb3 | with_reducible refine G.trans ?_ hb2 | with_reducible refine G.trans ?_ hb1 | with_reducible refine G.trans ?_ hb | assumption)) hr
    replace F0 := Lib.hid F0
    clear hr
    go_wp2_with fail
    go_at_call 13
    (with_reducible refine (KN.out _ F0.out.below).mono ?_)
    rintro e w2 ⟨rfl, hb2⟩
    replace F0 := Lib.hid (F0.out.grow hb2)
    clear hb2 KN
    go_wp2_with fail
    go_at_call 25
    have hop := F0.out.open (new_good (by omega) (by omega)) (fun f hf => by cases hf) HP.out HV.out nm lim
    rw [openG_name rfl hn'.out lim] at hop
    (with_reducible refine hop.mono ?_)
    clear hop
    intro e w3 hr
    rcases hr with ⟨x, s3, hR, rfl, F1⟩ | ⟨s3, l3, L3, hR, _, _⟩
    · obtain ⟨rfl, rfl⟩ : x = 12 ∧ s3 = newD (rm : Int) := by simp at hR; exact ⟨hR.1.symm, hR.2.symm⟩
      replace F1 := Lib.hid F1
      clear hR F0
      go_wp2_with fail
      go_at_call 22
      (with_reducible refine (IS.out _).mono ?_)
      rintro e w4 ⟨rfl, hw⟩
      subst hw
      go_wp2_with fail
      go_at_call 25
      (with_reducible refine (open_nil (B nm) lim _).mono ?_)
      rintro e wA ⟨rfl, hw⟩
      subst hw
      go_wp2_with fail
      go_at_call 28
      (with_reducible refine (nil_append _ _).mono ?_)
      rintro e wB ⟨rfl, hw⟩
      subst hw
      go_wp2_with fail
      go_at_call 32
      (with_reducible refine (nil_read _ _).mono ?_)
      rintro e wB ⟨rfl, hw⟩
      subst hw
      go_wp2_with fail
      go_at_call 35
      (with_reducible refine (nil_drop _ _).mono ?_)
      rintro e wB ⟨rfl, hw⟩
      subst hw
      go_wp2_with fail
      go_at_call 34
      (with_reducible refine (nil_sync _).mono ?_)
      rintro e wB ⟨rfl, hw⟩
      subst hw
      go_wp2_with fail
      go_at_call 40
      (with_reducible refine (nil_first _).mono ?_)
      rintro e wB ⟨rfl, hw⟩
      subst hw
      go_wp2_with fail
      go_at_call 33
      (with_reducible refine (nil_last _).mono ?_)
      rintro e wB ⟨rfl, hw⟩
      subst hw
      go_wp2_with fail
      go_at_call 41
      (with_reducible refine (nil_durable _).mono ?_)
      rintro e wB ⟨rfl, hw⟩
      subst hw
      go_wp2_with fail
      go_at_call 42
      (with_reducible refine (nil_segments _).mono ?_)
      rintro e wB ⟨rfl, hw⟩
      subst hw
      go_wp2_with fail
      go_ret
      exact ⟨rfl, F1.out.below⟩
    · simp at hR
end Go.Proofs.YtbafnlccpbonmaaGreatDoor
