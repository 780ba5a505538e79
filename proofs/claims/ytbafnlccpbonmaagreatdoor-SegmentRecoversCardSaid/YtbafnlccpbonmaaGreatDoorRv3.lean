/- The law SegmentRecovers. -/
import Derived.Test.YtbafnlccpbonmaaGreatDoorRv2
namespace Go.Proofs.YtbafnlccpbonmaaGreatDoor
set_option linter.unusedVariables false
set_option linter.unnecessarySimpa false
set_option linter.unusedSimpArgs false
open Go.RowKit

set_option maxRecDepth 20000 in set_option maxHeartbeats 32000000 in
theorem segmentRecovers_any (x1 : Int) (A : Option Addr) (N c : Nat) (ops : List GOp) (Bt : Option Addr) (M cb : Nat) (tl : List UInt8) (w : World) (wz1 : (Lit.int .u16 x1).wf = true) (hops : OpsW w A N c ops) (htl : BytesW w Bt M cb tl) (hE : Pow10 w ∧ LibVars w) : Calls Tryz.prog 11 #[.int .u16 x1, .slice A N c, .slice Bt M cb] w fun e w' => e = .returned (.bool true) ∧ Below w.heap.size w w' := by
  have HP := Lib.hid hE.1
  have HV := Lib.hid hE.2
  have HOP := Lib.hid hops
  have HTL := Lib.hid htl
  obtain ⟨hlen, hNc, hcm⟩ := hops.len
  have hML := Lib.hid htl.1.1
  obtain ⟨hMc, hcbm⟩ : M ≤ cb ∧ cb ≤ maxLen := ⟨htl.2.1, htl.2.2.1⟩
  obtain ⟨Z, rfl, hZ⟩ := u16_nat wz1
  obtain ⟨rm, hrm⟩ : ∃ r, Z % 337 = r := ⟨_, rfl⟩
  have hr4 : rm < 337 := by omega
  obtain ⟨lm, hlm⟩ : ∃ l, 64 + rm = l := ⟨_, rfl⟩
  have z1 : IntKind.i64.wrap (Z : Int) = (Z : Int) := IntWalk.i64_in _ (by omega)
  have z2 : (Z : Int) % 337 = (rm : Int) := by rw [← hrm]; rfl
  have z3 : (Z : Int).tmod 337 = (rm : Int) := by rw [Int.tmod_eq_emod_of_nonneg (by omega)]; exact z2
  have z4 : IntKind.i64.wrap (rm : Int) = (rm : Int) := IntWalk.i64_in _ (by omega)
  have z5 : IntKind.i64.wrap (64 + (rm : Int)) = (lm : Int) := by rw [IntWalk.i64_in _ (by omega)]; omega
  have hlm4 : 64 ≤ lm ∧ lm ≤ 4194304 := by omega
  replace hlen := Lib.hid hlen
  clear hops hE htl hrm wz1 hlm
  have KN := Lib.hid (fun (wx : World) (hb : Below w.heap.size w wx) => known_any wx (HP.out.grow hb) (HV.out.grow hb))
  by_cases hN : N ≤ 40
  · have hN' : ¬ (40 : Int) < (N : Int) := by omega
    by_cases hM3 : 3 ≤ M
    · have hM3' : ¬ (M : Int) < 3 := by omega
      by_cases hM20 : M ≤ 20
      · have hM20' : ¬ (20 : Int) < (M : Int) := by omega
        obtain ⟨j0, hj, hjz0, hjz1, hjz2⟩ := info_parts infoStrG
        obtain ⟨bt, ot, hBe, hbtl, hbtc⟩ := HTL.out.1.2 (by omega)
        subst hBe
        obtain ⟨v0, hv0⟩ : ∃ t, tl[0]? = some t := ⟨_, List.getElem?_eq_getElem (by have := hML.out; rw [u8s_len] at this; omega)⟩
        obtain ⟨v1, hv1⟩ : ∃ t, tl[1]? = some t := ⟨_, List.getElem?_eq_getElem (by have := hML.out; rw [u8s_len] at this; omega)⟩
        have hq0 : w.cell? ⟨bt, ot, none⟩ = some (.int .u8 (v0.toNat : Int)) := by simpa using hbtc 0 _ (u8s_get hv0)
        have hq1 : w.cell? ⟨bt, ot + 1, none⟩ = some (.int .u8 (v1.toNat : Int)) := hbtc 1 _ (u8s_get hv1)
        have hn0 := v0.toNat_lt
        have hn1 := v1.toNat_lt
        obtain ⟨b0, hb0⟩ : ∃ b, v0.toNat = b := ⟨_, rfl⟩
        obtain ⟨b1, hb1'⟩ : ∃ b, v1.toNat = b := ⟨_, rfl⟩
        rw [hb0] at hq0 hn0
        rw [hb1'] at hq1 hn1
        have hq0 := Lib.hid hq0
        have hq1 := Lib.hid hq1
        obtain ⟨f0, hf0⟩ : ∃ f, b0 % 64 = f := ⟨_, rfl⟩
        obtain ⟨f1, hf1'⟩ : ∃ f, b1 % 8 = f := ⟨_, rfl⟩
        have y0 : (b0 : Int) % 64 = (f0 : Int) := by rw [← hf0]; rfl
        have y1 : (b0 : Int).tmod 64 = (f0 : Int) := by rw [Int.tmod_eq_emod_of_nonneg (by omega)]; exact y0
        have y2 : IntKind.i64.wrap (b0 : Int) = (b0 : Int) := IntWalk.i64_in _ (by omega)
        have y3 : IntKind.i64.wrap (f0 : Int) = (f0 : Int) := IntWalk.i64_in _ (by omega)
        have y4 : (b1 : Int) % 8 = (f1 : Int) := by rw [← hf1']; rfl
        have y5 : (b1 : Int).tmod 8 = (f1 : Int) := by rw [Int.tmod_eq_emod_of_nonneg (by omega)]; exact y4
        have y6 : IntKind.i64.wrap (b1 : Int) = (b1 : Int) := IntWalk.i64_in _ (by omega)
        have y7 : IntKind.i64.wrap (f1 : Int) = (f1 : Int) := IntWalk.i64_in _ (by omega)
        clear hbtc hv0 hv1 hb0 hb1' hf0 hf1'
        go_enter Tryz.func11, Tryz.ntmps11
        go_wp2_with fail
        go_at_call 13
        (with_reducible refine (KN.out _ (G.refl w)).mono ?_)
        rintro e w1 ⟨rfl, hb1⟩
        clear KN
        go_wp2_with fail
        (refine (new_any 1048576 (by decide) (by decide)).mono ?_)
        intro e w2 hr
        obtain ⟨d, rfl, F0⟩ := FD.new (w0 := w) hb1 hr
        have HO := Lib.hid ((Own.of_fd F0).rowNew (devT_frm d _))
        clear hr hb1 F0
        go_wp2_with fail
        go_at_call 25
        have hop := HO.out.fresh HP.out HV.out (rowT_frm _ _ _) rfl rfl (new_good (by decide) (by decide)) (fun f hf => by cases hf) (nm := kn) rfl (lim := (lm : Int)) (by omega) (fun m _ => rfl)
        rw [show B kn = (⟨#[108, 111, 103]⟩ : ByteArray) from rfl] at hop
        (with_reducible refine hop.mono ?_)
        clear hop HO
        rintro e w4 ⟨L0, rfl, s0, hs0, hp0, ho0⟩
        have HO := Lib.hid ho0.assoc
        have hq := G.cell hq0.out ho0.below
        have ltq := cell_lt hq
        dsimp only at ltq
        have HS := Lib.hid hs0
        have HPl := Lib.hid hp0
        clear hs0 hp0 ho0
        go_wp2_with fail
        go_at_call 44
        (with_reducible refine (Own.limit ((logT_frm _ _ _).star (rowT_frm _ _ _)) HO.out (f0 : Int)).mono ?_)
        rintro e w5 ⟨rfl, ho5⟩
        have HO5 := Lib.hid ho5.assoc'
        have HU := Lib.hid (show Upr (limitD s0 (f0 : Int)) ⟨kn, (lm : Int), [], 0⟩ [] 0 1 1 [] from ⟨limit_good HPl.out.good _, HPl.out.nml, HPl.out.up, ⟨HPl.out.inv.nam, HPl.out.inv.lim, HPl.out.inv.parts, HPl.out.inv.dur0, HPl.out.inv.fls⟩, Nat.le_refl _, Int.le_refl _⟩)
        have HBD := Lib.hid (show Bnd 0 (limitD s0 (f0 : Int)) [] from ⟨Nat.le_refl _, HS.out.used, HS.out.cnt, HS.out.room, fun m hm => HS.out.rest m hm⟩)
        clear hq ltq ho5 HO HS HPl
        go_wp2_with fail
        go_loopw [12, 13, 14, 15] (fun rv dvv kv iv wr => ∃ (i : Nat) (s : Ds) (l : Lg) (X : List (List UInt8)) (dv kp : Nat) (A1 : Option Addr) (c1 nx : Nat), i ≤ N ∧ Hid (X.length = nx) ∧ rv = .slice A1 nx c1 ∧ dvv = .int .i64 (dv : Int) ∧ kv = .int .i64 (kp : Int) ∧ iv = .int .i64 (i : Int) ∧ Hid (Own w wr (star (devlog d L0 s l) (rowT A1 c1 X))) ∧ Hid (Bnd i s X) ∧ kp ≤ 50 ∧ dv ≤ 50 ∧ ((∃ n g, Hid (Upr s l X dv kp n g)) ∨ Hid (s.down = true ∧ Rcv s l X dv kp))) (fun _ _ _ iv _ => N - (intOf iv).toNat)
        case atStart => exact ⟨0, _, _, [], 0, 1, none, 0, 0, Nat.zero_le _, Lib.hid rfl, rfl, rfl, rfl, rfl, HO5, HBD, by omega, by omega, .inl ⟨1, [], HU⟩⟩
        case round =>
          obtain ⟨i, s, l, X, dv, kp, A1, c1, nx, hi, hnx, rfl, rfl, rfl, rfl, HO1, HBn, hkp, hdv, hst⟩ := hrel
          clear HO5 HU HBD
          by_cases hlt : i < N
          · have hlt' : (i : Int) < (N : Int) := by omega
            rcases hst with ⟨n, g, HU⟩ | HDn
            · have DN := Lib.hid HO1.out.left.left.down
              rw [HU.out.up] at DN
              obtain ⟨⟨kd0, by0, sz⟩, hx⟩ : ∃ o, ops[i]? = some o := ⟨_, List.getElem?_eq_getElem (by rw [hlen.out]; exact hlt)⟩
              obtain ⟨ga, oa, hA, hal, q0, q1, q2, hf1, hf2⟩ := (HOP.out.grow HO1.out.below).at_ hx
              subst hA
              dsimp only at q0 q1 q2 hf1 hf2
              have ltq := cell_lt q0
              dsimp only at ltq
              have hw9 : IntKind.i64.wrap ((i : Int) + 1) = ((i + 1 : Nat) : Int) := by rw [IntWalk.i64_in _ (by omega)]; omega
              obtain ⟨k8, hk8⟩ : ∃ k, kd0 % 8 = k := ⟨_, rfl⟩
              have hk8l : k8 < 8 := by omega
              have r0 : (kd0 : Int) % 8 = (k8 : Int) := by rw [← hk8]; rfl
              have r1 : (kd0 : Int).tmod 8 = (k8 : Int) := by rw [Int.tmod_eq_emod_of_nonneg (by omega)]; exact r0
              have r2 : IntKind.u8.wrap (k8 : Int) = (k8 : Int) := IntWalk.u8_in _ (by omega)
              have s1 : IntKind.i64.wrap (sz : Int) = (sz : Int) := IntWalk.i64_in _ (by omega)
              obtain ⟨z50, hz50⟩ : ∃ k, sz % 50 = k := ⟨_, rfl⟩
              have hz50l : z50 < 50 := by omega
              have s2 : (sz : Int) % 50 = (z50 : Int) := by rw [← hz50]; rfl
              have s3 : (sz : Int).tmod 50 = (z50 : Int) := by rw [Int.tmod_eq_emod_of_nonneg (by omega)]; exact s2
              have s4 : IntKind.i64.wrap (z50 : Int) = (z50 : Int) := IntWalk.i64_in _ (by omega)
              have hRl : X.length ≤ 40 := by have := HBn.out.len; omega
              clear hx hk8 hz50
              obtain ⟨w5, hw5⟩ : ∃ w5, wr.alloc (.cells #[.int .u8 (kd0 : Int), .int .u8 (by0.toNat : Int), .int .u16 (sz : Int)] 56) = w5 := ⟨_, rfl⟩
              have hb5 : Below wr.heap.size wr w5 := by rw [← hw5]; exact G.alloc (G.refl wr) _
              have x5 : Bx w5 wr.heap.size [.int .u8 (kd0 : Int), .int .u8 (by0.toNat : Int), .int .u16 (sz : Int)] := by rw [← hw5]; exact Bx.new rfl rfl
              obtain ⟨bx, hbx⟩ : ∃ b, wr.heap.size = b := ⟨_, rfl⟩
              rw [hbx] at x5
              have HO5 := Lib.hid (HO1.out.addBox (devlog_frm.star (rowT_frm _ _ _)) hb5 x5 (by omega))
              have d0 := (x5.2 0 _ rfl).1
              have d1 := (x5.2 1 _ rfl).1
              have d2 := (x5.2 2 _ rfl).1
              have ltd := x5.lt
              have FB := Lib.hid (boxT_frm bx [.int .u8 (kd0 : Int), .int .u8 (by0.toNat : Int), .int .u16 (sz : Int)])
              have FY := Lib.hid ((rowT_frm A1 c1 X).star FB.out)
              clear x5
              by_cases h4 : k8 = 4
              · subst h4
                have SY := Lib.hid (Own.SyncR HP.out FY.out HO5.out HU.out)
                go_wp2_with fail
                go_at_call 45
                (with_reducible refine DN.out.mono ?_)
                intro e wx hh
                obtain ⟨rfl, hw⟩ := hh
                have hw2 := hw.symm
                subst hw2
                clear hw
                go_wp2_with fail
                go_at_call 34
                (with_reducible refine SY.out.mono ?_)
                rintro e w7 ⟨t, l', ht, hO, (⟨rfl, hU⟩ | ⟨rfl, hdn, hR⟩)⟩
                · clear d0 d1 d2 ltd SY q0 q1 q2 ltq DN
                  go_wp2_with fail
                  refine ⟨⟨i + 1, t, l', X, nx, kp, A1, c1, nx, by omega, hnx, rfl, rfl, rfl, rfl, Lib.hid hO.assoc'.left, Lib.hid (HBn.out.step ht (by omega) (by omega) (by omega)), hkp, by have := hnx.out; omega, .inl ⟨n, g, Lib.hid (by have := hU; rw [hnx.out] at this; exact this)⟩⟩, by simp [intOf]; omega⟩
                · clear d0 d1 d2 ltd SY q0 q1 q2 ltq DN
                  go_wp2_with fail
                  refine ⟨⟨i + 1, t, l', X, dv, kp, A1, c1, nx, by omega, hnx, rfl, rfl, rfl, rfl, Lib.hid hO.assoc'.left, Lib.hid (HBn.out.step ht (by omega) (by omega) (by omega)), hkp, hdv, .inr (Lib.hid ⟨hdn, hR⟩)⟩, by simp [intOf]; omega⟩
              · by_cases h6 : k8 = 6
                · subst h6
                  have DR := Lib.hid (Own.DropR HP.out FY.out HO5.out HU.out z50)
                  obtain ⟨km, hkm⟩ : ∃ k, max kp z50 = k := ⟨_, rfl⟩
                  rw [hkm] at DR
                  have hmx : max (kp : Int) (z50 : Int) = (km : Int) := by omega
                  have hkm5 : km ≤ 50 := by omega
                  clear hkm
                  go_wp2_with fail
                  go_at_call 45
                  (with_reducible refine DN.out.mono ?_)
                  intro e wx hh
                  obtain ⟨rfl, hw⟩ := hh
                  have hw2 := hw.symm
                  subst hw2
                  clear hw
                  go_wp2_with fail
                  go_at_call 35
                  (with_reducible refine DR.out.mono ?_)
                  rintro e w7 ⟨x, y, t, l', rfl, ht, hO, hor⟩
                  have x7 := hO.right.right.bx
                  clear d0 d1 d2 ltd DR q0 q1 q2 ltq DN
                  have d2 := (x7.2 2 _ rfl).1
                  have ltd := x7.lt
                  clear x7
                  go_wp2_with fail
                  have hor2 : (∃ n g, Hid (Upr t l' X dv km n g)) ∨ Hid (t.down = true ∧ Rcv t l' X dv km) := by
                    rcases hor with ⟨n', g', h⟩ | h
                    · exact .inl ⟨n', g', Lib.hid h⟩
                    · exact .inr (Lib.hid h)
                  refine ⟨⟨i + 1, t, l', X, dv, km, A1, c1, nx, by omega, hnx, rfl, rfl, rfl, rfl, Lib.hid hO.assoc'.left, Lib.hid (HBn.out.step ht (by omega) (by omega) (by omega)), hkm5, hdv, hor2⟩, by simp [intOf]; omega⟩
                · have h4' : ((k8 : Int) == 4) = false := by rw [beq_eq_false_iff_ne]; omega
                  have h6' : ((k8 : Int) == 6) = false := by rw [beq_eq_false_iff_ne]; omega
                  by_cases h5 : k8 = 5
                  · subst h5
                    go_wp2_with fail
                    go_at_call 45
                    (with_reducible refine DN.out.mono ?_)
                    intro e wx hh
                    obtain ⟨rfl, hw⟩ := hh
                    have hw2 := hw.symm
                    subst hw2
                    clear hw
                    go_wp2_with fail
                    refine ⟨⟨i + 1, s, l, X, dv, kp, A1, c1, nx, by omega, hnx, rfl, rfl, rfl, rfl, Lib.hid HO5.out.assoc'.left, Lib.hid HBn.out.more, hkp, hdv, .inl ⟨n, g, HU⟩⟩, by simp [intOf]; omega⟩
                  · by_cases h7 : k8 = 7
                    · subst h7
                      go_wp2_with fail
                      go_at_call 45
                      (with_reducible refine DN.out.mono ?_)
                      intro e wx hh
                      obtain ⟨rfl, hw⟩ := hh
                      have hw2 := hw.symm
                      subst hw2
                      clear hw
                      go_wp2_with fail
                      refine ⟨⟨i + 1, s, l, X, dv, kp, A1, c1, nx, by omega, hnx, rfl, rfl, rfl, rfl, Lib.hid HO5.out.assoc'.left, Lib.hid HBn.out.more, hkp, hdv, .inl ⟨n, g, HU⟩⟩, by simp [intOf]; omega⟩
                    · have h5' : ((k8 : Int) == 5) = false := by rw [beq_eq_false_iff_ne]; omega
                      have h7' : ((k8 : Int) == 7) = false := by rw [beq_eq_false_iff_ne]; omega
                      have hdl := dataL_len by0 sz
                      obtain ⟨dt, hdt⟩ : ∃ d, dataL by0 sz = d := ⟨_, rfl⟩
                      have OD := Lib.hid (fun (wx : World) => opdata_any (.int .u8 (kd0 : Int)) by0 sz hf2 wx)
                      rw [hdt] at OD hdl
                      clear hdt
                      go_wp2_with fail
                      go_at_call 45
                      (with_reducible refine DN.out.mono ?_)
                      intro e wx hh
                      obtain ⟨rfl, hw⟩ := hh
                      have hw2 := hw.symm
                      subst hw2
                      clear hw
                      go_wp2_with fail
                      go_at_call 27
                      (with_reducible refine (OD.out _).mono ?_)
                      rintro e w6 ⟨rfl, hb6⟩
                      have HO6 := HO5.out.grow (devlog_frm.star FY.out) hb6
                      have HO6b := HO6.assoc'.swap.assoc'
                      have HOr := Lib.hid (HO6b.rowGet.alloc (.cells #[.string (B dt)] 9))
                      rw [hnx.out] at HOr
                      have HO6 := Lib.hid HO6b
                      clear hb6 HO6b d0 d1 d2 ltd q0 q1 q2 ltq DN
                      go_wp2_with (at_builtin; refine wpList_appO rfl (.tmp 89) (.tmp 92) _ rfl 0 9 j0 _ 1 16 Tryz.underlying47 hj hjz0 hjz1 hjz2 rfl A1 nx c1 (strB X) rfl HOr.out w6.heap.size 1 [.string (B dt)] rfl rfl (fun j u hu => ((Bx.new (w := w6) (l := [.string (B dt)]) (t := 9) rfl rfl).2 j u hu).1) (by simp [Value.oneCell']) (by unfold maxLen; have := hnx.out; omega) (by have := hnx.out; omega) (Nat.zero_le _) ?_)
                      intro A5 c5 w8 ho hg hP
                      have HO8 := Lib.hid (HO6.out.rowAdd ((boxT_frm _ _).star devlog_frm) (G.alloc (G.refl w6) (.cells #[.string (B dt)] 9)) (by rw [hnx.out]; exact ho) hg (map_ex hP (by simp))).assoc.swap.assoc
                      clear HOr ho hg hP HO6
                      have x8 := HO8.out.right.right.bx
                      have d0 := (x8.2 0 _ rfl).1
                      have d1 := (x8.2 1 _ rfl).1
                      have d2 := (x8.2 2 _ rfl).1
                      have ltd := x8.lt
                      clear x8
                      go_wp2_with fail
                      go_at_call 27
                      (with_reducible refine (OD.out _).mono ?_)
                      rintro e w9 ⟨rfl, hb9⟩
                      have FY2 := Lib.hid ((rowT_frm A5 c5 (X ++ [dt])).star FB.out)
                      have HO9 := Lib.hid (HO8.out.grow (devlog_frm.star FY2.out) hb9)
                      clear hb9 HO8 d0 d1 d2 ltd
                      have AP := Lib.hid (Own.AppendR HP.out FY2.out HO9.out HU.out (dt := dt) (by omega) (by omega) (by have := HBn.out.cnt; omega) (by have := HBn.out.used; have := HBn.out.room; omega))
                      rw [hnx.out] at AP
                      go_wp2_with fail
                      go_at_call 28
                      (with_reducible refine AP.out.mono ?_)
                      rintro e w10 ⟨t, l', ht, hO, (⟨rfl, g', hU⟩ | ⟨rfl, hdn, hR⟩)⟩
                      · clear AP
                        go_wp2_with fail
                        refine ⟨⟨i + 1, t, l', X ++ [dt], dv, kp, A5, c5, nx + 1, by omega, Lib.hid (by rw [List.length_append, hnx.out]; rfl), rfl, rfl, rfl, rfl, Lib.hid hO.assoc'.left, Lib.hid (HBn.out.step ht (by omega) (by omega) (by simp)), hkp, hdv, .inl ⟨n, g', Lib.hid hU⟩⟩, by simp [intOf]; omega⟩
                      · clear AP
                        go_wp2_with fail
                        refine ⟨⟨i + 1, t, l', X ++ [dt], dv, kp, A5, c5, nx + 1, by omega, Lib.hid (by rw [List.length_append, hnx.out]; rfl), rfl, rfl, rfl, rfl, Lib.hid hO.assoc'.left, Lib.hid (HBn.out.step ht (by omega) (by omega) (by simp)), hkp, hdv, .inr (Lib.hid ⟨hdn, hR⟩)⟩, by simp [intOf]; omega⟩
            · have DN := Lib.hid HO1.out.left.left.down
              rw [HDn.out.1] at DN
              have hR := HDn.out.2
              obtain ⟨D, hD⟩ : ∃ D, max (dv : Int) l.dur = D := ⟨_, rfl⟩
              have RO := hR.reopen (tl.drop 2) (f1 : Int) (most := (lm : Int)) (by omega)
              rw [hD] at RO
              replace RO := Lib.hid RO
              have DU := Lib.hid HO1.out.left.Durable
              have hg0 := Lib.hid hR.good
              have hnm0 := Lib.hid hR.nml
              clear hR
              go_wp2_with fail
              go_at_call 45
              (with_reducible refine DN.out.mono ?_)
              intro e wx hh
              obtain ⟨rfl, hw⟩ := hh
              have hw2 := hw.symm
              subst hw2
              clear hw DN
              go_wp2_with fail
              go_at_call 41
              (with_reducible refine DU.out.mono ?_)
              intro e wx hh
              obtain ⟨rfl, hw⟩ := hh
              have hw2 := hw.symm
              subst hw2
              clear hw DU
              go_wp2_with fail
              go_at_call 43
              (with_reducible refine (Own.crash ((logT_frm _ _ _).star (rowT_frm _ _ _)) HO1.out.assoc).mono ?_)
              rintro e wc ⟨rfl, hoc⟩
              have HOc := Lib.hid hoc
              clear hoc
              go_wp2_with fail
              have ST := Own.start (c := cb - 2) ((logT_frm _ _ _).star (rowT_frm _ _ _)) HOc.out (crash_good hg0.out) (sl_drop HTL.out.1 (by omega) 2 (by omega)) hbtl (by omega) (by omega)
              go_at_call 46
              (with_reducible refine ST.mono ?_)
              clear ST
              rintro e ws ⟨rfl, hos⟩
              have HOs := Lib.hid hos
              have hq := G.cell hq1.out hos.below
              have ltq := cell_lt hq
              dsimp only at ltq
              clear hos HOc
              go_wp2_with fail
              go_at_call 44
              (with_reducible refine (Own.limit ((logT_frm _ _ _).star (rowT_frm _ _ _)) HOs.out (f1 : Int)).mono ?_)
              rintro e wl ⟨rfl, hol⟩
              have HOl := Lib.hid hol
              clear hol hq ltq HOs
              have hgl := Lib.hid (limit_good (start_good (crash_good hg0.out) (tl.drop 2)) (f1 : Int))
              have hnl : NmL (limitD (startD { s with down := true } (tl.drop 2)) (f1 : Int)).fs := nml_start hnm0.out _
              have hop := Own.Open HP.out HV.out ((logT_frm _ _ _).star (rowT_frm _ _ _)) HOl.out hgl.out hnl kn (lm : Int)
              rw [show B kn = (⟨#[108, 111, 103]⟩ : ByteArray) from rfl] at hop
              rcases RO.out with ⟨u, l2, R, n, g, eO, hF, hS⟩ | ⟨t, eO, td, tg, tn, hS, hall⟩
              · rw [eO] at hop
                replace hop := Lib.hid hop
                have HF := Lib.hid hF
                have HS := Lib.hid hS
                clear RO hnl hF hS eO
                go_wp2_with fail
                go_at_call 25
                (with_reducible refine hop.out.mono ?_)
                clear hop
                rintro e wo (⟨x, s', he, _, _⟩ | ⟨s', l', L', he, rfl, hO⟩)
                · cases he
                · simp only [Prod.mk.injEq, Option.some.injEq, true_and] at he
                  obtain ⟨rfl, rfl⟩ := he
                  have HO := Lib.hid hO
                  clear hO HOl
                  go_wp2_with fail
                  have HRM := Lib.hid (((((HBn.out.rm (by omega)).crash).start (crash_good hg0.out) (tl.drop 2)).lmt (f1 : Int)).stp HS.out)
                  have hRX := HF.out.pre.length_le
                  have hI := HF.out.inv
                  obtain ⟨nR, hnR⟩ : ∃ k, R.length = k := ⟨_, rfl⟩
                  rw [hnR, hnx.out] at hRX
                  have hDl : ¬ (nR : Int) < D := by have := HF.out.least; omega
                  have hRx : ¬ (nx : Int) < (nR : Int) := by omega
                  obtain ⟨k1, hk1⟩ : ∃ k, max kp 1 = k := ⟨_, rfl⟩
                  have hmk : max (kp : Int) 1 = (k1 : Int) := by omega
                  have hnk : ¬ (k1 : Int) < (n : Int) := by have := HF.out.n; omega
                  go_at_call 44
                  (with_reducible refine (Own.limit ((logT_frm _ _ _).star ((logT_frm _ _ _).star (rowT_frm _ _ _))) HO.out.assoc 1048576).mono ?_)
                  rintro e wm ⟨rfl, hom⟩
                  have HM := Lib.hid hom.assoc'
                  clear hom HO
                  have hla : l2.last = (nR : Int) := by rw [hI.last, hnR]
                  have hdu : l2.dur = (nR : Int) := by rw [HF.out.dur, hnR]
                  have LA := Lib.hid (fun (wx : World) (hb : Below wm.heap.size wm wx) => (HM.out.grow (devlog_frm.star ((logT_frm _ _ _).star (rowT_frm _ _ _))) hb).left.Last hI.ok)
                  have FI := Lib.hid (fun (wx : World) (hb : Below wm.heap.size wm wx) => (HM.out.grow (devlog_frm.star ((logT_frm _ _ _).star (rowT_frm _ _ _))) hb).left.First)
                  have DU := Lib.hid (fun (wx : World) (hb : Below wm.heap.size wm wx) => (HM.out.grow (devlog_frm.star ((logT_frm _ _ _).star (rowT_frm _ _ _))) hb).left.Durable)
                  rw [hla] at LA
                  rw [hI.frst] at FI
                  rw [hdu] at DU
                  clear hla hdu
                  replace hk1 := Lib.hid hk1
                  replace hnR := Lib.hid hnR
                  replace hI := Lib.hid hI
                  go_wp2_with fail
                  go_at_call 33
                  (with_reducible refine (LA.out _ (G.refl _)).mono ?_)
                  rintro e wa ⟨rfl, ha⟩
                  go_wp2_with fail
                  go_at_call 33
                  (with_reducible refine (LA.out _ ha).mono ?_)
                  rintro e wb ⟨rfl, hb⟩
                  replace hb := G.trans ha hb
                  clear ha
                  go_wp2_with fail
                  go_at_call 40
                  (with_reducible refine (FI.out _ hb).mono ?_)
                  rintro e wc2 ⟨rfl, hc⟩
                  replace hc := G.trans hb hc
                  clear hb
                  go_wp2_with fail
                  go_at_call 41
                  (with_reducible refine (DU.out _ hc).mono ?_)
                  intro e wx hh
                  obtain ⟨rfl, hw⟩ := hh
                  have hw2 := hw.symm
                  subst hw2
                  clear hw
                  go_wp2_with fail
                  go_at_call 33
                  (with_reducible refine (LA.out _ hc).mono ?_)
                  rintro e wd ⟨rfl, hd⟩
                  replace hd := G.trans hc hd
                  clear hc
                  go_wp2_with fail
                  go_at_call 40
                  (with_reducible refine (FI.out _ hd).mono ?_)
                  rintro e we ⟨rfl, he⟩
                  replace he := Lib.hid (G.trans hd he)
                  clear hd
                  go_wp2_with fail
                  have hnR1 : n ≤ nR + 1 := by have := hI.out.fls.shp.nR; have := hnR.out; omega
                  have hn1' : 1 ≤ n := hI.out.fls.shp.n1
                  have hnx40 : nx ≤ 40 := by have := HBn.out.len; have := hnx.out; omega
                  go_loopw [19] (fun iv wx => ∃ j : Nat, n ≤ j ∧ j ≤ nR + 1 ∧ iv = .int .i64 (j : Int) ∧ Hid (Below wm.heap.size wm wx)) (fun iv _ => nR + 2 - (intOf iv).toNat)
                  case atStart => exact ⟨n, Nat.le_refl _, hnR1, rfl, he⟩
                  case round =>
                    clear he
                    obtain ⟨j, hj1, hj2, rfl, HG⟩ := hrel
                    by_cases hjl : j ≤ nR
                    · have hjl' : (j : Int) ≤ (nR : Int) := by omega
                      obtain ⟨J, hJ⟩ : ∃ J, j - 1 = J := ⟨_, rfl⟩
                      obtain ⟨x, hx⟩ : ∃ x, R[J]? = some x := ⟨_, List.getElem?_eq_getElem (by have := hnR.out; omega)⟩
                      have hxX : X[J]? = some x := by
                        obtain ⟨tlX, htX⟩ := HF.out.pre
                        rw [← htX, List.getElem?_append_left (by have := hnR.out; omega)]
                        exact hx
                      have RD := Lib.hid (fun (wx : World) (hb : Below wm.heap.size wm wx) => Own.ReadF HP.out (HM.out.grow (devlog_frm.star ((logT_frm _ _ _).star (rowT_frm _ _ _))) hb).left (hI.out.lmt 1048576) (limit_good HF.out.good 1048576) HF.out.up hj1 (by rw [hJ]; exact hx))
                      have RW := Lib.hid (fun (wx : World) (hb : Below wm.heap.size wm wx) => (HM.out.grow (devlog_frm.star ((logT_frm _ _ _).star (rowT_frm _ _ _))) hb).right.right.choose_spec.1.1)
                      rw [hnx.out] at RW
                      have a1 : IntKind.i64.wrap ((j : Int) - 1) = (J : Int) := by rw [IntWalk.i64_in _ (by omega)]; omega
                      have a2 : IntKind.i64.wrap ((j : Int) + 1) = ((j + 1 : Nat) : Int) := by rw [IntWalk.i64_in _ (by omega)]; omega
                      have hJn : J < nx := by omega
                      have hJn' : (J : Int) < (nx : Int) := by omega
                      clear hx hJ
                      go_wp2_with fail
                      go_at_call 33
                      (with_reducible refine (LA.out _ HG.out).mono ?_)
                      rintro e wf ⟨rfl, hf⟩
                      replace hf := G.trans HG.out hf
                      go_wp2_with fail
                      go_at_call 32
                      (with_reducible refine (RD.out _ hf).mono ?_)
                      rintro e wg ⟨rfl, hg⟩
                      replace hg := G.trans hf hg
                      obtain ⟨gA, gO, hAe, hgll, hgcc⟩ := ownO_ptr (RW.out _ hg) (by omega)
                      subst hAe
                      have q1 := hgcc J _ (strB_get hxX)
                      have lt1 := cell_lt q1
                      dsimp only at lt1
                      replace hg := Lib.hid hg
                      clear hgcc hf
                      go_wp2_with fail
                      refine ⟨⟨j + 1, by omega, by omega, rfl, hg⟩, by simp [intOf]; omega⟩
                    · have hjl' : ¬ (j : Int) ≤ (nR : Int) := by omega
                      go_wp2_with fail
                      go_at_call 33
                      (with_reducible refine (LA.out _ HG.out).mono ?_)
                      rintro e wf ⟨rfl, hf⟩
                      replace hf := G.trans HG.out hf
                      go_wp2_with fail
                      have HI2 := Lib.hid (hI.out.lmt 1048576)
                      have HW := Lib.hid (HM.out.grow (devlog_frm.star ((logT_frm _ _ _).star (rowT_frm _ _ _))) hf)
                      obtain ⟨nn, hnn⟩ : ∃ k, nR + 1 = k := ⟨_, rfl⟩
                      have AF := Own.AppendF HP.out ((logT_frm _ _ _).star (rowT_frm _ _ _)) HW.out HI2.out (limit_good HF.out.good 1048576) HF.out.up (dt := kag) (by show (2 : Int) < max 0 1048576 ∧ max (0 : Int) 1048576 ≤ 4611686018427387904; decide) (by have := hnR.out; omega) (by decide) (by have := HRM.out.cnt; show u.fs.length < 4096; omega) (by have h1 := HRM.out.used; have h2 := HRM.out.room; show ((usedC u.fs + (16 + 5) : Nat) : Int) ≤ u.room; omega)
                      rw [show B kag = (⟨#[97, 103, 97, 105, 110]⟩ : ByteArray) from rfl, hnR.out, hnn] at AF
                      replace AF := Lib.hid AF
                      clear LA FI DU hf hg0 hnm0
                      go_wp2_with fail
                      go_at_call 28
                      (with_reducible refine AF.out.mono ?_)
                      clear AF
                      rintro e wg ⟨rfl, t2, l3, g2, ht2, hdn2, hgd2, hI3, hO3⟩
                      have hla3 : l3.last = (nn : Int) := by rw [hI3.last, List.length_append]; have := hnR.out; simp only [List.length_cons, List.length_nil]; omega
                      have RD2 := Own.ReadF HP.out hO3.left hI3 hgd2 hdn2 (k := nn) (by omega) (x := kag) (by rw [show nn - 1 = R.length by have := hnR.out; omega]; simp)
                      rw [show B kag = (⟨#[97, 103, 97, 105, 110]⟩ : ByteArray) from rfl] at RD2
                      replace RD2 := Lib.hid RD2
                      have HX := Lib.hid hO3
                      replace hI3 := Lib.hid hI3
                      replace hgd2 := Lib.hid hgd2
                      replace hdn2 := Lib.hid hdn2
                      replace hla3 := Lib.hid hla3
                      replace hnn := Lib.hid hnn
                      clear hO3
                      go_wp2_with fail
                      go_at_call 32
                      (with_reducible refine RD2.out.mono ?_)
                      clear RD2
                      rintro e wh ⟨rfl, hh⟩
                      have HX2 := Lib.hid (HX.out.grow (devlog_frm.star ((logT_frm _ _ _).star (rowT_frm _ _ _))) hh)
                      clear hh
                      have LA2 := HX2.out.left.Last hI3.out.ok
                      rw [hla3.out] at LA2
                      replace LA2 := Lib.hid LA2
                      go_wp2_with fail
                      go_at_call 33
                      (with_reducible refine LA2.out.mono ?_)
                      clear LA2
                      rintro e wi ⟨rfl, hh⟩
                      have HX3 := Lib.hid (HX2.out.grow (devlog_frm.star ((logT_frm _ _ _).star (rowT_frm _ _ _))) hh)
                      clear hh
                      have hlf : 0 < t2.left := by
                        have h1 := ht2.left (show (3 : Int) ≤ max 0 1048576 by decide) (show max (0 : Int) 1048576 ≤ 4611686018427387904 by decide)
                        have h2 : max (0 : Int) 1048576 - 3 ≤ t2.left := h1.1
                        have h3 : max (0 : Int) 1048576 = 1048576 := by decide
                        omega
                      have SY := Lib.hid (Own.SyncF HP.out ((logT_frm _ _ _).star (rowT_frm _ _ _)) HX3.out hI3.out hgd2.out hdn2.out hlf)
                      clear hlf
                      go_wp2_with fail
                      go_at_call 34
                      (with_reducible refine SY.out.mono ?_)
                      clear SY
                      rintro e wj ⟨rfl, t4, l4, hdur, hO4⟩
                      have hdu4 : l4.dur = (nn : Int) := by rw [hdur, List.length_append]; have := hnR.out; have := hnn.out; simp only [List.length_cons, List.length_nil]; omega
                      have DU4 := hO4.left.Durable
                      rw [hdu4] at DU4
                      replace DU4 := Lib.hid DU4
                      have hbl := Lib.hid hO4.below
                      clear hdu4 hdur hO4
                      go_wp2_with fail
                      go_at_call 41
                      (with_reducible refine DU4.out.mono ?_)
                      intro e wx hh
                      obtain ⟨rfl, hw⟩ := hh
                      have hw2 := hw.symm
                      subst hw2
                      clear hw
                      go_wp2_with fail
                      go_ret
                      exact ⟨rfl, hbl.out⟩
              · rw [eO] at hop
                replace hop := Lib.hid hop
                have HS := Lib.hid hS
                have HA := Lib.hid hall
                have HT := Lib.hid (show t.down = true ∧ t.Good ∧ NmL t.fs from ⟨td, tg, tn⟩)
                clear RO hnl hS hall eO td tg tn
                go_wp2_with fail
                go_at_call 25
                (with_reducible refine hop.out.mono ?_)
                clear hop
                rintro e wo (⟨x, s', he, rfl, hO⟩ | ⟨s', l', L', he, _, _⟩)
                · simp only [Prod.mk.injEq, and_true] at he
                  obtain ⟨rfl, rfl⟩ := he
                  have HOo := Lib.hid hO
                  clear hO HOl
                  go_wp2_with fail
                  have ST := Own.start (c := cb - 1) ((logT_frm _ _ _).star (rowT_frm _ _ _)) HOo.out HT.out.2.1 (sl_drop HTL.out.1 (by omega) 1 (by omega)) hbtl (by omega) (by omega)
                  go_at_call 46
                  (with_reducible refine ST.mono ?_)
                  clear ST
                  rintro e wt ⟨rfl, hot⟩
                  have HOt := Lib.hid hot
                  clear hot HOo
                  obtain ⟨u, l2, R, n, g, eO2, hF, hS2⟩ := HA.out (tl.drop 1)
                  have hnl : NmL (startD t (tl.drop 1)).fs := by unfold startD; rw [if_pos HT.out.1]; exact nml_start HT.out.2.2 _
                  have hop := Own.Open HP.out HV.out ((logT_frm _ _ _).star (rowT_frm _ _ _)) HOt.out (start_good HT.out.2.1 (tl.drop 1)) hnl kn (lm : Int)
                  rw [show B kn = (⟨#[108, 111, 103]⟩ : ByteArray) from rfl, eO2] at hop
                  replace hop := Lib.hid hop
                  have HF := Lib.hid hF
                  have HS2 := Lib.hid hS2
                  clear hF hS2 eO2 HA hnl
                  go_wp2_with fail
                  go_at_call 25
                  (with_reducible refine hop.out.mono ?_)
                  clear hop
                  rintro e wo (⟨x, s', he, _, _⟩ | ⟨s', l', L', he, rfl, hO⟩)
                  · cases he
                  · simp only [Prod.mk.injEq, Option.some.injEq, true_and] at he
                    obtain ⟨rfl, rfl⟩ := he
                    have HO := Lib.hid hO
                    clear hO HOt
                    go_wp2_with fail
                    have HRM := Lib.hid (((((((HBn.out.rm (by omega)).crash).start (crash_good hg0.out) (tl.drop 2)).lmt (f1 : Int)).stp HS.out).start HT.out.2.1 (tl.drop 1)).stp HS2.out)
                    have hRX := HF.out.pre.length_le
                    have hI := HF.out.inv
                    obtain ⟨nR, hnR⟩ : ∃ k, R.length = k := ⟨_, rfl⟩
                    rw [hnR, hnx.out] at hRX
                    have hDl : ¬ (nR : Int) < D := by have := HF.out.least; omega
                    have hRx : ¬ (nx : Int) < (nR : Int) := by omega
                    obtain ⟨k1, hk1⟩ : ∃ k, max kp 1 = k := ⟨_, rfl⟩
                    have hmk : max (kp : Int) 1 = (k1 : Int) := by omega
                    have hnk : ¬ (k1 : Int) < (n : Int) := by have := HF.out.n; omega
                    go_at_call 44
                    (with_reducible refine (Own.limit ((logT_frm _ _ _).star ((logT_frm _ _ _).star (rowT_frm _ _ _))) HO.out.assoc 1048576).mono ?_)
                    rintro e wm ⟨rfl, hom⟩
                    have HM := Lib.hid hom.assoc'
                    clear hom HO
                    have hla : l2.last = (nR : Int) := by rw [hI.last, hnR]
                    have hdu : l2.dur = (nR : Int) := by rw [HF.out.dur, hnR]
                    have LA := Lib.hid (fun (wx : World) (hb : Below wm.heap.size wm wx) => (HM.out.grow (devlog_frm.star ((logT_frm _ _ _).star (rowT_frm _ _ _))) hb).left.Last hI.ok)
                    have FI := Lib.hid (fun (wx : World) (hb : Below wm.heap.size wm wx) => (HM.out.grow (devlog_frm.star ((logT_frm _ _ _).star (rowT_frm _ _ _))) hb).left.First)
                    have DU := Lib.hid (fun (wx : World) (hb : Below wm.heap.size wm wx) => (HM.out.grow (devlog_frm.star ((logT_frm _ _ _).star (rowT_frm _ _ _))) hb).left.Durable)
                    rw [hla] at LA
                    rw [hI.frst] at FI
                    rw [hdu] at DU
                    clear hla hdu
                    replace hk1 := Lib.hid hk1
                    replace hnR := Lib.hid hnR
                    replace hI := Lib.hid hI
                    go_wp2_with fail
                    go_at_call 33
                    (with_reducible refine (LA.out _ (G.refl _)).mono ?_)
                    rintro e wa ⟨rfl, ha⟩
                    go_wp2_with fail
                    go_at_call 33
                    (with_reducible refine (LA.out _ ha).mono ?_)
                    rintro e wb ⟨rfl, hb⟩
                    replace hb := G.trans ha hb
                    clear ha
                    go_wp2_with fail
                    go_at_call 40
                    (with_reducible refine (FI.out _ hb).mono ?_)
                    rintro e wc2 ⟨rfl, hc⟩
                    replace hc := G.trans hb hc
                    clear hb
                    go_wp2_with fail
                    go_at_call 41
                    (with_reducible refine (DU.out _ hc).mono ?_)
                    intro e wx hh
                    obtain ⟨rfl, hw⟩ := hh
                    have hw2 := hw.symm
                    subst hw2
                    clear hw
                    go_wp2_with fail
                    go_at_call 33
                    (with_reducible refine (LA.out _ hc).mono ?_)
                    rintro e wd ⟨rfl, hd⟩
                    replace hd := G.trans hc hd
                    clear hc
                    go_wp2_with fail
                    go_at_call 40
                    (with_reducible refine (FI.out _ hd).mono ?_)
                    rintro e we ⟨rfl, he⟩
                    replace he := Lib.hid (G.trans hd he)
                    clear hd
                    go_wp2_with fail
                    have hnR1 : n ≤ nR + 1 := by have := hI.out.fls.shp.nR; have := hnR.out; omega
                    have hn1' : 1 ≤ n := hI.out.fls.shp.n1
                    have hnx40 : nx ≤ 40 := by have := HBn.out.len; have := hnx.out; omega
                    go_loopw [19] (fun iv wx => ∃ j : Nat, n ≤ j ∧ j ≤ nR + 1 ∧ iv = .int .i64 (j : Int) ∧ Hid (Below wm.heap.size wm wx)) (fun iv _ => nR + 2 - (intOf iv).toNat)
                    case atStart => exact ⟨n, Nat.le_refl _, hnR1, rfl, he⟩
                    case round =>
                      clear he
                      obtain ⟨j, hj1, hj2, rfl, HG⟩ := hrel
                      by_cases hjl : j ≤ nR
                      · have hjl' : (j : Int) ≤ (nR : Int) := by omega
                        obtain ⟨J, hJ⟩ : ∃ J, j - 1 = J := ⟨_, rfl⟩
                        obtain ⟨x, hx⟩ : ∃ x, R[J]? = some x := ⟨_, List.getElem?_eq_getElem (by have := hnR.out; omega)⟩
                        have hxX : X[J]? = some x := by
                          obtain ⟨tlX, htX⟩ := HF.out.pre
                          rw [← htX, List.getElem?_append_left (by have := hnR.out; omega)]
                          exact hx
                        have RD := Lib.hid (fun (wx : World) (hb : Below wm.heap.size wm wx) => Own.ReadF HP.out (HM.out.grow (devlog_frm.star ((logT_frm _ _ _).star (rowT_frm _ _ _))) hb).left (hI.out.lmt 1048576) (limit_good HF.out.good 1048576) HF.out.up hj1 (by rw [hJ]; exact hx))
                        have RW := Lib.hid (fun (wx : World) (hb : Below wm.heap.size wm wx) => (HM.out.grow (devlog_frm.star ((logT_frm _ _ _).star (rowT_frm _ _ _))) hb).right.right.choose_spec.1.1)
                        rw [hnx.out] at RW
                        have a1 : IntKind.i64.wrap ((j : Int) - 1) = (J : Int) := by rw [IntWalk.i64_in _ (by omega)]; omega
                        have a2 : IntKind.i64.wrap ((j : Int) + 1) = ((j + 1 : Nat) : Int) := by rw [IntWalk.i64_in _ (by omega)]; omega
                        have hJn : J < nx := by omega
                        have hJn' : (J : Int) < (nx : Int) := by omega
                        clear hx hJ
                        go_wp2_with fail
                        go_at_call 33
                        (with_reducible refine (LA.out _ HG.out).mono ?_)
                        rintro e wf ⟨rfl, hf⟩
                        replace hf := G.trans HG.out hf
                        go_wp2_with fail
                        go_at_call 32
                        (with_reducible refine (RD.out _ hf).mono ?_)
                        rintro e wg ⟨rfl, hg⟩
                        replace hg := G.trans hf hg
                        obtain ⟨gA, gO, hAe, hgll, hgcc⟩ := ownO_ptr (RW.out _ hg) (by omega)
                        subst hAe
                        have q1 := hgcc J _ (strB_get hxX)
                        have lt1 := cell_lt q1
                        dsimp only at lt1
                        replace hg := Lib.hid hg
                        clear hgcc hf
                        go_wp2_with fail
                        refine ⟨⟨j + 1, by omega, by omega, rfl, hg⟩, by simp [intOf]; omega⟩
                      · have hjl' : ¬ (j : Int) ≤ (nR : Int) := by omega
                        go_wp2_with fail
                        go_at_call 33
                        (with_reducible refine (LA.out _ HG.out).mono ?_)
                        rintro e wf ⟨rfl, hf⟩
                        replace hf := G.trans HG.out hf
                        go_wp2_with fail
                        have HI2 := Lib.hid (hI.out.lmt 1048576)
                        have HW := Lib.hid (HM.out.grow (devlog_frm.star ((logT_frm _ _ _).star (rowT_frm _ _ _))) hf)
                        obtain ⟨nn, hnn⟩ : ∃ k, nR + 1 = k := ⟨_, rfl⟩
                        have AF := Own.AppendF HP.out ((logT_frm _ _ _).star (rowT_frm _ _ _)) HW.out HI2.out (limit_good HF.out.good 1048576) HF.out.up (dt := kag) (by show (2 : Int) < max 0 1048576 ∧ max (0 : Int) 1048576 ≤ 4611686018427387904; decide) (by have := hnR.out; omega) (by decide) (by have := HRM.out.cnt; show u.fs.length < 4096; omega) (by have h1 := HRM.out.used; have h2 := HRM.out.room; show ((usedC u.fs + (16 + 5) : Nat) : Int) ≤ u.room; omega)
                        rw [show B kag = (⟨#[97, 103, 97, 105, 110]⟩ : ByteArray) from rfl, hnR.out, hnn] at AF
                        replace AF := Lib.hid AF
                        clear LA FI DU hf hg0 hnm0
                        go_wp2_with fail
                        go_at_call 28
                        (with_reducible refine AF.out.mono ?_)
                        clear AF
                        rintro e wg ⟨rfl, t2, l3, g2, ht2, hdn2, hgd2, hI3, hO3⟩
                        have hla3 : l3.last = (nn : Int) := by rw [hI3.last, List.length_append]; have := hnR.out; simp only [List.length_cons, List.length_nil]; omega
                        have RD2 := Own.ReadF HP.out hO3.left hI3 hgd2 hdn2 (k := nn) (by omega) (x := kag) (by rw [show nn - 1 = R.length by have := hnR.out; omega]; simp)
                        rw [show B kag = (⟨#[97, 103, 97, 105, 110]⟩ : ByteArray) from rfl] at RD2
                        replace RD2 := Lib.hid RD2
                        have HX := Lib.hid hO3
                        replace hI3 := Lib.hid hI3
                        replace hgd2 := Lib.hid hgd2
                        replace hdn2 := Lib.hid hdn2
                        replace hla3 := Lib.hid hla3
                        replace hnn := Lib.hid hnn
                        clear hO3
                        go_wp2_with fail
                        go_at_call 32
                        (with_reducible refine RD2.out.mono ?_)
                        clear RD2
                        rintro e wh ⟨rfl, hh⟩
                        have HX2 := Lib.hid (HX.out.grow (devlog_frm.star ((logT_frm _ _ _).star (rowT_frm _ _ _))) hh)
                        clear hh
                        have LA2 := HX2.out.left.Last hI3.out.ok
                        rw [hla3.out] at LA2
                        replace LA2 := Lib.hid LA2
                        go_wp2_with fail
                        go_at_call 33
                        (with_reducible refine LA2.out.mono ?_)
                        clear LA2
                        rintro e wi ⟨rfl, hh⟩
                        have HX3 := Lib.hid (HX2.out.grow (devlog_frm.star ((logT_frm _ _ _).star (rowT_frm _ _ _))) hh)
                        clear hh
                        have hlf : 0 < t2.left := by
                          have h1 := ht2.left (show (3 : Int) ≤ max 0 1048576 by decide) (show max (0 : Int) 1048576 ≤ 4611686018427387904 by decide)
                          have h2 : max (0 : Int) 1048576 - 3 ≤ t2.left := h1.1
                          have h3 : max (0 : Int) 1048576 = 1048576 := by decide
                          omega
                        have SY := Lib.hid (Own.SyncF HP.out ((logT_frm _ _ _).star (rowT_frm _ _ _)) HX3.out hI3.out hgd2.out hdn2.out hlf)
                        clear hlf
                        go_wp2_with fail
                        go_at_call 34
                        (with_reducible refine SY.out.mono ?_)
                        clear SY
                        rintro e wj ⟨rfl, t4, l4, hdur, hO4⟩
                        have hdu4 : l4.dur = (nn : Int) := by rw [hdur, List.length_append]; have := hnR.out; have := hnn.out; simp only [List.length_cons, List.length_nil]; omega
                        have DU4 := hO4.left.Durable
                        rw [hdu4] at DU4
                        replace DU4 := Lib.hid DU4
                        have hbl := Lib.hid hO4.below
                        clear hdu4 hdur hO4
                        go_wp2_with fail
                        go_at_call 41
                        (with_reducible refine DU4.out.mono ?_)
                        intro e wx hh
                        obtain ⟨rfl, hw⟩ := hh
                        have hw2 := hw.symm
                        subst hw2
                        clear hw
                        go_wp2_with fail
                        go_ret
                        exact ⟨rfl, hbl.out⟩
                · cases he
          · have hlt' : ¬ (i : Int) < (N : Int) := by omega
            have hR : Rcv s l X dv kp := by
              rcases hst with ⟨n, g, HU⟩ | HDn
              · exact HU.out.rcv
              · exact HDn.out.2
            clear hst
            obtain ⟨D, hD⟩ : ∃ D, max (dv : Int) l.dur = D := ⟨_, rfl⟩
            have RO := hR.reopen (tl.drop 2) (f1 : Int) (most := (lm : Int)) (by omega)
            rw [hD] at RO
            replace RO := Lib.hid RO
            have DU := Lib.hid HO1.out.left.Durable
            have hg0 := Lib.hid hR.good
            have hnm0 := Lib.hid hR.nml
            clear hR
            go_wp2_with fail
            go_at_call 41
            (with_reducible refine DU.out.mono ?_)
            intro e wx hh
            obtain ⟨rfl, hw⟩ := hh
            have hw2 := hw.symm
            subst hw2
            clear hw DU
            go_wp2_with fail
            go_at_call 43
            (with_reducible refine (Own.crash ((logT_frm _ _ _).star (rowT_frm _ _ _)) HO1.out.assoc).mono ?_)
            rintro e wc ⟨rfl, hoc⟩
            have HOc := Lib.hid hoc
            clear hoc
            go_wp2_with fail
            have ST := Own.start (c := cb - 2) ((logT_frm _ _ _).star (rowT_frm _ _ _)) HOc.out (crash_good hg0.out) (sl_drop HTL.out.1 (by omega) 2 (by omega)) hbtl (by omega) (by omega)
            go_at_call 46
            (with_reducible refine ST.mono ?_)
            clear ST
            rintro e ws ⟨rfl, hos⟩
            have HOs := Lib.hid hos
            have hq := G.cell hq1.out hos.below
            have ltq := cell_lt hq
            dsimp only at ltq
            clear hos HOc
            go_wp2_with fail
            go_at_call 44
            (with_reducible refine (Own.limit ((logT_frm _ _ _).star (rowT_frm _ _ _)) HOs.out (f1 : Int)).mono ?_)
            rintro e wl ⟨rfl, hol⟩
            have HOl := Lib.hid hol
            clear hol hq ltq HOs
            have hgl := Lib.hid (limit_good (start_good (crash_good hg0.out) (tl.drop 2)) (f1 : Int))
            have hnl : NmL (limitD (startD { s with down := true } (tl.drop 2)) (f1 : Int)).fs := nml_start hnm0.out _
            have hop := Own.Open HP.out HV.out ((logT_frm _ _ _).star (rowT_frm _ _ _)) HOl.out hgl.out hnl kn (lm : Int)
            rw [show B kn = (⟨#[108, 111, 103]⟩ : ByteArray) from rfl] at hop
            rcases RO.out with ⟨u, l2, R, n, g, eO, hF, hS⟩ | ⟨t, eO, td, tg, tn, hS, hall⟩
            · rw [eO] at hop
              replace hop := Lib.hid hop
              have HF := Lib.hid hF
              have HS := Lib.hid hS
              clear RO hnl hF hS eO
              go_wp2_with fail
              go_at_call 25
              (with_reducible refine hop.out.mono ?_)
              clear hop
              rintro e wo (⟨x, s', he, _, _⟩ | ⟨s', l', L', he, rfl, hO⟩)
              · cases he
              · simp only [Prod.mk.injEq, Option.some.injEq, true_and] at he
                obtain ⟨rfl, rfl⟩ := he
                have HO := Lib.hid hO
                clear hO HOl
                go_wp2_with fail
                have HRM := Lib.hid (((((HBn.out.rm (by omega)).crash).start (crash_good hg0.out) (tl.drop 2)).lmt (f1 : Int)).stp HS.out)
                have hRX := HF.out.pre.length_le
                have hI := HF.out.inv
                obtain ⟨nR, hnR⟩ : ∃ k, R.length = k := ⟨_, rfl⟩
                rw [hnR, hnx.out] at hRX
                have hDl : ¬ (nR : Int) < D := by have := HF.out.least; omega
                have hRx : ¬ (nx : Int) < (nR : Int) := by omega
                obtain ⟨k1, hk1⟩ : ∃ k, max kp 1 = k := ⟨_, rfl⟩
                have hmk : max (kp : Int) 1 = (k1 : Int) := by omega
                have hnk : ¬ (k1 : Int) < (n : Int) := by have := HF.out.n; omega
                go_at_call 44
                (with_reducible refine (Own.limit ((logT_frm _ _ _).star ((logT_frm _ _ _).star (rowT_frm _ _ _))) HO.out.assoc 1048576).mono ?_)
                rintro e wm ⟨rfl, hom⟩
                have HM := Lib.hid hom.assoc'
                clear hom HO
                have hla : l2.last = (nR : Int) := by rw [hI.last, hnR]
                have hdu : l2.dur = (nR : Int) := by rw [HF.out.dur, hnR]
                have LA := Lib.hid (fun (wx : World) (hb : Below wm.heap.size wm wx) => (HM.out.grow (devlog_frm.star ((logT_frm _ _ _).star (rowT_frm _ _ _))) hb).left.Last hI.ok)
                have FI := Lib.hid (fun (wx : World) (hb : Below wm.heap.size wm wx) => (HM.out.grow (devlog_frm.star ((logT_frm _ _ _).star (rowT_frm _ _ _))) hb).left.First)
                have DU := Lib.hid (fun (wx : World) (hb : Below wm.heap.size wm wx) => (HM.out.grow (devlog_frm.star ((logT_frm _ _ _).star (rowT_frm _ _ _))) hb).left.Durable)
                rw [hla] at LA
                rw [hI.frst] at FI
                rw [hdu] at DU
                clear hla hdu
                replace hk1 := Lib.hid hk1
                replace hnR := Lib.hid hnR
                replace hI := Lib.hid hI
                go_wp2_with fail
                go_at_call 33
                (with_reducible refine (LA.out _ (G.refl _)).mono ?_)
                rintro e wa ⟨rfl, ha⟩
                go_wp2_with fail
                go_at_call 33
                (with_reducible refine (LA.out _ ha).mono ?_)
                rintro e wb ⟨rfl, hb⟩
                replace hb := G.trans ha hb
                clear ha
                go_wp2_with fail
                go_at_call 40
                (with_reducible refine (FI.out _ hb).mono ?_)
                rintro e wc2 ⟨rfl, hc⟩
                replace hc := G.trans hb hc
                clear hb
                go_wp2_with fail
                go_at_call 41
                (with_reducible refine (DU.out _ hc).mono ?_)
                intro e wx hh
                obtain ⟨rfl, hw⟩ := hh
                have hw2 := hw.symm
                subst hw2
                clear hw
                go_wp2_with fail
                go_at_call 33
                (with_reducible refine (LA.out _ hc).mono ?_)
                rintro e wd ⟨rfl, hd⟩
                replace hd := G.trans hc hd
                clear hc
                go_wp2_with fail
                go_at_call 40
                (with_reducible refine (FI.out _ hd).mono ?_)
                rintro e we ⟨rfl, he⟩
                replace he := Lib.hid (G.trans hd he)
                clear hd
                go_wp2_with fail
                have hnR1 : n ≤ nR + 1 := by have := hI.out.fls.shp.nR; have := hnR.out; omega
                have hn1' : 1 ≤ n := hI.out.fls.shp.n1
                have hnx40 : nx ≤ 40 := by have := HBn.out.len; have := hnx.out; omega
                go_loopw [19] (fun iv wx => ∃ j : Nat, n ≤ j ∧ j ≤ nR + 1 ∧ iv = .int .i64 (j : Int) ∧ Hid (Below wm.heap.size wm wx)) (fun iv _ => nR + 2 - (intOf iv).toNat)
                case atStart => exact ⟨n, Nat.le_refl _, hnR1, rfl, he⟩
                case round =>
                  clear he
                  obtain ⟨j, hj1, hj2, rfl, HG⟩ := hrel
                  by_cases hjl : j ≤ nR
                  · have hjl' : (j : Int) ≤ (nR : Int) := by omega
                    obtain ⟨J, hJ⟩ : ∃ J, j - 1 = J := ⟨_, rfl⟩
                    obtain ⟨x, hx⟩ : ∃ x, R[J]? = some x := ⟨_, List.getElem?_eq_getElem (by have := hnR.out; omega)⟩
                    have hxX : X[J]? = some x := by
                      obtain ⟨tlX, htX⟩ := HF.out.pre
                      rw [← htX, List.getElem?_append_left (by have := hnR.out; omega)]
                      exact hx
                    have RD := Lib.hid (fun (wx : World) (hb : Below wm.heap.size wm wx) => Own.ReadF HP.out (HM.out.grow (devlog_frm.star ((logT_frm _ _ _).star (rowT_frm _ _ _))) hb).left (hI.out.lmt 1048576) (limit_good HF.out.good 1048576) HF.out.up hj1 (by rw [hJ]; exact hx))
                    have RW := Lib.hid (fun (wx : World) (hb : Below wm.heap.size wm wx) => (HM.out.grow (devlog_frm.star ((logT_frm _ _ _).star (rowT_frm _ _ _))) hb).right.right.choose_spec.1.1)
                    rw [hnx.out] at RW
                    have a1 : IntKind.i64.wrap ((j : Int) - 1) = (J : Int) := by rw [IntWalk.i64_in _ (by omega)]; omega
                    have a2 : IntKind.i64.wrap ((j : Int) + 1) = ((j + 1 : Nat) : Int) := by rw [IntWalk.i64_in _ (by omega)]; omega
                    have hJn : J < nx := by omega
                    have hJn' : (J : Int) < (nx : Int) := by omega
                    clear hx hJ
                    go_wp2_with fail
                    go_at_call 33
                    (with_reducible refine (LA.out _ HG.out).mono ?_)
                    rintro e wf ⟨rfl, hf⟩
                    replace hf := G.trans HG.out hf
                    go_wp2_with fail
                    go_at_call 32
                    (with_reducible refine (RD.out _ hf).mono ?_)
                    rintro e wg ⟨rfl, hg⟩
                    replace hg := G.trans hf hg
                    obtain ⟨gA, gO, hAe, hgll, hgcc⟩ := ownO_ptr (RW.out _ hg) (by omega)
                    subst hAe
                    have q1 := hgcc J _ (strB_get hxX)
                    have lt1 := cell_lt q1
                    dsimp only at lt1
                    replace hg := Lib.hid hg
                    clear hgcc hf
                    go_wp2_with fail
                    refine ⟨⟨j + 1, by omega, by omega, rfl, hg⟩, by simp [intOf]; omega⟩
                  · have hjl' : ¬ (j : Int) ≤ (nR : Int) := by omega
                    go_wp2_with fail
                    go_at_call 33
                    (with_reducible refine (LA.out _ HG.out).mono ?_)
                    rintro e wf ⟨rfl, hf⟩
                    replace hf := G.trans HG.out hf
                    go_wp2_with fail
                    have HI2 := Lib.hid (hI.out.lmt 1048576)
                    have HW := Lib.hid (HM.out.grow (devlog_frm.star ((logT_frm _ _ _).star (rowT_frm _ _ _))) hf)
                    obtain ⟨nn, hnn⟩ : ∃ k, nR + 1 = k := ⟨_, rfl⟩
                    have AF := Own.AppendF HP.out ((logT_frm _ _ _).star (rowT_frm _ _ _)) HW.out HI2.out (limit_good HF.out.good 1048576) HF.out.up (dt := kag) (by show (2 : Int) < max 0 1048576 ∧ max (0 : Int) 1048576 ≤ 4611686018427387904; decide) (by have := hnR.out; omega) (by decide) (by have := HRM.out.cnt; show u.fs.length < 4096; omega) (by have h1 := HRM.out.used; have h2 := HRM.out.room; show ((usedC u.fs + (16 + 5) : Nat) : Int) ≤ u.room; omega)
                    rw [show B kag = (⟨#[97, 103, 97, 105, 110]⟩ : ByteArray) from rfl, hnR.out, hnn] at AF
                    replace AF := Lib.hid AF
                    clear LA FI DU hf hg0 hnm0
                    go_wp2_with fail
                    go_at_call 28
                    (with_reducible refine AF.out.mono ?_)
                    clear AF
                    rintro e wg ⟨rfl, t2, l3, g2, ht2, hdn2, hgd2, hI3, hO3⟩
                    have hla3 : l3.last = (nn : Int) := by rw [hI3.last, List.length_append]; have := hnR.out; simp only [List.length_cons, List.length_nil]; omega
                    have RD2 := Own.ReadF HP.out hO3.left hI3 hgd2 hdn2 (k := nn) (by omega) (x := kag) (by rw [show nn - 1 = R.length by have := hnR.out; omega]; simp)
                    rw [show B kag = (⟨#[97, 103, 97, 105, 110]⟩ : ByteArray) from rfl] at RD2
                    replace RD2 := Lib.hid RD2
                    have HX := Lib.hid hO3
                    replace hI3 := Lib.hid hI3
                    replace hgd2 := Lib.hid hgd2
                    replace hdn2 := Lib.hid hdn2
                    replace hla3 := Lib.hid hla3
                    replace hnn := Lib.hid hnn
                    clear hO3
                    go_wp2_with fail
                    go_at_call 32
                    (with_reducible refine RD2.out.mono ?_)
                    clear RD2
                    rintro e wh ⟨rfl, hh⟩
                    have HX2 := Lib.hid (HX.out.grow (devlog_frm.star ((logT_frm _ _ _).star (rowT_frm _ _ _))) hh)
                    clear hh
                    have LA2 := HX2.out.left.Last hI3.out.ok
                    rw [hla3.out] at LA2
                    replace LA2 := Lib.hid LA2
                    go_wp2_with fail
                    go_at_call 33
                    (with_reducible refine LA2.out.mono ?_)
                    clear LA2
                    rintro e wi ⟨rfl, hh⟩
                    have HX3 := Lib.hid (HX2.out.grow (devlog_frm.star ((logT_frm _ _ _).star (rowT_frm _ _ _))) hh)
                    clear hh
                    have hlf : 0 < t2.left := by
                      have h1 := ht2.left (show (3 : Int) ≤ max 0 1048576 by decide) (show max (0 : Int) 1048576 ≤ 4611686018427387904 by decide)
                      have h2 : max (0 : Int) 1048576 - 3 ≤ t2.left := h1.1
                      have h3 : max (0 : Int) 1048576 = 1048576 := by decide
                      omega
                    have SY := Lib.hid (Own.SyncF HP.out ((logT_frm _ _ _).star (rowT_frm _ _ _)) HX3.out hI3.out hgd2.out hdn2.out hlf)
                    clear hlf
                    go_wp2_with fail
                    go_at_call 34
                    (with_reducible refine SY.out.mono ?_)
                    clear SY
                    rintro e wj ⟨rfl, t4, l4, hdur, hO4⟩
                    have hdu4 : l4.dur = (nn : Int) := by rw [hdur, List.length_append]; have := hnR.out; have := hnn.out; simp only [List.length_cons, List.length_nil]; omega
                    have DU4 := hO4.left.Durable
                    rw [hdu4] at DU4
                    replace DU4 := Lib.hid DU4
                    have hbl := Lib.hid hO4.below
                    clear hdu4 hdur hO4
                    go_wp2_with fail
                    go_at_call 41
                    (with_reducible refine DU4.out.mono ?_)
                    intro e wx hh
                    obtain ⟨rfl, hw⟩ := hh
                    have hw2 := hw.symm
                    subst hw2
                    clear hw
                    go_wp2_with fail
                    go_ret
                    exact ⟨rfl, hbl.out⟩
            · rw [eO] at hop
              replace hop := Lib.hid hop
              have HS := Lib.hid hS
              have HA := Lib.hid hall
              have HT := Lib.hid (show t.down = true ∧ t.Good ∧ NmL t.fs from ⟨td, tg, tn⟩)
              clear RO hnl hS hall eO td tg tn
              go_wp2_with fail
              go_at_call 25
              (with_reducible refine hop.out.mono ?_)
              clear hop
              rintro e wo (⟨x, s', he, rfl, hO⟩ | ⟨s', l', L', he, _, _⟩)
              · simp only [Prod.mk.injEq, and_true] at he
                obtain ⟨rfl, rfl⟩ := he
                have HOo := Lib.hid hO
                clear hO HOl
                go_wp2_with fail
                have ST := Own.start (c := cb - 1) ((logT_frm _ _ _).star (rowT_frm _ _ _)) HOo.out HT.out.2.1 (sl_drop HTL.out.1 (by omega) 1 (by omega)) hbtl (by omega) (by omega)
                go_at_call 46
                (with_reducible refine ST.mono ?_)
                clear ST
                rintro e wt ⟨rfl, hot⟩
                have HOt := Lib.hid hot
                clear hot HOo
                obtain ⟨u, l2, R, n, g, eO2, hF, hS2⟩ := HA.out (tl.drop 1)
                have hnl : NmL (startD t (tl.drop 1)).fs := by unfold startD; rw [if_pos HT.out.1]; exact nml_start HT.out.2.2 _
                have hop := Own.Open HP.out HV.out ((logT_frm _ _ _).star (rowT_frm _ _ _)) HOt.out (start_good HT.out.2.1 (tl.drop 1)) hnl kn (lm : Int)
                rw [show B kn = (⟨#[108, 111, 103]⟩ : ByteArray) from rfl, eO2] at hop
                replace hop := Lib.hid hop
                have HF := Lib.hid hF
                have HS2 := Lib.hid hS2
                clear hF hS2 eO2 HA hnl
                go_wp2_with fail
                go_at_call 25
                (with_reducible refine hop.out.mono ?_)
                clear hop
                rintro e wo (⟨x, s', he, _, _⟩ | ⟨s', l', L', he, rfl, hO⟩)
                · cases he
                · simp only [Prod.mk.injEq, Option.some.injEq, true_and] at he
                  obtain ⟨rfl, rfl⟩ := he
                  have HO := Lib.hid hO
                  clear hO HOt
                  go_wp2_with fail
                  have HRM := Lib.hid (((((((HBn.out.rm (by omega)).crash).start (crash_good hg0.out) (tl.drop 2)).lmt (f1 : Int)).stp HS.out).start HT.out.2.1 (tl.drop 1)).stp HS2.out)
                  have hRX := HF.out.pre.length_le
                  have hI := HF.out.inv
                  obtain ⟨nR, hnR⟩ : ∃ k, R.length = k := ⟨_, rfl⟩
                  rw [hnR, hnx.out] at hRX
                  have hDl : ¬ (nR : Int) < D := by have := HF.out.least; omega
                  have hRx : ¬ (nx : Int) < (nR : Int) := by omega
                  obtain ⟨k1, hk1⟩ : ∃ k, max kp 1 = k := ⟨_, rfl⟩
                  have hmk : max (kp : Int) 1 = (k1 : Int) := by omega
                  have hnk : ¬ (k1 : Int) < (n : Int) := by have := HF.out.n; omega
                  go_at_call 44
                  (with_reducible refine (Own.limit ((logT_frm _ _ _).star ((logT_frm _ _ _).star (rowT_frm _ _ _))) HO.out.assoc 1048576).mono ?_)
                  rintro e wm ⟨rfl, hom⟩
                  have HM := Lib.hid hom.assoc'
                  clear hom HO
                  have hla : l2.last = (nR : Int) := by rw [hI.last, hnR]
                  have hdu : l2.dur = (nR : Int) := by rw [HF.out.dur, hnR]
                  have LA := Lib.hid (fun (wx : World) (hb : Below wm.heap.size wm wx) => (HM.out.grow (devlog_frm.star ((logT_frm _ _ _).star (rowT_frm _ _ _))) hb).left.Last hI.ok)
                  have FI := Lib.hid (fun (wx : World) (hb : Below wm.heap.size wm wx) => (HM.out.grow (devlog_frm.star ((logT_frm _ _ _).star (rowT_frm _ _ _))) hb).left.First)
                  have DU := Lib.hid (fun (wx : World) (hb : Below wm.heap.size wm wx) => (HM.out.grow (devlog_frm.star ((logT_frm _ _ _).star (rowT_frm _ _ _))) hb).left.Durable)
                  rw [hla] at LA
                  rw [hI.frst] at FI
                  rw [hdu] at DU
                  clear hla hdu
                  replace hk1 := Lib.hid hk1
                  replace hnR := Lib.hid hnR
                  replace hI := Lib.hid hI
                  go_wp2_with fail
                  go_at_call 33
                  (with_reducible refine (LA.out _ (G.refl _)).mono ?_)
                  rintro e wa ⟨rfl, ha⟩
                  go_wp2_with fail
                  go_at_call 33
                  (with_reducible refine (LA.out _ ha).mono ?_)
                  rintro e wb ⟨rfl, hb⟩
                  replace hb := G.trans ha hb
                  clear ha
                  go_wp2_with fail
                  go_at_call 40
                  (with_reducible refine (FI.out _ hb).mono ?_)
                  rintro e wc2 ⟨rfl, hc⟩
                  replace hc := G.trans hb hc
                  clear hb
                  go_wp2_with fail
                  go_at_call 41
                  (with_reducible refine (DU.out _ hc).mono ?_)
                  intro e wx hh
                  obtain ⟨rfl, hw⟩ := hh
                  have hw2 := hw.symm
                  subst hw2
                  clear hw
                  go_wp2_with fail
                  go_at_call 33
                  (with_reducible refine (LA.out _ hc).mono ?_)
                  rintro e wd ⟨rfl, hd⟩
                  replace hd := G.trans hc hd
                  clear hc
                  go_wp2_with fail
                  go_at_call 40
                  (with_reducible refine (FI.out _ hd).mono ?_)
                  rintro e we ⟨rfl, he⟩
                  replace he := Lib.hid (G.trans hd he)
                  clear hd
                  go_wp2_with fail
                  have hnR1 : n ≤ nR + 1 := by have := hI.out.fls.shp.nR; have := hnR.out; omega
                  have hn1' : 1 ≤ n := hI.out.fls.shp.n1
                  have hnx40 : nx ≤ 40 := by have := HBn.out.len; have := hnx.out; omega
                  go_loopw [19] (fun iv wx => ∃ j : Nat, n ≤ j ∧ j ≤ nR + 1 ∧ iv = .int .i64 (j : Int) ∧ Hid (Below wm.heap.size wm wx)) (fun iv _ => nR + 2 - (intOf iv).toNat)
                  case atStart => exact ⟨n, Nat.le_refl _, hnR1, rfl, he⟩
                  case round =>
                    clear he
                    obtain ⟨j, hj1, hj2, rfl, HG⟩ := hrel
                    by_cases hjl : j ≤ nR
                    · have hjl' : (j : Int) ≤ (nR : Int) := by omega
                      obtain ⟨J, hJ⟩ : ∃ J, j - 1 = J := ⟨_, rfl⟩
                      obtain ⟨x, hx⟩ : ∃ x, R[J]? = some x := ⟨_, List.getElem?_eq_getElem (by have := hnR.out; omega)⟩
                      have hxX : X[J]? = some x := by
                        obtain ⟨tlX, htX⟩ := HF.out.pre
                        rw [← htX, List.getElem?_append_left (by have := hnR.out; omega)]
                        exact hx
                      have RD := Lib.hid (fun (wx : World) (hb : Below wm.heap.size wm wx) => Own.ReadF HP.out (HM.out.grow (devlog_frm.star ((logT_frm _ _ _).star (rowT_frm _ _ _))) hb).left (hI.out.lmt 1048576) (limit_good HF.out.good 1048576) HF.out.up hj1 (by rw [hJ]; exact hx))
                      have RW := Lib.hid (fun (wx : World) (hb : Below wm.heap.size wm wx) => (HM.out.grow (devlog_frm.star ((logT_frm _ _ _).star (rowT_frm _ _ _))) hb).right.right.choose_spec.1.1)
                      rw [hnx.out] at RW
                      have a1 : IntKind.i64.wrap ((j : Int) - 1) = (J : Int) := by rw [IntWalk.i64_in _ (by omega)]; omega
                      have a2 : IntKind.i64.wrap ((j : Int) + 1) = ((j + 1 : Nat) : Int) := by rw [IntWalk.i64_in _ (by omega)]; omega
                      have hJn : J < nx := by omega
                      have hJn' : (J : Int) < (nx : Int) := by omega
                      clear hx hJ
                      go_wp2_with fail
                      go_at_call 33
                      (with_reducible refine (LA.out _ HG.out).mono ?_)
                      rintro e wf ⟨rfl, hf⟩
                      replace hf := G.trans HG.out hf
                      go_wp2_with fail
                      go_at_call 32
                      (with_reducible refine (RD.out _ hf).mono ?_)
                      rintro e wg ⟨rfl, hg⟩
                      replace hg := G.trans hf hg
                      obtain ⟨gA, gO, hAe, hgll, hgcc⟩ := ownO_ptr (RW.out _ hg) (by omega)
                      subst hAe
                      have q1 := hgcc J _ (strB_get hxX)
                      have lt1 := cell_lt q1
                      dsimp only at lt1
                      replace hg := Lib.hid hg
                      clear hgcc hf
                      go_wp2_with fail
                      refine ⟨⟨j + 1, by omega, by omega, rfl, hg⟩, by simp [intOf]; omega⟩
                    · have hjl' : ¬ (j : Int) ≤ (nR : Int) := by omega
                      go_wp2_with fail
                      go_at_call 33
                      (with_reducible refine (LA.out _ HG.out).mono ?_)
                      rintro e wf ⟨rfl, hf⟩
                      replace hf := G.trans HG.out hf
                      go_wp2_with fail
                      have HI2 := Lib.hid (hI.out.lmt 1048576)
                      have HW := Lib.hid (HM.out.grow (devlog_frm.star ((logT_frm _ _ _).star (rowT_frm _ _ _))) hf)
                      obtain ⟨nn, hnn⟩ : ∃ k, nR + 1 = k := ⟨_, rfl⟩
                      have AF := Own.AppendF HP.out ((logT_frm _ _ _).star (rowT_frm _ _ _)) HW.out HI2.out (limit_good HF.out.good 1048576) HF.out.up (dt := kag) (by show (2 : Int) < max 0 1048576 ∧ max (0 : Int) 1048576 ≤ 4611686018427387904; decide) (by have := hnR.out; omega) (by decide) (by have := HRM.out.cnt; show u.fs.length < 4096; omega) (by have h1 := HRM.out.used; have h2 := HRM.out.room; show ((usedC u.fs + (16 + 5) : Nat) : Int) ≤ u.room; omega)
                      rw [show B kag = (⟨#[97, 103, 97, 105, 110]⟩ : ByteArray) from rfl, hnR.out, hnn] at AF
                      replace AF := Lib.hid AF
                      clear LA FI DU hf hg0 hnm0
                      go_wp2_with fail
                      go_at_call 28
                      (with_reducible refine AF.out.mono ?_)
                      clear AF
                      rintro e wg ⟨rfl, t2, l3, g2, ht2, hdn2, hgd2, hI3, hO3⟩
                      have hla3 : l3.last = (nn : Int) := by rw [hI3.last, List.length_append]; have := hnR.out; simp only [List.length_cons, List.length_nil]; omega
                      have RD2 := Own.ReadF HP.out hO3.left hI3 hgd2 hdn2 (k := nn) (by omega) (x := kag) (by rw [show nn - 1 = R.length by have := hnR.out; omega]; simp)
                      rw [show B kag = (⟨#[97, 103, 97, 105, 110]⟩ : ByteArray) from rfl] at RD2
                      replace RD2 := Lib.hid RD2
                      have HX := Lib.hid hO3
                      replace hI3 := Lib.hid hI3
                      replace hgd2 := Lib.hid hgd2
                      replace hdn2 := Lib.hid hdn2
                      replace hla3 := Lib.hid hla3
                      replace hnn := Lib.hid hnn
                      clear hO3
                      go_wp2_with fail
                      go_at_call 32
                      (with_reducible refine RD2.out.mono ?_)
                      clear RD2
                      rintro e wh ⟨rfl, hh⟩
                      have HX2 := Lib.hid (HX.out.grow (devlog_frm.star ((logT_frm _ _ _).star (rowT_frm _ _ _))) hh)
                      clear hh
                      have LA2 := HX2.out.left.Last hI3.out.ok
                      rw [hla3.out] at LA2
                      replace LA2 := Lib.hid LA2
                      go_wp2_with fail
                      go_at_call 33
                      (with_reducible refine LA2.out.mono ?_)
                      clear LA2
                      rintro e wi ⟨rfl, hh⟩
                      have HX3 := Lib.hid (HX2.out.grow (devlog_frm.star ((logT_frm _ _ _).star (rowT_frm _ _ _))) hh)
                      clear hh
                      have hlf : 0 < t2.left := by
                        have h1 := ht2.left (show (3 : Int) ≤ max 0 1048576 by decide) (show max (0 : Int) 1048576 ≤ 4611686018427387904 by decide)
                        have h2 : max (0 : Int) 1048576 - 3 ≤ t2.left := h1.1
                        have h3 : max (0 : Int) 1048576 = 1048576 := by decide
                        omega
                      have SY := Lib.hid (Own.SyncF HP.out ((logT_frm _ _ _).star (rowT_frm _ _ _)) HX3.out hI3.out hgd2.out hdn2.out hlf)
                      clear hlf
                      go_wp2_with fail
                      go_at_call 34
                      (with_reducible refine SY.out.mono ?_)
                      clear SY
                      rintro e wj ⟨rfl, t4, l4, hdur, hO4⟩
                      have hdu4 : l4.dur = (nn : Int) := by rw [hdur, List.length_append]; have := hnR.out; have := hnn.out; simp only [List.length_cons, List.length_nil]; omega
                      have DU4 := hO4.left.Durable
                      rw [hdu4] at DU4
                      replace DU4 := Lib.hid DU4
                      have hbl := Lib.hid hO4.below
                      clear hdu4 hdur hO4
                      go_wp2_with fail
                      go_at_call 41
                      (with_reducible refine DU4.out.mono ?_)
                      intro e wx hh
                      obtain ⟨rfl, hw⟩ := hh
                      have hw2 := hw.symm
                      subst hw2
                      clear hw
                      go_wp2_with fail
                      go_ret
                      exact ⟨rfl, hbl.out⟩
              · cases he
      · have hM20' : (20 : Int) < (M : Int) := by omega
        go_enter Tryz.func11, Tryz.ntmps11
        go_wp2_with fail
        go_at_call 13
        (with_reducible refine (KN.out _ (G.refl w)).mono ?_)
        rintro e w1 ⟨rfl, hb1⟩
        go_wp2_with fail
        go_at_call 13
        (with_reducible refine (KN.out _ hb1).mono ?_)
        rintro e w2 ⟨rfl, hb2⟩
        replace hb2 := G.trans hb1 hb2
        go_wp2_with fail
        go_ret
        exact ⟨rfl, hb2⟩
    · have hM3' : (M : Int) < 3 := by omega
      go_enter Tryz.func11, Tryz.ntmps11
      go_wp2_with fail
      go_at_call 13
      (with_reducible refine (KN.out _ (G.refl w)).mono ?_)
      rintro e w1 ⟨rfl, hb1⟩
      go_wp2_with fail
      go_at_call 13
      (with_reducible refine (KN.out _ hb1).mono ?_)
      rintro e w2 ⟨rfl, hb2⟩
      replace hb2 := G.trans hb1 hb2
      go_wp2_with fail
      go_ret
      exact ⟨rfl, hb2⟩
  · have hN' : (40 : Int) < (N : Int) := by omega
    go_enter Tryz.func11, Tryz.ntmps11
    go_wp2_with fail
    go_at_call 13
    (with_reducible refine (KN.out _ (G.refl w)).mono ?_)
    rintro e w1 ⟨rfl, hb1⟩
    go_wp2_with fail
    go_at_call 13
    (with_reducible refine (KN.out _ hb1).mono ?_)
    rintro e w2 ⟨rfl, hb2⟩
    replace hb2 := G.trans hb1 hb2
    go_wp2_with fail
    go_ret
    exact ⟨rfl, hb2⟩
end Go.Proofs.YtbafnlccpbonmaaGreatDoor
