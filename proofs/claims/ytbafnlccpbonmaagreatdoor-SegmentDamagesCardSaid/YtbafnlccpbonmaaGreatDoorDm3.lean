/- The law SegmentDamages. -/
import Derived.Test.YtbafnlccpbonmaaGreatDoorDm2
namespace Go.Proofs.YtbafnlccpbonmaaGreatDoor
set_option linter.unusedVariables false
set_option linter.unnecessarySimpa false
set_option linter.unusedSimpArgs false
open Go.RowKit

set_option maxRecDepth 20000 in set_option maxHeartbeats 32000000 in
theorem segmentDamages_any (A : Option Addr) (N c : Nat) (ops : List GOp) (x1 x2 : Int) (w : World) (hops : OpsW w A N c ops) (wz1 : (Lit.int .u16 x1).wf = true) (wz2 : (Lit.int .u16 x2).wf = true) (hE : Pow10 w ∧ LibVars w) : Calls Tryz.prog 7 #[.slice A N c, .int .u16 x1, .int .u16 x2] w fun e w' => e = .returned (.bool true) ∧ Below w.heap.size w w' := by
  have HP := Lib.hid hE.1
  have HV := Lib.hid hE.2
  have HOP := Lib.hid hops
  obtain ⟨hlen, hNc, hcm⟩ := hops.len
  obtain ⟨Z1, rfl, hZ1⟩ := u16_nat wz1
  obtain ⟨Z2, rfl, hZ2⟩ := u16_nat wz2
  have z11 : IntKind.i64.wrap (Z1 : Int) = (Z1 : Int) := IntWalk.i64_in _ (by omega)
  have z21 : IntKind.i64.wrap (Z2 : Int) = (Z2 : Int) := IntWalk.i64_in _ (by omega)
  replace hlen := Lib.hid hlen
  clear hops hE wz1 wz2
  have KN := Lib.hid (fun (wx : World) (hb : Below w.heap.size w wx) => known_any wx (HP.out.grow hb) (HV.out.grow hb))
  by_cases hN : N ≤ 30
  · have hN' : ¬ (30 : Int) < (N : Int) := by omega
    go_enter Tryz.func7, Tryz.ntmps7
    go_wp2_with fail
    go_at_call 13
    (with_reducible refine (KN.out _ (G.refl w)).mono ?_)
    rintro e w1 ⟨rfl, hb1⟩
    clear KN
    go_wp2_with fail
    (refine (new_any 1048576 (by decide) (by decide)).mono ?_)
    intro e w2 hr
    obtain ⟨d, rfl, F0⟩ := FD.new (w0 := w) hb1 hr
    replace F0 := Lib.hid F0
    clear hr hb1
    go_upto_region 5 with fail
    obtain ⟨p, hpz⟩ : ∃ p, w2.heap.size = p := ⟨_, rfl⟩
    rw [hpz]
    refine wp_name (fun wx => Hid (Own w wx (star (devT d (newD 1048576)) (shT p ⟨200, [], [], 0, 1, 0⟩)))) (Lib.hid ?_) ?_
    · exact (Own.of_fd F0.out).add (devT_frm d _) (G.alloc (G.refl w2) _) (M := fun x => x = p) (by rw [← hpz]; exact shT_new) (fun x hx => by omega)
    intro w3 HO
    clear hpz F0
    go_wp2_with fail
    go_at_call 25
    have hop := HO.out.fresh HP.out HV.out (shT_frm p _) rfl rfl (new_good (by decide) (by decide)) (fun f hf => by cases hf) (nm := kn) rfl (lim := 200) (by decide) (fun m _ => rfl)
    rw [show B kn = (⟨#[108, 111, 103]⟩ : ByteArray) from rfl] at hop
    (with_reducible refine hop.mono ?_)
    clear hop HO
    rintro e w4 ⟨L0, rfl, s0, hs0, hp0, ho0⟩
    have HO := Lib.hid ho0
    have HS := Lib.hid hs0
    have HPl := Lib.hid hp0
    clear hs0 hp0 ho0
    go_wp2_with fail
    go_loopw [12] (fun iv wr => ∃ (i : Nat) (s : Ds) (l : Lg) (R : List (List UInt8)) (g : List (List (List UInt8))) (sh : Sh), i ≤ N ∧ iv = .int .i64 (i : Int) ∧ Hid (Own w wr (star (devlog d L0 s l) (shT p sh))) ∧ Hid (Pl kn s l R 1 g) ∧ Hid (Mdl l R 1 g sh) ∧ Hid (Bnd i s R)) (fun iv _ => N - (intOf iv).toNat)
    case atStart => exact ⟨0, s0, _, [], [], _, Nat.zero_le _, rfl, HO, HPl, Lib.hid Mdl.start, Lib.hid ⟨Nat.le_refl _, HS.out.used, HS.out.cnt, HS.out.room, fun m hm => HS.out.rest m hm⟩⟩
    case round =>
      obtain ⟨i, s, l, R, g, sh, hi, rfl, HO1, HPl1, HM, HBn⟩ := hrel
      clear HO HS HPl
      have HOPr := Lib.hid (HOP.out.grow HO1.out.below)
      by_cases hlt : i < N
      · have hlt' : (i : Int) < (N : Int) := by omega
        obtain ⟨⟨kd0, by0, sz⟩, hx⟩ : ∃ o, ops[i]? = some o := ⟨_, List.getElem?_eq_getElem (by rw [hlen.out]; exact hlt)⟩
        obtain ⟨ga, oa, hA, hal, q0, q1, q2, hf1, hf2⟩ := HOPr.out.at_ hx
        subst hA
        dsimp only at q0 q1 q2 hf1 hf2
        have ltq := cell_lt q0
        dsimp only at ltq
        replace hx := Lib.hid hx
        have hw9 : IntKind.i64.wrap ((i : Int) + 1) = ((i + 1 : Nat) : Int) := by rw [IntWalk.i64_in _ (by omega)]; omega
        have hdl := dataL_len by0 sz
        obtain ⟨dt, hdt⟩ : ∃ d, dataL by0 sz = d := ⟨_, rfl⟩
        have OD := Lib.hid (fun (wx : World) => opdata_any (.int .u8 (kd0 : Int)) by0 sz hf2 wx)
        rw [hdt] at OD hdl
        clear hdt
        have hszs := Lib.hid (HM.out.sizes HPl1.out.inv.fls.shp)
        have hRl : R.length ≤ 30 := by have := HBn.out.len; omega
        have hMt := HM.out.app HPl1.out.inv.fls.shp dt
        go_wp2_with fail
        go_at_call 27
        (with_reducible refine (OD.out _).mono ?_)
        rintro e w5 ⟨rfl, hb5⟩
        have HO5 := Lib.hid (HO1.out.grow (devlog_frm.star (shT_frm p sh)) hb5)
        clear hb5 q0 q1 q2 ltq
        go_wp2_with fail
        go_at_call 26
        have MD := Own.mod devlog_frm HO5.out (fun S0 hx => mapp_any hx dt (by omega) (by have := hszs.out; omega) (by have := hszs.out; omega) (by have := hszs.out; omega))
        (with_reducible refine MD.mono ?_)
        clear MD
        rintro e w6 ⟨rfl, hO6⟩
        have HO6 := Lib.hid hO6
        obtain ⟨ga2, oa2, hA2, hal2, q0, q1, q2, _, _⟩ := (HOP.out.grow hO6.below).at_ hx.out
        cases hA2
        dsimp only at q0 q1 q2
        have ltq := cell_lt q0
        dsimp only at ltq
        clear hO6
        go_wp2_with fail
        go_at_call 27
        (with_reducible refine (OD.out _).mono ?_)
        rintro e w7 ⟨rfl, hb7⟩
        have HO7 := Lib.hid (HO6.out.grow (devlog_frm.star (shT_frm p _)) hb7)
        clear hb7 q0 q1 q2 ltq
        go_wp2_with fail
        go_at_call 28
        (refine (Own.Append HP.out (shT_frm p _) HO7.out HPl1.out (dt := dt) (by omega) (by omega) (by have := HBn.out.cnt; omega) (by have := HBn.out.used; have := HBn.out.room; omega)).mono ?_)
        rintro e w8 ⟨rfl, t, ht, hPt, hO⟩
        go_wp2_with fail
        refine ⟨⟨i + 1, t, _, _, _, _, by omega, rfl, Lib.hid hO, Lib.hid hPt, Lib.hid hMt, Lib.hid (HBn.out.step ht (by omega) (by omega) (by simp))⟩, by simp [intOf]; omega⟩
      · obtain rfl : i = N := by omega
        have hlt' : ¬ (i : Int) < (i : Int) := by omega
        obtain ⟨S, P, cc, rs, A1, c1, A2, c2, hD, _, hS⟩ := HO1.out.parts
        have HSS := Lib.hid hS
        have hrc := HM.out.agr.recs
        have hsg := HM.out.agr.segs
        have hcnt := HPl1.out.inv.fls.shp.cnt
        have hRl := HBn.out.len
        have hgne : R ≠ [] → g ≠ [] := fun h e => h (HPl1.out.inv.fls.shp.nil e)
        clear hS
        obtain ⟨lm, R2, Gs, z, fi, du⟩ := sh
        dsimp only at *
        subst hrc
        obtain ⟨nr, hnr⟩ : ∃ k, R2.length = k := ⟨_, rfl⟩
        obtain ⟨ng, hng⟩ : ∃ k, g.length = k := ⟨_, rfl⟩
        have hgl : Gs.length = ng := by rw [hsg, nums_len]; exact hng
        rw [hnr] at hcnt hRl
        rw [hng] at hcnt
        replace hnr := Lib.hid hnr
        replace hng := Lib.hid hng
        replace hgl := Lib.hid hgl
        replace hsg := Lib.hid hsg
        have HSB := Lib.hid (fun (wx : World) (hb : Below wr.heap.size wr wx) => HSS.out.grow hb)
        have HB := HSS.out.box
        unfold Sh.cells at HB
        dsimp only at HB
        rw [hnr.out, hgl.out] at HB
        obtain ⟨k0, k1, k2, k3, k4, k5⟩ := HB.c6
        have lt := HB.lt
        clear HB HSS
        by_cases hn0 : nr = 0
        · have hn0' : ((nr : Int) == 0) = true := by rw [beq_iff_eq]; omega
          have hbl := HO1.out.below
          go_wp2_with fail
          go_ret
          exact ⟨rfl, hbl⟩
        · have hn0' : ((nr : Int) == 0) = false := by rw [beq_eq_false_iff_ne]; omega
          have hn0'' : ¬ (nr : Int) = 0 := by omega
          obtain ⟨y1, hy1⟩ : ∃ y, Z1 % nr = y := ⟨_, rfl⟩
          have hy1l : y1 < nr := by rw [← hy1]; exact Nat.mod_lt _ (by omega)
          have v1 : (Z1 : Int) % (nr : Int) = (y1 : Int) := by rw [← hy1]; rfl
          have v2 : (Z1 : Int).tmod (nr : Int) = (y1 : Int) := by rw [Int.tmod_eq_emod_of_nonneg (by omega)]; exact v1
          have v3 : IntKind.i64.wrap (y1 : Int) = (y1 : Int) := IntWalk.i64_in _ (by omega)
          obtain ⟨n1, hn1⟩ : ∃ n, 1 + y1 = n := ⟨_, rfl⟩
          have v4 : IntKind.i64.wrap (1 + (y1 : Int)) = (n1 : Int) := by rw [IntWalk.i64_in _ (by omega)]; omega
          have hlen1 := HPl1.out.inv.fls.shp.len
          obtain ⟨a, r, b, hg, ha1, ha2⟩ := split_at g 1 n1 (by omega) (by have := hnr.out; omega)
          obtain ⟨m, hm⟩ : ∃ m, 1 + a.flatten.length = m := ⟨_, rfl⟩
          obtain ⟨i0, hi0⟩ : ∃ j, n1 - m = j := ⟨_, rfl⟩
          have hPl2 : Pl kn s l R2 1 (a ++ r :: b) := hg ▸ HPl1.out
          have hshp := hPl2.inv.fls.shp
          have hdat := data_at hshp ha1 ha2
          have hat := hshp.at
          have hrm := hshp.mem
          rw [hm] at ha1 ha2 hat hdat
          rw [hi0] at hdat
          have hi0r : i0 < r.length := by omega
          obtain ⟨dd, hdd⟩ : ∃ x, r[i0]? = some x := ⟨_, List.getElem?_eq_getElem hi0r⟩
          rw [hdd] at hdat
          have hddl := hrm dd (List.mem_of_getElem? hdd)
          obtain ⟨ka, hka⟩ : ∃ k, a.length = k := ⟨_, rfl⟩
          have hkan : ka + 1 ≤ ng := by have := hng.out; rw [hg, List.length_append, List.length_cons, hka] at this; omega
          have hml : m ≤ 1001 := by have := hnr.out; omega
          have hrle : r.length ≤ 1000 := by have := hnr.out; omega
          have hGa : Gs[ka]? = some m := by rw [hsg.out, hg, ← hka, nums_at, hm]
          have hGlow : Hid (∀ j, j ≤ ka → ∃ x, Gs[j]? = some x ∧ x ≤ m) := Lib.hid (fun j hj => by rw [hsg.out, hg, ← hm]; exact nums_low (by omega))
          have hGup : Hid (ka + 1 < ng → Gs[ka + 1]? = some (m + r.length)) := Lib.hid (fun h => by
            rw [hsg.out, hg, ← hka, ← hm]
            refine nums_behind fun e => ?_
            have := hng.out
            rw [hg, e, List.length_append, hka] at this
            simp at this
            omega)
          have hbn : Hid (b = [] ↔ ¬ ka + 1 < ng) := Lib.hid (by
            have := hng.out
            rw [hg, List.length_append, List.length_cons, hka] at this
            constructor
            · intro e; rw [e] at this; simp at this; omega
            · intro e; exact List.eq_nil_of_length_eq_zero (by omega))
          have hrl : Hid (∀ j, j < r.length → R2[m + j - 1]? = r[j]?) := Lib.hid (fun j hj => by
            have := data_at hshp (k := m + j) (by omega) (by omega)
            rw [hm] at this
            rw [this]
            congr 1
            omega)
          have hLen : Hid (∀ j, (framesL m (r.take j)).length ≤ 1016000) := Lib.hid (fun j => frames_take_le hrm m j hrle)
          have hFr : Hid (∀ j x, r[j]? = some x → framesL m (r.take j) ++ frameL (m + j) x = framesL m (r.take (j + 1)) ∧ x.length ≤ 1000) := Lib.hid (fun j x hx => ⟨frames_step hx m, hrm x (List.mem_of_getElem? hx)⟩)
          have hm1 : 1 ≤ m := by omega
          have HPl2 := Lib.hid hPl2
          replace hg := Lib.hid hg
          replace hm := Lib.hid hm
          replace hi0 := Lib.hid hi0
          replace hn1 := Lib.hid hn1
          replace hka := Lib.hid hka
          have hdat2 := Lib.hid hdat
          have hdd2 := Lib.hid hdd
          have hGa2 := Lib.hid hGa
          clear hPl2 hshp hrm hlen1 hy1 hdat hdd hGa hgne
          have hn1r : n1 ≤ nr := by have := hn1.out; omega
          have hmn1 : m + i0 = n1 := by have := hi0.out; omega
          go_wp2_with fail
          obtain ⟨wQ, hwQ⟩ : ∃ x, x = wr := ⟨_, rfl⟩
          subst hwQ
          clear k0 k1 k2 k3 k4 k5 lt
          go_loopw [16] (fun kv wx => ∃ k : Nat, k ≤ ka ∧ kv = .int .i64 (k : Int) ∧ Hid (Below wQ.heap.size wQ wx)) (fun kv _ => ka + 1 - (intOf kv).toNat)
          case atStart => exact ⟨0, Nat.zero_le _, rfl, Lib.hid (G.refl _)⟩
          case round =>
            obtain ⟨k, hk, rfl, HG⟩ := hrel
            have HB := (HSB.out _ HG.out).box
            unfold Sh.cells at HB
            dsimp only at HB
            rw [hnr.out, hgl.out] at HB
            obtain ⟨k0, k1, k2, k3, k4, k5⟩ := HB.c6
            have lt := HB.lt
            clear HB
            obtain ⟨g2, o2, hA2, hl2, hc2⟩ := (HSB.out _ HG.out).segs.ptr (by dsimp only; rw [hgl.out]; omega)
            subst hA2
            obtain ⟨K1, hK1⟩ : ∃ x, k + 1 = x := ⟨_, rfl⟩
            have u1 : IntKind.i64.wrap ((k : Int) + 1) = (K1 : Int) := by rw [IntWalk.i64_in _ (by omega)]; omega
            by_cases hkk : k < ka
            · obtain ⟨x, hx, hxm⟩ := hGlow.out K1 (by omega)
              have q3 := hc2 K1 _ (natsC_get hx)
              have lt3 := cell_lt q3
              dsimp only at lt3
              have hk9 : (K1 : Int) < (ng : Int) := by omega
              have hx9 : (x : Int) ≤ (n1 : Int) := by omega
              clear hc2 hx
              go_wp2_with fail
              refine ⟨⟨K1, by omega, rfl, HG⟩, by simp [intOf]; omega⟩
            · obtain rfl : k = ka := by omega
              have q2 := hc2 k _ (natsC_get hGa2.out)
              have lt2 := cell_lt q2
              dsimp only at lt2
              by_cases hl9 : K1 < ng
              · have hl9' : (K1 : Int) < (ng : Int) := by omega
                obtain ⟨e0, he0⟩ : ∃ e, m + r.length = e := ⟨_, rfl⟩
                have hG3 : Gs[K1]? = some e0 := by rw [← hK1, ← he0]; exact hGup.out (by omega)
                have q3 := hc2 K1 _ (natsC_get hG3)
                have lt3 := cell_lt q3
                dsimp only at lt3
                have hx9 : ¬ (e0 : Int) ≤ (n1 : Int) := by omega
                clear hc2 hG3
                go_wp2_with fail
                clear q3 lt3
                clear k0 k1 k2 k3 k4 k5 lt q2 lt2
                go_loopw [17, 18] (fun wv kv wx => ∃ (j K : Nat) (T : List UInt8), j ≤ i0 ∧ Hid (K = m + j) ∧ Hid (T = framesL m (r.take j)) ∧ wv = .string (B T) ∧ kv = .int .i64 (K : Int) ∧ Hid (Below wQ.heap.size wQ wx)) (fun _ kv _ => 3000 - (intOf kv).toNat)
                case atStart => exact ⟨0, m, [], Nat.zero_le _, Lib.hid rfl, Lib.hid rfl, rfl, rfl, HG⟩
                case round =>
                  clear HG
                  obtain ⟨j, K, T, hj, hK, hT, rfl, rfl, HG⟩ := hrel
                  have HB := (HSB.out _ HG.out).box
                  unfold Sh.cells at HB
                  dsimp only at HB
                  rw [hnr.out, hgl.out] at HB
                  obtain ⟨k0, k1, k2, k3, k4, k5⟩ := HB.c6
                  have lt := HB.lt
                  clear HB
                  by_cases hlt3 : j < i0
                  · have hKe : (K : Int) < (n1 : Int) := by have := hK.out; omega
                    obtain ⟨x, hx⟩ : ∃ x, r[j]? = some x := ⟨_, List.getElem?_eq_getElem (by omega)⟩
                    obtain ⟨J, hJ⟩ : ∃ J, K - 1 = J := ⟨_, rfl⟩
                    have hRJ : R2[J]? = some x := by
                      have := hrl.out j (by omega)
                      rw [← hK.out, hJ, hx] at this
                      exact this
                    have hJn : J < nr := by
                      have := (List.getElem?_eq_some_iff.1 hRJ).1
                      have := hnr.out
                      omega
                    have hJn' : (J : Int) < (nr : Int) := by omega
                    have hKb : K ≤ 2002 := by have := hK.out; omega
                    have hK1' : 1 ≤ K := by have := hK.out; omega
                    have u2 : IntKind.i64.wrap ((K : Int) - 1) = (J : Int) := by rw [IntWalk.i64_in _ (by omega)]; omega
                    have u3 : IntKind.i64.wrap ((K : Int) + 1) = ((K + 1 : Nat) : Int) := by rw [IntWalk.i64_in _ (by omega)]; omega
                    obtain ⟨hf1, hf2⟩ := hFr.out j x hx
                    have LFx := Lib.hid (fun (wx : World) => lawframe_any K (by omega) x (by omega) wx)
                    obtain ⟨F, hF⟩ : ∃ F, frameL K x = F := ⟨_, rfl⟩
                    have hFl : F.length = 16 + x.length := by rw [← hF]; exact frameL_len _ _
                    have hTF := B_app T F
                    obtain ⟨T2, hT2⟩ : ∃ T2, T ++ F = T2 := ⟨_, rfl⟩
                    have hT3 : Hid (T2 = framesL m (r.take (j + 1))) := Lib.hid (by rw [← hT2, ← hF, hT.out, hK.out]; exact hf1)
                    rw [hT2] at hTF
                    rw [hF] at LFx
                    have z1 := B_size T
                    have z2 := B_size F
                    have hTl : T.length ≤ 1016000 := by rw [hT.out]; exact hLen.out j
                    obtain ⟨t1, ht1⟩ : ∃ t, T.length = t := ⟨_, rfl⟩
                    obtain ⟨f1, hf1'⟩ : ∃ t, F.length = t := ⟨_, rfl⟩
                    rw [ht1] at z1 hTl
                    rw [hf1'] at z2 hFl
                    have v9 : ¬ (9223372036854775807 < t1 + f1) := by omega
                    obtain ⟨g1, o1, hA, hl1, hc1⟩ := (HSB.out _ HG.out).recs.ptr (by dsimp only; rw [hnr.out]; omega)
                    subst hA
                    have q1 := hc1 J _ (strB_get hRJ)
                    have lt1 := cell_lt q1
                    dsimp only at lt1
                    have hK2 : Hid (K + 1 = m + (j + 1)) := Lib.hid (by have := hK.out; omega)
                    clear hc1 hJ hx hRJ hf1 hF hT2 ht1 hf1'
                    go_wp2_with fail
                    go_at_call 17
                    (with_reducible refine (LFx.out _).mono ?_)
                    rintro e w6 ⟨rfl, hb6⟩
                    clear LFx k0 k1 k2 k3 k4 k5 lt q1 lt1
                    go_wp2_with fail
                    refine ⟨⟨j + 1, K + 1, T2, by omega, hK2, hT3, rfl, rfl, Lib.hid (G.trans HG.out hb6)⟩, by simp [intOf]; omega⟩
                  · obtain rfl : j = i0 := by omega
                    have hKe : ¬ (K : Int) < (n1 : Int) := by have := hK.out; omega
                    obtain ⟨g2, o2, hA2, hl2, hc2⟩ := (HSB.out _ HG.out).segs.ptr (by dsimp only; rw [hgl.out]; omega)
                    cases hA2
                    have q2 := hc2 k _ (natsC_get hGa2.out)
                    have lt2 := cell_lt q2
                    dsimp only at lt2
                    clear hc2
                    have LF1 := Lib.hid (fun (wx : World) => lawfile_any kn (by decide) m (by omega) wx)
                    have hkl : (fileL kn m).length ≤ 1000 := file_len2 m
                    have hfl0 := HPl2.out.inv.fls.data
                    rw [hm.out] at hfl0
                    obtain ⟨D0, hfl⟩ := hfl0
                    have CT := Lib.hid (fun (wx : World) (hb : Below wQ.heap.size wQ wx) => Own.contents (nm := fileL kn m) (HO1.out.grow (devlog_frm.star (shT_frm p _)) hb).left.left HPl2.out.good hkl)
                    rw [text_of HPl2.out.up hfl] at CT
                    dsimp only at CT
                    rw [show B kn = (⟨#[108, 111, 103]⟩ : ByteArray) from rfl] at LF1
                    obtain ⟨TT, hTT⟩ : ∃ t, framesL m r = t := ⟨_, rfl⟩
                    rw [hTT] at CT
                    have hTTl : TT.length ≤ 1016000 := by rw [← hTT, ← List.take_length (l := r)]; exact hLen.out _
                    have hlb : T.length = bytesF (r.take j) := by rw [hT.out, len_frames]
                    obtain ⟨dl, hdl⟩ : ∃ t, dd.length = t := ⟨_, rfl⟩
                    obtain ⟨P, hP⟩ : ∃ P, 12 + dl = P := ⟨_, rfl⟩
                    obtain ⟨rz, hrz⟩ : ∃ r, Z2 % P = r := ⟨_, rfl⟩
                    have hrzl : rz < P := by rw [← hrz]; exact Nat.mod_lt _ (by omega)
                    obtain ⟨lb, hlb2⟩ : ∃ t, T.length = t := ⟨_, rfl⟩
                    have hTl : lb ≤ 1016000 := by rw [← hlb2, hT.out]; exact hLen.out j
                    obtain ⟨l4, hl4⟩ : ∃ t, lb + 4 = t := ⟨_, rfl⟩
                    obtain ⟨q, hq⟩ : ∃ q, l4 + rz = q := ⟨_, rfl⟩
                    have hgetq : TT[q]? = (frameL (m + j) dd)[4 + rz]? := by
                      have := frames_get m hdd2.out (i := 4 + rz) (by omega)
                      rw [hTT, ← hlb, hlb2] at this
                      rw [← this, ← hq, ← hl4, Nat.add_assoc]
                    have hqF : 4 + rz < (frameL (m + j) dd).length := by rw [frameL_len]; omega
                    obtain ⟨x, hx⟩ : ∃ x, TT[q]? = some x := by rw [hgetq]; exact ⟨_, List.getElem?_eq_getElem hqF⟩
                    have hqT : q < TT.length := (List.getElem?_eq_some_iff.1 hx).1
                    obtain ⟨tt, htt⟩ : ∃ t, TT.length = t := ⟨_, rfl⟩
                    have hxr : bits .xor .u8 ((x.toNat : Nat) : Int) 1 = (((x ^^^ 1).toNat : Nat) : Int) := by
                      have := u8_xor_nat x.toNat 1 (by have := x.toNat_lt; omega) (by decide)
                      rw [UInt8.toNat_xor]
                      exact this
                    have hne : (frameL (m + j) dd)[4 + rz]? ≠ some (x ^^^ 1) := by rw [← hgetq, hx]; exact ne_xor1 x
                    obtain ⟨y, hy⟩ : ∃ y, x ^^^ 1 = y := ⟨_, rfl⟩
                    rw [hy] at hxr hne
                    obtain ⟨t1, t2, et1, gt1, et2, hDm, hnm⟩ := dmg_steps HPl2.out.inv HPl2.out.good HPl2.out.up HPl2.out.free (by have := HBn.out.used; omega) HBn.out.room hm.out hdd2.out (i := 4 + rz) (by omega) (by omega) hne
                    rw [hTT, ← hlb, hlb2, show lb + (4 + rz) = q by omega] at et2
                    have hnm2 := hnm HPl2.out.nml
                    replace hnm2 := Lib.hid hnm2
                    replace hDm := Lib.hid hDm
                    have hRD : lread t2 l (n1 : Int) = ([], 28) := by
                      have h1 := hDm.out
                      rw [← hm.out] at h1
                      have := dmg_read HPl2.out.inv h1
                      rwa [hm.out, hmn1] at this
                    have eO : openG t2 kn 200 = (28, t2, none) := by
                      have h1 := hDm.out
                      rw [← hm.out] at h1
                      exact dmg_early HPl2.out.inv (fun e => by have := hbn.out.1 e; omega) h1 (by decide)
                    obtain ⟨fn, hfn⟩ : ∃ f, fileL kn m = f := ⟨_, rfl⟩
                    rw [hfn] at LF1 CT et1 et2 hkl
                    replace eO := Lib.hid eO
                    replace hRD := Lib.hid hRD
                    replace et1 := Lib.hid et1
                    replace et2 := Lib.hid et2
                    have zT := B_size T
                    rw [hlb2] at zT
                    have zD := B_size dd
                    rw [hdl] at zD
                    obtain ⟨J, hJ⟩ : ∃ J, n1 - 1 = J := ⟨_, rfl⟩
                    have a1 : IntKind.i64.wrap ((lb : Int) + 4) = (l4 : Int) := by rw [IntWalk.i64_in _ (by omega)]; omega
                    have a2 : IntKind.i64.wrap (12 + (dl : Int)) = (P : Int) := by rw [IntWalk.i64_in _ (by omega)]; omega
                    have a3 : ¬ (P : Int) = 0 := by omega
                    have a4 : (Z2 : Int) % (P : Int) = (rz : Int) := by rw [← hrz]; rfl
                    have a5 : (Z2 : Int).tmod (P : Int) = (rz : Int) := by rw [Int.tmod_eq_emod_of_nonneg (by omega)]; exact a4
                    have a6 : IntKind.i64.wrap (rz : Int) = (rz : Int) := IntWalk.i64_in _ (by omega)
                    have a7 : IntKind.i64.wrap ((l4 : Int) + (rz : Int)) = (q : Int) := by rw [IntWalk.i64_in _ (by omega)]; omega
                    have a8 : IntKind.i64.wrap ((n1 : Int) - 1) = (J : Int) := by rw [IntWalk.i64_in _ (by omega)]; omega
                    have hqtt : q < tt := by omega
                    have hqtt' : (q : Int) < (tt : Int) := by omega
                    have hJn : J < nr := by omega
                    have hJn' : (J : Int) < (nr : Int) := by omega
                    have hRJ : Hid (R2[J]? = some dd) := Lib.hid (by rw [← hJ]; exact hdat2.out)
                    replace hlb := Lib.hid hlb
                    replace hTT := Lib.hid hTT
                    have hml4 : tt ≤ 1016000 := by omega
                    have hPl5 : P ≤ 1012 := by omega
                    clear hgetq hqF hne hnm hfn hfl hTTl hq hl4 hlb2 hP hdl
                    replace hJ := Lib.hid hJ
                    go_wp2_with fail
                    go_at_call 23
                    (with_reducible refine (LF1.out _).mono ?_)
                    rintro e w6 ⟨rfl, hb6⟩
                    replace HG := Lib.hid (G.trans HG.out hb6)
                    clear LF1 k0 k1 k2 k3 k4 k5 lt q2 lt2 hb6
                    go_wp2_with fail
                    go_at_call 29
                    (with_reducible refine (CT.out _ HG.out).mono ?_)
                    rintro e w7 ⟨rfl, hb7⟩
                    replace HG := Lib.hid (G.trans HG.out hb7)
                    clear CT hb7
                    have HO7 := HO1.out.grow (devlog_frm.star (shT_frm p _)) HG.out
                    obtain ⟨cp, W, hcv, hbW, hBX, hcp⟩ := conv_bx w7 TT
                    obtain ⟨b0, hb0⟩ : ∃ x, w7.heap.size = x := ⟨_, rfl⟩
                    rw [hb0] at hcv hBX
                    have HO8 := HO7.addBox (devlog_frm.star (shT_frm p _)) hbW hBX (by omega)
                    rw [htt] at hcv hcp
                    have ltW := hBX.1
                    have cq := (hBX.2 q _ (u8s_get hx)).1
                    have fq := (hBX.2 q _ (u8s_get hx)).2
                    obtain ⟨TT2, hTT2⟩ : ∃ t, TT.set q y = t := ⟨_, rfl⟩
                    rw [hTT2] at et2
                    have hTT2l : TT2.length = tt := by rw [← hTT2, List.length_set, htt]
                    have HO9 := Lib.hid (HO8.putBox devlog_frm (shT_frm p _) (i := q) (v := .int .u8 ((y).toNat : Int)) ((u8s_set TT q y).trans (congrArg u8s hTT2)))
                    replace HG := Lib.hid (G.trans HG.out hbW)
                    clear HO7 HO8 hBX hbW
                    have HB := (HSB.out _ HG.out).box
                    unfold Sh.cells at HB
                    dsimp only at HB
                    rw [hnr.out, hgl.out] at HB
                    obtain ⟨k0, k1, k2, k3, k4, k5⟩ := HB.c6
                    have lt := HB.lt
                    clear HB
                    obtain ⟨g1, o1, hA1, hl1, hc1⟩ := (HSB.out _ HG.out).recs.ptr (by dsimp only; rw [hnr.out]; omega)
                    subst hA1
                    have q1 := hc1 J _ (strB_get hRJ.out)
                    have lt1 := cell_lt q1
                    dsimp only at lt1
                    replace hb0 := Lib.hid hb0
                    clear hc1 hx hTT2 hy
                    go_wp2_with fail
                    go_at_call 30
                    (with_reducible refine (Own.trunc (logT_frm _ _ _ |>.star ((shT_frm p _).star (boxT_frm _ _))) HO9.out.assoc HPl2.out.good hkl et1.out).mono ?_)
                    rintro e w10 ⟨rfl, hO10⟩
                    have HO10 := Lib.hid hO10
                    have hcb := conv_back hO10.right.right.right.bx cp
                    rw [hTT2l] at hcb
                    clear hO10 HO9 k0 k1 k2 k3 k4 k5 lt q1 lt1 cq fq ltW hcv
                    go_wp2_with fail
                    go_at_call 31
                    (with_reducible refine (Own.dappend (logT_frm _ _ _ |>.star ((shT_frm p _).star (boxT_frm _ _))) HO10.out gt1 hkl (by omega) et2.out).mono ?_)
                    rintro e w11 ⟨rfl, hO11⟩
                    have HO11 := Lib.hid hO11
                    clear hO11 HO10 hcb
                    have RD := Lib.hid (Own.Read2 HP.out HO11.out.assoc'.left HPl2.out hDm.out.good (n1 : Int))
                    rw [hRD.out] at RD
                    go_wp2_with fail
                    go_at_call 32
                    (with_reducible refine RD.out.mono ?_)
                    rintro e w12 ⟨rfl, hb12⟩
                    have HO12 := Lib.hid (HO11.out.grow ((devT_frm _ _).star (logT_frm _ _ _ |>.star ((shT_frm p _).star (boxT_frm _ _)))) hb12)
                    clear HO11 RD hb12
                    have hop := Own.Open HP.out HV.out (logT_frm _ _ _ |>.star ((shT_frm p _).star (boxT_frm _ _))) HO12.out hDm.out.good hnm2.out kn 200
                    rw [show B kn = (⟨#[108, 111, 103]⟩ : ByteArray) from rfl, eO.out] at hop
                    replace hop := Lib.hid hop
                    go_wp2_with fail
                    go_at_call 25
                    (with_reducible refine hop.out.mono ?_)
                    clear hop
                    rintro e w13 (⟨x, s', he, rfl, hO⟩ | ⟨s', l', L', he, _, _⟩)
                    · simp only [Prod.mk.injEq, and_true] at he
                      obtain ⟨rfl, rfl⟩ := he
                      have hbl := hO.below
                      obtain ⟨S', ⟨A1', c1', A2', c2', hS', _⟩, _, _⟩ := hO.right.right.left
                      have HB := hS'.box
                      unfold Sh.cells at HB
                      dsimp only at HB
                      rw [hnr.out, hgl.out] at HB
                      obtain ⟨k0, k1, k2, k3, k4, k5⟩ := HB.c6
                      have lt := HB.lt
                      clear HB hS' hO
                      go_wp2_with fail
                      go_ret
                      exact ⟨rfl, hbl⟩
                    · cases he
              · have hl9' : ¬ (K1 : Int) < (ng : Int) := by omega
                clear hc2
                go_wp2_with fail
                clear k0 k1 k2 k3 k4 k5 lt q2 lt2
                go_loopw [17, 18] (fun wv kv wx => ∃ (j K : Nat) (T : List UInt8), j ≤ i0 ∧ Hid (K = m + j) ∧ Hid (T = framesL m (r.take j)) ∧ wv = .string (B T) ∧ kv = .int .i64 (K : Int) ∧ Hid (Below wQ.heap.size wQ wx)) (fun _ kv _ => 3000 - (intOf kv).toNat)
                case atStart => exact ⟨0, m, [], Nat.zero_le _, Lib.hid rfl, Lib.hid rfl, rfl, rfl, HG⟩
                case round =>
                  clear HG
                  obtain ⟨j, K, T, hj, hK, hT, rfl, rfl, HG⟩ := hrel
                  have HB := (HSB.out _ HG.out).box
                  unfold Sh.cells at HB
                  dsimp only at HB
                  rw [hnr.out, hgl.out] at HB
                  obtain ⟨k0, k1, k2, k3, k4, k5⟩ := HB.c6
                  have lt := HB.lt
                  clear HB
                  by_cases hlt3 : j < i0
                  · have hKe : (K : Int) < (n1 : Int) := by have := hK.out; omega
                    obtain ⟨x, hx⟩ : ∃ x, r[j]? = some x := ⟨_, List.getElem?_eq_getElem (by omega)⟩
                    obtain ⟨J, hJ⟩ : ∃ J, K - 1 = J := ⟨_, rfl⟩
                    have hRJ : R2[J]? = some x := by
                      have := hrl.out j (by omega)
                      rw [← hK.out, hJ, hx] at this
                      exact this
                    have hJn : J < nr := by
                      have := (List.getElem?_eq_some_iff.1 hRJ).1
                      have := hnr.out
                      omega
                    have hJn' : (J : Int) < (nr : Int) := by omega
                    have hKb : K ≤ 2002 := by have := hK.out; omega
                    have hK1' : 1 ≤ K := by have := hK.out; omega
                    have u2 : IntKind.i64.wrap ((K : Int) - 1) = (J : Int) := by rw [IntWalk.i64_in _ (by omega)]; omega
                    have u3 : IntKind.i64.wrap ((K : Int) + 1) = ((K + 1 : Nat) : Int) := by rw [IntWalk.i64_in _ (by omega)]; omega
                    obtain ⟨hf1, hf2⟩ := hFr.out j x hx
                    have LFx := Lib.hid (fun (wx : World) => lawframe_any K (by omega) x (by omega) wx)
                    obtain ⟨F, hF⟩ : ∃ F, frameL K x = F := ⟨_, rfl⟩
                    have hFl : F.length = 16 + x.length := by rw [← hF]; exact frameL_len _ _
                    have hTF := B_app T F
                    obtain ⟨T2, hT2⟩ : ∃ T2, T ++ F = T2 := ⟨_, rfl⟩
                    have hT3 : Hid (T2 = framesL m (r.take (j + 1))) := Lib.hid (by rw [← hT2, ← hF, hT.out, hK.out]; exact hf1)
                    rw [hT2] at hTF
                    rw [hF] at LFx
                    have z1 := B_size T
                    have z2 := B_size F
                    have hTl : T.length ≤ 1016000 := by rw [hT.out]; exact hLen.out j
                    obtain ⟨t1, ht1⟩ : ∃ t, T.length = t := ⟨_, rfl⟩
                    obtain ⟨f1, hf1'⟩ : ∃ t, F.length = t := ⟨_, rfl⟩
                    rw [ht1] at z1 hTl
                    rw [hf1'] at z2 hFl
                    have v9 : ¬ (9223372036854775807 < t1 + f1) := by omega
                    obtain ⟨g1, o1, hA, hl1, hc1⟩ := (HSB.out _ HG.out).recs.ptr (by dsimp only; rw [hnr.out]; omega)
                    subst hA
                    have q1 := hc1 J _ (strB_get hRJ)
                    have lt1 := cell_lt q1
                    dsimp only at lt1
                    have hK2 : Hid (K + 1 = m + (j + 1)) := Lib.hid (by have := hK.out; omega)
                    clear hc1 hJ hx hRJ hf1 hF hT2 ht1 hf1'
                    go_wp2_with fail
                    go_at_call 17
                    (with_reducible refine (LFx.out _).mono ?_)
                    rintro e w6 ⟨rfl, hb6⟩
                    clear LFx k0 k1 k2 k3 k4 k5 lt q1 lt1
                    go_wp2_with fail
                    refine ⟨⟨j + 1, K + 1, T2, by omega, hK2, hT3, rfl, rfl, Lib.hid (G.trans HG.out hb6)⟩, by simp [intOf]; omega⟩
                  · obtain rfl : j = i0 := by omega
                    have hKe : ¬ (K : Int) < (n1 : Int) := by have := hK.out; omega
                    obtain ⟨g2, o2, hA2, hl2, hc2⟩ := (HSB.out _ HG.out).segs.ptr (by dsimp only; rw [hgl.out]; omega)
                    cases hA2
                    have q2 := hc2 k _ (natsC_get hGa2.out)
                    have lt2 := cell_lt q2
                    dsimp only at lt2
                    clear hc2
                    have LF1 := Lib.hid (fun (wx : World) => lawfile_any kn (by decide) m (by omega) wx)
                    have hkl : (fileL kn m).length ≤ 1000 := file_len2 m
                    have hfl0 := HPl2.out.inv.fls.data
                    rw [hm.out] at hfl0
                    obtain ⟨D0, hfl⟩ := hfl0
                    have CT := Lib.hid (fun (wx : World) (hb : Below wQ.heap.size wQ wx) => Own.contents (nm := fileL kn m) (HO1.out.grow (devlog_frm.star (shT_frm p _)) hb).left.left HPl2.out.good hkl)
                    rw [text_of HPl2.out.up hfl] at CT
                    dsimp only at CT
                    rw [show B kn = (⟨#[108, 111, 103]⟩ : ByteArray) from rfl] at LF1
                    obtain ⟨TT, hTT⟩ : ∃ t, framesL m r = t := ⟨_, rfl⟩
                    rw [hTT] at CT
                    have hTTl : TT.length ≤ 1016000 := by rw [← hTT, ← List.take_length (l := r)]; exact hLen.out _
                    have hlb : T.length = bytesF (r.take j) := by rw [hT.out, len_frames]
                    obtain ⟨dl, hdl⟩ : ∃ t, dd.length = t := ⟨_, rfl⟩
                    obtain ⟨P, hP⟩ : ∃ P, 12 + dl = P := ⟨_, rfl⟩
                    obtain ⟨rz, hrz⟩ : ∃ r, Z2 % P = r := ⟨_, rfl⟩
                    have hrzl : rz < P := by rw [← hrz]; exact Nat.mod_lt _ (by omega)
                    obtain ⟨lb, hlb2⟩ : ∃ t, T.length = t := ⟨_, rfl⟩
                    have hTl : lb ≤ 1016000 := by rw [← hlb2, hT.out]; exact hLen.out j
                    obtain ⟨l4, hl4⟩ : ∃ t, lb + 4 = t := ⟨_, rfl⟩
                    obtain ⟨q, hq⟩ : ∃ q, l4 + rz = q := ⟨_, rfl⟩
                    have hgetq : TT[q]? = (frameL (m + j) dd)[4 + rz]? := by
                      have := frames_get m hdd2.out (i := 4 + rz) (by omega)
                      rw [hTT, ← hlb, hlb2] at this
                      rw [← this, ← hq, ← hl4, Nat.add_assoc]
                    have hqF : 4 + rz < (frameL (m + j) dd).length := by rw [frameL_len]; omega
                    obtain ⟨x, hx⟩ : ∃ x, TT[q]? = some x := by rw [hgetq]; exact ⟨_, List.getElem?_eq_getElem hqF⟩
                    have hqT : q < TT.length := (List.getElem?_eq_some_iff.1 hx).1
                    obtain ⟨tt, htt⟩ : ∃ t, TT.length = t := ⟨_, rfl⟩
                    have hxr : bits .xor .u8 ((x.toNat : Nat) : Int) 1 = (((x ^^^ 1).toNat : Nat) : Int) := by
                      have := u8_xor_nat x.toNat 1 (by have := x.toNat_lt; omega) (by decide)
                      rw [UInt8.toNat_xor]
                      exact this
                    have hne : (frameL (m + j) dd)[4 + rz]? ≠ some (x ^^^ 1) := by rw [← hgetq, hx]; exact ne_xor1 x
                    obtain ⟨y, hy⟩ : ∃ y, x ^^^ 1 = y := ⟨_, rfl⟩
                    rw [hy] at hxr hne
                    obtain ⟨t1, t2, et1, gt1, et2, hDm, hnm⟩ := dmg_steps HPl2.out.inv HPl2.out.good HPl2.out.up HPl2.out.free (by have := HBn.out.used; omega) HBn.out.room hm.out hdd2.out (i := 4 + rz) (by omega) (by omega) hne
                    rw [hTT, ← hlb, hlb2, show lb + (4 + rz) = q by omega] at et2
                    have hnm2 := hnm HPl2.out.nml
                    replace hnm2 := Lib.hid hnm2
                    replace hDm := Lib.hid hDm
                    have hRD : lread t2 l (n1 : Int) = ([], 28) := by
                      have h1 := hDm.out
                      rw [← hm.out] at h1
                      have := dmg_read HPl2.out.inv h1
                      rwa [hm.out, hmn1] at this
                    have hOG : ∃ u l2 R3 g3, openG t2 kn 200 = (0, u, some l2) ∧ u.down = false ∧ Stp (OwnF kn) 0 0 2 t2 u ∧ Inv kn u l2 R3 1 g3 ∧ R3.length + 1 = n1 ∧ ∃ D, lkC u.fs (fileL kn m) = some ⟨fileL kn m, T, D⟩ := by
                      have hb0 : b = [] := hbn.out.2 (by omega)
                      subst hb0
                      have h1 := hDm.out
                      rw [← hm.out] at h1
                      obtain ⟨u, l2, R3, e1, e2, e3, e4, e5, D, e6⟩ := dmg_last HPl2.out.inv h1 (lim := 200) (by decide)
                      rw [hm.out] at e5 e6
                      exact ⟨u, l2, R3, _, e1, e2, e3, e4, by omega, D, by rw [hT.out]; exact e6⟩
                    obtain ⟨u, l2, R3, g3, eO, hu, hst, hI2, hR3, D3, hfl3⟩ := hOG
                    have hok2 := Lib.hid hI2.ok
                    have hlast : l2.last = ((n1 - 1 : Nat) : Int) := by rw [hI2.last]; omega
                    have hTX := text_of hu hfl3
                    have hug := hst.good hDm.out.good
                    replace hug := Lib.hid hug
                    replace hTX := Lib.hid hTX
                    clear hfl3 hu hst hI2 hR3
                    obtain ⟨fn, hfn⟩ : ∃ f, fileL kn m = f := ⟨_, rfl⟩
                    rw [hfn] at LF1 CT et1 et2 hkl hTX
                    replace eO := Lib.hid eO
                    replace hRD := Lib.hid hRD
                    replace et1 := Lib.hid et1
                    replace et2 := Lib.hid et2
                    have zT := B_size T
                    rw [hlb2] at zT
                    have zD := B_size dd
                    rw [hdl] at zD
                    obtain ⟨J, hJ⟩ : ∃ J, n1 - 1 = J := ⟨_, rfl⟩
                    have a1 : IntKind.i64.wrap ((lb : Int) + 4) = (l4 : Int) := by rw [IntWalk.i64_in _ (by omega)]; omega
                    have a2 : IntKind.i64.wrap (12 + (dl : Int)) = (P : Int) := by rw [IntWalk.i64_in _ (by omega)]; omega
                    have a3 : ¬ (P : Int) = 0 := by omega
                    have a4 : (Z2 : Int) % (P : Int) = (rz : Int) := by rw [← hrz]; rfl
                    have a5 : (Z2 : Int).tmod (P : Int) = (rz : Int) := by rw [Int.tmod_eq_emod_of_nonneg (by omega)]; exact a4
                    have a6 : IntKind.i64.wrap (rz : Int) = (rz : Int) := IntWalk.i64_in _ (by omega)
                    have a7 : IntKind.i64.wrap ((l4 : Int) + (rz : Int)) = (q : Int) := by rw [IntWalk.i64_in _ (by omega)]; omega
                    have a8 : IntKind.i64.wrap ((n1 : Int) - 1) = (J : Int) := by rw [IntWalk.i64_in _ (by omega)]; omega
                    have hqtt : q < tt := by omega
                    have hqtt' : (q : Int) < (tt : Int) := by omega
                    have hJn : J < nr := by omega
                    have hJn' : (J : Int) < (nr : Int) := by omega
                    have hRJ : Hid (R2[J]? = some dd) := Lib.hid (by rw [← hJ]; exact hdat2.out)
                    replace hlb := Lib.hid hlb
                    replace hTT := Lib.hid hTT
                    have hml4 : tt ≤ 1016000 := by omega
                    have hPl5 : P ≤ 1012 := by omega
                    clear hgetq hqF hne hnm hfn hfl hTTl hq hl4 hlb2 hP hdl
                    rw [hJ] at hlast
                    replace hJ := Lib.hid hJ
                    go_wp2_with fail
                    go_at_call 23
                    (with_reducible refine (LF1.out _).mono ?_)
                    rintro e w6 ⟨rfl, hb6⟩
                    replace HG := Lib.hid (G.trans HG.out hb6)
                    clear LF1 k0 k1 k2 k3 k4 k5 lt q2 lt2 hb6
                    go_wp2_with fail
                    go_at_call 29
                    (with_reducible refine (CT.out _ HG.out).mono ?_)
                    rintro e w7 ⟨rfl, hb7⟩
                    replace HG := Lib.hid (G.trans HG.out hb7)
                    clear CT hb7
                    have HO7 := HO1.out.grow (devlog_frm.star (shT_frm p _)) HG.out
                    obtain ⟨cp, W, hcv, hbW, hBX, hcp⟩ := conv_bx w7 TT
                    obtain ⟨b0, hb0⟩ : ∃ x, w7.heap.size = x := ⟨_, rfl⟩
                    rw [hb0] at hcv hBX
                    have HO8 := HO7.addBox (devlog_frm.star (shT_frm p _)) hbW hBX (by omega)
                    rw [htt] at hcv hcp
                    have ltW := hBX.1
                    have cq := (hBX.2 q _ (u8s_get hx)).1
                    have fq := (hBX.2 q _ (u8s_get hx)).2
                    obtain ⟨TT2, hTT2⟩ : ∃ t, TT.set q y = t := ⟨_, rfl⟩
                    rw [hTT2] at et2
                    have hTT2l : TT2.length = tt := by rw [← hTT2, List.length_set, htt]
                    have HO9 := Lib.hid (HO8.putBox devlog_frm (shT_frm p _) (i := q) (v := .int .u8 ((y).toNat : Int)) ((u8s_set TT q y).trans (congrArg u8s hTT2)))
                    replace HG := Lib.hid (G.trans HG.out hbW)
                    clear HO7 HO8 hBX hbW
                    have HB := (HSB.out _ HG.out).box
                    unfold Sh.cells at HB
                    dsimp only at HB
                    rw [hnr.out, hgl.out] at HB
                    obtain ⟨k0, k1, k2, k3, k4, k5⟩ := HB.c6
                    have lt := HB.lt
                    clear HB
                    obtain ⟨g1, o1, hA1, hl1, hc1⟩ := (HSB.out _ HG.out).recs.ptr (by dsimp only; rw [hnr.out]; omega)
                    subst hA1
                    have q1 := hc1 J _ (strB_get hRJ.out)
                    have lt1 := cell_lt q1
                    dsimp only at lt1
                    replace hb0 := Lib.hid hb0
                    clear hc1 hx hTT2 hy
                    go_wp2_with fail
                    go_at_call 30
                    (with_reducible refine (Own.trunc (logT_frm _ _ _ |>.star ((shT_frm p _).star (boxT_frm _ _))) HO9.out.assoc HPl2.out.good hkl et1.out).mono ?_)
                    rintro e w10 ⟨rfl, hO10⟩
                    have HO10 := Lib.hid hO10
                    have hcb := conv_back hO10.right.right.right.bx cp
                    rw [hTT2l] at hcb
                    clear hO10 HO9 k0 k1 k2 k3 k4 k5 lt q1 lt1 cq fq ltW hcv
                    go_wp2_with fail
                    go_at_call 31
                    (with_reducible refine (Own.dappend (logT_frm _ _ _ |>.star ((shT_frm p _).star (boxT_frm _ _))) HO10.out gt1 hkl (by omega) et2.out).mono ?_)
                    rintro e w11 ⟨rfl, hO11⟩
                    have HO11 := Lib.hid hO11
                    clear hO11 HO10 hcb
                    have RD := Lib.hid (Own.Read2 HP.out HO11.out.assoc'.left HPl2.out hDm.out.good (n1 : Int))
                    rw [hRD.out] at RD
                    go_wp2_with fail
                    go_at_call 32
                    (with_reducible refine RD.out.mono ?_)
                    rintro e w12 ⟨rfl, hb12⟩
                    have HO12 := Lib.hid (HO11.out.grow ((devT_frm _ _).star (logT_frm _ _ _ |>.star ((shT_frm p _).star (boxT_frm _ _)))) hb12)
                    clear HO11 RD hb12
                    have hop := Own.Open HP.out HV.out (logT_frm _ _ _ |>.star ((shT_frm p _).star (boxT_frm _ _))) HO12.out hDm.out.good hnm2.out kn 200
                    rw [show B kn = (⟨#[108, 111, 103]⟩ : ByteArray) from rfl, eO.out] at hop
                    replace hop := Lib.hid hop
                    go_wp2_with fail
                    go_at_call 25
                    (with_reducible refine hop.out.mono ?_)
                    clear hop
                    rintro e w13 (⟨x, s', he, _, _⟩ | ⟨s', l', L', he, rfl, hO⟩)
                    · cases he
                    · simp only [Prod.mk.injEq, Option.some.injEq, true_and] at he
                      obtain ⟨rfl, rfl⟩ := he
                      have HO13 := Lib.hid hO
                      obtain ⟨S', ⟨A1', c1', A2', c2', hS', _⟩, _, _⟩ := hO.right.right.left
                      have HB := hS'.box
                      unfold Sh.cells at HB
                      dsimp only at HB
                      rw [hnr.out, hgl.out] at HB
                      obtain ⟨k0, k1, k2, k3, k4, k5⟩ := HB.c6
                      have lt := HB.lt
                      have LA := Lib.hid (hO.left.Last hok2.out)
                      rw [hlast] at LA
                      clear HB hS' hO
                      go_wp2_with fail
                      go_at_call 33
                      (with_reducible refine LA.out.mono ?_)
                      rintro e w14 ⟨rfl, hb14⟩
                      have HO14 := Lib.hid (HO13.out.grow (devlog_frm.star (logT_frm _ _ _ |>.star ((shT_frm p _).star (boxT_frm _ _)))) hb14)
                      have CT2 := Lib.hid (Own.contents (nm := fn) HO14.out.left.left hug.out hkl)
                      rw [hTX.out] at CT2
                      dsimp only at CT2
                      clear k0 k1 k2 k3 k4 k5 lt LA HO13
                      go_wp2_with fail
                      go_at_call 29
                      (with_reducible refine CT2.out.mono ?_)
                      rintro e w15 ⟨rfl, hb15⟩
                      have hbl := G.trans HO14.out.below hb15
                      go_wp2_with fail
                      go_ret
                      exact ⟨rfl, hbl⟩
  · have hN' : (30 : Int) < (N : Int) := by omega
    go_enter Tryz.func7, Tryz.ntmps7
    go_wp2_with fail
    go_at_call 13
    (with_reducible refine (KN.out _ (G.refl w)).mono ?_)
    rintro e w1 ⟨rfl, hb1⟩
    go_wp2_with fail
    go_at_call 13
    (with_reducible refine (KN.out _ hb1).mono ?_)
    rintro e w2 ⟨rfl, hb2⟩
    replace hb2 := G.trans hb1 hb2
    go_wp2_with fail
    go_ret
    exact ⟨rfl, hb2⟩
end Go.Proofs.YtbafnlccpbonmaaGreatDoor
