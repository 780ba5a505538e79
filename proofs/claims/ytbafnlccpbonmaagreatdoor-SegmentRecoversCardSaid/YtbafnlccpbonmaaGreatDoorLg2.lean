/- The law SegmentLogs. -/
import Derived.Test.YtbafnlccpbonmaaGreatDoorFd2
import Derived.Test.YtbafnlccpbonmaaGreatDoorGOps
namespace Go.Proofs.YtbafnlccpbonmaaGreatDoor
set_option linter.unusedVariables false
set_option linter.unnecessarySimpa false
set_option linter.unusedSimpArgs false
open Go.RowKit

/-- What the files of k operations are at most. -/
structure Bnd (k : Nat) (s : Ds) (R : List (List UInt8)) : Prop where
  len : R.length ≤ k
  used : usedC s.fs ≤ 216 * k
  cnt : s.fs.length ≤ k
  room : s.room = 1048576
  rest : ∀ m, ¬ OwnF kn m → lkC s.fs m = none
theorem Bnd.step {k a b c : Nat} {s t : Ds} {R R' : List (List UInt8)} (h : Bnd k s R) (hs : Stp (OwnF kn) a b c s t) (ha : a ≤ 216) (hb : b ≤ 1) (hR : R'.length ≤ R.length + 1) : Bnd (k + 1) t R' :=
  ⟨by have := h.len; omega, by have := h.used; have := hs.used; omega, by have := h.cnt; have := hs.cnt; omega, hs.room.trans h.room, fun m hm => (hs.rest m hm).trans (h.rest m hm)⟩
theorem Bnd.more {k : Nat} {s : Ds} {R : List (List UInt8)} (h : Bnd k s R) : Bnd (k + 1) s R := ⟨by have := h.len; omega, by have := h.used; omega, by have := h.cnt; omega, h.room, h.rest⟩
section
variable {w0 w : World} {d L p n : Nat} {s : Ds} {l : Lg} {Y : Thing} {R : List (List UInt8)} {g : List (List (List UInt8))} {sh : Sh} {k : Nat} {lim : Int}
/-- The log is opened again. -/
theorem Own.Again (hp : Pow10 w0) (hv : LibVars w0) (hY : Frm Y) (h : Own w0 w (star (devlog d L s l) Y)) (hP : Pl kn s l R n g) :
    Calls Tryz.prog 25 #[.pointer (some ⟨d, 0, none⟩), .string (B kn), .int .i64 l.limit] w fun e w' => ∃ L', e = .returned (.tuple #[.pointer (some ⟨L', 0, none⟩), .int .i64 0]) ∧
      ∃ t, Stp (OwnF kn) 0 0 2 s t ∧ Pl kn t ⟨kn, l.limit, ptsG n g, R.length⟩ R n g ∧ Own w0 w' (star (devlog d L' t ⟨kn, l.limit, ptsG n g, R.length⟩) Y) := by
  have h2 := h.assoc
  refine (Own.Open hp hv ((logT_frm d L l).star hY) h2 hP.good hP.nml kn l.limit).mono fun e w' hh => ?_
  obtain ⟨D, hF, _⟩ := hP.inv.fls.fil
  rcases open_inv hF hP.inv.fls.shp hP.good hP.up hP.inv.fls.name hP.inv.lim (.inl rfl) with ⟨t, e1, k1, k2, k3⟩ | ⟨e1, _⟩
  · rw [e1] at hh
    rcases hh with ⟨x, s', hR, _⟩ | ⟨s', l', L', hR, he, ho⟩
    · simp at hR
    · simp only [Prod.mk.injEq, Option.some.injEq, true_and] at hR
      obtain ⟨rfl, rfl⟩ := hR
      exact ⟨L', he, t, k2, hP.step k2 k1 k3, ho.weak⟩
  · rw [hP.free] at e1
    cases e1
end
theorem Own.fresh {w0 w : World} {d : Nat} {s : Ds} {Y : Thing} (hp : Pow10 w0) (hv : LibVars w0) (hY : Frm Y) (h : Own w0 w (star (devT d s) Y)) (hd : s.down = false) (hl : s.lim = false) (hg : s.Good) (hnm : NmL s.fs) {nm : List UInt8} (hn : nameC nm = true) {lim : Int} (hlim : 64 ≤ lim ∧ lim ≤ 4194304) (hno : ∀ m, OwnF nm m → lkC s.fs m = none) :
    Calls Tryz.prog 25 #[.pointer (some ⟨d, 0, none⟩), .string (B nm), .int .i64 lim] w fun e w' => ∃ L, e = .returned (.tuple #[.pointer (some ⟨L, 0, none⟩), .int .i64 0]) ∧ ∃ t, Stp (OwnF nm) 0 0 2 s t ∧ Pl nm t ⟨nm, lim, [], 0⟩ [] 1 [] ∧ Own w0 w' (star (devlog d L t ⟨nm, lim, [], 0⟩) Y) := by
  refine (Own.Open hp hv hY h hg hnm nm lim).mono fun e w' hh => ?_
  obtain ⟨t, e1, k1, k2, k3⟩ := inv_fresh hd hl hg hn hlim hno
  rw [e1] at hh
  rcases hh with ⟨x, s', hR, _⟩ | ⟨s', l', L', hR, he, ho⟩
  · simp at hR
  · simp only [Prod.mk.injEq, Option.some.injEq, true_and] at hR
    obtain ⟨rfl, rfl⟩ := hR
    exact ⟨L', he, t, k2, ⟨k3, k2.good hg, k1, k2.lim.trans hl, k2.nml hnm⟩, ho⟩
theorem shT_new {w : World} {lim : Int} {t : TypeId} : shT w.heap.size ⟨lim, [], [], 0, 1, 0⟩ (fun x => x = w.heap.size) (w.alloc (.cells #[.int .i64 lim, .slice none 0 0, .slice none 0 0, .int .i64 0, .int .i64 1, .int .i64 0] t)) := by
  refine ⟨none, 0, none, 0, ⟨Bx.new rfl rfl, OwnO.nil _ _ 1, OwnO.nil _ _ 1, fun ad h => (by cases h), fun ad h => (by cases h), fun a1 a2 h => (by cases h)⟩, fun x => ⟨fun h => .inl h, fun h => ?_⟩⟩
  rcases h with h | ⟨ad, h, _⟩ | ⟨ad, h, _⟩
  · exact h
  · cases h
  · cases h
set_option maxRecDepth 20000 in set_option maxHeartbeats 32000000 in
theorem segmentLogs_any (z : Int) (A : Option Addr) (N c : Nat) (ops : List GOp) (w : World) (wz : (Lit.int .u16 z).wf = true) (hops : OpsW w A N c ops) (hE : Pow10 w ∧ LibVars w) : Calls Tryz.prog 8 #[.int .u16 z, .slice A N c] w fun e w' => e = .returned (.bool true) ∧ Below w.heap.size w w' := by
  have HP := Lib.hid hE.1
  have HV := Lib.hid hE.2
  have HOP := Lib.hid hops
  obtain ⟨hlen, hNc, hcm⟩ := hops.len
  obtain ⟨Z, rfl, hZ⟩ : ∃ Z : Nat, z = (Z : Int) ∧ Z < 65536 := by
    have h1 : 0 ≤ z ∧ z ≤ 65535 := by
      have e1 : IntKind.u16.min = 0 := rfl
      have e2 : IntKind.u16.max = 65535 := rfl
      simp [Lit.wf, e1, e2] at wz
      exact wz
    exact ⟨z.toNat, by omega, by omega⟩
  obtain ⟨rm, hrm⟩ : ∃ r, Z % 337 = r := ⟨_, rfl⟩
  have hr4 : rm < 337 := by omega
  obtain ⟨lm, hlm⟩ : ∃ l, 64 + rm = l := ⟨_, rfl⟩
  have z1 : IntKind.i64.wrap (Z : Int) = (Z : Int) := IntWalk.i64_in _ (by omega)
  have z2 : (Z : Int) % 337 = (rm : Int) := by rw [← hrm]; rfl
  have z3 : (Z : Int).tmod 337 = (rm : Int) := by rw [Int.tmod_eq_emod_of_nonneg (by omega)]; exact z2
  have z4 : IntKind.i64.wrap (rm : Int) = (rm : Int) := IntWalk.i64_in _ (by omega)
  have z5 : IntKind.i64.wrap (64 + (rm : Int)) = (lm : Int) := by rw [IntWalk.i64_in _ (by omega)]; omega
  have hlm4 : 64 ≤ lm ∧ lm ≤ 4194304 := by omega
  replace hlen := Lib.hid hlen
  clear hops hE hrm wz hlm
  have KN := Lib.hid (fun (wx : World) (hb : Below w.heap.size w wx) => known_any wx (HP.out.grow hb) (HV.out.grow hb))
  by_cases hN : N ≤ 40
  · have hN' : ¬ (40 : Int) < (N : Int) := by omega
    go_enter Tryz.func8, Tryz.ntmps8
    go_wp2_with fail
    go_at_call 13
    (with_reducible refine (KN.out _ (G.refl w)).mono ?_)
    rintro e w1 ⟨rfl, hb1⟩
    clear KN
    go_wp2_with fail
    (refine (new_any 1048576 (by decide) (by decide)).mono ?_)
    intro e w2 hr
    obtain ⟨d, rfl, F0⟩ := FD.new (w0 := w) hb1 hr
    replace F0 := Lib.hid F0
    clear hr hb1
    go_upto_region 5 with fail
    obtain ⟨p, hpz⟩ : ∃ p, w2.heap.size = p := ⟨_, rfl⟩
    rw [hpz]
    refine wp_name (fun wx => Hid (Own w wx (star (devT d (newD 1048576)) (shT p ⟨(lm : Int), [], [], 0, 1, 0⟩)))) (Lib.hid ?_) ?_
    · exact (Own.of_fd F0.out).add (devT_frm d _) (G.alloc (G.refl w2) _) (M := fun x => x = p) (by rw [← hpz]; exact shT_new) (fun x hx => by omega)
    intro w3 HO
    obtain ⟨S3, ⟨A3, B3, _, ⟨A1, c1, A2, c2, h3, _⟩, _, _⟩, _, _⟩ := id HO.out
    have k0 := (h3.box.2 0 _ rfl).1
    have ltp := h3.box.lt
    clear h3 hpz F0
    go_wp2_with fail
    go_at_call 25
    have hop := HO.out.fresh HP.out HV.out (shT_frm p _) rfl rfl (new_good (by decide) (by decide)) (fun f hf => by cases hf) (nm := kn) rfl (lim := (lm : Int)) (by omega) (fun m _ => rfl)
    rw [show B kn = (⟨#[108, 111, 103]⟩ : ByteArray) from rfl] at hop
    (with_reducible refine hop.mono ?_)
    clear hop HO k0 ltp
    rintro e w4 ⟨L0, rfl, s0, hs0, hp0, ho0⟩
    have HO := Lib.hid ho0
    have HS := Lib.hid hs0
    have HPl := Lib.hid hp0
    clear hs0 hp0 ho0
    go_wp2_with fail
    go_loopw [8, 10] (fun lv iv wr => ∃ (i L : Nat) (s : Ds) (l : Lg) (R : List (List UInt8)) (n : Nat) (g : List (List (List UInt8))) (sh : Sh), i ≤ N ∧ lv = .pointer (some ⟨L, 0, none⟩) ∧ iv = .int .i64 (i : Int) ∧ Hid (Own w wr (star (devlog d L s l) (shT p sh))) ∧ Hid (Pl kn s l R n g) ∧ Hid (Mdl l R n g sh) ∧ Hid (Bnd i s R)) (fun _ iv _ => N - (intOf iv).toNat)
    case atStart => exact ⟨0, L0, s0, _, [], 1, [], _, Nat.zero_le _, rfl, rfl, HO, HPl, Lib.hid Mdl.start, Lib.hid ⟨Nat.le_refl _, HS.out.used, HS.out.cnt, HS.out.room, fun m hm => HS.out.rest m hm⟩⟩
    case round =>
      obtain ⟨i, L, s, l, R, n, g, sh, hi, rfl, rfl, HO1, HPl1, HM, HBn⟩ := hrel
      clear HO HS HPl
      have HOPr := Lib.hid (HOP.out.grow HO1.out.below)
      by_cases hlt : i < N
      · have hlt' : (i : Int) < (N : Int) := by omega
        obtain ⟨⟨kd0, by0, sz⟩, hx⟩ : ∃ o, ops[i]? = some o := ⟨_, List.getElem?_eq_getElem (by rw [hlen.out]; exact hlt)⟩
        obtain ⟨ga, oa, hA, hal, q0, q1, q2, hf1, hf2⟩ := HOPr.out.at_ hx
        subst hA
        dsimp only at q0 q1 q2 hf1 hf2
        have ltq := cell_lt q0
        dsimp only at ltq
        have hw9 : IntKind.i64.wrap ((i : Int) + 1) = ((i + 1 : Nat) : Int) := by rw [IntWalk.i64_in _ (by omega)]; omega
        obtain ⟨k8, hk8⟩ : ∃ k, kd0 % 8 = k := ⟨_, rfl⟩
        have hk8l : k8 < 8 := by omega
        have r0 : (kd0 : Int) % 8 = (k8 : Int) := by rw [← hk8]; rfl
        have r1 : (kd0 : Int).tmod 8 = (k8 : Int) := by rw [Int.tmod_eq_emod_of_nonneg (by omega)]; exact r0
        have r2 : IntKind.u8.wrap (k8 : Int) = (k8 : Int) := IntWalk.u8_in _ (by omega)
        have s1 : IntKind.i64.wrap (sz : Int) = (sz : Int) := IntWalk.i64_in _ (by omega)
        obtain ⟨z50, hz50⟩ : ∃ k, sz % 50 = k := ⟨_, rfl⟩
        have s2 : (sz : Int) % 50 = (z50 : Int) := by rw [← hz50]; rfl
        have s3 : (sz : Int).tmod 50 = (z50 : Int) := by rw [Int.tmod_eq_emod_of_nonneg (by omega)]; exact s2
        have s4 : IntKind.i64.wrap (z50 : Int) = (z50 : Int) := IntWalk.i64_in _ (by omega)
        have hSz := HM.out.sizes HPl1.out.inv.fls.shp
        obtain ⟨hS1, hS2, hS3⟩ := hSz
        have hRl : R.length ≤ 40 := by have := HBn.out.len; omega
        clear hx hk8 hz50
        obtain ⟨w5, hw5⟩ : ∃ w5, wr.alloc (.cells #[.int .u8 (kd0 : Int), .int .u8 (by0.toNat : Int), .int .u16 (sz : Int)] 56) = w5 := ⟨_, rfl⟩
        have hb5 : Below wr.heap.size wr w5 := by rw [← hw5]; exact G.alloc (G.refl wr) _
        have x5 : Bx w5 wr.heap.size [.int .u8 (kd0 : Int), .int .u8 (by0.toNat : Int), .int .u16 (sz : Int)] := by rw [← hw5]; exact Bx.new rfl rfl
        obtain ⟨bx, hbx⟩ : ∃ b, wr.heap.size = b := ⟨_, rfl⟩
        rw [hbx] at x5
        have HO5 := Lib.hid (HO1.out.addBox (devlog_frm.star (shT_frm p sh)) hb5 x5 (by omega))
        have d0 := (x5.2 0 _ rfl).1
        have d1 := (x5.2 1 _ rfl).1
        have d2 := (x5.2 2 _ rfl).1
        have ltd := x5.lt
        have FY := Lib.hid (fun (sh' : Sh) => (shT_frm p sh').star (boxT_frm bx [.int .u8 (kd0 : Int), .int .u8 (by0.toNat : Int), .int .u16 (sz : Int)]))
        have FB := Lib.hid (boxT_frm bx [.int .u8 (kd0 : Int), .int .u8 (by0.toNat : Int), .int .u16 (sz : Int)])
        clear x5 HO1
        obtain ⟨S, P, cc, rs, A1, c1, A2, c2, _, _, h3⟩ := HO5.out.dropR.parts
        have HB := h3.box
        unfold Sh.cells at HB
        obtain ⟨nr, hnr⟩ : ∃ k, sh.recs.length = k := ⟨_, rfl⟩
        have hnR : Hid (nr = R.length) := Lib.hid (by rw [← hnr, HM.out.agr.recs])
        rw [hnr] at HB
        obtain ⟨k0, k1, k2, k3, k4, k5⟩ := HB.c6
        obtain ⟨f0, f1, f2, f3, f4, f5⟩ := HB.f6
        have ltp := HB.lt
        replace hnr := Lib.hid hnr
        clear HB h3
        by_cases h4 : k8 = 4
        · skip
          subst h4
          have HO6 := Lib.hid (HO5.out.modput2 devlog_frm FB.out (sh' := { sh with dur := nr }) (i := 5) (v := .int .i64 (nr : Int)) (fun _ _ _ _ => rfl) rfl rfl)
          have SY := Lib.hid (Own.Sync HP.out (FY.out _) HO6.out HPl1.out)

          go_wp2_with fail
          go_at_call 34
          (with_reducible refine SY.out.mono ?_)
          rintro e w7 ⟨rfl, t, ht, hPt, hO⟩
          clear d0 d1 d2 ltd SY HO6
          clear k0 k1 k2 k3 k4 k5 f0 f1 f2 f3 f4 f5 ltp
          have hMt : Mdl { l with dur := R.length } R n g { sh with dur := nr } := by rw [← hnr.out]; exact HM.out.sync
          have hfr := Lib.hid (hO.dropR)
          go_wp2_with fail
          go_at_call 37
          (with_reducible refine (Own.agrees HP.out hfr.out hPt hMt).mono ?_)
          rintro e wZ ⟨rfl, hbZ⟩
          have hOZ := Lib.hid (hfr.out.grow (devlog_frm.star (shT_frm p _)) hbZ)
          clear hfr hbZ
          go_wp2_with fail
          refine ⟨⟨i + 1, _, t, _, R, n, g, _, by omega, rfl, rfl, hOZ, Lib.hid hPt, Lib.hid hMt, Lib.hid (HBn.out.step ht (by omega) (by omega) (by omega))⟩, by simp [intOf]; omega⟩
        · by_cases h5 : k8 = 5
          · subst h5
            by_cases hn1 : n ≤ sz
            · by_cases hn2 : sz ≤ nr
              · obtain ⟨x, hxx⟩ : ∃ x, R[sz - 1]? = some x := ⟨_, List.getElem?_eq_getElem (by have := HPl1.out.inv.fls.shp.n1; have := hnR.out; omega)⟩
                have RD1 := Lib.hid (Own.Read HP.out HO5.out.left HPl1.out (sz : Int))
                rw [HPl1.out.inv.read HPl1.out.up hn1 hxx] at RD1
                have g1 : (sh.first : Int) ≤ (sz : Int) := by rw [HM.out.agr.first]; omega
                have g2 : (sz : Int) ≤ (nr : Int) := by omega
                clear hxx

                go_wp2_with fail
                go_at_call 32
                (with_reducible refine RD1.out.mono ?_)
                rintro e w7 ⟨rfl, hb7⟩
                replace d2 := G.cell d2 hb7
                replace k1 := G.cell k1 hb7
                replace k4 := G.cell k4 hb7
                replace ltd := cell_lt d2
                replace ltp := cell_lt k1
                dsimp only at ltd ltp
                have HO7 := Lib.hid (HO5.out.grow (devlog_frm.star (FY.out sh)) hb7)
                clear d0 d1 k0 k2 k3 k5 f0 f1 f2 f3 f4 f5 hb7 RD1
                go_wp2_with fail
                refine wp_region_ord [(0, 1), (1, 1), (2, 1), (3, 1), (4, 1), (5, 1), (6, 1), (7, 1), (8, 1), (9, 1), (10, 1), (11, 1), (12, 1), (13, 1), (14, 1), (15, 1), (16, 1), (17, 1), (18, 1), (19, 1), (20, 1), (21, 1)] [] 5 (by kernel_rfl) (by decide +kernel) ?_
                simp only [pickO, List.append_eq, List.cons_append, List.nil_append, List.getElem?_cons_succ, List.getElem?_cons_zero]
                intro w0 hG
                (repeat ((first | (with_reducible refine ord_q1 ?_) | (with_reducible refine ord_q0 ?_)); intro K hK; first | (refine Or.inr ⟨?_, ?_⟩; (focus (go_simp; first | done | (simp [undef]; done))); go_simp; (with_reducible refine hK _ ?_); clear hK K) | (refine Or.inl ⟨?_, ?_⟩; (focus (go_simp; done)); apply Exists.intro; refine And.intro ?_ ?_; (focus (first | (intro wq hq; obtain ⟨hcq, hfq⟩ := G.old hq; go_simp; (first | done | exact rfl); done) | (intro wq; go_simp; (first | done | exact rfl); done))); go_simp; (with_reducible refine hK _ ?_); clear hK K) | fail))
                (with_reducible refine ord_nil ?_)
                have hb8 := hG.b
                have hO := HO7.out.grow (devlog_frm.star (FY.out sh)) hb8
                clear hG hb8 d2 k1 k4 ltd ltp HO7
                have hfr := Lib.hid (hO.dropR)
                go_wp2_with fail
                go_at_call 37
                (with_reducible refine (Own.agrees HP.out hfr.out HPl1.out HM.out).mono ?_)
                rintro e wZ ⟨rfl, hbZ⟩
                have hOZ := Lib.hid (hfr.out.grow (devlog_frm.star (shT_frm p _)) hbZ)
                clear hfr hbZ
                go_wp2_with fail
                refine ⟨⟨i + 1, _, s, l, R, n, g, sh, by omega, rfl, rfl, hOZ, Lib.hid HPl1.out, Lib.hid HM.out, Lib.hid HBn.out.more⟩, by simp [intOf]; omega⟩
              · skip
                have RD1 := Lib.hid (Own.Read HP.out HO5.out.left HPl1.out (sz : Int))
                rw [HPl1.out.inv.noread (k := (sz : Int)) (.inr (by have := hnR.out; omega)), B_nil] at RD1
                have g1 : (sh.first : Int) ≤ (sz : Int) := by rw [HM.out.agr.first]; omega
                have g2 : ¬ (sz : Int) ≤ (nr : Int) := by omega

                go_wp2_with fail
                go_at_call 32
                (with_reducible refine RD1.out.mono ?_)
                rintro e w7 ⟨rfl, hb7⟩
                replace d2 := G.cell d2 hb7
                replace k1 := G.cell k1 hb7
                replace k4 := G.cell k4 hb7
                replace ltd := cell_lt d2
                replace ltp := cell_lt k1
                dsimp only at ltd ltp
                have HO7 := Lib.hid (HO5.out.grow (devlog_frm.star (FY.out sh)) hb7)
                clear d0 d1 k0 k2 k3 k5 f0 f1 f2 f3 f4 f5 hb7 RD1
                go_wp2_with fail
                refine wp_region_ord [(0, 1), (1, 1), (2, 1), (3, 1), (4, 1), (5, 1), (6, 1), (7, 1), (8, 1), (9, 1), (10, 1), (11, 1), (12, 1), (13, 1), (14, 1), (15, 1), (16, 1), (17, 1), (18, 1), (19, 1), (20, 1), (21, 1)] [] 5 (by kernel_rfl) (by decide +kernel) ?_
                simp only [pickO, List.append_eq, List.cons_append, List.nil_append, List.getElem?_cons_succ, List.getElem?_cons_zero]
                intro w0 hG
                (repeat ((first | (with_reducible refine ord_q1 ?_) | (with_reducible refine ord_q0 ?_)); intro K hK; first | (refine Or.inr ⟨?_, ?_⟩; (focus (go_simp; first | done | (simp [undef]; done))); go_simp; (with_reducible refine hK _ ?_); clear hK K) | (refine Or.inl ⟨?_, ?_⟩; (focus (go_simp; done)); apply Exists.intro; refine And.intro ?_ ?_; (focus (first | (intro wq hq; obtain ⟨hcq, hfq⟩ := G.old hq; go_simp; (first | done | exact rfl); done) | (intro wq; go_simp; (first | done | exact rfl); done))); go_simp; (with_reducible refine hK _ ?_); clear hK K) | fail))
                (with_reducible refine ord_nil ?_)
                have hb8 := hG.b
                have hO := HO7.out.grow (devlog_frm.star (FY.out sh)) hb8
                clear hG hb8 d2 k1 k4 ltd ltp HO7
                have hfr := Lib.hid (hO.dropR)
                go_wp2_with fail
                go_at_call 37
                (with_reducible refine (Own.agrees HP.out hfr.out HPl1.out HM.out).mono ?_)
                rintro e wZ ⟨rfl, hbZ⟩
                have hOZ := Lib.hid (hfr.out.grow (devlog_frm.star (shT_frm p _)) hbZ)
                clear hfr hbZ
                go_wp2_with fail
                refine ⟨⟨i + 1, _, s, l, R, n, g, sh, by omega, rfl, rfl, hOZ, Lib.hid HPl1.out, Lib.hid HM.out, Lib.hid HBn.out.more⟩, by simp [intOf]; omega⟩
            · skip
              have RD1 := Lib.hid (Own.Read HP.out HO5.out.left HPl1.out (sz : Int))
              rw [HPl1.out.inv.noread (k := (sz : Int)) (.inl (by omega)), B_nil] at RD1
              have g0 : ¬ (sh.first : Int) ≤ (sz : Int) := by rw [HM.out.agr.first]; omega
              obtain ⟨fi, hfi⟩ : ∃ f : Int, (sh.first : Int) = f := ⟨_, rfl⟩
              rw [hfi] at k4 g0
              have g1 : decide (fi ≤ (sz : Int)) = false := decide_eq_false g0
              clear hfi

              go_wp2_with fail
              go_at_call 32
              (with_reducible refine RD1.out.mono ?_)
              rintro e w7 ⟨rfl, hb7⟩
              replace d2 := G.cell d2 hb7
              replace k1 := G.cell k1 hb7
              replace k4 := G.cell k4 hb7
              replace ltd := cell_lt d2
              replace ltp := cell_lt k1
              dsimp only at ltd ltp
              have HO7 := Lib.hid (HO5.out.grow (devlog_frm.star (FY.out sh)) hb7)
              clear d0 d1 k0 k2 k3 k5 f0 f1 f2 f3 f4 f5 hb7 RD1
              go_wp2_with fail
              refine wp_region_ord [(0, 1), (1, 1), (2, 1), (3, 1), (4, 1), (5, 1), (6, 1), (7, 1), (8, 1), (9, 1), (10, 1), (11, 1), (12, 1), (13, 1), (14, 1), (15, 1), (16, 1), (17, 1), (18, 1), (19, 1), (20, 1), (21, 1)] [] 5 (by kernel_rfl) (by decide +kernel) ?_
              simp only [pickO, List.append_eq, List.cons_append, List.nil_append, List.getElem?_cons_succ, List.getElem?_cons_zero]
              intro w0 hG
              (repeat ((first | (with_reducible refine ord_q1 ?_) | (with_reducible refine ord_q0 ?_)); intro K hK; first | (refine Or.inr ⟨?_, ?_⟩; (focus (go_simp; first | done | (simp [undef]; done))); go_simp; (with_reducible refine hK _ ?_); clear hK K) | (refine Or.inl ⟨?_, ?_⟩; (focus (go_simp; done)); apply Exists.intro; refine And.intro ?_ ?_; (focus (first | (intro wq hq; obtain ⟨hcq, hfq⟩ := G.old hq; go_simp; (first | done | exact rfl); done) | (intro wq; go_simp; (first | done | exact rfl); done))); go_simp; (with_reducible refine hK _ ?_); clear hK K) | fail))
              (with_reducible refine ord_nil ?_)
              have hb8 := hG.b
              have hO := HO7.out.grow (devlog_frm.star (FY.out sh)) hb8
              clear hG hb8 d2 k1 k4 ltd ltp HO7
              have hfr := Lib.hid (hO.dropR)
              go_wp2_with fail
              go_at_call 37
              (with_reducible refine (Own.agrees HP.out hfr.out HPl1.out HM.out).mono ?_)
              rintro e wZ ⟨rfl, hbZ⟩
              have hOZ := Lib.hid (hfr.out.grow (devlog_frm.star (shT_frm p _)) hbZ)
              clear hfr hbZ
              go_wp2_with fail
              refine ⟨⟨i + 1, _, s, l, R, n, g, sh, by omega, rfl, rfl, hOZ, Lib.hid HPl1.out, Lib.hid HM.out, Lib.hid HBn.out.more⟩, by simp [intOf]; omega⟩
          · by_cases h6 : k8 = 6
            · skip
              subst h6
              have DP := Lib.hid (Own.Drop HP.out (FY.out _) HO5.out HPl1.out (z50 : Int))
              obtain ⟨hMd, hDm⟩ := HM.out.drop (z50 : Int)

              go_wp2_with fail
              go_at_call 35
              (with_reducible refine DP.out.mono ?_)
              clear DP
              rintro e w7 ⟨rfl, t, ht, hPt, hO⟩
              clear k0 k1 k2 k3 k4 k5 f0 f1 f2 f3 f4 f5 ltp
              have x7 := hO.box
              replace d2 := (x7.2 2 _ rfl).1
              replace ltd := x7.lt
              clear x7 d0 d1
              have MD := Lib.hid (hO.mod2 devlog_frm FB.out (fun S0 hx => mdrop_any hx (z50 : Int) (by omega)))
              rw [hDm] at MD
              clear hO hDm
              generalize hdn : (drpG (z50 : Int) n g).1 = dn at *
              replace hdn := Lib.hid hdn
              go_wp2_with fail
              go_at_call 36
              (with_reducible refine MD.out.mono ?_)
              rintro e w8 ⟨rfl, hO⟩
              clear MD d2 ltd
              have hfr := Lib.hid (hO.dropR)
              go_wp2_with fail
              go_at_call 37
              (with_reducible refine (Own.agrees HP.out hfr.out hPt hMd).mono ?_)
              rintro e wZ ⟨rfl, hbZ⟩
              have hOZ := Lib.hid (hfr.out.grow (devlog_frm.star (shT_frm p _)) hbZ)
              clear hfr hbZ
              go_wp2_with fail
              refine ⟨⟨i + 1, _, t, _, R, _, _, _, by omega, rfl, rfl, hOZ, Lib.hid hPt, Lib.hid hMd, Lib.hid (HBn.out.step ht (by omega) (by omega) (by omega))⟩, by simp [intOf]; omega⟩
            · by_cases h7 : k8 = 7
              · skip
                subst h7
                have HO6 := Lib.hid (HO5.out.modput2 devlog_frm FB.out (sh' := { sh with dur := nr }) (i := 5) (v := .int .i64 (nr : Int)) (fun _ _ _ _ => rfl) rfl rfl)
                have OA := Lib.hid (Own.Again HP.out HV.out (FY.out _) HO6.out HPl1.out)
                rw [← HM.out.limit, show B kn = (⟨#[108, 111, 103]⟩ : ByteArray) from rfl] at OA

                go_wp2_with fail
                go_at_call 25
                (with_reducible refine OA.out.mono ?_)
                rintro e w7 ⟨L9, rfl, t, ht, hPt, hO⟩
                clear d0 d1 d2 ltd OA HO6
                clear k0 k1 k2 k3 k4 k5 f0 f1 f2 f3 f4 f5 ltp
                have hMt : Mdl ⟨kn, sh.limit, ptsG n g, R.length⟩ R n g { sh with dur := nr } := by
                  rw [← hnr.out]
                  exact (HM.out.sync).lg HM.out.limit rfl
                have hfr := Lib.hid (hO.dropR)
                go_wp2_with fail
                go_at_call 37
                (with_reducible refine (Own.agrees HP.out hfr.out hPt hMt).mono ?_)
                rintro e wZ ⟨rfl, hbZ⟩
                have hOZ := Lib.hid (hfr.out.grow (devlog_frm.star (shT_frm p _)) hbZ)
                clear hfr hbZ
                go_wp2_with fail
                refine ⟨⟨i + 1, _, t, _, R, n, g, _, by omega, rfl, rfl, hOZ, Lib.hid hPt, Lib.hid hMt, Lib.hid (HBn.out.step ht (by omega) (by omega) (by omega))⟩, by simp [intOf]; omega⟩
              · have h4' : ((k8 : Int) == 4) = false := by rw [beq_eq_false_iff_ne]; omega
                have h5' : ((k8 : Int) == 5) = false := by rw [beq_eq_false_iff_ne]; omega
                have h6' : ((k8 : Int) == 6) = false := by rw [beq_eq_false_iff_ne]; omega
                have h7' : ((k8 : Int) == 7) = false := by rw [beq_eq_false_iff_ne]; omega
                have OD := Lib.hid (fun (wx : World) => opdata_any (.int .u8 (kd0 : Int)) by0 sz hf2 wx)
                have hdl := dataL_len by0 sz
                obtain ⟨dt, hdt⟩ : ∃ d, dataL by0 sz = d := ⟨_, rfl⟩
                rw [hdt] at OD hdl
                clear hdt
                go_wp2_with fail
                go_at_call 27
                (with_reducible refine (OD.out _).mono ?_)
                rintro e w6 ⟨rfl, hb6⟩
                have HO6 := Lib.hid (HO5.out.grow (devlog_frm.star (FY.out sh)) hb6)
                have AP := Lib.hid (Own.Append HP.out (FY.out _) HO6.out HPl1.out (dt := dt) (by omega) (by omega) (by have := HBn.out.cnt; omega) (by have := HBn.out.used; have := HBn.out.room; omega))
                clear hb6 HO6 d0 d1 d2 ltd
                clear k0 k1 k2 k3 k4 k5 f0 f1 f2 f3 f4 f5 ltp
                go_wp2_with fail
                go_at_call 28
                (with_reducible refine AP.out.mono ?_)
                clear AP
                rintro e w7 ⟨rfl, t, ht, hPt, hO⟩
                have x7 := hO.box
                have d0 := (x7.2 0 _ rfl).1
                have d1 := (x7.2 1 _ rfl).1
                have d2 := (x7.2 2 _ rfl).1
                have ltd := x7.lt
                have HO7 := Lib.hid hO
                clear x7 hO
                go_wp2_with fail
                go_at_call 27
                (with_reducible refine (OD.out _).mono ?_)
                rintro e w8 ⟨rfl, hb8⟩
                have hO8 := HO7.out.grow (devlog_frm.star (FY.out sh)) hb8
                have MD := Lib.hid (hO8.mod2 devlog_frm FB.out (fun S0 hx => mapp_any hx dt (by omega) (by omega) (by omega) (by omega)))
                rw [hnr.out, hnR.out] at MD
                have hMt := HM.out.app HPl1.out.inv.fls.shp dt
                clear hO8 hb8 HO7 d0 d1 d2 ltd OD
                go_wp2_with fail
                go_at_call 26
                (with_reducible refine MD.out.mono ?_)
                clear MD
                rintro e w9 ⟨rfl, hO⟩
                have hfr := Lib.hid (hO.dropR)
                go_wp2_with fail
                go_at_call 37
                (with_reducible refine (Own.agrees HP.out hfr.out hPt hMt).mono ?_)
                rintro e wZ ⟨rfl, hbZ⟩
                have hOZ := Lib.hid (hfr.out.grow (devlog_frm.star (shT_frm p _)) hbZ)
                clear hfr hbZ
                go_wp2_with fail
                refine ⟨⟨i + 1, _, t, _, _, n, _, _, by omega, rfl, rfl, hOZ, Lib.hid hPt, Lib.hid hMt, Lib.hid (HBn.out.step ht (by omega) (by omega) (by simp))⟩, by simp [intOf]; omega⟩
      · obtain rfl : i = N := by omega
        have hlt' : ¬ (i : Int) < (i : Int) := by omega
        obtain ⟨S, P, cc, rs, A1, c1, A2, c2, h1, h2, h3⟩ := HO1.out.parts
        have FD1 := Lib.hid (filed_any h1 HPl1.out h3 HM.out.agr HBn.out.rest)
        have hbl := HO1.out.below
        clear h1 h2 h3
        go_wp2_with fail
        go_at_call 38
        (with_reducible refine FD1.out.mono ?_)
        rintro e w9 ⟨rfl, hb9⟩
        go_wp2_with fail
        go_ret
        exact ⟨rfl, G.trans hbl hb9⟩
  · have hN' : (40 : Int) < (N : Int) := by omega
    go_enter Tryz.func8, Tryz.ntmps8
    go_wp2_with fail
    go_at_call 13
    (with_reducible refine (KN.out _ (G.refl w)).mono ?_)
    rintro e w1 ⟨rfl, hb1⟩
    go_wp2_with fail
    go_at_call 13
    (with_reducible refine (KN.out _ hb1).mono ?_)
    rintro e w2 ⟨rfl, hb2⟩
    replace hb2 := G.trans hb1 hb2
    go_wp2_with fail
    go_ret
    exact ⟨rfl, hb2⟩
end Go.Proofs.YtbafnlccpbonmaaGreatDoor
