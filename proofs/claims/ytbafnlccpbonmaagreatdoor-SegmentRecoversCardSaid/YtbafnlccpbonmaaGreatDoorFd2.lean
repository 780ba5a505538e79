/- The law's filed. -/
import Derived.Test.YtbafnlccpbonmaaGreatDoorFd1
import Derived.Test.YtbafnlccpbonmaaGreatDoorLg1
import Derived.Test.YtbafnlccpbonmaaGreatDoorNu2
namespace Go.Proofs.YtbafnlccpbonmaaGreatDoor
set_option linter.unusedVariables false
set_option linter.unnecessarySimpa false
set_option linter.unusedSimpArgs false
open Go.RowKit

section
variable {w : World} {d p n : Nat} {l : Lg} {s : Ds} {S : Nat → Prop} {R : List (List UInt8)} {g : List (List (List UInt8))} {sh : Sh} {A1 A2 : Option Addr} {c1 c2 : Nat}
theorem frames_take_le {r : List (List UInt8)} (hm : ∀ d ∈ r, d.length ≤ 1000) (m j : Nat) (hr : r.length ≤ 1000) : (framesL m (r.take j)).length ≤ 1016000 := by
  rw [len_frames]
  have := bytesF_le (r := r.take j) fun d hd => hm d (List.mem_of_mem_take hd)
  rw [List.length_take] at this
  omega
theorem frames_step {r : List (List UInt8)} {j : Nat} {x : List UInt8} (h : r[j]? = some x) (m : Nat) : framesL m (r.take j) ++ frameL (m + j) x = framesL m (r.take (j + 1)) := by
  have hj := (List.getElem?_eq_some_iff.1 h).1
  rw [List.take_add_one, h, Option.toList_some, frames_snoc]
  rw [List.length_take, Nat.min_eq_left (by omega)]
theorem file_len2 (m : Nat) : (fileL kn m).length ≤ 1000 := by unfold fileL; rw [List.length_append, List.length_cons, digL_len]; decide
set_option maxRecDepth 20000 in set_option maxHeartbeats 16000000 in
theorem filed_any (hD : DevW w d S s) (hP : Pl kn s l R n g) (hS : ShR w p sh A1 c1 A2 c2) (hA : Agr l R n g sh) (hall : ∀ m, ¬ OwnF kn m → lkC s.fs m = none) :
    Calls Tryz.prog 38 #[.pointer (some ⟨d, 0, none⟩), .pointer (some ⟨p, 0, none⟩)] w fun e w' => e = .returned (.bool true) ∧ Below w.heap.size w w' := by
  have LS := Lib.hid (list_any hD hP.good.ok)
  have CT := Lib.hid (fun (wx : World) (hb : Below w.heap.size w wx) (nm : List UInt8) (hm : nm.length ≤ 1000) => contents_any (hD.grow hb) hP.good.ok nm hm)
  have LF := Lib.hid (fun (x : Nat) (hx : x < 1000000000000) (wx : World) => lawfile_any kn (by decide) x hx wx)
  obtain ⟨DD, hFil, _⟩ := hP.inv.fls.fil
  have hSh := hP.inv.fls.shp
  have hnm := names_eq hFil hSh hD.rise hall
  have TX := Lib.hid (fun (a : List (List (List UInt8))) (r : List (List UInt8)) (b : List (List (List UInt8))) (e : g = a ++ r :: b) => show (textD s (fileL kn (n + a.flatten.length))).1 = framesL (n + a.flatten.length) r by
    obtain ⟨D, hf⟩ := (e ▸ hP.inv.fls).data
    rw [text_of hP.up hf])
  have hup := hP.up
  unfold RetL at LS
  rw [hup, hnm] at LS
  have hlen : nums n g = sh.segs := hA.segs.symm
  have hrc := hA.recs
  have HSS := Lib.hid hS
  have hsm := hSh.small
  have hcnt := hSh.cnt
  have hn1 := hSh.n1
  have hSH := Lib.hid hSh
  have hseg := hA.segs
  clear hD hP hFil hnm hA hS hall hup hSh
  obtain ⟨lm, R2, Gs, z, fi, du⟩ := sh
  dsimp only at *
  subst hrc
  obtain ⟨nr, hnr⟩ : ∃ k, R2.length = k := ⟨_, rfl⟩
  obtain ⟨ng, hng⟩ : ∃ k, g.length = k := ⟨_, rfl⟩
  have hgl : Gs.length = ng := by rw [hseg, nums_len]; exact hng
  rw [hlen] at LS
  rw [List.length_map, hgl] at LS
  rw [hnr] at hsm hcnt
  have hsm1 := hsm.1
  rw [hng] at hcnt
  have hR9 := Lib.hid hsm.2
  replace hnr := Lib.hid hnr
  replace hng := Lib.hid hng
  replace hgl := Lib.hid hgl
  replace hseg := Lib.hid hseg
  clear hsm hlen
  go_enter Tryz.func38, Tryz.ntmps38
  go_wp2_with fail
  go_at_call 57
  (with_reducible refine LS.out.mono ?_)
  clear LS
  rintro e w1 (⟨h9, _⟩ | ⟨_, A, ca, rfl, ho, hb1⟩)
  · cases h9
  have HO := Lib.hid ho
  have HSB := Lib.hid (fun (wx : World) (hb : Below w1.heap.size w1 wx) => HSS.out.grow (G.trans hb1 hb))
  have HW1 := Lib.hid hb1
  clear ho hb1 HSS
  have HB := (HSB.out _ (G.refl _)).box
  unfold Sh.cells at HB
  dsimp only at HB
  rw [hnr.out, hgl.out] at HB
  obtain ⟨k0, k1, k2, k3, k4, k5⟩ := HB.c6
  have lt := HB.lt
  clear HB
  go_wp2_with fail
  clear k0 k1 k2 k3 k4 k5 lt
  go_loopw [7] (fun iv wr => ∃ i : Nat, i ≤ ng ∧ iv = .int .i64 (i : Int) ∧ Hid (Below w1.heap.size w1 wr)) (fun iv _ => ng - (intOf iv).toNat)
  case atStart => exact ⟨0, Nat.zero_le _, rfl, Lib.hid (G.refl _)⟩
  case round =>
    obtain ⟨i, hi, rfl, HG⟩ := hrel
    have HB := (HSB.out _ HG.out).box
    unfold Sh.cells at HB
    dsimp only at HB
    rw [hnr.out, hgl.out] at HB
    obtain ⟨k0, k1, k2, k3, k4, k5⟩ := HB.c6
    have lt := HB.lt
    clear HB
    by_cases hlt : i < ng
    · have hlt' : (i : Int) < (ng : Int) := by omega
      obtain ⟨a, r, b, hg, ha⟩ : ∃ a r b, g = a ++ r :: b ∧ a.length = i := by
        have h1 : i < g.length := by rw [hng.out]; exact hlt
        exact ⟨g.take i, g[i], g.drop (i + 1), by rw [List.getElem_cons_drop, List.take_append_drop], by rw [List.length_take]; omega⟩
      have hsh := hSH.out
      rw [hg] at hsh
      have hat := hsh.at
      obtain ⟨m, hm⟩ : ∃ m, n + a.flatten.length = m := ⟨_, rfl⟩
      have hGi : Gs[i]? = some m := by
        rw [hseg.out, hg, ← ha, nums_at, hm]
      have hrm := hsh.mem
      have TX1 := Lib.hid (TX.out a r b hg)
      rw [hm] at TX1 hat
      obtain ⟨e0, he0⟩ : ∃ e0, m + r.length = e0 := ⟨_, rfl⟩
      have hnext : (i + 1 < ng → Gs[i + 1]? = some e0) ∧ (¬ i + 1 < ng → e0 = nr + 1) := by
        constructor
        · intro h
          rcases b with _ | ⟨r2, b2⟩
          · have := congrArg List.length hg
            rw [hng.out] at this
            simp at this
            omega
          · have h2 := nums_at (r := r2) (b := b2) (a ++ [r]) n
            rw [show (a ++ [r]) ++ r2 :: b2 = g by rw [hg]; simp, ← hseg.out] at h2
            rw [show (a ++ [r]).length = i + 1 by simp [ha], show n + (a ++ [r]).flatten.length = e0 by simp at hm ⊢; omega] at h2
            exact h2
        · intro h
          have : b = [] := by
            have := congrArg List.length hg
            rw [hng.out] at this
            simp at this
            exact List.eq_nil_of_length_eq_zero (by omega)
          rw [this] at hat
          simp only [List.flatten_nil, List.length_nil] at hat
          have := hnr.out
          omega
      have hrl : Hid (∀ j, j < r.length → R2[m + j - 1]? = r[j]?) := Lib.hid (fun j hj => by
        have := data_at hsh (k := m + j) (by rw [hm]; omega) (by rw [hm]; omega)
        rw [hm] at this
        rw [this]
        congr 1
        omega)
      have hn1m : 1 ≤ m := by omega
      have hrle : r.length ≤ 1000 := by have := hnr.out; omega
      have hml : m ≤ 1001 := by have := hnr.out; omega
      have hLen : Hid (∀ j, (framesL m (r.take j)).length ≤ 1016000) := Lib.hid (fun j => frames_take_le hrm m j hrle)
      have hFr : Hid (∀ j x, r[j]? = some x → framesL m (r.take j) ++ frameL (m + j) x = framesL m (r.take (j + 1)) ∧ x.length ≤ 1000) := Lib.hid (fun j x hx => ⟨frames_step hx m, hrm x (List.mem_of_getElem? hx)⟩)
      have hTk : Hid (framesL m (r.take r.length) = framesL m r) := Lib.hid (by rw [List.take_length])
      clear hg hsh hat hrm hm ha
      obtain ⟨g2, o2, hA2, hl2, hc2⟩ := (HSB.out _ HG.out).segs.ptr (by dsimp only; rw [hgl.out]; omega)
      subst hA2
      have q2 := hc2 i _ (natsC_get hGi)
      have lt2 := cell_lt q2
      dsimp only at lt2
      obtain ⟨I1, hI1⟩ : ∃ x, i + 1 = x := ⟨_, rfl⟩
      have v1 : IntKind.i64.wrap ((i : Int) + 1) = (I1 : Int) := by rw [IntWalk.i64_in _ (by omega)]; omega
      have v2 : IntKind.i64.wrap ((nr : Int) + 1) = ((nr + 1 : Nat) : Int) := by rw [IntWalk.i64_in _ (by omega)]; omega
      rw [hI1] at hnext
      obtain ⟨hx1, hx2⟩ := hnext
      replace hGi := Lib.hid hGi
      replace hI1 := Lib.hid hI1
      replace he0 := Lib.hid he0
      by_cases hl9 : I1 < ng
      · have hl9' : (I1 : Int) < (ng : Int) := by omega
        have q3 := hc2 I1 _ (natsC_get (hx1 hl9))
        clear hx1 hx2 hc2
        go_wp2_with fail
        clear k0 k1 k2 k3 k4 k5 lt q2 lt2 q3
        go_loopw [9, 10] (fun wv kv wx => ∃ (j K : Nat) (T : List UInt8), j ≤ r.length ∧ Hid (K = m + j) ∧ Hid (T = framesL m (r.take j)) ∧ wv = .string (B T) ∧ kv = .int .i64 (K : Int) ∧ Hid (Below w1.heap.size w1 wx)) (fun _ kv _ => 3000 - (intOf kv).toNat)
        case atStart => exact ⟨0, m, [], Nat.zero_le _, rfl, rfl, rfl, rfl, HG⟩
        case round =>
          obtain ⟨j, K, T, hj, hK, hT, rfl, rfl, HG2⟩ := hrel
          have HB := (HSB.out _ HG2.out).box
          unfold Sh.cells at HB
          dsimp only at HB
          rw [hnr.out, hgl.out] at HB
          obtain ⟨k0, k1, k2, k3, k4, k5⟩ := HB.c6
          have lt := HB.lt
          clear HB
          by_cases hlt3 : j < r.length
          · have hKe : (K : Int) < (e0 : Int) := by have := hK.out; have := he0.out; omega
            obtain ⟨x, hx⟩ : ∃ x, r[j]? = some x := ⟨_, List.getElem?_eq_getElem hlt3⟩
            obtain ⟨J, hJ⟩ : ∃ J, K - 1 = J := ⟨_, rfl⟩
            have hRJ : R2[J]? = some x := by
              have := hrl.out j hlt3
              rw [← hK.out, hJ, hx] at this
              exact this
            have hJn : J < nr := by
              have := (List.getElem?_eq_some_iff.1 hRJ).1
              have := hnr.out
              omega
            have hJn' : (J : Int) < (nr : Int) := by omega
            have hKb : K ≤ 2002 := by have := hK.out; have := he0.out; omega
            have hK1 : 1 ≤ K := by have := hK.out; have := he0.out; omega
            have u1 : IntKind.i64.wrap ((K : Int) - 1) = (J : Int) := by rw [IntWalk.i64_in _ (by omega)]; omega
            have u2 : IntKind.i64.wrap ((K : Int) + 1) = ((K + 1 : Nat) : Int) := by rw [IntWalk.i64_in _ (by omega)]; omega
            obtain ⟨hf1, hf2⟩ := hFr.out j x hx
            have LFx := Lib.hid (fun (wx : World) => lawframe_any K (by omega) x (by omega) wx)
            obtain ⟨F, hF⟩ : ∃ F, frameL K x = F := ⟨_, rfl⟩
            have hFl : F.length = 16 + x.length := by rw [← hF]; exact frameL_len _ _
            have hTF := B_app T F
            obtain ⟨T2, hT2⟩ : ∃ T2, T ++ F = T2 := ⟨_, rfl⟩
            have hT3 : Hid (T2 = framesL m (r.take (j + 1))) := Lib.hid (by rw [← hT2, ← hF, hT.out, hK.out]; exact hf1)
            rw [hT2] at hTF
            rw [hF] at LFx
            have z1 := B_size T
            have z2 := B_size F
            have hTl : T.length ≤ 1016000 := by rw [hT.out]; exact hLen.out j
            obtain ⟨t1, ht1⟩ : ∃ t, T.length = t := ⟨_, rfl⟩
            obtain ⟨f1, hf1'⟩ : ∃ t, F.length = t := ⟨_, rfl⟩
            rw [ht1] at z1 hTl
            rw [hf1'] at z2 hFl
            have v9 : ¬ (9223372036854775807 < t1 + f1) := by omega
            obtain ⟨g1, o1, hA, hl1, hc1⟩ := (HSB.out _ HG2.out).recs.ptr (by dsimp only; rw [hnr.out]; omega)
            subst hA
            have q1 := hc1 J _ (strB_get hRJ)
            have lt1 := cell_lt q1
            dsimp only at lt1
            have hK2 : Hid (K + 1 = m + (j + 1)) := Lib.hid (by have := hK.out; have := he0.out; omega)
            clear hc1 hJ hx hRJ hf1 hF hT2 ht1 hf1'
            go_wp2_with fail
            go_at_call 17
            (with_reducible refine (LFx.out _).mono ?_)
            rintro e w6 ⟨rfl, hb6⟩
            clear LFx k0 k1 k2 k3 k4 k5 lt q1 lt1
            go_wp2_with fail
            refine ⟨⟨j + 1, K + 1, T2, by omega, hK2, hT3, rfl, rfl, Lib.hid (G.trans HG2.out hb6)⟩, by simp [intOf]; omega⟩
          · obtain rfl : j = r.length := by omega
            have hKe : ¬ (K : Int) < (e0 : Int) := by have := hK.out; have := he0.out; omega
            have hT2 : T = framesL m r := by rw [hT.out]; exact hTk.out
            obtain ⟨gA, hAe, hgb, hgll, hgcc⟩ := row_ptr HO.out (by omega)
            subst hAe
            have hnmi : (Gs.map (fileL kn))[i]? = some (fileL kn m) := by rw [List.getElem?_map, hGi.out]; rfl
            have qa := G.cell (hgcc i _ (strs_get hnmi)) HG2.out
            have lta := cell_lt qa
            dsimp only at lta
            obtain ⟨g3, o3, hA3, hl2, hc2⟩ := (HSB.out _ HG2.out).segs.ptr (by dsimp only; rw [hgl.out]; omega)
            have q2 := hc2 i _ (natsC_get hGi.out)
            cases hA3
            have lt2 := cell_lt q2
            dsimp only at lt2
            have LF1 := Lib.hid (LF.out m (by omega))
            have hkl := file_len2 m
            have CT1 := Lib.hid (fun (wx : World) (hb : Below w1.heap.size w1 wx) => CT.out wx (G.trans HW1.out hb) (fileL kn m) (by omega))
            rw [TX1.out, ← hT2] at CT1
            rw [show B kn = (⟨#[108, 111, 103]⟩ : ByteArray) from rfl] at LF1
            obtain ⟨fn, hfn⟩ : ∃ f, fileL kn m = f := ⟨_, rfl⟩
            rw [hfn] at qa LF1 CT1
            clear hgcc hnmi hc2 hkl hfn hT2
            go_wp2_with fail
            refine wp_region_ord [(0, 1), (1, 1), (2, 1), (3, 1), (4, 1), (5, 1), (6, 1), (7, 1), (8, 1), (9, 1), (10, 1), (11, 2), (12, 1), (13, 1), (14, 1), (15, 1), (16, 1), (17, 1), (18, 1), (20, 1), (19, 2), (21, 1), (22, 1)] [] 5 (by kernel_rfl) (by decide +kernel) ?_
            simp only [pickO, List.append_eq, List.cons_append, List.nil_append, List.getElem?_cons_succ, List.getElem?_cons_zero]
            intro w0 hG
            (repeat ((first | (with_reducible refine ord_q1 ?_) | (with_reducible refine ord_q0 ?_)); intro K hK; first | (refine Or.inr ⟨?_, ?_⟩; (focus (go_simp; first | done | (simp [undef]; done))); go_simp; (with_reducible refine hK _ ?_); clear hK K) | (refine Or.inl ⟨?_, ?_⟩; (focus (go_simp; done)); apply Exists.intro; refine And.intro ?_ ?_; (focus (first | (intro wq hq; obtain ⟨hcq, hfq⟩ := G.old hq; go_simp; (first | done | exact rfl); done) | (intro wq; go_simp; (first | done | exact rfl); done))); go_simp; (with_reducible refine hK _ ?_); clear hK K) | fail))
            (with_reducible refine ord_run ?_ hG)
            intro K hK
            go_simp
            go_at_call 23; (with_reducible refine (LF1.out _).mono ?_); rintro e w7 ⟨rfl, hb7⟩
            replace hG := Grew.trans hG hb7
            (try dsimp only)
            (with_reducible refine hK _ _ hG ?_)
            clear hK K
            (repeat ((first | (with_reducible refine ord_q1 ?_) | (with_reducible refine ord_q0 ?_)); intro K hK; first | (refine Or.inr ⟨?_, ?_⟩; (focus (go_simp; first | done | (simp [undef]; done))); go_simp; (with_reducible refine hK _ ?_); clear hK K) | (refine Or.inl ⟨?_, ?_⟩; (focus (go_simp; done)); apply Exists.intro; refine And.intro ?_ ?_; (focus (first | (intro wq hq; obtain ⟨hcq, hfq⟩ := G.old hq; go_simp; (first | done | exact rfl); done) | (intro wq; go_simp; (first | done | exact rfl); done))); go_simp; (with_reducible refine hK _ ?_); clear hK K) | fail))
            (with_reducible refine ord_run ?_ hG)
            intro K hK
            go_simp
            go_at_call 29; (with_reducible refine (CT1.out _ (G.trans HG2.out hG.b)).mono ?_); rintro e w7 ⟨rfl, hb7⟩
            replace hG := Grew.trans hG hb7
            (try dsimp only)
            (with_reducible refine hK _ _ hG ?_)
            clear hK K
            (repeat ((first | (with_reducible refine ord_q1 ?_) | (with_reducible refine ord_q0 ?_)); intro K hK; first | (refine Or.inr ⟨?_, ?_⟩; (focus (go_simp; first | done | (simp [undef]; done))); go_simp; (with_reducible refine hK _ ?_); clear hK K) | (refine Or.inl ⟨?_, ?_⟩; (focus (go_simp; done)); apply Exists.intro; refine And.intro ?_ ?_; (focus (first | (intro wq hq; obtain ⟨hcq, hfq⟩ := G.old hq; go_simp; (first | done | exact rfl); done) | (intro wq; go_simp; (first | done | exact rfl); done))); go_simp; (with_reducible refine hK _ ?_); clear hK K) | fail))
            (with_reducible refine ord_nil ?_)
            have hb7 := G.trans HG2.out hG.b
            clear hG k0 k1 k2 k3 k4 k5 lt qa lta q2 lt2
            go_wp2_with fail
            refine ⟨⟨I1, by have := hI1.out; omega, rfl, Lib.hid hb7⟩, by have := hI1.out; simp [intOf]; omega⟩
      · have hl9' : ¬ (I1 : Int) < (ng : Int) := by omega
        have he1 := hx2 hl9
        rw [← he1] at v2
        clear hx1 hx2 hc2 he1
        go_wp2_with fail
        clear k0 k1 k2 k3 k4 k5 lt q2 lt2
        go_loopw [9, 10] (fun wv kv wx => ∃ (j K : Nat) (T : List UInt8), j ≤ r.length ∧ Hid (K = m + j) ∧ Hid (T = framesL m (r.take j)) ∧ wv = .string (B T) ∧ kv = .int .i64 (K : Int) ∧ Hid (Below w1.heap.size w1 wx)) (fun _ kv _ => 3000 - (intOf kv).toNat)
        case atStart => exact ⟨0, m, [], Nat.zero_le _, rfl, rfl, rfl, rfl, HG⟩
        case round =>
          obtain ⟨j, K, T, hj, hK, hT, rfl, rfl, HG2⟩ := hrel
          have HB := (HSB.out _ HG2.out).box
          unfold Sh.cells at HB
          dsimp only at HB
          rw [hnr.out, hgl.out] at HB
          obtain ⟨k0, k1, k2, k3, k4, k5⟩ := HB.c6
          have lt := HB.lt
          clear HB
          by_cases hlt3 : j < r.length
          · have hKe : (K : Int) < (e0 : Int) := by have := hK.out; have := he0.out; omega
            obtain ⟨x, hx⟩ : ∃ x, r[j]? = some x := ⟨_, List.getElem?_eq_getElem hlt3⟩
            obtain ⟨J, hJ⟩ : ∃ J, K - 1 = J := ⟨_, rfl⟩
            have hRJ : R2[J]? = some x := by
              have := hrl.out j hlt3
              rw [← hK.out, hJ, hx] at this
              exact this
            have hJn : J < nr := by
              have := (List.getElem?_eq_some_iff.1 hRJ).1
              have := hnr.out
              omega
            have hJn' : (J : Int) < (nr : Int) := by omega
            have hKb : K ≤ 2002 := by have := hK.out; have := he0.out; omega
            have hK1 : 1 ≤ K := by have := hK.out; have := he0.out; omega
            have u1 : IntKind.i64.wrap ((K : Int) - 1) = (J : Int) := by rw [IntWalk.i64_in _ (by omega)]; omega
            have u2 : IntKind.i64.wrap ((K : Int) + 1) = ((K + 1 : Nat) : Int) := by rw [IntWalk.i64_in _ (by omega)]; omega
            obtain ⟨hf1, hf2⟩ := hFr.out j x hx
            have LFx := Lib.hid (fun (wx : World) => lawframe_any K (by omega) x (by omega) wx)
            obtain ⟨F, hF⟩ : ∃ F, frameL K x = F := ⟨_, rfl⟩
            have hFl : F.length = 16 + x.length := by rw [← hF]; exact frameL_len _ _
            have hTF := B_app T F
            obtain ⟨T2, hT2⟩ : ∃ T2, T ++ F = T2 := ⟨_, rfl⟩
            have hT3 : Hid (T2 = framesL m (r.take (j + 1))) := Lib.hid (by rw [← hT2, ← hF, hT.out, hK.out]; exact hf1)
            rw [hT2] at hTF
            rw [hF] at LFx
            have z1 := B_size T
            have z2 := B_size F
            have hTl : T.length ≤ 1016000 := by rw [hT.out]; exact hLen.out j
            obtain ⟨t1, ht1⟩ : ∃ t, T.length = t := ⟨_, rfl⟩
            obtain ⟨f1, hf1'⟩ : ∃ t, F.length = t := ⟨_, rfl⟩
            rw [ht1] at z1 hTl
            rw [hf1'] at z2 hFl
            have v9 : ¬ (9223372036854775807 < t1 + f1) := by omega
            obtain ⟨g1, o1, hA, hl1, hc1⟩ := (HSB.out _ HG2.out).recs.ptr (by dsimp only; rw [hnr.out]; omega)
            subst hA
            have q1 := hc1 J _ (strB_get hRJ)
            have lt1 := cell_lt q1
            dsimp only at lt1
            have hK2 : Hid (K + 1 = m + (j + 1)) := Lib.hid (by have := hK.out; have := he0.out; omega)
            clear hc1 hJ hx hRJ hf1 hF hT2 ht1 hf1'
            go_wp2_with fail
            go_at_call 17
            (with_reducible refine (LFx.out _).mono ?_)
            rintro e w6 ⟨rfl, hb6⟩
            clear LFx k0 k1 k2 k3 k4 k5 lt q1 lt1
            go_wp2_with fail
            refine ⟨⟨j + 1, K + 1, T2, by omega, hK2, hT3, rfl, rfl, Lib.hid (G.trans HG2.out hb6)⟩, by simp [intOf]; omega⟩
          · obtain rfl : j = r.length := by omega
            have hKe : ¬ (K : Int) < (e0 : Int) := by have := hK.out; have := he0.out; omega
            have hT2 : T = framesL m r := by rw [hT.out]; exact hTk.out
            obtain ⟨gA, hAe, hgb, hgll, hgcc⟩ := row_ptr HO.out (by omega)
            subst hAe
            have hnmi : (Gs.map (fileL kn))[i]? = some (fileL kn m) := by rw [List.getElem?_map, hGi.out]; rfl
            have qa := G.cell (hgcc i _ (strs_get hnmi)) HG2.out
            have lta := cell_lt qa
            dsimp only at lta
            obtain ⟨g3, o3, hA3, hl2, hc2⟩ := (HSB.out _ HG2.out).segs.ptr (by dsimp only; rw [hgl.out]; omega)
            have q2 := hc2 i _ (natsC_get hGi.out)
            cases hA3
            have lt2 := cell_lt q2
            dsimp only at lt2
            have LF1 := Lib.hid (LF.out m (by omega))
            have hkl := file_len2 m
            have CT1 := Lib.hid (fun (wx : World) (hb : Below w1.heap.size w1 wx) => CT.out wx (G.trans HW1.out hb) (fileL kn m) (by omega))
            rw [TX1.out, ← hT2] at CT1
            rw [show B kn = (⟨#[108, 111, 103]⟩ : ByteArray) from rfl] at LF1
            obtain ⟨fn, hfn⟩ : ∃ f, fileL kn m = f := ⟨_, rfl⟩
            rw [hfn] at qa LF1 CT1
            clear hgcc hnmi hc2 hkl hfn hT2
            go_wp2_with fail
            refine wp_region_ord [(0, 1), (1, 1), (2, 1), (3, 1), (4, 1), (5, 1), (6, 1), (7, 1), (8, 1), (9, 1), (10, 1), (11, 2), (12, 1), (13, 1), (14, 1), (15, 1), (16, 1), (17, 1), (18, 1), (20, 1), (19, 2), (21, 1), (22, 1)] [] 5 (by kernel_rfl) (by decide +kernel) ?_
            simp only [pickO, List.append_eq, List.cons_append, List.nil_append, List.getElem?_cons_succ, List.getElem?_cons_zero]
            intro w0 hG
            (repeat ((first | (with_reducible refine ord_q1 ?_) | (with_reducible refine ord_q0 ?_)); intro K hK; first | (refine Or.inr ⟨?_, ?_⟩; (focus (go_simp; first | done | (simp [undef]; done))); go_simp; (with_reducible refine hK _ ?_); clear hK K) | (refine Or.inl ⟨?_, ?_⟩; (focus (go_simp; done)); apply Exists.intro; refine And.intro ?_ ?_; (focus (first | (intro wq hq; obtain ⟨hcq, hfq⟩ := G.old hq; go_simp; (first | done | exact rfl); done) | (intro wq; go_simp; (first | done | exact rfl); done))); go_simp; (with_reducible refine hK _ ?_); clear hK K) | fail))
            (with_reducible refine ord_run ?_ hG)
            intro K hK
            go_simp
            go_at_call 23; (with_reducible refine (LF1.out _).mono ?_); rintro e w7 ⟨rfl, hb7⟩
            replace hG := Grew.trans hG hb7
            (try dsimp only)
            (with_reducible refine hK _ _ hG ?_)
            clear hK K
            (repeat ((first | (with_reducible refine ord_q1 ?_) | (with_reducible refine ord_q0 ?_)); intro K hK; first | (refine Or.inr ⟨?_, ?_⟩; (focus (go_simp; first | done | (simp [undef]; done))); go_simp; (with_reducible refine hK _ ?_); clear hK K) | (refine Or.inl ⟨?_, ?_⟩; (focus (go_simp; done)); apply Exists.intro; refine And.intro ?_ ?_; (focus (first | (intro wq hq; obtain ⟨hcq, hfq⟩ := G.old hq; go_simp; (first | done | exact rfl); done) | (intro wq; go_simp; (first | done | exact rfl); done))); go_simp; (with_reducible refine hK _ ?_); clear hK K) | fail))
            (with_reducible refine ord_run ?_ hG)
            intro K hK
            go_simp
            go_at_call 29; (with_reducible refine (CT1.out _ (G.trans HG2.out hG.b)).mono ?_); rintro e w7 ⟨rfl, hb7⟩
            replace hG := Grew.trans hG hb7
            (try dsimp only)
            (with_reducible refine hK _ _ hG ?_)
            clear hK K
            (repeat ((first | (with_reducible refine ord_q1 ?_) | (with_reducible refine ord_q0 ?_)); intro K hK; first | (refine Or.inr ⟨?_, ?_⟩; (focus (go_simp; first | done | (simp [undef]; done))); go_simp; (with_reducible refine hK _ ?_); clear hK K) | (refine Or.inl ⟨?_, ?_⟩; (focus (go_simp; done)); apply Exists.intro; refine And.intro ?_ ?_; (focus (first | (intro wq hq; obtain ⟨hcq, hfq⟩ := G.old hq; go_simp; (first | done | exact rfl); done) | (intro wq; go_simp; (first | done | exact rfl); done))); go_simp; (with_reducible refine hK _ ?_); clear hK K) | fail))
            (with_reducible refine ord_nil ?_)
            have hb7 := G.trans HG2.out hG.b
            clear hG k0 k1 k2 k3 k4 k5 lt qa lta q2 lt2
            go_wp2_with fail
            refine ⟨⟨I1, by have := hI1.out; omega, rfl, Lib.hid hb7⟩, by have := hI1.out; simp [intOf]; omega⟩
    · obtain rfl : i = ng := by omega
      have hlt' : ¬ (i : Int) < (i : Int) := by omega
      clear k0 k1 k2 k3 k4 k5
      go_wp2_with fail
      go_ret
      exact ⟨rfl, G.trans HW1.out HG.out⟩
end
end Go.Proofs.YtbafnlccpbonmaaGreatDoor
