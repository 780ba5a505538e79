/- ChannelMerges returns true. -/
import Derived.Test.YtjldpodehffbnaaMergeW
import Derived.Test.YtjldpodehffbnaaCKnown
import Derived.Test.YtjldpodehffbnaaTree
import Derived.Deep.DeepCutAuto
import Derived.Deep.CutBlock
namespace Go.Proofs.Ytjldpodehffbnaa
set_option linter.unusedVariables false
set_option linter.unnecessarySimpa false
set_option linter.unusedSimpArgs false
open Go.RowKit

set_option maxRecDepth 20000 in set_option maxHeartbeats 8000000 in
theorem channelMerges_any {w : World} {A : Option Addr} {n c : Nat} {ps : List (Nat × List (Int × It))} (h : ∃ xs, PlaysV (fun _ => True) w A n c xs ps) :
    Calls Try.prog 10 #[.slice A n c] w fun e w' => e = .returned (.bool true) ∧ Below w.heap.size w w' := by
  obtain ⟨iS, hSi, hS0, hS1, hS2⟩ := info_parts Try.infoS2
  obtain ⟨xs, h⟩ := h
  have hlen := h.2.1
  have H := Lib.hid h
  clear h
  go_enter Try.func10, Try.ntmps10
  go_wp2_with fail
  refine (known_any _).mono ?_
  rintro e1 w1 ⟨rfl, hb1⟩
  go_wp2_with fail
  refine (fine_any (H.out.grow hb1)).mono ?_
  rintro e2 w2 ⟨rfl, hb2⟩
  have hbw2 := G.trans hb1 hb2
  rcases hfi : fineL ps with _ | _
  · replace hfi := Lib.hid hfi
    go_wp2_with fail
    refine (known_any _).mono ?_
    rintro e3 w3 ⟨rfl, hb3⟩
    go_wp2_with fail
    go_ret
    exact ⟨rfl, G.trans hbw2 hb3⟩
  have hn6 : n ≤ 6 := by have := fine_len hfi; rw [hlen] at this; exact this
  have hall : Hid (∀ p ∈ ps, smallL p.2 = true) := fun p hp => by
    obtain ⟨k, hk⟩ := List.getElem?_of_mem hp
    exact fine_all hfi (j := k) (k := p.1) (ops := p.2) hk
  replace hfi := Lib.hid hfi
  replace hlen := Lib.hid hlen
  go_wp2_with fail
  refine (channels_any (H.out.grow hbw2) hall.out hn6 (fun _ _ => trivial)).mono ?_
  rintro e4 w4 ⟨A1, q1, A2, q2, prs, rfl, hC4, hpl, hM4, hb4⟩
  have hbw4 := G.trans hbw2 hb4
  have S := Lib.hid (hC4.sepC fun _ _ => trivial)
  have hge : Hid (∀ p ∈ prs, w.heap.size ≤ p.b ∧ w.heap.size ≤ p.r) := fun p hp => by
    have h1 := ((hC4.rec hp).in_ (.inl rfl)).1
    have h2 := ((hC4.rec hp).in_ (.inr (.inl rfl))).1
    have := hbw2.size
    exact ⟨by omega, by omega⟩
  have hmk : Hid (∀ p ∈ prs, p.c.items.length ≤ 256) := fun p hp => by
    obtain ⟨K, _, hK, hMd⟩ := hM4 p hp
    have := hMd.base.2.1
    omega
  have hMds : Hid (∀ p ∈ prs, ∃ K, Made K p.c) := fun p hp => let ⟨K, _, _, hMd⟩ := hM4 p hp; ⟨K, hMd⟩
  replace hC4 := Lib.hid hC4
  replace hpl := Lib.hid hpl
  have hsw4 := Lib.hid hbw4.size
  clear hb4 hbw2 hb1 hb2 hM4
  go_wp2_with fail
  refine wp_name (fun wx => Below w4.heap.size w4 wx ∧ Bx wx w4.heap.size [.int .i64 1099511627776, .slice none 0 0]) ⟨by repeat (first | with_reducible assumption | with_reducible exact G.refl _ | with_reducible refine G.drew ?_ | with_reducible refine G.drewN ?_ _ | with_reducible refine G.alloc ?_ _ | with_reducible refine Below.setCell ?_ (by first | (simp; done) | (simp; omega)) _ | with_reducible refine G.trans ?_ hb12 | with_reducible refine G.trans ?_ hb11 | with_reducible refine G.trans ?_ hb10 | with_reducible refine G.trans ?_ hb9 | with_reducible refine G.trans ?_ hb8 | with_reducible refine G.trans ?_ hb7 | with_reducible refine G.trans ?_ hb6 | with_reducible refine G.trans ?_ hb5 | with_reducible refine G.trans ?_ hb4 | with_reducible refine G.trans ?_ hb3 | with_reducible refine G.trans ?_ hb2 | with_reducible refine G.trans ?_ hb1 | with_reducible refine G.trans ?_ hb | assumption), by repeat (first | with_reducible assumption | (with_reducible exact Bx.new (by simp; done) (by rfl)) | (with_reducible refine Bx.alloc ?_ _) | (with_reducible refine Bx.drewN ?_ _) | ((with_reducible apply Bx.put); rotate_right; (first | rfl | skip)) | (with_reducible refine Bx.other ?_ (by first | (simp; done) | (simp; omega)) _))⟩ ?_
  rintro w5 ⟨hb5, x5⟩
  have hbw5 := G.trans hbw4 hb5
  have hG5 := Lib.hid (Mg.start hC4.out (fun _ _ => trivial) rfl hb5 x5)
  have hP5 := Lib.hid (MgP.start prs)
  have HI := Lib.hid (fun (wx : World) (hk : Keeps (okK prs) w4 wx) (p : PRec) (hp : p ∈ prs) (j : Nat) (it : It) (hj : p.c.items[j]? = some it) => hC4.out.itemAt hk hp hj)
  have HB := Lib.hid (fun (wx : World) (hk : Keeps (okK prs) w4 wx) (p : PRec) (hp : p ∈ prs) => hC4.out.boxAt hk hp)
  generalize okS (ok2 (fun _ => True) (.slice A1 n q1) (.slice A2 n q2)) prs = ok0 at *
  clear x5 hb5
  go_loopw [6, 8] (fun av iv wr => ∃ (i : Nat) (cur : List Ch) (P : Option Addr) (k q : Nat) (l : List Ent) (e : Int) (p : List Int), i ≤ n ∧ iv = .int .i64 i ∧ av = .slice P k q ∧ Hid (Mg ok0 prs w4 w4.heap.size wr cur P k q l e p) ∧ Hid (MgP prs cur l i e) ∧ k ≤ 256 * i ∧ Below w.heap.size w wr) (fun _ iv _ => n - (intOf iv).toNat)
  case atStart => exact ⟨0, _, none, 0, 0, [], _, [], Nat.zero_le _, rfl, rfl, hG5, hP5, Nat.zero_le _, hbw5⟩
  case round =>
    clear hG5 hP5 hbw5
    obtain ⟨i, cur, P, k, q, l, e, p, hi, rfl, rfl, hG, hP, hki, hbr⟩ := hrel
    by_cases hlt : i < n
    · obtain ⟨pc, hpc⟩ : ∃ pc, prs[i]? = some pc := ⟨_, List.getElem?_eq_getElem (by rw [hpl.out]; exact hlt)⟩
      have hpm := Lib.hid (List.mem_of_getElem? hpc)
      replace hpc := Lib.hid hpc
      have hml := hmk.out pc hpm.out
      go_wp2_with fail
      go_loopw [6, 9] (fun av jv wx => ∃ (j : Nat) (P : Option Addr) (k' q : Nat) (l' : List Ent), j ≤ pc.c.items.length ∧ jv = .int .i64 j ∧ av = .slice P k' q ∧ Hid (Mg ok0 prs w4 w4.heap.size wx cur P k' q l' e p) ∧ Hid (l' = l ++ (pc.c.items.take j).map stI) ∧ k' = k + j ∧ Below w.heap.size w wx) (fun _ jv _ => pc.c.items.length - (intOf jv).toNat)
      case atStart => exact ⟨0, P, k, q, l, Nat.zero_le _, rfl, rfl, hG, by unfold Hid; simp, rfl, hbr⟩
      case round =>
        clear hG hbr
        obtain ⟨j, P', k', q', l', hj, rfl, rfl, hG_, hl', rfl, hbx⟩ := hrel
        obtain ⟨bx, ox, p', hA2, hbx2, hp', hcx⟩ := (hC4.out.row2.keep hC4.out.rowK2 hG_.out.kept).getM hlt
        obtain rfl : p' = pc := by rw [hpc.out] at hp'; exact (Option.some.inj hp').symm
        obtain ⟨qb, P1, P2, n1, c1, n2, c2, hbox, hmark, hqb⟩ := HB.out _ hG_.out.kept _ hpm.out
        subst hA2
        have m1 := (hbox.2 1 _ rfl).1
        have m2 := (hbox.2 2 _ rfl).1
        have m3 := (hbox.2 3 _ rfl).1
        have ltm := hbox.lt
        replace hmark := Lib.hid hmark
        clear hbox hp'
        by_cases hjl : j < p'.c.items.length
        · obtain ⟨it, hit⟩ : ∃ it, p'.c.items[j]? = some it := ⟨_, List.getElem?_eq_getElem hjl⟩
          obtain ⟨g, off, z0, A5, n5, c5', z1, A6, n6, c6', z2, z3, z4, z5, A7, n7, c7', A8, n8, c8', A9, n9, c9', hA, hgl, hiv, hch⟩ := HI.out _ hG_.out.kept _ hpm.out _ _ hit
          rw [hA] at m1
          have e0 : wr.cell? ⟨g, off + j * 11, none⟩ = _ := hch 0 _ rfl
          have e1 := hch 1 _ rfl
          have e2 := hch 2 _ rfl
          have e3 := hch 3 _ rfl
          have e4 := hch 4 _ rfl
          have e5 := hch 5 _ rfl
          have e6 := hch 6 _ rfl
          have e7 := hch 7 _ rfl
          have e8 := hch 8 _ rfl
          have e9 := hch 9 _ rfl
          have e10 := hch 10 _ rfl
          replace hiv := Lib.hid hiv
          replace hit := Lib.hid hit
          clear hch
          go_wp2_with fail
          refine (of_any hiv.out).mono ?_
          rintro e' w6 ⟨B6, m6, d6, rfl, hp6, hb6⟩
          have hbw6 := G.trans hbx hb6
          have hG6 := (hG_.out.grow hb6).grow (G.alloc (G.refl _) (.cells #[.int .i64 it.e, .slice B6 m6 d6] 24))
          obtain ⟨zs, o1, l1, d1⟩ := id hG6.all
          have hz1 := o1.1
          have hT6 := hG6.lt
          replace hG6 := Lib.hid hG6
          replace d1 := Lib.hid d1
          replace hp6 := Lib.hid hp6
          have hol := Lib.hid (fun x hx => o1.lt x hx)
          clear e0 e1 e2 e3 e4 e5 e6 e7 e8 e9 e10 m1 m2 m3 ltm hcx hgl
          go_wp2_with (at_builtin; refine wpList_appB rfl (.tmp 53) (.tmp 65) _ rfl (w4.heap.size + 1) 24 iS _ 2 32 Try.underlying52 hSi hS0 hS1 hS2 rfl (by decide) (.slice P' (k + j) q') (k + j) zs rfl o1 (some ⟨w6.heap.size, 0, none⟩) 1 1 [.int .i64 it.e, .slice B6 m6 d6] rfl (Sl.new rfl rfl) (by simp [Value.oneCell']) (by show _ ≤ 2 ^ 63 - 1; omega) (by omega) (by omega) ?_; intro B7 q7 w7 hown7 hc7 hm7 hg7 hob7; refine wpL_name (fun wx => Hid (Mg ok0 prs w4 w4.heap.size wx cur B7 (k + j + 1) q7 (l' ++ [(it.e, it.p)]) e p) ∧ Below w.heap.size w wx) ⟨hG6.out.app S.out hg7 hob7 hz1 l1 d1.out hown7 (hp6.out.grow (G.alloc (G.refl _) _)), (hbw6.alloc hbw6.size _).grown hg7 (by simp; have := hbw6.size; omega) (fun x hx => by have := (hol.out x hx).1; have := hsw4.out; omega)⟩ ?_; clear hown7 hc7 hm7 hg7 hob7 hG6 hp6 hol d1 o1 l1 hz1; rintro w8 ⟨hG8, hbw8⟩)
          go_roundw
          case rel => exact ⟨j + 1, B7, k + j + 1, q7, l' ++ [(it.e, it.p)], by omega, by go_num, rfl, hG8, by unfold Hid; rw [hl'.out, List.take_add_one, hit.out]; simp [stI], by omega, hbw8⟩
          case measure => simp [intOf]; omega
        · obtain rfl : j = p'.c.items.length := by omega
          have hl2 : Hid (l' = l ++ p'.c.items.map stI) := by unfold Hid; rw [hl'.out, List.take_length]
          obtain ⟨EA, En, Ec, hbT, hpT⟩ := id hG_.out.box
          have T0 := (hbT.2 0 _ rfl).1
          have T1 := (hbT.2 1 _ rfl).1
          have T0f := (hbT.2 0 _ rfl).2
          have T1f := (hbT.2 1 _ rfl).2
          have ltT := hbT.lt
          replace hpT := Lib.hid hpT
          have hrow1 := hC4.out.row1.keep hC4.out.rowK hG_.out.kept
          obtain ⟨b1, o1, hA1, hb1, _⟩ := hrow1.2 (by omega)
          subst hA1
          have hcx1 : wr.cell? ⟨b1, o1 + i, none⟩ = some (.pointer (some ⟨p'.b, 0, none⟩)) := hrow1.getC hlt (cps_get hpc.out)
          have hCi := Lib.hid (hG_.out.chans i p' p'.c hpc.out (by
            obtain ⟨c0, hc0⟩ : ∃ c0, cur[i]? = some c0 := ⟨_, List.getElem?_eq_getElem (by rw [hP.out.len, hpl.out]; exact hlt)⟩
            rw [hc0, (hP.out.st i p' c0 hpc.out hc0).2.2 (Nat.le_refl _)]))
          obtain ⟨v, hv⟩ : ∃ v, cmpS p'.c.me p'.c.mp e p = v := ⟨_, rfl⟩
          have hbig := hP.out.big
          clear hl' hbT hrow1
          by_cases hv0 : v ≤ 0
          · have hadv : advC p'.c e p = (0, { p'.c with me := e, mp := p }) := by
              unfold advC
              rw [if_neg]
              have := cmpS_neg p'.c.me e p'.c.mp p
              omega
            replace hadv := Lib.hid hadv
            replace hv := Lib.hid hv
            go_wp2_with fail
            refine wp_region_ord [(0, 1), (1, 1), (2, 1), (3, 1), (4, 1), (5, 1), (6, 1), (7, 1), (8, 2), (9, 1), (10, 1), (11, 1), (12, 1), (13, 1), (14, 1), (15, 1), (16, 3), (17, 0), (18, 0)] [16] 16 (by kernel_rfl) (by decide +kernel) ?_
            simp only [pickO, List.append_eq, List.cons_append, List.nil_append, List.getElem?_cons_succ, List.getElem?_cons_zero]
            intro w0 hG
            (repeat ((first | (with_reducible refine ord_q1 ?_) | (with_reducible refine ord_q0 ?_)); intro K hK; first | (refine Or.inr ⟨?_, ?_⟩; (focus (go_simp; first | done | (simp [undef]; done))); go_simp; (with_reducible refine hK _ ?_); clear hK K) | (refine Or.inl ⟨?_, ?_⟩; (focus (go_simp; done)); apply Exists.intro; refine And.intro ?_ ?_; (focus (first | (intro wq hq; obtain ⟨hcq, hfq⟩ := G.old hq; go_simp; (first | done | exact rfl); done) | (intro wq; go_simp; (first | done | exact rfl); done))); go_simp; (with_reducible refine hK _ ?_); clear hK K) | fail))
            (with_reducible refine ord_run ?_ hG)
            intro K hK
            go_simp
            go_at_call 25; (with_reducible refine (compare_any p'.c.me e P1 EA n1 En c1 Ec p'.c.mp p _ ((hmark.out.grow hG.b).sl) ((hpT.out.grow hG.b).sl) (hmark.out.max)).mono ?_); rintro e' w6 ⟨rfl, hb6⟩; rw [hv.out]
            replace hG := Grew.trans hG hb6
            (try dsimp only)
            (with_reducible refine hK _ _ hG ?_)
            clear hK K
            (repeat ((first | (with_reducible refine ord_q1 ?_) | (with_reducible refine ord_q0 ?_)); intro K hK; first | (refine Or.inr ⟨?_, ?_⟩; (focus (go_simp; first | done | (simp [undef]; done))); go_simp; (with_reducible refine hK _ ?_); clear hK K) | (refine Or.inl ⟨?_, ?_⟩; (focus (go_simp; done)); apply Exists.intro; refine And.intro ?_ ?_; (focus (first | (intro wq hq; obtain ⟨hcq, hfq⟩ := G.old hq; go_simp; (first | done | exact rfl); done) | (intro wq; go_simp; (first | done | exact rfl); done))); go_simp; (with_reducible refine hK _ ?_); clear hK K) | fail))
            have hGG := hG_.out.grow hG.b
            (with_reducible refine ord_tail ?_); intro K hK
            go_simp
            go_at_call 19
            (with_reducible refine (advance_any (hCi.out.grow hG.b) ((hpT.out.grow hG.b).mono (fun x _ hh => hGG.toC hh)) (hGG.freshC S.out)).mono ?_)
            rintro e7 w7 ⟨rfl, hC7, hch7⟩
            rw [hadv.out] at hC7 ⊢
            have hG7 := Lib.hid (hGG.chan S.out hpc.out hch7 hC7)
            have hbw7 := (G.trans hbx hG.b).trans (hch7.below (hge.out _ hpm.out).1 (hge.out _ hpm.out).2 (G.trans hbx hG.b).size)
            (with_reducible refine hK _ _ ?_); clear hK K
            (repeat ((first | (with_reducible refine ord_q1 ?_) | (with_reducible refine ord_q0 ?_)); intro K hK; first | (refine Or.inr ⟨?_, ?_⟩; (focus (go_simp; first | done | (simp [undef]; done))); go_simp; (with_reducible refine hK _ ?_); clear hK K) | (refine Or.inl ⟨?_, ?_⟩; (focus (go_simp; done)); apply Exists.intro; refine And.intro ?_ ?_; (focus (first | (intro wq hq; obtain ⟨hcq, hfq⟩ := G.old hq; go_simp; (first | done | exact rfl); done) | (intro wq; go_simp; (first | done | exact rfl); done))); go_simp; (with_reducible refine hK _ ?_); clear hK K) | fail))
            (with_reducible refine ord_nil ?_)
            obtain ⟨EB, Em, Ed, hbT7, hpT7⟩ := id hG7.out.box
            have T0 := (hbT7.2 0 _ rfl).1
            have T1 := (hbT7.2 1 _ rfl).1
            have ltT := hbT7.lt
            replace hpT7 := Lib.hid hpT7
            obtain ⟨qb, P1, P2, n1, c1, n2, c2, hbox, hmark, hqb⟩ := HB.out _ hG7.out.kept _ hpm.out
            have m2 := (hbox.2 2 _ rfl).1
            have m3 := (hbox.2 3 _ rfl).1
            have ltm := hbox.lt
            replace hmark := Lib.hid hmark
            have hcx : w7.cell? ⟨bx, ox + i, none⟩ = some (.pointer (some ⟨p'.mb, 0, none⟩)) := (hC4.out.row2.keep hC4.out.rowK2 hG7.out.kept).getM2 hlt hpc.out
            have ltx := cell_lt hcx
            dsimp only at ltx
            have hv1 : ¬ 0 < v := by omega
            clear hbox hbT7 hCi hpT hG hG_
            go_wp2_with fail
            refine wp_region_ord [(0, 1), (1, 1), (2, 1), (3, 1), (4, 1), (5, 1), (6, 1), (7, 1), (8, 2), (9, 1)] [] 5 (by kernel_rfl) (by decide +kernel) ?_
            simp only [pickO, List.append_eq, List.cons_append, List.nil_append, List.getElem?_cons_succ, List.getElem?_cons_zero]
            intro w0 hG
            (repeat ((first | (with_reducible refine ord_q1 ?_) | (with_reducible refine ord_q0 ?_)); intro K hK; first | (refine Or.inr ⟨?_, ?_⟩; (focus (go_simp; first | done | (simp [undef]; done))); go_simp; (with_reducible refine hK _ ?_); clear hK K) | (refine Or.inl ⟨?_, ?_⟩; (focus (go_simp; done)); apply Exists.intro; refine And.intro ?_ ?_; (focus (first | (intro wq hq; obtain ⟨hcq, hfq⟩ := G.old hq; go_simp; (first | done | exact rfl); done) | (intro wq; go_simp; (first | done | exact rfl); done))); go_simp; (with_reducible refine hK _ ?_); clear hK K) | fail))
            (with_reducible refine ord_run ?_ hG)
            intro K hK
            go_simp
            go_at_call 25; (with_reducible refine (compare_any p'.c.me e P1 EB n1 Em c1 Ed p'.c.mp p _ ((hmark.out.grow hG.b).sl) ((hpT7.out.grow hG.b).sl) (hmark.out.max)).mono ?_); rintro e' w8 ⟨rfl, hb8⟩; rw [hv.out]
            replace hG := Grew.trans hG hb8
            (try dsimp only)
            (with_reducible refine hK _ _ hG ?_)
            clear hK K
            (repeat ((first | (with_reducible refine ord_q1 ?_) | (with_reducible refine ord_q0 ?_)); intro K hK; first | (refine Or.inr ⟨?_, ?_⟩; (focus (go_simp; first | done | (simp [undef]; done))); go_simp; (with_reducible refine hK _ ?_); clear hK K) | (refine Or.inl ⟨?_, ?_⟩; (focus (go_simp; done)); apply Exists.intro; refine And.intro ?_ ?_; (focus (first | (intro wq hq; obtain ⟨hcq, hfq⟩ := G.old hq; go_simp; (first | done | exact rfl); done) | (intro wq; go_simp; (first | done | exact rfl); done))); go_simp; (with_reducible refine hK _ ?_); clear hK K) | fail))
            (with_reducible refine ord_nil ?_)
            have hG8 := Lib.hid (hG7.out.grow hG.b)
            have hbw8 := G.trans hbw7 hG.b
            have hPn : Hid (MgP prs (cur.set i { p'.c with me := e, mp := p }) l' (i + 1) e) := by unfold Hid; rw [hl2.out]; exact hP.out.next hpc.out rfl hbig hbig
            clear hG
            go_wp2_with fail
            go_roundw
            case rel => exact ⟨i + 1, _, P', k + p'.c.items.length, q', l', e, p, by omega, by go_num, rfl, hG8, hPn, by omega, hbw8⟩
            case measure => simp [intOf]; omega
          · replace hv := Lib.hid hv
            go_wp2_with fail
            refine wp_region_ord [(0, 1), (1, 1), (2, 1), (3, 1), (4, 1), (5, 1), (6, 1), (7, 1), (8, 2), (9, 1), (10, 1), (11, 1), (12, 1), (13, 1), (14, 1), (15, 1), (16, 2), (17, 1), (18, 1)] [] 5 (by kernel_rfl) (by decide +kernel) ?_
            simp only [pickO, List.append_eq, List.cons_append, List.nil_append, List.getElem?_cons_succ, List.getElem?_cons_zero]
            intro w0 hG
            (repeat ((first | (with_reducible refine ord_q1 ?_) | (with_reducible refine ord_q0 ?_)); intro K hK; first | (refine Or.inr ⟨?_, ?_⟩; (focus (go_simp; first | done | (simp [undef]; done))); go_simp; (with_reducible refine hK _ ?_); clear hK K) | (refine Or.inl ⟨?_, ?_⟩; (focus (go_simp; done)); apply Exists.intro; refine And.intro ?_ ?_; (focus (first | (intro wq hq; obtain ⟨hcq, hfq⟩ := G.old hq; go_simp; (first | done | exact rfl); done) | (intro wq; go_simp; (first | done | exact rfl); done))); go_simp; (with_reducible refine hK _ ?_); clear hK K) | fail))
            (with_reducible refine ord_run ?_ hG)
            intro K hK
            go_simp
            go_at_call 25; (with_reducible refine (compare_any p'.c.me e P1 EA n1 En c1 Ec p'.c.mp p _ ((hmark.out.grow hG.b).sl) ((hpT.out.grow hG.b).sl) (hmark.out.max)).mono ?_); rintro e' w6 ⟨rfl, hb6⟩; rw [hv.out]
            replace hG := Grew.trans hG hb6
            (try dsimp only)
            (with_reducible refine hK _ _ hG ?_)
            clear hK K
            (repeat ((first | (with_reducible refine ord_q1 ?_) | (with_reducible refine ord_q0 ?_)); intro K hK; first | (refine Or.inr ⟨?_, ?_⟩; (focus (go_simp; first | done | (simp [undef]; done))); go_simp; (with_reducible refine hK _ ?_); clear hK K) | (refine Or.inl ⟨?_, ?_⟩; (focus (go_simp; done)); apply Exists.intro; refine And.intro ?_ ?_; (focus (first | (intro wq hq; obtain ⟨hcq, hfq⟩ := G.old hq; go_simp; (first | done | exact rfl); done) | (intro wq; go_simp; (first | done | exact rfl); done))); go_simp; (with_reducible refine hK _ ?_); clear hK K) | fail))
            (with_reducible refine ord_skip ?_ hG ?_); (focus (go_simp; first | done | (simp [undef]; done))); intro K hK; go_simp; (with_reducible refine hK _ ?_); clear hK K; (repeat ((first | (with_reducible refine ord_q1 ?_) | (with_reducible refine ord_q0 ?_)); intro K hK; first | (refine Or.inr ⟨?_, ?_⟩; (focus (go_simp; first | done | (simp [undef]; done))); go_simp; (with_reducible refine hK _ ?_); clear hK K) | (refine Or.inl ⟨?_, ?_⟩; (focus (go_simp; done)); apply Exists.intro; refine And.intro ?_ ?_; (focus (first | (intro wq hq; obtain ⟨hcq, hfq⟩ := G.old hq; go_simp; (first | done | exact rfl); done) | (intro wq; go_simp; (first | done | exact rfl); done))); go_simp; (with_reducible refine hK _ ?_); clear hK K) | fail))
            (with_reducible refine ord_nil ?_)
            have hG7 := Lib.hid (hG_.out.grow hG.b)
            have hbw7 := G.trans hbx hG.b
            obtain ⟨EB, Em, Ed, hbT7, hpT7⟩ := id hG7.out.box
            replace T0 := (hbT7.2 0 _ rfl).1
            replace T1 := (hbT7.2 1 _ rfl).1
            replace T0f := (hbT7.2 0 _ rfl).2
            replace T1f := (hbT7.2 1 _ rfl).2
            replace ltT := hbT7.lt
            replace hpT7 := Lib.hid hpT7
            replace m2 := G.cell m2 hG.b
            replace m3 := G.cell m3 hG.b
            have ltm := cell_lt m2
            replace hmark := Lib.hid (hmark.out.grow hG.b)
            replace hcx := G.cell hcx hG.b
            have ltx := cell_lt hcx
            dsimp only at ltx
            have hv1 : 0 < v := by omega
            have hme : 1099511627776 ≤ p'.c.me := by have := cmpS_ge (hv.out ▸ (by omega : 0 ≤ v)); omega
            clear hbT7 hCi hpT hG hG_ hcx1 m1
            go_wp2_with fail
            refine wp_region_ord [(0, 1), (1, 1), (2, 1), (3, 1), (4, 1), (5, 1), (6, 1), (7, 1), (8, 2), (9, 1)] [] 5 (by kernel_rfl) (by decide +kernel) ?_
            simp only [pickO, List.append_eq, List.cons_append, List.nil_append, List.getElem?_cons_succ, List.getElem?_cons_zero]
            intro w0 hG
            (repeat ((first | (with_reducible refine ord_q1 ?_) | (with_reducible refine ord_q0 ?_)); intro K hK; first | (refine Or.inr ⟨?_, ?_⟩; (focus (go_simp; first | done | (simp [undef]; done))); go_simp; (with_reducible refine hK _ ?_); clear hK K) | (refine Or.inl ⟨?_, ?_⟩; (focus (go_simp; done)); apply Exists.intro; refine And.intro ?_ ?_; (focus (first | (intro wq hq; obtain ⟨hcq, hfq⟩ := G.old hq; go_simp; (first | done | exact rfl); done) | (intro wq; go_simp; (first | done | exact rfl); done))); go_simp; (with_reducible refine hK _ ?_); clear hK K) | fail))
            (with_reducible refine ord_run ?_ hG)
            intro K hK
            go_simp
            go_at_call 25; (with_reducible refine (compare_any p'.c.me e P1 EB n1 Em c1 Ed p'.c.mp p _ ((hmark.out.grow hG.b).sl) ((hpT7.out.grow hG.b).sl) (hmark.out.max)).mono ?_); rintro e' w8 ⟨rfl, hb8⟩; rw [hv.out]
            replace hG := Grew.trans hG hb8
            (try dsimp only)
            (with_reducible refine hK _ _ hG ?_)
            clear hK K
            (repeat ((first | (with_reducible refine ord_q1 ?_) | (with_reducible refine ord_q0 ?_)); intro K hK; first | (refine Or.inr ⟨?_, ?_⟩; (focus (go_simp; first | done | (simp [undef]; done))); go_simp; (with_reducible refine hK _ ?_); clear hK K) | (refine Or.inl ⟨?_, ?_⟩; (focus (go_simp; done)); apply Exists.intro; refine And.intro ?_ ?_; (focus (first | (intro wq hq; obtain ⟨hcq, hfq⟩ := G.old hq; go_simp; (first | done | exact rfl); done) | (intro wq; go_simp; (first | done | exact rfl); done))); go_simp; (with_reducible refine hK _ ?_); clear hK K) | fail))
            (with_reducible refine ord_nil ?_)
            have hG8 := Lib.hid (hG7.out.grow hG.b)
            have hbw8 := G.trans hbw7 hG.b
            have hPn : Hid (MgP prs cur l' (i + 1) p'.c.me) := by unfold Hid; rw [hl2.out]; exact hP.out.same hpc.out hme hme
            obtain ⟨EX, Ex, Ey, hbT8, _⟩ := id hG8.out.box
            replace T0 := (hbT8.2 0 _ rfl).1
            replace T1 := (hbT8.2 1 _ rfl).1
            replace T0f := (hbT8.2 0 _ rfl).2
            replace T1f := (hbT8.2 1 _ rfl).2
            replace ltT := hbT8.lt
            replace m2 := G.cell m2 hG.b
            replace m3 := G.cell m3 hG.b
            replace ltm := cell_lt m2
            replace hcx := G.cell hcx hG.b
            replace ltx := cell_lt hcx
            dsimp only at ltx
            have hG9 := Lib.hid (hG8.out.setEnd S.out (e' := p'.c.me) (hmark.out.grow hG.b))
            have hbw9 := (hbw8.setCell (p := ⟨w4.heap.size, 0, none⟩) hsw4.out (.int .i64 p'.c.me)).setCell (p := ⟨w4.heap.size, 1, none⟩) hsw4.out (.slice P1 n1 c1)
            clear hG hbT8
            go_wp2_with fail
            go_roundw
            case rel => exact ⟨i + 1, cur, P', k + p'.c.items.length, q', l', _, _, by omega, by go_num, rfl, hG9, hPn, by omega, hbw9⟩
            case measure => simp [intOf]; omega
    · obtain rfl : i = n := by omega
      have hln : l.length = k := by obtain ⟨_, _, h2, _⟩ := hG.out.all; exact h2
      replace hln := Lib.hid hln
      go_wp2_with fail
      refine (sort_anyL hG.out.list (by omega)).mono ?_
      rintro e6 w6 ⟨PS, cS, BS, f, g, rfl, hcS, hmS, hb6, hR6, hB6, hre, hsrt, hfl, hloc⟩
      rw [hln.out] at hR6 hre hsrt hcS hloc ⊢
      have hbw6 := G.trans hbr hb6
      have hperm : Hid ((seqL k g).Perm l) := by
        unfold Hid
        have h1 := hre.perm
        have h2 := seqL_of hfl
        rw [hln.out] at h2
        rwa [h2] at h1
      have hG6 := Lib.hid (hG.out.grow hb6)
      have hR6' := Lib.hid hR6
      replace hP := Lib.hid hP.out
      obtain ⟨S0, hS0⟩ : ∃ S0, wr.heap.size = S0 := ⟨_, rfl⟩
      have hsS : Hid (w4.heap.size < S0) := by unfold Hid; rw [← hS0]; exact hG.out.lt
      have hsr6 : Hid (S0 ≤ w6.heap.size) := by unfold Hid; rw [← hS0]; exact hb6.size
      rw [hS0] at hB6 hloc
      replace hloc := Lib.hid hloc
      replace hB6 := Lib.hid hB6
      replace hsrt := Lib.hid hsrt
      have hk0 : k ≤ 1536 := by omega
      clear hre hfl hG hR6 hln hS0
      go_wp2_with fail
      go_loopw [10] (fun iv wx => ∃ y : Nat, (y = 0 ∨ y < k) ∧ iv = .int .i64 ((y : Int) + 1) ∧ Hid (∀ z, z < y → cmpX (g z) (g (z + 1)) ≠ 0) ∧ Below w6.heap.size w6 wx) (fun iv _ => k + 1 - (intOf iv).toNat)
      case atStart => exact ⟨0, .inl rfl, rfl, fun z hz => absurd hz (Nat.not_lt_zero _), G.refl _⟩
      case round =>
        obtain ⟨y, hy, rfl, hne, hb⟩ := hrel
        by_cases hyk : y + 1 < k
        · have hyk' : (y : Int) + 1 < (k : Int) := by omega
          have hRr := hR6'.out.grow hb
          have hPS := hRr.at_ (by omega)
          subst hPS
          have a0 := hRr.c0 y (by omega)
          have a1 := hRr.c1 y (by omega)
          have b0 := hRr.c0 (y + 1) hyk
          have b1 := hRr.c1 (y + 1) hyk
          have hea := Lib.hid (hRr.el y (by omega)).1
          have heb := Lib.hid (hRr.el (y + 1) hyk).1
          have hem := Lib.hid (hRr.el y (by omega)).2.1
          have ltB := hRr.lt (by omega)
          have hw1 : IntKind.i64.wrap ((y : Int) + 1 - 1) = (y : Int) := by rw [IntWalk.i64_in _ (by omega)]; omega
          have hyk2 : y < k := by omega
          have hyk3 : (y : Int) < (k : Int) := by omega
          have hy0 : (0 : Int) ≤ (y : Int) + 1 := by omega
          have hw2 : IntKind.i64.wrap (y : Int) = (y : Int) := IntWalk.i64_in _ (by omega)
          obtain ⟨v, hv⟩ : ∃ v, cmpS (g y).e (g y).p (g (y + 1)).e (g (y + 1)).p = v := ⟨_, rfl⟩
          clear hRr
          obtain ⟨u, hu⟩ : ∃ u, (v == 0) = u := ⟨_, rfl⟩
          replace hv := Lib.hid hv
          replace hu := Lib.hid hu
          rcases u with _ | _
          · have hv0 : v ≠ 0 := by have := hu.out; simpa using this
            go_wp2_with fail
            refine wp_region_ord [(0, 1), (1, 1), (2, 1), (3, 1), (4, 1), (5, 1), (6, 1), (7, 1), (8, 1), (9, 2)] [] 5 (by kernel_rfl) (by decide +kernel) ?_
            simp only [pickO, List.append_eq, List.cons_append, List.nil_append, List.getElem?_cons_succ, List.getElem?_cons_zero]
            intro w0 hG
            (repeat ((first | (with_reducible refine ord_q1 ?_) | (with_reducible refine ord_q0 ?_)); intro K hK; first | (refine Or.inr ⟨?_, ?_⟩; (focus (go_simp; first | done | (simp [undef]; done))); go_simp; (with_reducible refine hK _ ?_); clear hK K) | (refine Or.inl ⟨?_, ?_⟩; (focus (go_simp; done)); apply Exists.intro; refine And.intro ?_ ?_; (focus (first | (intro wq hq; obtain ⟨hcq, hfq⟩ := G.old hq; go_simp; (first | done | exact rfl); done) | (intro wq; go_simp; (first | done | exact rfl); done))); go_simp; (with_reducible refine hK _ ?_); clear hK K) | fail))
            (with_reducible refine ord_run ?_ hG)
            intro K hK
            go_simp
            go_at_call 15; (with_reducible refine (equal_any (g y).e (g (y + 1)).e (g y).A (g (y + 1)).A (g y).m (g (y + 1)).m (g y).c (g (y + 1)).c (g y).p (g (y + 1)).p _ (hea.out.grow hG.b) (heb.out.grow hG.b) hem.out).mono ?_); rintro e' w7 ⟨rfl, hb7⟩; rw [hv.out, hu.out]
            replace hG := Grew.trans hG hb7
            (try dsimp only)
            (with_reducible refine hK _ _ hG ?_)
            clear hK K
            (repeat ((first | (with_reducible refine ord_q1 ?_) | (with_reducible refine ord_q0 ?_)); intro K hK; first | (refine Or.inr ⟨?_, ?_⟩; (focus (go_simp; first | done | (simp [undef]; done))); go_simp; (with_reducible refine hK _ ?_); clear hK K) | (refine Or.inl ⟨?_, ?_⟩; (focus (go_simp; done)); apply Exists.intro; refine And.intro ?_ ?_; (focus (first | (intro wq hq; obtain ⟨hcq, hfq⟩ := G.old hq; go_simp; (first | done | exact rfl); done) | (intro wq; go_simp; (first | done | exact rfl); done))); go_simp; (with_reducible refine hK _ ?_); clear hK K) | fail))
            (with_reducible refine ord_nil ?_)
            go_wp2_with fail
            go_roundw
            case rel => exact ⟨y + 1, .inr hyk, by go_num, fun z hz => by
              rcases Nat.lt_or_ge z y with h | h
              · exact hne.out z h
              · obtain rfl : z = y := by omega
                intro h5
                have : cmpS (g z).e (g z).p (g (z + 1)).e (g (z + 1)).p = 0 := h5
                rw [hv.out] at this
                exact hv0 this, G.trans hb hG.b⟩
            case measure => simp [intOf]; omega
          · go_wp2_with fail
            refine wp_region_ord [(0, 1), (1, 1), (2, 1), (3, 1), (4, 1), (5, 1), (6, 1), (7, 1), (8, 1), (9, 2)] [] 5 (by kernel_rfl) (by decide +kernel) ?_
            simp only [pickO, List.append_eq, List.cons_append, List.nil_append, List.getElem?_cons_succ, List.getElem?_cons_zero]
            intro w0 hG
            (repeat ((first | (with_reducible refine ord_q1 ?_) | (with_reducible refine ord_q0 ?_)); intro K hK; first | (refine Or.inr ⟨?_, ?_⟩; (focus (go_simp; first | done | (simp [undef]; done))); go_simp; (with_reducible refine hK _ ?_); clear hK K) | (refine Or.inl ⟨?_, ?_⟩; (focus (go_simp; done)); apply Exists.intro; refine And.intro ?_ ?_; (focus (first | (intro wq hq; obtain ⟨hcq, hfq⟩ := G.old hq; go_simp; (first | done | exact rfl); done) | (intro wq; go_simp; (first | done | exact rfl); done))); go_simp; (with_reducible refine hK _ ?_); clear hK K) | fail))
            (with_reducible refine ord_run ?_ hG)
            intro K hK
            go_simp
            go_at_call 15; (with_reducible refine (equal_any (g y).e (g (y + 1)).e (g y).A (g (y + 1)).A (g y).m (g (y + 1)).m (g y).c (g (y + 1)).c (g y).p (g (y + 1)).p _ (hea.out.grow hG.b) (heb.out.grow hG.b) hem.out).mono ?_); rintro e' w7 ⟨rfl, hb7⟩; rw [hv.out, hu.out]
            replace hG := Grew.trans hG hb7
            (try dsimp only)
            (with_reducible refine hK _ _ hG ?_)
            clear hK K
            (repeat ((first | (with_reducible refine ord_q1 ?_) | (with_reducible refine ord_q0 ?_)); intro K hK; first | (refine Or.inr ⟨?_, ?_⟩; (focus (go_simp; first | done | (simp [undef]; done))); go_simp; (with_reducible refine hK _ ?_); clear hK K) | (refine Or.inl ⟨?_, ?_⟩; (focus (go_simp; done)); apply Exists.intro; refine And.intro ?_ ?_; (focus (first | (intro wq hq; obtain ⟨hcq, hfq⟩ := G.old hq; go_simp; (first | done | exact rfl); done) | (intro wq; go_simp; (first | done | exact rfl); done))); go_simp; (with_reducible refine hK _ ?_); clear hK K) | fail))
            (with_reducible refine ord_nil ?_)
            go_wp2_with fail
            go_ret
            exact ⟨rfl, G.trans hbw6 (G.trans hb hG.b)⟩
        · have hyk' : ¬ (y : Int) + 1 < (k : Int) := by omega
          have hup : Hid ((seqL k g).Pairwise fun a b => cmpE a b < 0) := seqL_up hsrt.out fun z hz => hne.out z (by omega)
          have hMS : Hid (MS cur (seqL k g)) := by
            have h1 := hP.out
            rw [← hpl.out] at h1
            exact h1.ms hMds.out hperm.out hup.out
          have hcl : Hid (cur.length = prs.length) := hP.out.len
          have hG7 := Lib.hid (hG6.out.grow hb)
          have hR7 := Lib.hid (hR6'.out.grow hb)
          have hbw7 := G.trans hbw6 hb
          have hCh7 := Lib.hid hG7.out.chans
          have hK7 := Lib.hid hG7.out.kept
          have hK67 : Hid (Keeps (From S0) w6 wr) := Keeps.of_below hb
          replace hMS : Hid (MS cur ((seqL k g).drop 0)) := hMS
          clear hne hup hG7 hG6 hP hb hbw6 hR7 hperm hsrt
          go_wp2_with fail
          go_loopw [11] (fun iv wx => ∃ (x : Nat) (cur : List Ch), x ≤ k ∧ iv = .int .i64 x ∧ Hid (Keeps (From S0) w6 wx) ∧ Hid (Keeps (okK prs) w4 wx) ∧ Hid (ChF (okC ok0 w4.heap.size (.slice P k q)) wx prs cur) ∧ Hid (cur.length = prs.length) ∧ Hid (MS cur ((seqL k g).drop x)) ∧ Below w.heap.size w wx) (fun iv _ => k - (intOf iv).toNat)
          case atStart => exact ⟨0, cur, Nat.zero_le _, rfl, hK67, hK7, hCh7, hcl, hMS, hbw7⟩
          case round =>
            clear hK67 hK7 hCh7 hcl hMS hbw7
            obtain ⟨x, cur, hx, rfl, hk6, hk4, hCh, hcl, hMS, hbr⟩ := hrel
            by_cases hxk : x < k
            · have hM0 := hMS.out
              rw [seqL_drop g hxk] at hM0
              obtain ⟨j, cj, it, m, hnx, hcj, hcm, hst, hMn⟩ := hM0.next (cpz_told hcl.out)
              have hjn : j < i := by
                have h1 := (List.getElem?_eq_some_iff.1 hcj).1
                have h2 := hcl.out
                have h3 := hpl.out
                omega
              obtain ⟨pj, hpj⟩ : ∃ pj, prs[j]? = some pj := ⟨_, List.getElem?_eq_getElem (by rw [hpl.out]; exact hjn)⟩
              have hpjm := Lib.hid (List.mem_of_getElem? hpj)
              have hrow1 := hC4.out.row1.keep hC4.out.rowK hk4.out
              obtain ⟨b1, o1, hA1, hb1, _⟩ := hrow1.2 (by omega)
              subst hA1
              have hcx : wr.cell? ⟨b1, o1 + j, none⟩ = some (.pointer (some ⟨pj.b, 0, none⟩)) := hrow1.getC hjn (cps_get hpj)
              rw [← cpz_chs hcl.out] at hrow1
              have hrowz := Lib.hid hrow1
              have hCat := Lib.hid hCh.out.at_
              have hCj := Lib.hid (hCh.out j pj cj hpj hcj)
              have hst1 : it.e = (g x).e ∧ it.p = (g x).p := by
                have h1 := congrArg Prod.fst hst
                have h2 := congrArg Prod.snd hst
                exact ⟨h1, h2⟩
              have hlt1 : ¬ (j : Int) < 0 := by omega
              have hlt2 : ¬ (i : Int) ≤ (j : Int) := by omega
              have hlt3 : ¬ i ≤ j := by omega
              replace hnx := Lib.hid hnx
              replace hcm := Lib.hid hcm
              replace hcj := Lib.hid hcj
              replace hpj := Lib.hid hpj
              replace hst1 := Lib.hid hst1
              replace hMn := Lib.hid hMn
              clear hM0 hMS hrow1 hst
              go_wp2_with fail
              refine (next_any hrowz.out (by unfold maxLen; omega) hCat.out).mono ?_
              rintro e8 w8 ⟨rfl, hb8⟩
              rw [hnx.out]
              dsimp only
              replace hcx := G.cell hcx hb8
              have ltx := cell_lt hcx
              dsimp only at ltx
              have hCj8 := Lib.hid (hCj.out.grow hb8)
              go_wp2_with fail
              refine (take1_any hCj8.out hcm.out).mono ?_
              rintro e9 w9 ⟨cs9, rfl, hit9, hC9, hch9⟩
              obtain ⟨z0, A5, n5, c5', z1, A6, n6, c6', z2, z3, z4, z5, A7, n7, c7', A8, n8, c8', A9, n9, c9', rfl⟩ := item_cells hit9
              have hltj := S.out.lt pj hpjm.out
              have hk69 : Hid (Keeps (From S0) w6 w9) := hk6.out.trans ((Keeps.of_below hb8).trans (hch9.2.mono fun y (hy : S0 ≤ y) => ⟨by have := hsS.out; omega, by have := hsS.out; omega⟩))
              have hk49 := Lib.hid (hk4.out.trans ((Keeps.of_below hb8).trans (hch9.keepK hpjm.out)))
              have hCh9 := Lib.hid ((hCh.out.keepAll hb8).step S.out (fun y hy => hy.1) hpj.out hch9 hC9)
              have hbw9 := (G.trans hbr hb8).trans (hch9.below (hge.out pj hpjm.out).1 (hge.out pj hpjm.out).2 (G.trans hbr hb8).size)
              have hcl9 : Hid ((cur.set j { cj with items := m }).length = prs.length) := by unfold Hid; rw [List.length_set]; exact hcl.out
              replace hit9 := Lib.hid hit9
              clear hC9 hch9 hCj hCj8 hCh hk6 hk4 hcx ltx hb8 hrowz hCat
              go_wp2_with fail
              refine wp_name (fun wx => Below w9.heap.size w9 wx ∧ Bx wx w9.heap.size [.int .i64 z0, .slice A5 n5 c5', .int .i64 z1, .slice A6 n6 c6', .int .i64 z2, .int .i64 z3, .int .i64 z4, .string z5, .slice A7 n7 c7', .slice A8 n8 c8', .slice A9 n9 c9']) ⟨by repeat (first | with_reducible assumption | with_reducible exact G.refl _ | with_reducible refine G.drew ?_ | with_reducible refine G.drewN ?_ _ | with_reducible refine G.alloc ?_ _ | with_reducible refine Below.setCell ?_ (by first | (simp; done) | (simp; omega)) _ | with_reducible refine G.trans ?_ hb12 | with_reducible refine G.trans ?_ hb11 | with_reducible refine G.trans ?_ hb10 | with_reducible refine G.trans ?_ hb9 | with_reducible refine G.trans ?_ hb8 | with_reducible refine G.trans ?_ hb7 | with_reducible refine G.trans ?_ hb6 | with_reducible refine G.trans ?_ hb5 | with_reducible refine G.trans ?_ hb4 | with_reducible refine G.trans ?_ hb3 | with_reducible refine G.trans ?_ hb2 | with_reducible refine G.trans ?_ hb1 | with_reducible refine G.trans ?_ hb | assumption), by repeat (first | with_reducible assumption | (with_reducible exact Bx.new (by simp; done) (by rfl)) | (with_reducible refine Bx.alloc ?_ _) | (with_reducible refine Bx.drewN ?_ _) | ((with_reducible apply Bx.put); rotate_right; (first | rfl | skip)) | (with_reducible refine Bx.other ?_ (by first | (simp; done) | (simp; omega)) _))⟩ ?_
              rintro w10 ⟨hb10, x10⟩
              obtain ⟨c0, c1, c2, c3, c4, c5, c6, c7, c8, c9, c10⟩ := x10.c11
              have ltT := x10.lt
              have hit10 := Lib.hid (hit9.out.grow hb10)
              have hR10 := hR6'.out.keepF hB6.out hloc.out (hk69.out.trans (Keeps.of_below hb10))
              have hPS := hR10.at_ (by omega)
              subst hPS
              have a0 := hR10.c0 x hxk
              have a1 := hR10.c1 x hxk
              have hea := Lib.hid (hR10.el x hxk).1
              have ltB := hR10.lt (by omega)
              have hz : (cmpS it.e it.p (g x).e (g x).p == 0) = true := by rw [hst1.out.1, hst1.out.2, cmpS_self]; rfl
              have hxk3 : (x : Int) < (k : Int) := by omega
              replace hz := Lib.hid hz
              clear hR10
              refine wp_region_ord [(0, 1), (1, 1), (2, 1), (3, 1), (5, 1), (6, 1), (7, 1), (8, 1), (4, 2), (9, 2), (10, 1), (11, 1)] [] 5 (by kernel_rfl) (by decide +kernel) ?_
              simp only [pickO, List.append_eq, List.cons_append, List.nil_append, List.getElem?_cons_succ, List.getElem?_cons_zero]
              intro w0 hG
              (repeat ((first | (with_reducible refine ord_q1 ?_) | (with_reducible refine ord_q0 ?_)); intro K hK; first | (refine Or.inr ⟨?_, ?_⟩; (focus (go_simp; first | done | (simp [undef]; done))); go_simp; (with_reducible refine hK _ ?_); clear hK K) | (refine Or.inl ⟨?_, ?_⟩; (focus (go_simp; done)); apply Exists.intro; refine And.intro ?_ ?_; (focus (first | (intro wq hq; obtain ⟨hcq, hfq⟩ := G.old hq; go_simp; (first | done | exact rfl); done) | (intro wq; go_simp; (first | done | exact rfl); done))); go_simp; (with_reducible refine hK _ ?_); clear hK K) | fail))
              (with_reducible refine ord_run ?_ hG)
              intro K hK
              go_simp
              go_at_call 16; (with_reducible refine (stampc_any hit10.out hG.b).mono ?_); rintro e' w11 ⟨A', c', rfl, hp11, hb11⟩
              replace hG := Grew.trans hG hb11
              (try dsimp only)
              (with_reducible refine hK _ _ hG ?_)
              clear hK K
              (repeat ((first | (with_reducible refine ord_q1 ?_) | (with_reducible refine ord_q0 ?_)); intro K hK; first | (refine Or.inr ⟨?_, ?_⟩; (focus (go_simp; first | done | (simp [undef]; done))); go_simp; (with_reducible refine hK _ ?_); clear hK K) | (refine Or.inl ⟨?_, ?_⟩; (focus (go_simp; done)); apply Exists.intro; refine And.intro ?_ ?_; (focus (first | (intro wq hq; obtain ⟨hcq, hfq⟩ := G.old hq; go_simp; (first | done | exact rfl); done) | (intro wq; go_simp; (first | done | exact rfl); done))); go_simp; (with_reducible refine hK _ ?_); clear hK K) | fail))
              (with_reducible refine ord_run ?_ hG)
              intro K hK
              go_simp
              go_at_call 15; (with_reducible refine (equal_any it.e (g x).e A' (g x).A it.p.length (g x).m c' (g x).c it.p (g x).p _ hp11.sl (hea.out.grow hG.b) hp11.max).mono ?_); rintro e' w12 ⟨rfl, hb12⟩; rw [hz.out]
              replace hG := Grew.trans hG hb12
              (try dsimp only)
              (with_reducible refine hK _ _ hG ?_)
              clear hK K
              (repeat ((first | (with_reducible refine ord_q1 ?_) | (with_reducible refine ord_q0 ?_)); intro K hK; first | (refine Or.inr ⟨?_, ?_⟩; (focus (go_simp; first | done | (simp [undef]; done))); go_simp; (with_reducible refine hK _ ?_); clear hK K) | (refine Or.inl ⟨?_, ?_⟩; (focus (go_simp; done)); apply Exists.intro; refine And.intro ?_ ?_; (focus (first | (intro wq hq; obtain ⟨hcq, hfq⟩ := G.old hq; go_simp; (first | done | exact rfl); done) | (intro wq; go_simp; (first | done | exact rfl); done))); go_simp; (with_reducible refine hK _ ?_); clear hK K) | fail))
              (with_reducible refine ord_nil ?_)
              have hb9e := G.trans hb10 hG.b
              have r1 := Lib.hid (hk69.out.trans (Keeps.of_below hb9e))
              have r2 := Lib.hid (hk49.out.trans (Keeps.of_below hb9e))
              have r3 := Lib.hid (hCh9.out.keepAll hb9e)
              have r4 := G.trans hbw9 hb9e
              clear hG hb10 hb11 hb12 c0 c1 c2 c3 c4 c5 c6 c7 c8 c9 c10 a0 a1
              go_wp2_with fail
              go_roundw
              case rel => exact ⟨x + 1, _, by omega, by go_num, r1, r2, r3, hcl9, hMn, r4⟩
              case measure => simp [intOf]; omega
            · obtain rfl : x = k := by omega
              have hnx : Hid (nextC (cpz prs cur) = (0, false)) := by
                have h1 := hMS.out
                rw [List.drop_eq_nil_of_le (by rw [seqL_len]; exact Nat.le_refl _)] at h1
                exact h1.done (cpz_told hcl.out)
              have hrow1 := hC4.out.row1.keep hC4.out.rowK hk4.out
              rw [← cpz_chs hcl.out] at hrow1
              have hrowz := Lib.hid hrow1
              have hCat := Lib.hid hCh.out.at_
              clear hrow1
              go_wp2_with fail
              refine (next_any hrowz.out (by unfold maxLen; omega) hCat.out).mono ?_
              rintro e8 w8 ⟨rfl, hb8⟩
              rw [hnx.out]
              dsimp only
              go_wp2_with fail
              go_ret
              exact ⟨rfl, G.trans hbr hb8⟩
end Go.Proofs.Ytjldpodehffbnaa
