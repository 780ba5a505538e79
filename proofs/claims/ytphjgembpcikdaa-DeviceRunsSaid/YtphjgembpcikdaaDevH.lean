/- device: maps.EqualFunc of files. -/
import Derived.Test.YtphjgembpcikdaaDevG
namespace Go.Proofs.Ytphjgembpcikdaa
set_option linter.unusedVariables false
set_option linter.unnecessarySimpa false
set_option linter.unusedSimpArgs false
open Go.RowKit

theorem ord_skip {P : Program} {ops : Array Oper} {Q : Exit → Act → World → Prop} {C : World → Prop} {o : Oper} {l : List (Nat × Oper)} {a : Act} {w : World} (hw : Region.wanted o (yielded ops a.tmps) = false) (hc : C w)
    (h : ∀ K : Act → Prop, (∀ a', wpOrd P ops Q C l a' w → K a') → K (a.put o.dst undef)) : wpOrd P ops Q C ((2, o) :: l) a w := by
  simp only [wpOrd, hw, Bool.false_eq_true, if_false]
  exact h (fun a' => wpOrd P ops Q C l a' w) (fun _ h => h)
def eqFl (f g : Fl) : Bool := decide (f.dur = g.dur) && decide (f.data = g.data)
def hasEq (m : List Fl) (f : Fl) : Bool := match lkC m f.name with
  | some g => eqFl f g
  | none => false
def eqFs (l m : List Fl) : Bool := decide (l.length = m.length) && l.all (hasEq m)
section
variable {w w' w1 : World} {d mb : Nat} {s s' : Ds} {fs gs : List FR} {r q x : FR} {S : Nat → Prop} {n : List UInt8}
/-- files[name], with ok. -/
theorem look_ok_fs {P : Program} {K : TypeId} {b n : Nat} {t e : TypeId} (h : w.ownsMap P K ptrElem b n (dat fs)) (hk : P.underlying K = some .string) (ht : P.underlying t = some (.map K e)) (hz : (zeroValue e).run P w = .ok (.pointer none) w) {s : ByteArray} (hs : s.size ≤ maxLen) :
    (Instr.lookup t (.map (some b)) (.string s) true).run P w = .ok (.tuple #[ptrV (lk fs s.data.toList), .bool (lk fs s.data.toList).isSome]) w := by
  obtain ⟨v, ps, hrun, hv⟩ := h.look_ok (Maps.string_keyed hk) ht hz (zd := .nil) (zp := []) rfl (Go.WideMaps.keyOf_string_mk hk hs)
  rw [atKey_dat] at hv
  rw [hrun, has_dat]
  congr 3
  rcases hl : lk fs s.data.toList with _ | r
  · rw [hl] at hv
    rcases ptrElem_inv hv with ⟨rfl, _⟩ | ⟨b', rfl, hz'⟩
    · rfl
    · cases hz'
  · rw [hl] at hv
    rcases ptrElem_inv hv with ⟨rfl, hz'⟩ | ⟨b', rfl, hz'⟩
    · cases hz'
    · simp only [Prod.mk.injEq, DataW.lit.injEq, Lit.int.injEq, true_and, and_true] at hz'
      have : r.fb = b' := by omega
      rw [← this]
      rfl
theorem FileAt.sl (h : FileAt w r) : Sl w r.A r.data.length (u8s r.data) := Sl.of_own1 h.row
set_option maxRecDepth 20000 in set_option maxHeartbeats 1000000 in
theorem eqF1_any (hr : FileAt w r) (hq : FileAt w q) : Calls Try.prog 52 #[.pointer (some ⟨r.fb, 0, none⟩), .pointer (some ⟨q.fb, 0, none⟩)] w fun e w' => e = .returned (.bool (eqFl r.fl q.fl)) ∧ Below w.heap.size w w' := by
  have a0 := (hr.box.2 0 _ rfl).1
  have a1 := (hr.box.2 1 _ rfl).1
  have lta := hr.box.lt
  have b0 := (hq.box.2 0 _ rfl).1
  have b1 := (hq.box.2 1 _ rfl).1
  have ltb := hq.box.lt
  have hv : r.val = .slice r.A r.data.length r.cap := rfl
  have hv2 : q.val = .slice q.A q.data.length q.cap := rfl
  rw [hv] at a0
  rw [hv2] at b0
  have hl := (own_cap hr.row).1
  have hl2 := (own_cap hr.row).2
  have HE := Lib.hid (fun (wx : World) (hb : Below w.heap.size w wx) => eqB_any r.A q.A r.data.length q.data.length r.cap q.cap r.data q.data wx (hr.sl.grow hb) (hq.sl.grow hb) (Nat.le_trans hl hl2))
  have hres : Hid (eqFl r.fl q.fl = (decide (r.dur = q.dur) && decide (r.data = q.data))) := rfl
  clear hr hq hv hv2 hl hl2
  by_cases h : r.dur = q.dur
  · have hd : ((r.dur : Int) == (q.dur : Int)) = true := by simp [h]
    have hr2 : Hid (eqFl r.fl q.fl = decide (r.data = q.data)) := by unfold Hid; rw [hres.out, decide_eq_true h]; rfl
    clear h hres
    go_enter Try.func52, Try.ntmps52
    go_wp2_with fail
    refine wp_region_ord [(0, 1), (1, 1), (2, 1), (3, 1), (4, 1), (5, 1), (6, 1), (7, 1), (8, 1), (9, 1), (10, 1), (11, 1), (12, 1), (13, 1), (14, 1), (15, 1), (16, 1), (17, 1), (18, 2), (19, 1), (20, 1)] [] 5 (by kernel_rfl) (by decide +kernel) ?_
    simp only [pickO, List.append_eq, List.cons_append, List.nil_append, List.getElem?_cons_succ, List.getElem?_cons_zero]
    intro w0 hG
    (repeat ((first | (with_reducible refine ord_q1 ?_) | (with_reducible refine ord_q0 ?_)); intro K hK; first | (refine Or.inr ⟨?_, ?_⟩; (focus (go_simp; first | done | (simp [undef]; done))); go_simp; (with_reducible refine hK _ ?_); clear hK K) | (refine Or.inl ⟨?_, ?_⟩; (focus (go_simp; done)); apply Exists.intro; refine And.intro ?_ ?_; (focus (first | (intro wq hq; obtain ⟨hcq, hfq⟩ := G.old hq; go_simp; (first | done | exact rfl); done) | (intro wq; go_simp; (first | done | exact rfl); done))); go_simp; (with_reducible refine hK _ ?_); clear hK K) | fail))
    (with_reducible refine ord_run ?_ hG)
    intro K hK
    go_simp
    go_at_call 53; (with_reducible refine (HE.out _ hG.b).mono ?_); rintro e w2 ⟨rfl, hb⟩
    replace hG := Grew.trans hG hb
    (try dsimp only)
    (with_reducible refine hK _ _ hG ?_)
    clear hK K
    (repeat ((first | (with_reducible refine ord_q1 ?_) | (with_reducible refine ord_q0 ?_)); intro K hK; first | (refine Or.inr ⟨?_, ?_⟩; (focus (go_simp; first | done | (simp [undef]; done))); go_simp; (with_reducible refine hK _ ?_); clear hK K) | (refine Or.inl ⟨?_, ?_⟩; (focus (go_simp; done)); apply Exists.intro; refine And.intro ?_ ?_; (focus (first | (intro wq hq; obtain ⟨hcq, hfq⟩ := G.old hq; go_simp; (first | done | exact rfl); done) | (intro wq; go_simp; (first | done | exact rfl); done))); go_simp; (with_reducible refine hK _ ?_); clear hK K) | fail))
    (with_reducible refine ord_nil ?_)
    go_wp2_with fail
    go_ret
    exact ⟨ret_b hr2.out.symm, hG.b⟩
  · have hd : ((r.dur : Int) == (q.dur : Int)) = false := by simp; omega
    have hr2 : Hid (eqFl r.fl q.fl = false) := by unfold Hid; rw [hres.out, decide_eq_false h]; rfl
    clear h hres
    go_enter Try.func52, Try.ntmps52
    go_wp2_with fail
    refine wp_region_ord [(0, 1), (1, 1), (2, 1), (3, 1), (4, 1), (5, 1), (6, 1), (7, 1), (8, 1), (9, 1), (10, 1), (11, 1), (12, 1), (13, 1), (14, 1), (15, 1), (16, 1), (17, 1), (18, 2), (19, 1), (20, 1)] [] 5 (by kernel_rfl) (by decide +kernel) ?_
    simp only [pickO, List.append_eq, List.cons_append, List.nil_append, List.getElem?_cons_succ, List.getElem?_cons_zero]
    intro w0 hG
    (repeat ((first | (with_reducible refine ord_q1 ?_) | (with_reducible refine ord_q0 ?_)); intro K hK; first | (refine Or.inr ⟨?_, ?_⟩; (focus (go_simp; first | done | (simp [undef]; done))); go_simp; (with_reducible refine hK _ ?_); clear hK K) | (refine Or.inl ⟨?_, ?_⟩; (focus (go_simp; done)); apply Exists.intro; refine And.intro ?_ ?_; (focus (first | (intro wq hq; obtain ⟨hcq, hfq⟩ := G.old hq; go_simp; (first | done | exact rfl); done) | (intro wq; go_simp; (first | done | exact rfl); done))); go_simp; (with_reducible refine hK _ ?_); clear hK K) | fail))
    (with_reducible refine ord_skip ?_ hG ?_); (focus (go_simp; first | done | (simp [undef]; done))); intro K hK; go_simp; (with_reducible refine hK _ ?_); clear hK K; (repeat ((first | (with_reducible refine ord_q1 ?_) | (with_reducible refine ord_q0 ?_)); intro K hK; first | (refine Or.inr ⟨?_, ?_⟩; (focus (go_simp; first | done | (simp [undef]; done))); go_simp; (with_reducible refine hK _ ?_); clear hK K) | (refine Or.inl ⟨?_, ?_⟩; (focus (go_simp; done)); apply Exists.intro; refine And.intro ?_ ?_; (focus (first | (intro wq hq; obtain ⟨hcq, hfq⟩ := G.old hq; go_simp; (first | done | exact rfl); done) | (intro wq; go_simp; (first | done | exact rfl); done))); go_simp; (with_reducible refine hK _ ?_); clear hK K) | fail))
    (with_reducible refine ord_nil ?_)
    go_wp2_with fail
    go_ret
    exact ⟨ret_b hr2.out.symm, hG.b⟩
theorem _root_.Go.World.ranges.blk {H : Type} {P : Program} {k : TypeId} {R : Value → Option (DataW H × List MemPlace)} {b r n : Nat} {D : DataW H} {left : Lit → Bool} {cnt : Nat} (h : w.ranges P k R b r n D left cnt) (hb : Below w.heap.size w w') : w'.ranges P k R b r n D left cnt := by
  have h1 := h.owns.lt
  have h2 := h.lt
  obtain ⟨es, clock, since, seen, c0, hb', F, hs, hD, hr, rest⟩ := h
  exact ⟨es, clock, since, seen, c0, (hb.block b h1).trans hb', F, hs, hD, (hb.block r h2).trans hr, rest⟩
theorem names_inj (hne : fs.Pairwise fun a b => a.name ≠ b.name) (hr : r ∈ fs) (hq : q ∈ fs) (e : r.name = q.name) : r = q := by
  obtain ⟨i, hi, rfl⟩ := List.getElem_of_mem hr
  obtain ⟨j, hj, rfl⟩ := List.getElem_of_mem hq
  rcases Nat.lt_trichotomy i j with hij | rfl | hij
  · exact absurd e (List.pairwise_iff_getElem.1 hne i j hi hj hij)
  · rfl
  · exact absurd e.symm (List.pairwise_iff_getElem.1 hne j i hj hi hij)
theorem hasEq_some {f : Fl} {l : List FR} {g : FR} (h : lk l f.name = some g) : hasEq (l.map FR.fl) f = eqFl f g.fl := by
  unfold hasEq
  rw [lk_fl, h]
  rfl
theorem hasEq_none {f : Fl} {l : List FR} (h : lk l f.name = none) : hasEq (l.map FR.fl) f = false := by
  unfold hasEq
  rw [lk_fl, h]
  rfl
set_option maxRecDepth 20000 in set_option maxHeartbeats 2000000 in
theorem eqFunc_any {b1 b2 : Nat} (h1 : w.ownsMap Try.prog 9 ptrElem b1 fs.length (dat fs)) (h2 : w.ownsMap Try.prog 9 ptrElem b2 gs.length (dat gs)) (f1 : ∀ r ∈ fs, FileAt w r) (f2 : ∀ r ∈ gs, FileAt w r) (hne : fs.Pairwise fun a b => a.name ≠ b.name) :
    Calls Try.prog 51 #[.map (some b1), .map (some b2), .func (.func 52) #[] #[]] w fun e w' => e = .returned (.bool (eqFs (fs.map FR.fl) (gs.map FR.fl))) ∧ Below w.heap.size w w' := by
  have hlen1 := fun ty => len_fs h1 Try.underlying67 ty
  have hlen2 := fun ty => len_fs h2 Try.underlying67 ty
  by_cases hl : fs.length = gs.length
  · have hres : Hid (eqFs (fs.map FR.fl) (gs.map FR.fl) = (fs.map FR.fl).all (hasEq (gs.map FR.fl))) := by unfold Hid eqFs; simp [hl]
    have hlb : ((fs.length : Int) != (gs.length : Int)) = false := by simp [hl]
    clear hl
    have F1 := Lib.hid f1
    have F2 := Lib.hid f2
    replace hne := Lib.hid hne
    have H2 := Lib.hid h2
    clear f1 f2
    go_enter Try.func51, Try.ntmps51
    go_wp2_with (first
      | (at_range; refine wpList_range_own _ rfl _ 67 rfl 9 71 (Maps.string_keyed Try.underlying9) Try.underlying67 _ b1 fs.length _ rfl h1 ?_; intro w0 hrg0 hg0 hs0)
      | fail)
    go_frame
    go_loopw [] (fun wr => ∃ (left : Lit → Bool) (cnt : Nat), wr.ranges Try.prog 9 ptrElem b1 w.heap.size fs.length (dat fs) left cnt ∧ Below w.heap.size w wr ∧ Hid (∀ f ∈ fs, left (.string f.name) = false → hasEq (gs.map FR.fl) f.fl = true)) (fun wr => wr.rangeLeft b1 w.heap.size)
    case atStart =>
      exact ⟨_, _, hrg0, (Below.refl _ _).grown hg0 (Nat.le_refl _) (fun j hj => by cases hj), fun f hf hl0 => by
        rw [has_dat] at hl0
        rcases h : lk fs f.name with _ | y
        · exact absurd rfl (lk_none h f hf)
        · rw [h] at hl0; cases hl0⟩
    case round =>
      obtain ⟨left, cnt, hrg, hbr, hall⟩ := hrel
      go_wp2_with (first
        | (at_next; refine wpList_next_fs rfl _ rfl 9 Try.underlying9 b1 w.heap.size fs.length fs left cnt rfl hrg ?_ ?_)
        | fail)
      · intro hl0
        have hfin : Hid (eqFs (fs.map FR.fl) (gs.map FR.fl) = true) := by
          unfold Hid
          rw [hres.out, List.all_eq_true]
          intro f hf
          obtain ⟨r, hr, rfl⟩ := List.mem_map.1 hf
          exact hall.out r hr (hl0 _)
        go_wp2_with fail
        go_ret
        exact ⟨ret_b hfin.out.symm, hbr⟩
      · intro x sb w1 cnt1 hx hsb hsm hlx hrg1 hlt hg1 hs1 hen
        have hb1 : Below w.heap.size w w1 := hbr.grown hg1 hbr.size (fun j hj => by cases hj; exact Nat.le_refl _)
        have h21 := map_blk H2.out (hb1.block _ H2.out.lt)
        have hlk := look_ok_fs h21 Try.underlying9 Try.underlying67 (zeroP _) hsm
        clear h21
        rw [hsb] at hlk
        have hFx := Lib.hid ((F1.out x hx).keep (w' := w1) hb1.size fun y hy => hb1.block y ((F1.out x hx).lt hy))
        rcases hl2 : lk gs x.name with _ | y
        · rw [hl2] at hlk
          have hfin : Hid (eqFs (fs.map FR.fl) (gs.map FR.fl) = false) := by
            unfold Hid
            rw [hres.out, List.all_eq_false]
            exact ⟨x.fl, List.mem_map_of_mem hx, by rw [hasEq_none (f := x.fl) hl2]; simp⟩
          rw [show ptrV none = Value.pointer none from rfl, Option.isSome_none] at hlk
          replace hl2 := Lib.hid hl2
          go_wp2_with fail
          go_ret
          exact ⟨ret_b hfin.out.symm, hb1⟩
        · rw [hl2] at hlk
          have hyg := (lk_some hl2).1
          have hFy := Lib.hid ((F2.out y hyg).keep (w' := w1) hb1.size fun z hz => hb1.block z ((F2.out y hyg).lt hz))
          have hE := Lib.hid (hasEq_some (f := x.fl) hl2)
          rw [show ptrV (some y) = Value.pointer (some ⟨y.fb, 0, none⟩) from rfl, Option.isSome_some] at hlk
          replace hl2 := Lib.hid hl2
          go_wp2_with fail
          refine (eqF1_any hFx.out hFy.out).mono ?_
          rintro e w2 ⟨rfl, hb2⟩
          rcases he : eqFl x.fl y.fl with _ | _
          · have hfin : Hid (eqFs (fs.map FR.fl) (gs.map FR.fl) = false) := by
              unfold Hid
              rw [hres.out, List.all_eq_false]
              exact ⟨x.fl, List.mem_map_of_mem hx, by rw [hE.out, he]; simp⟩
            replace he := Lib.hid he
            go_wp2_with fail
            go_ret
            exact ⟨ret_b hfin.out.symm, G.trans hb1 hb2⟩
          · have hrg2 := hrg1.blk hb2
            have hnew : Hid (∀ f ∈ fs, (left (.string f.name) && !(Lit.string f.name).sameKey (.string x.name)) = false → hasEq (gs.map FR.fl) f.fl = true) := by
              intro f hf hfl
              rcases hlf : left (.string f.name) with _ | _
              · exact hall.out f hf hlf
              · rw [hlf, same_str] at hfl
                have hn : f.name = x.name := by simpa using hfl
                have hfx : f = x := names_inj hne.out hf hx hn
                rw [hfx, hE.out]
                exact he
            replace he := Lib.hid he
            go_wp2_with fail
            go_roundw
            case rel => exact ⟨_, cnt1, hrg2, G.trans hb1 hb2, hnew⟩
            case measure => rw [hrg2.left_eq, hrg.left_eq]; exact hlt
  · have hres : Hid (eqFs (fs.map FR.fl) (gs.map FR.fl) = false) := by unfold Hid eqFs; simp [hl]
    have hne : ((fs.length : Int) != (gs.length : Int)) = true := by simp; omega
    clear hl
    go_enter Try.func51, Try.ntmps51
    go_wp2_with fail
    go_ret
    exact ⟨ret_b hres.out.symm, G.refl _⟩
end
end Go.Proofs.Ytphjgembpcikdaa
