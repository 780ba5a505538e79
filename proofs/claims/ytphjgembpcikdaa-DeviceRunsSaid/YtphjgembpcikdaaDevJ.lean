/- device: Clone. -/
import Derived.Test.YtphjgembpcikdaaDevH
namespace Go.Proofs.Ytphjgembpcikdaa
set_option linter.unusedVariables false
set_option linter.unnecessarySimpa false
set_option linter.unusedSimpArgs false
open Go.RowKit

theorem bef_asym {a b : List UInt8} (h : bytesBefore a b = true) : bytesBefore b a = false := by
  rcases h2 : bytesBefore b a with _ | _
  · rfl
  · have := Go.WideShapes.before_trans (a := .string a) (b := .string b) (c := .string a) h h2
    rw [Go.WideShapes.before_irrefl] at this
    cases this
theorem ins_front {x : Fl} : ∀ {l : List Fl}, (∀ z ∈ l, bytesBefore x.name z.name = true) → insC x l = x :: l
  | [], _ => rfl
  | z :: l, h => by
    unfold insC
    rw [if_pos (h z (List.mem_cons_self ..))]
/-- One more file is done. -/
theorem ins_done {x : Fl} {p : List UInt8 → Bool} (hp : p x.name = false) : ∀ {l : List Fl}, (l.Pairwise fun a b => bytesBefore a.name b.name = true) → x ∈ l →
    insC x (l.filter fun f => p f.name) = l.filter fun f => p f.name || f.name == x.name
  | [], _, hx => (List.not_mem_nil hx).elim
  | y :: r, hs, hx => by
    obtain ⟨h1, h2⟩ := List.pairwise_cons.1 hs
    rw [List.filter_cons, List.filter_cons]
    rcases List.mem_cons.1 hx with rfl | hx'
    · have hr : r.filter (fun f => p f.name || f.name == x.name) = r.filter fun f => p f.name := by
        apply List.filter_congr
        intro z hz
        have hne : (z.name == x.name) = false := by
          rcases h : (z.name == x.name) with _ | _
          · rfl
          · have := h1 z hz
            rw [eq_of_beq h, before_irr] at this
            cases this
        rw [hne, Bool.or_false]
      simp only [hp, BEq.rfl, Bool.or_true, if_true, Bool.false_eq_true, if_false]
      rw [hr]
      exact ins_front fun z hz => h1 z (List.mem_filter.1 hz).1
    · have hyx := h1 x hx'
      have hne : (y.name == x.name) = false := by
        rcases h : (y.name == x.name) with _ | _
        · rfl
        · rw [eq_of_beq h, before_irr] at hyx
          cases hyx
      have ih := ins_done hp h2 hx'
      rw [hne, Bool.or_false]
      rcases hpy : p y.name with _ | _
      · simp only [Bool.false_eq_true, if_false]
        exact ih
      · simp only [if_true]
        conv => lhs; unfold insC
        rw [bef_asym hyx]
        simp only [Bool.false_eq_true, if_false]
        rw [ih]
theorem put_done {x : Fl} {p : List UInt8 → Bool} (hp : p x.name = false) {l : List Fl} (hs : l.Pairwise fun a b => bytesBefore a.name b.name = true) (hx : x ∈ l) :
    putFl (l.filter fun f => p f.name) x = l.filter fun f => p f.name || f.name == x.name := by
  unfold putFl
  rw [show delC (l.filter fun f => p f.name) x.name = l.filter fun f => p f.name from List.filter_eq_self.2 fun f hf => by
    have h1 := (List.mem_filter.1 hf).2
    rcases h : (f.name == x.name) with _ | _
    · rfl
    · rw [eq_of_beq h, hp] at h1
      cases h1]
  exact ins_done hp hs hx
section
variable {w w' w1 : World} {d mb : Nat} {s s' : Ds} {fs gs : List FR} {r q x : FR} {S : Nat → Prop} {n : List UInt8}
def RetC (s : Ds) (w : World) (e : Ending) (w' : World) : Prop := ∃ d S, e = .returned (.pointer (some ⟨d, 0, none⟩)) ∧ DevW w' d S s ∧ (∀ x, S x → w.heap.size ≤ x) ∧ Below w.heap.size w w'
/-- The copy while it is made. -/
structure Cp (w wr : World) (d2 m2 R : Nat) (s : Ds) (fs gs : List FR) (left : Lit → Bool) : Prop where
  dev : DevR wr d2 m2 { s with fs := gs.map FR.fl } gs
  done : gs.map FR.fl = (fs.map FR.fl).filter fun f => !left (.string f.name)
  new : ∀ z, hasD d2 m2 gs z → w.heap.size ≤ z ∧ z ≠ R
  below : Below w.heap.size w wr
set_option maxRecDepth 20000 in set_option maxHeartbeats 2000000 in
theorem clone_dev (h : DevW w d S s) (ho : s.Ok) : Calls Try.prog 30 #[.pointer (some ⟨d, 0, none⟩)] w (RetC s w) := by
  obtain ⟨mb, fs, hR, _⟩ := h
  have a0 := (hR.box.2 0 _ rfl).1
  have a1 := (hR.box.2 1 _ rfl).1
  have a2 := (hR.box.2 2 _ rfl).1
  have a3 := (hR.box.2 3 _ rfl).1
  have a4 := (hR.box.2 4 _ rfl).1
  have lta := hR.box.lt
  have hcn : fs.length ≤ 4096 := by have := ho.cnt; rw [hR.eq, List.length_map] at this; exact this
  have hsz : Hid (∀ r ∈ fs, r.data.length ≤ 16777216) := fun r hr => ho.sz r.fl (by rw [hR.eq]; exact List.mem_map_of_mem hr)
  have hrise : Hid ((fs.map FR.fl).Pairwise fun a b => bytesBefore a.name b.name = true) := by
    have := own_rise hR.map Try.underlying9
    exact List.pairwise_map.2 this
  have H := Lib.hid hR
  have hmm := @run_makeMap Try.prog
  replace hcn := Lib.hid hcn
  clear hR ho
  go_enter Try.func30, Try.ntmps30
  go_wp2_with fail
  refine wp_region_ord [(0, 1), (1, 1), (2, 1), (3, 1), (5, 1), (6, 1), (7, 1), (8, 1), (9, 1), (10, 1), (11, 1), (12, 1), (13, 1), (14, 1), (15, 1), (16, 1), (4, 2), (17, 1), (18, 2), (19, 1)] [] 5 (by kernel_rfl) (by decide +kernel) ?_
  simp only [pickO, List.append_eq, List.cons_append, List.nil_append, List.getElem?_cons_succ, List.getElem?_cons_zero]
  intro w0 hG
  (repeat ((first | (with_reducible refine ord_q1 ?_) | (with_reducible refine ord_q0 ?_)); intro K hK; first | (refine Or.inr ⟨?_, ?_⟩; (focus (go_simp; first | done | (simp [undef]; done))); go_simp; (with_reducible refine hK _ ?_); clear hK K) | (refine Or.inl ⟨?_, ?_⟩; (focus (go_simp; done)); apply Exists.intro; refine And.intro ?_ ?_; (focus (first | (intro wq hq; obtain ⟨hcq, hfq⟩ := G.old hq; go_simp; (first | done | exact rfl); done) | (intro wq; go_simp; (first | done | exact rfl); done))); go_simp; (with_reducible refine hK _ ?_); clear hK K) | fail))
  have hsz0 := hG.b.size
  (with_reducible refine ord_run ?_ hG)
  intro K hK
  go_simp
  replace hG := Grew.alloc hG (.map #[] 0)
  (with_reducible refine hK _ _ hG ?_)
  clear hK K
  (repeat ((first | (with_reducible refine ord_q1 ?_) | (with_reducible refine ord_q0 ?_)); intro K hK; first | (refine Or.inr ⟨?_, ?_⟩; (focus (go_simp; first | done | (simp [undef]; done))); go_simp; (with_reducible refine hK _ ?_); clear hK K) | (refine Or.inl ⟨?_, ?_⟩; (focus (go_simp; done)); apply Exists.intro; refine And.intro ?_ ?_; (focus (first | (intro wq hq; obtain ⟨hcq, hfq⟩ := G.old hq; go_simp; (first | done | exact rfl); done) | (intro wq; go_simp; (first | done | exact rfl); done))); go_simp; (with_reducible refine hK _ ?_); clear hK K) | fail))
  (with_reducible refine ord_run ?_ hG)
  intro K hK
  go_simp
  replace hG := Grew.alloc hG (.cells #[.int .i64 s.room, .map (some w0.heap.size), .bool s.down, .bool s.lim, .int .i64 s.left] 69)
  (with_reducible refine hK _ _ hG ?_)
  clear hK K
  (repeat ((first | (with_reducible refine ord_q1 ?_) | (with_reducible refine ord_q0 ?_)); intro K hK; first | (refine Or.inr ⟨?_, ?_⟩; (focus (go_simp; first | done | (simp [undef]; done))); go_simp; (with_reducible refine hK _ ?_); clear hK K) | (refine Or.inl ⟨?_, ?_⟩; (focus (go_simp; done)); apply Exists.intro; refine And.intro ?_ ?_; (focus (first | (intro wq hq; obtain ⟨hcq, hfq⟩ := G.old hq; go_simp; (first | done | exact rfl); done) | (intro wq; go_simp; (first | done | exact rfl); done))); go_simp; (with_reducible refine hK _ ?_); clear hK K) | fail))
  (with_reducible refine ord_nil ?_)
  have hbW : Below w.heap.size w ((w0.alloc (.map #[] 0)).alloc (.cells #[.int .i64 s.room, .map (some w0.heap.size), .bool s.down, .bool s.lim, .int .i64 s.left] 69)) := hG.b
  have hD0 : DevR ((w0.alloc (.map #[] 0)).alloc (.cells #[.int .i64 s.room, .map (some w0.heap.size), .bool s.down, .bool s.lim, .int .i64 s.left] 69)) (w0.heap.size + 1) w0.heap.size { s with fs := [] } [] :=
    ⟨Bx.new (by simp) rfl, (World.ownsMap_made w0 _ _ _).alloc _, fun r hr => (List.not_mem_nil hr).elim, List.Pairwise.nil, fun r hr => (List.not_mem_nil hr).elim, rfl, by omega⟩
  clear hG
  obtain ⟨D2, hD2⟩ : ∃ D2, w0.heap.size + 1 = D2 := ⟨_, rfl⟩
  obtain ⟨M2, hM2⟩ : ∃ M2, w0.heap.size = M2 := ⟨_, rfl⟩
  have hDM : w.heap.size ≤ M2 ∧ M2 < D2 := by omega
  rw [hD2] at hD0 ⊢
  rw [hM2] at hD0 hbW ⊢
  generalize ((w0.alloc (.map #[] 0)).alloc (.cells #[.int .i64 s.room, .map (some M2), .bool s.down, .bool s.lim, .int .i64 s.left] 69)) = w3 at hbW hD0 ⊢
  clear hD2 hM2 hsz0
  have a1 := G.cell a1 hbW
  have lta := cell_lt a1
  dsimp only at lta
  have h1 := map_blk H.out.map (hbW.block _ H.out.map.lt)
  have ltm := H.out.map.lt
  replace hD0 := Lib.hid hD0
  have ltD := hD0.out.box.lt
  go_wp2_with (first
    | (at_range; refine wpList_range_own _ rfl _ 67 rfl 9 71 (Maps.string_keyed Try.underlying9) Try.underlying67 _ mb fs.length _ rfl h1 ?_; intro w4 hrg0 hg0 hs0)
    | fail)
  go_frame
  go_loopw [] (fun wr => ∃ (left : Lit → Bool) (cnt : Nat) (gs : List FR), wr.ranges Try.prog 9 ptrElem mb w3.heap.size fs.length (dat fs) left cnt ∧ Hid (Cp w wr D2 M2 w3.heap.size s fs gs left)) (fun wr => wr.rangeLeft mb w3.heap.size)
  case atStart =>
    have hb4 : Below w3.heap.size w3 w4 := (Below.refl _ _).grown hg0 (Nat.le_refl _) (fun j hj => by cases hj)
    refine ⟨_, _, [], hrg0, ⟨hD0.out.grow hb4, ?_, fun z hz => ?_, G.trans hbW hb4⟩⟩
    · symm
      rw [List.filter_eq_nil_iff.2]
      · rfl
      · intro f hf
        obtain ⟨r, hr, rfl⟩ := List.mem_map.1 hf
        rw [has_dat]
        rcases h : lk fs r.name with _ | y
        · exact absurd rfl (lk_none h r hr)
        · rw [show r.fl.name = r.name from rfl, h]; simp
    · have := hD0.out.lt hz
      rcases hz with rfl | rfl | ⟨r, hr, _⟩
      · omega
      · omega
      · exact (List.not_mem_nil hr).elim
  case round =>
    obtain ⟨left, cnt, gs, hrg, hC⟩ := hrel
    go_wp2_with (first
      | (at_next; refine wpList_next_fs rfl _ rfl 9 Try.underlying9 mb w3.heap.size fs.length fs left cnt rfl hrg ?_ ?_)
      | fail)
    · intro hl0
      have hfin : Hid (RetC s w (.returned (.pointer (some ⟨D2, 0, none⟩))) wr) := by
        have he : gs.map FR.fl = s.fs := by
          rw [hC.out.done, H.out.eq]
          exact List.filter_eq_self.2 fun f hf => by rw [hl0]; rfl
        have hd := hC.out.dev
        rw [he] at hd
        exact ⟨D2, hasD D2 M2 gs, rfl, ⟨M2, gs, hd, fun x => Iff.rfl⟩, fun x hx => (hC.out.new x hx).1, hC.out.below⟩
      go_wp2_with fail
      go_ret
      exact hfin.out
    · intro x sb w5 cnt1 hx hsb hsm hlx hrg1 hlt hg1 hs1 hen
      have hb5 : Below w.heap.size w w5 := hC.out.below.grown hg1 hC.out.below.size (fun j hj => by cases hj; omega)
      have hd5 : DevR w5 D2 M2 { s with fs := gs.map FR.fl } gs := hC.out.dev.keep (by omega) fun z hz => hg1.block z (hC.out.dev.lt hz) fun e => (hC.out.new z hz).2 (by cases e; rfl)
      have hFx := (H.out.files x hx).keep (w' := w5) hb5.size fun z hz => hb5.block z ((H.out.files x hx).lt hz)
      have c0 := (hFx.box.2 0 _ rfl).1
      have c1 := (hFx.box.2 1 _ rfl).1
      have ltf := hFx.box.lt
      have hv : x.val = .slice x.A x.data.length x.cap := rfl
      rw [hv] at c0
      have k1 := (hd5.box.2 1 _ rfl).1
      have ltk := hd5.box.lt
      have hl1 := own_cap hFx.row
      have hszx := hsz.out x hx
      have HC := Lib.hid (fun (wx : World) (hb : Below w5.heap.size w5 wx) => cloneB_any x.A x.data.length x.cap x.data wx (hFx.sl.grow hb) hl1.1 hl1.2 (by omega))
      have hd5 := Lib.hid hd5
      replace hb5 := Lib.hid hb5
      have hltR := hrg.lt
      clear hFx hv hl1
      replace hs1 := Lib.hid hs1
      go_wp2_with fail
      refine wp_region_ord [(0, 1), (1, 1), (2, 1), (3, 1), (4, 1), (5, 1), (6, 1), (7, 1), (8, 1), (10, 1), (11, 1), (12, 1), (13, 1), (9, 2), (14, 1), (15, 2), (16, 3)] [16] 5 (by kernel_rfl) (by decide +kernel) ?_
      simp only [pickO, List.append_eq, List.cons_append, List.nil_append, List.getElem?_cons_succ, List.getElem?_cons_zero]
      intro w0 hG
      (repeat ((first | (with_reducible refine ord_q1 ?_) | (with_reducible refine ord_q0 ?_)); intro K hK; first | (refine Or.inr ⟨?_, ?_⟩; (focus (go_simp; first | done | (simp [undef]; done))); go_simp; (with_reducible refine hK _ ?_); clear hK K) | (refine Or.inl ⟨?_, ?_⟩; (focus (go_simp; done)); apply Exists.intro; refine And.intro ?_ ?_; (focus (first | (intro wq hq; obtain ⟨hcq, hfq⟩ := G.old hq; go_simp; (first | done | exact rfl); done) | (intro wq; go_simp; (first | done | exact rfl); done))); go_simp; (with_reducible refine hK _ ?_); clear hK K) | fail))
      have hs50 := hG.b.size

      (with_reducible refine ord_run ?_ hG)
      intro K hK
      go_simp
      go_at_call 50; (with_reducible refine (HC.out _ hG.b).mono ?_); rintro e w6 ⟨A6, c6, rfl, hrow6, hb⟩
      replace hG := Grew.trans hG hb
      (try dsimp only)
      (with_reducible refine hK _ _ hG ?_)
      clear hK K
      (repeat ((first | (with_reducible refine ord_q1 ?_) | (with_reducible refine ord_q0 ?_)); intro K hK; first | (refine Or.inr ⟨?_, ?_⟩; (focus (go_simp; first | done | (simp [undef]; done))); go_simp; (with_reducible refine hK _ ?_); clear hK K) | (refine Or.inl ⟨?_, ?_⟩; (focus (go_simp; done)); apply Exists.intro; refine And.intro ?_ ?_; (focus (first | (intro wq hq; obtain ⟨hcq, hfq⟩ := G.old hq; go_simp; (first | done | exact rfl); done) | (intro wq; go_simp; (first | done | exact rfl); done))); go_simp; (with_reducible refine hK _ ?_); clear hK K) | fail))
      have hlt6 := hG.b.size
      (with_reducible refine ord_run ?_ hG)
      intro K hK
      go_simp
      replace hG := Grew.alloc hG (.cells #[.slice A6 x.data.length c6, .int .i64 x.dur] 74)
      (with_reducible refine hK _ _ hG ?_)
      clear hK K
      (repeat ((first | (with_reducible refine ord_q1 ?_) | (with_reducible refine ord_q0 ?_)); intro K hK; first | (refine Or.inr ⟨?_, ?_⟩; (focus (go_simp; first | done | (simp [undef]; done))); go_simp; (with_reducible refine hK _ ?_); clear hK K) | (refine Or.inl ⟨?_, ?_⟩; (focus (go_simp; done)); apply Exists.intro; refine And.intro ?_ ?_; (focus (first | (intro wq hq; obtain ⟨hcq, hfq⟩ := G.old hq; go_simp; (first | done | exact rfl); done) | (intro wq; go_simp; (first | done | exact rfl); done))); go_simp; (with_reducible refine hK _ ?_); clear hK K) | fail))
      have hH := hd5.out.grow hG.b
      have hgl : gs.length ≤ fs.length := by
        have := congrArg List.length hC.out.done
        rw [List.length_map] at this
        rw [this]
        have := List.length_filter_le (fun f : Fl => !left (.string f.name)) (fs.map FR.fl)
        rw [List.length_map] at this
        exact this
      have hcn' := hcn.out
      obtain ⟨w7, hrun, hm, ht⟩ := store_fs hH.map Try.underlying9 Try.underlying67 (by unfold maxLen; omega) hsm (⟨x.name, w6.heap.size, A6, c6, x.data, x.dur⟩ : FR) hsb.symm
      have hown6 : ∀ g, (⟨x.name, w6.heap.size, A6, c6, x.data, x.dur⟩ : FR).val.ownBlock = some g → w5.heap.size ≤ g ∧ g < w6.heap.size := fun g hg => by
        have := hrow6.lt g hg
        omega
      have hF : FileAt (w6.alloc (.cells #[.slice A6 x.data.length c6, .int .i64 x.dur] 74)) (⟨x.name, w6.heap.size, A6, c6, x.data, x.dur⟩ : FR) := ⟨Bx.new rfl rfl, own_grow (own_mono hrow6 (Nat.zero_le _)) (G.alloc (G.refl _) _), fun e => by have := (hown6 _ e).2; exact absurd this (Nat.lt_irrefl _)⟩
      have hput := hH.put hF (fun z hz hh => by
        have h1 := hd5.out.lt hh
        rcases hz with rfl | hz
        · exact absurd h1 (by show ¬ w6.heap.size < _; omega)
        · have := (hown6 z hz).1
          omega) ht hm
      have hltR5 : w3.heap.size < w5.heap.size := by rw [hs1.out]; exact hltR
      have hM3 : M2 < w3.heap.size := hD0.out.lt (.inr (.inl rfl))
      have hrg2 := (hrg1.blk hG.b).kept ht.grown (fun e => by cases e; omega) (fun e => by cases e; omega)
      have hbf : Below w.heap.size w w7 := (G.trans hb5.out hG.b).grown ht.grown (G.trans hb5.out hG.b).size (fun j hj => by cases hj; omega)
      have hC2 : Hid (Cp w w7 D2 M2 w3.heap.size s fs (putF gs (⟨x.name, w6.heap.size, A6, c6, x.data, x.dur⟩ : FR)) (fun z => left z && !z.sameKey (.string x.name))) := by
        refine ⟨by rw [put_fl]; exact hput, ?_, fun z hz => ?_, hbf⟩
        · rw [put_fl]
          have h1 := put_done (x := x.fl) (p := fun n => !left (.string n)) (by show (!left (.string x.name)) = false; rw [hlx]; rfl) hrise.out (List.mem_map_of_mem hx)
          rw [← hC.out.done] at h1
          refine (show insC _ _ = _ from h1).trans ?_
          apply List.filter_congr
          intro f _
          rw [same_str, Bool.not_and, Bool.not_not]
          rfl
        · rcases hz with rfl | rfl | ⟨y, hy, hyz⟩
          · exact hC.out.new _ (.inl rfl)
          · exact hC.out.new _ (.inr (.inl rfl))
          · rcases putF_mem.1 hy with rfl | ⟨hy, _⟩
            · have hbs := hb5.out.size
              rcases hyz with rfl | hyz
              · show w.heap.size ≤ w6.heap.size ∧ w6.heap.size ≠ w3.heap.size
                omega
              · have := (hown6 z hyz).1
                omega
            · exact hC.out.new z (.inr (.inr ⟨y, hy, hyz⟩))
      clear hput hF hm ht hH hown6 hrow6 hbf
      ((with_reducible refine ord_tail ?_); intro K hK; go_simp; (with_reducible refine hK _ _ ?_); clear hK K)
      (with_reducible refine ord_nil ?_)
      go_wp2_with fail
      go_roundw
      case rel => exact ⟨_, cnt1, _, hrg2, hC2⟩
      case measure => rw [hrg2.left_eq, hrg.left_eq]; exact hlt
end
end Go.Proofs.Ytphjgembpcikdaa
