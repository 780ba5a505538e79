/- The model's put. -/
import Derived.Test.YtjldpodehffbnaaMod3
import Derived.Test.YtjldpodehffbnaaOrdD
import Derived.Test.YtjldpodehffbnaaChan8
namespace Go.Proofs.Ytjldpodehffbnaa
set_option linter.unusedVariables false
set_option linter.unnecessarySimpa false
set_option linter.unusedSimpArgs false
open Go.RowKit

/-- Data outside of the row at A. -/
def OkM (ok : Nat → Prop) (A : Option Addr) : Nat → Prop := fun x => ok x ∧ ∀ ad, A = some ad → ad.block ≠ x
/-- At most the model's struct and its row have changed. -/
def MChg (mb : Nat) (A : Option Addr) (w w' : World) : Prop := Below 0 w w' ∧ Keeps (fun x => x ≠ mb ∧ ∀ ad, A = some ad → ad.block ≠ x) w w'
theorem MChg.of_below {mb : Nat} {A : Option Addr} {w w' : World} (h : Below w.heap.size w w') : MChg mb A w w' := ⟨h.mono (Nat.zero_le _), Keeps.of_below h⟩
theorem MChg.trans {mb : Nat} {A : Option Addr} {x y z : World} (h : MChg mb A x y) (k : MChg mb A y z) : MChg mb A x z := ⟨h.1.trans k.1, h.2.trans k.2⟩
def ModR (ok : Nat → Prop) (base : Nat) (w : World) (mb : Nat) (c : Ch) (A : Option Addr) : Prop := ∃ q xs P1 P2 n1 c1 n2 c2, ModIn (OkM ok A) base w mb c A q xs P1 P2 n1 c1 n2 c2
theorem ModR.grow {ok : Nat → Prop} {base : Nat} {w w' : World} {mb : Nat} {c : Ch} {A : Option Addr} (h : ModR ok base w mb c A) (hb : Below w.heap.size w w') : ModR ok base w' mb c A := by
  obtain ⟨q, xs, P1, P2, n1, c1, n2, c2, h⟩ := h
  exact ⟨q, xs, P1, P2, n1, c1, n2, c2, h.grow hb⟩
theorem ModR.at_ {ok : Nat → Prop} {base : Nat} {w : World} {mb : Nat} {c : Ch} {A : Option Addr} (h : ModR ok base w mb c A) : ModAt (OkM ok A) base w mb c := by
  obtain ⟨q, xs, P1, P2, n1, c1, n2, c2, h⟩ := h
  exact ⟨A, q, xs, P1, P2, n1, c1, n2, c2, h⟩
/-- What the model's put does. -/
def putM (k : Int) (c : Ch) (it : It) : Int × Ch :=
  if k ≠ 0 then (k, c) else if cmpS it.e it.p c.me c.mp < 0 ∨ cmpS it.e it.p c.le c.lp ≤ 0 then (24, c) else if c.cap ≤ c.items.length then (35, c)
  else (0, { c with items := c.items ++ [it], me := it.e, mp := it.p, le := it.e, lp := it.p, used := true })
def RetMP (ok : Nat → Prop) (base mb : Nat) (k : Int) (c : Ch) (it : It) (A : Option Addr) (w : World) (e : Ending) (w' : World) : Prop :=
  e = .returned (.int .i64 (putM k c it).1) ∧ ∃ A', (A'.map (·.block) = A.map (·.block) ∨ ∃ g, A'.map (·.block) = some g ∧ w.heap.size ≤ g) ∧ ModR ok base w' mb (putM k c it).2 A' ∧ MChg mb A w w'
theorem RetMP.same {ok : Nat → Prop} {base mb : Nat} {k v : Int} {c : Ch} {it : It} {A : Option Addr} {w w' : World} (h : putM k c it = (v, c)) (hm : ModR ok base w mb c A) (hb : Below w.heap.size w w') : RetMP ok base mb k c it A w (.returned (.int .i64 v)) w' := by
  unfold RetMP
  rw [h]
  exact ⟨rfl, A, .inl rfl, hm.grow hb, MChg.of_below hb⟩
theorem mput_close {ok : Nat → Prop} {base : Nat} {w0 wa w5 wF : World} {mb : Nat} {c : Ch} {A A2 : Option Addr} {q q2 : Nat} {xs cs : List Value} {P1 P2 P : Option Addr} {n1 c1 n2 c2 n cc : Nat} {it : It}
    (hI : ModIn (OkM ok A) base w0 mb c A q xs P1 P2 n1 c1 n2 c2) (hV : ItemV (OkM ok A) w0 cs it) (hl : cs.length = 11) (hp : PathIs (OkM ok A) w0 P n cc it.p) (hnm : ¬ ok mb) (hbm : mb < base) (hba : Below w0.heap.size w0 wa) (hbase : base ≤ w0.heap.size)
    (hown : OwnO w5 base 11 A2 (c.items.length + 1) q2 (xs ++ cs)) (hg : wa.grownBy w5 (A.map (·.block))) (hob : A2.map (·.block) = A.map (·.block) ∨ A2.map (·.block) = some wa.heap.size)
    (hF : wF = ((((w5.setCell ⟨mb, 1, none⟩ (.slice A2 (c.items.length + 1) q2)).setCell ⟨mb, 2, none⟩ (.int .i64 it.e)).setCell ⟨mb, 3, none⟩ (.slice P n cc)).setCell ⟨mb, 4, none⟩ (.int .i64 it.e)).setCell ⟨mb, 5, none⟩ (.slice P n cc)) :
    (A2.map (·.block) = A.map (·.block) ∨ ∃ g, A2.map (·.block) = some g ∧ w0.heap.size ≤ g) ∧ ModR ok base wF mb { c with items := c.items ++ [it], me := it.e, mp := it.p, le := it.e, lp := it.p, used := true } A2 ∧ MChg mb A w0 wF := by
  obtain ⟨h1, h2, h3, h4, h5, h6, h7⟩ := hI
  have hAlt : ∀ ad, A = some ad → ad.block < w0.heap.size := fun ad e => by
    rcases h2.2.2.2 with ⟨e', _⟩ | ⟨g, off, e', _, hl, _⟩
    · rw [e'] at e; cases e
    · rw [e'] at e; cases e; exact hl
  have hsa := hba.size
  have hmbA : ∀ k, A.map (·.block) = some k → k ≠ mb := fun k e => by
    rcases A with _ | ad
    · cases e
    · cases e; exact (h7 _ rfl).2
  have hA2mb : ∀ ad, A2 = some ad → ad.block ≠ mb := fun ad e => by
    rcases hob with h | h
    · rw [e] at h; exact hmbA _ h.symm
    · rw [e] at h; simp at h; omega
  have hup : ∀ x, x < w0.heap.size → OkM ok A x → OkM ok A x ∧ OkM ok A2 x := fun x hx ho => ⟨ho, ho.1, fun ad e => by
    rcases hob with h | h
    · rw [e] at h
      rcases A with _ | ad'
      · cases h
      · have := ho.2 _ rfl
        simp at h
        rw [h]; exact this
    · rw [e] at h; simp at h; omega⟩
  have hrow : ∀ k, A.map (·.block) = some k → ∀ ad, A = some ad → ad.block = k := fun k e ad e' => by rw [e'] at e; cases e; rfl
  have key : ∀ ok' : Nat → Prop, (∀ k, A.map (·.block) = some k → ¬ ok' k) → ¬ ok' mb → Keeps ok' w0 wF := fun ok' hr hm => by
    rw [hF]
    exact ((((((((Keeps.of_below hba).grown hg fun k hk => .inr (hr k hk)).setCell hm _).setCell hm _).setCell hm _).setCell hm _).setCell hm _))
  have hk := key (fun x => OkM ok A x ∧ OkM ok A2 x) (fun k e h => by
    rcases A with _ | ad
    · cases e
    · cases e; exact h.1.2 _ rfl rfl) (fun h => hnm h.1.1)
  have hmb5 : Bx w5 mb [.int .i64 c.cap, .slice A c.items.length q, .int .i64 c.me, .slice P1 n1 c1, .int .i64 c.le, .slice P2 n2 c2] := (h1.grow hba).block hg.size (hg.block _ (by omega) (fun e => hmbA _ e.symm rfl))
  have hown' : wF.heap.size = w5.heap.size := by rw [hF]; simp [World.setCell]
  refine ⟨?_, ⟨q2, xs ++ cs, P, P, n, cc, n, cc, ?_, ?_, fun j it' hj => ?_, (((hp.mono hup).keep hk).mono fun _ _ h => h.2), (((hp.mono hup).keep hk).mono fun _ _ h => h.2), fun h => hnm h.1, fun ad e => ⟨fun h => h.2 ad e rfl, hA2mb ad e⟩⟩, ?_, key _ (fun k e h => by
    rcases A with _ | ad
    · cases e
    · cases e; exact h.2 _ rfl rfl) (fun h => h.1 rfl)⟩
  · rcases hob with h | h
    · exact .inl h
    · exact .inr ⟨_, h, hsa⟩
  · rw [hF]
    have e : (c.items ++ [it]).length = c.items.length + 1 := by simp
    show Bx _ mb [.int .i64 c.cap, .slice A2 (c.items ++ [it]).length q2, .int .i64 it.e, .slice P n cc, .int .i64 it.e, .slice P n cc]
    rw [e]
    exact ((((hmb5.put rfl).put rfl).put rfl).put rfl).put rfl
  · show OwnO wF base 11 A2 (c.items ++ [it]).length q2 (xs ++ cs)
    rw [show (c.items ++ [it]).length = c.items.length + 1 by simp]
    refine hown.block (by rw [hown']; exact Nat.le_refl _) fun ad e => ?_
    have hne := hA2mb ad e
    rw [hF]
    exact ((((Below.heap_setCell _ _ _ _ hne).trans (Below.heap_setCell _ _ _ _ hne)).trans (Below.heap_setCell _ _ _ _ hne)).trans (Below.heap_setCell _ _ _ _ hne)).trans (Below.heap_setCell _ _ _ _ hne)
  · have hj : (c.items ++ [it])[j]? = some it' := hj
    have hxl := h2.2.2.1
    rcases Nat.lt_or_ge j c.items.length with hjl | hjl
    · rw [List.getElem?_append_left hjl] at hj
      rw [chunk_old hxl hjl]
      exact (((h3 j it' hj).mono hup).keep hk).mono fun _ _ h => h.2
    · have hj' := (List.getElem?_eq_some_iff.1 hj).1
      simp at hj'
      obtain rfl : j = c.items.length := by omega
      rw [List.getElem?_append_right (Nat.le_refl _), Nat.sub_self] at hj
      cases hj
      rw [chunk_new hxl hl]
      exact ((hV.mono hup).keep hk).mono fun _ _ h => h.2
  · rw [hF]
    have hb5 : Below 0 w0 w5 := Below.grown (hba.mono (Nat.zero_le _)) hg (by simp) (fun k _ => Nat.zero_le _)
    exact ((((hb5.setCell (Nat.zero_le _) _).setCell (Nat.zero_le _) _).setCell (Nat.zero_le _) _).setCell (Nat.zero_le _) _).setCell (Nat.zero_le _) _
set_option maxRecDepth 20000 in set_option maxHeartbeats 2000000 in
theorem mput_any {ok : Nat → Prop} {base : Nat} {w : World} {mb : Nat} {c : Ch} {A : Option Addr} (h : ModR ok base w mb c A) {cs : List Value} {it : It} (hi : ItemV (OkM ok A) w cs it) (hf : ∀ x, w.heap.size ≤ x → ok x)
    (hnm : ¬ ok mb) (hbm : mb < base) (hbase : base ≤ w.heap.size) (hcap : c.cap ≤ 1024) :
    Calls Try.prog 51 #[.pointer (some ⟨mb, 0, none⟩), .agg cs.toArray] w (RetMP ok base mb (chkI (zeroC cs) it) c it A w) := by
  obtain ⟨i0, hi0, hz0, hz1, hz2⟩ := info_parts Try.infoI33
  have hR := Lib.hid h
  obtain ⟨q, xs, P1, P2, n1, c1, n2, c2, hI⟩ := h
  have HV := Lib.hid hi
  have HI := Lib.hid hI
  obtain ⟨z0, A5, n5, c5', z1, A6, n6, c6', z2, z3, z4, z5, A7, n7, c7', A8, n8, c8', A9, n9, c9', hcs⟩ := item_cells hi
  have hAlt := Lib.hid fun k (e : A.map (·.block) = some k) => show k < w.heap.size by
    rcases hI.2.1.2.2.2 with ⟨e', _⟩ | ⟨g, off, e', _, hl, _⟩
    · rw [e'] at e; cases e
    · rw [e'] at e; cases e; exact hl
  have hAmb := Lib.hid fun k (e : A.map (·.block) = some k) => show k ≠ mb by
    rcases A with _ | ad
    · cases e
    · cases e; exact (hI.2.2.2.2.2.2 _ rfl).2
  clear hi hI
  obtain ⟨kk, hkk⟩ : ∃ kk, chkI (zeroC cs) it = kk := ⟨_, rfl⟩
  rw [hkk]
  have hkk' := Lib.hid hkk
  clear hkk
  subst hcs
  have CK := fun w' (hb : Below w.heap.size w w') => lcheck_any (HV.out.grow hb)
  rw [hkk'.out] at CK
  replace CK := Lib.hid CK
  go_enter Try.func51, Try.ntmps51
  go_wp2_with fail
  refine (CK.out _ (by repeat (first | with_reducible assumption | with_reducible exact G.refl _ | with_reducible refine G.drew ?_ | with_reducible refine G.drewN ?_ _ | with_reducible refine G.alloc ?_ _ | with_reducible refine Below.setCell ?_ (by first | (simp; done) | (simp; omega)) _ | with_reducible refine G.trans ?_ hb12 | with_reducible refine G.trans ?_ hb11 | with_reducible refine G.trans ?_ hb10 | with_reducible refine G.trans ?_ hb9 | with_reducible refine G.trans ?_ hb8 | with_reducible refine G.trans ?_ hb7 | with_reducible refine G.trans ?_ hb6 | with_reducible refine G.trans ?_ hb5 | with_reducible refine G.trans ?_ hb4 | with_reducible refine G.trans ?_ hb3 | with_reducible refine G.trans ?_ hb2 | with_reducible refine G.trans ?_ hb1 | with_reducible refine G.trans ?_ hb | assumption))).mono ?_
  rintro e' w2 ⟨rfl, hb2⟩
  have x : Bx w2 w.heap.size [.int .i64 z0, .slice A5 n5 c5', .int .i64 z1, .slice A6 n6 c6', .int .i64 z2, .int .i64 z3, .int .i64 z4, .string z5, .slice A7 n7 c7', .slice A8 n8 c8', .slice A9 n9 c9'] := Bx.grow (by repeat (first | with_reducible assumption | (with_reducible exact Bx.new (by simp; done) (by rfl)) | (with_reducible refine Bx.alloc ?_ _) | (with_reducible refine Bx.drewN ?_ _) | ((with_reducible apply Bx.put); rotate_right; (first | rfl | skip)) | (with_reducible refine Bx.other ?_ (by first | (simp; done) | (simp; omega)) _))) hb2
  have hbw : Below w.heap.size w w2 := G.trans (by repeat (first | with_reducible assumption | with_reducible exact G.refl _ | with_reducible refine G.drew ?_ | with_reducible refine G.drewN ?_ _ | with_reducible refine G.alloc ?_ _ | with_reducible refine Below.setCell ?_ (by first | (simp; done) | (simp; omega)) _ | with_reducible refine G.trans ?_ hb12 | with_reducible refine G.trans ?_ hb11 | with_reducible refine G.trans ?_ hb10 | with_reducible refine G.trans ?_ hb9 | with_reducible refine G.trans ?_ hb8 | with_reducible refine G.trans ?_ hb7 | with_reducible refine G.trans ?_ hb6 | with_reducible refine G.trans ?_ hb5 | with_reducible refine G.trans ?_ hb4 | with_reducible refine G.trans ?_ hb3 | with_reducible refine G.trans ?_ hb2 | with_reducible refine G.trans ?_ hb1 | with_reducible refine G.trans ?_ hb | assumption)) hb2
  by_cases hk0 : kk = 0
  · subst hk0
    obtain ⟨c0, c1', c2', c3, c4, c5, c6, c7, c8, c9, c10⟩ := x.c11
    go_wp2_with fail
    refine (ofc_any HV.out hbw).mono ?_
    rintro e' w3 ⟨A', n', c', rfl, hp, hb3⟩
    have hbw3 : Below w.heap.size w w3 := G.trans hbw hb3
    replace x := x.grow hb3
    clear c0 c1' c2' c3 c4 c5 c6 c7 c8 c9 c10
    go_wp2_with fail
    refine wp_name (fun wr => Below w3.heap.size w3 wr ∧ Hid (w3.heap.size < wr.heap.size) ∧ Bx wr w3.heap.size [.int .i64 it.e, .slice A' n' c']) ⟨by repeat (first | with_reducible assumption | with_reducible exact G.refl _ | with_reducible refine G.drew ?_ | with_reducible refine G.drewN ?_ _ | with_reducible refine G.alloc ?_ _ | with_reducible refine Below.setCell ?_ (by first | (simp; done) | (simp; omega)) _ | with_reducible refine G.trans ?_ hb12 | with_reducible refine G.trans ?_ hb11 | with_reducible refine G.trans ?_ hb10 | with_reducible refine G.trans ?_ hb9 | with_reducible refine G.trans ?_ hb8 | with_reducible refine G.trans ?_ hb7 | with_reducible refine G.trans ?_ hb6 | with_reducible refine G.trans ?_ hb5 | with_reducible refine G.trans ?_ hb4 | with_reducible refine G.trans ?_ hb3 | with_reducible refine G.trans ?_ hb2 | with_reducible refine G.trans ?_ hb1 | with_reducible refine G.trans ?_ hb | assumption), by unfold Hid; simp, by repeat (first | with_reducible assumption | (with_reducible exact Bx.new (by simp; done) (by rfl)) | (with_reducible refine Bx.alloc ?_ _) | (with_reducible refine Bx.drewN ?_ _) | ((with_reducible apply Bx.put); rotate_right; (first | rfl | skip)) | (with_reducible refine Bx.other ?_ (by first | (simp; done) | (simp; omega)) _))⟩ ?_
    rintro w4 ⟨hb4, hsz4, y⟩
    have hbw4 : Below w.heap.size w w4 := G.trans hbw3 hb4
    replace x := Lib.hid (x.grow hb4)
    replace hp := Lib.hid (hp.grow hb4)
    replace HI := Lib.hid (HI.out.grow hbw4)
    replace HV := Lib.hid (HV.out.grow hbw4)
    have k2 := (HI.out.1.2 2 _ rfl).1
    have k3 := (HI.out.1.2 3 _ rfl).1
    have k4 := (HI.out.1.2 4 _ rfl).1
    have k5 := (HI.out.1.2 5 _ rfl).1
    have ltb := HI.out.1.lt
    have lty := y.lt
    have y0 := (y.2 0 _ rfl).1
    have y1 := (y.2 1 _ rfl).1
    have H4 := Lib.hid HI.out.2.2.2.1
    have H5 := Lib.hid HI.out.2.2.2.2.1
    have hb3w : w.heap.size ≤ w3.heap.size := hbw3.size
    clear hb2 hb3 hb4 hbw hbw3
    obtain ⟨u1, hu1⟩ : ∃ v, cmpS it.e it.p c.me c.mp = v := ⟨_, rfl⟩
    have hu1' := Lib.hid hu1
    obtain ⟨u2, hu2⟩ : ∃ v, cmpS it.e it.p c.le c.lp = v := ⟨_, rfl⟩
    have hu2' := Lib.hid hu2
    by_cases hn1 : u1 < 0
    · have hu : putM 0 c it = (24, c) := by unfold putM; rw [hu1, if_neg (by simp), if_pos (.inl hn1)]
      clear hu1 hu2
      refine wp_region_ord [(0, 1), (1, 1), (2, 1), (3, 1), (4, 1), (5, 2), (6, 1), (7, 1), (8, 1), (9, 1), (10, 1), (11, 1), (12, 1), (13, 2), (14, 1), (15, 1)] [] 5 (by kernel_rfl) (by decide +kernel) ?_
      simp only [pickO, List.append_eq, List.cons_append, List.nil_append, List.getElem?_cons_succ, List.getElem?_cons_zero]
      intro w0 hG
      (repeat ((first | (with_reducible refine ord_q1 ?_) | (with_reducible refine ord_q0 ?_)); intro K hK; first | (refine Or.inr ⟨?_, ?_⟩; (focus (go_simp; first | done | (simp [undef]; done))); go_simp; (with_reducible refine hK _ ?_); clear hK K) | (refine Or.inl ⟨?_, ?_⟩; (focus (go_simp; done)); apply Exists.intro; refine And.intro ?_ ?_; (focus (first | (intro wq hq; obtain ⟨hcq, hfq⟩ := G.old hq; go_simp; (first | done | exact rfl); done) | (intro wq; go_simp; (first | done | exact rfl); done))); go_simp; (with_reducible refine hK _ ?_); clear hK K) | fail))
      (with_reducible refine ord_run ?_ hG)
      intro K hK
      go_simp
      go_at_call 25; (with_reducible refine (compare_any it.e c.me A' P1 n' n1 c' c1 it.p c.mp _ (hp.out.sl.grow hG.b) (H4.out.sl.grow hG.b) hp.out.max).mono ?_); rintro e' w5 ⟨rfl, hb5⟩; rw [hu1'.out]
      replace hG := Grew.trans hG hb5
      (try dsimp only)
      (with_reducible refine hK _ _ hG ?_)
      clear hK K
      (repeat ((first | (with_reducible refine ord_q1 ?_) | (with_reducible refine ord_q0 ?_)); intro K hK; first | (refine Or.inr ⟨?_, ?_⟩; (focus (go_simp; first | done | (simp [undef]; done))); go_simp; (with_reducible refine hK _ ?_); clear hK K) | (refine Or.inl ⟨?_, ?_⟩; (focus (go_simp; done)); apply Exists.intro; refine And.intro ?_ ?_; (focus (first | (intro wq hq; obtain ⟨hcq, hfq⟩ := G.old hq; go_simp; (first | done | exact rfl); done) | (intro wq; go_simp; (first | done | exact rfl); done))); go_simp; (with_reducible refine hK _ ?_); clear hK K) | fail))
      (with_reducible refine ord_skip ?_ hG ?_); (focus (go_simp; first | done | (simp [undef]; done))); intro K hK; go_simp; (with_reducible refine hK _ ?_); clear hK K; (repeat ((first | (with_reducible refine ord_q1 ?_) | (with_reducible refine ord_q0 ?_)); intro K hK; first | (refine Or.inr ⟨?_, ?_⟩; (focus (go_simp; first | done | (simp [undef]; done))); go_simp; (with_reducible refine hK _ ?_); clear hK K) | (refine Or.inl ⟨?_, ?_⟩; (focus (go_simp; done)); apply Exists.intro; refine And.intro ?_ ?_; (focus (first | (intro wq hq; obtain ⟨hcq, hfq⟩ := G.old hq; go_simp; (first | done | exact rfl); done) | (intro wq; go_simp; (first | done | exact rfl); done))); go_simp; (with_reducible refine hK _ ?_); clear hK K) | fail))
      (with_reducible refine ord_nil ?_)
      go_wp2_with fail
      go_ret
      exact RetMP.same hu hR.out (G.trans hbw4 hG.b)
    · by_cases hn2 : u2 ≤ 0
      · have hu : putM 0 c it = (24, c) := by unfold putM; rw [hu1, hu2, if_neg (by simp), if_pos (.inr hn2)]
        clear hu1 hu2
        refine wp_region_ord [(0, 1), (1, 1), (2, 1), (3, 1), (4, 1), (5, 2), (6, 1), (7, 1), (8, 1), (9, 1), (10, 1), (11, 1), (12, 1), (13, 2), (14, 1), (15, 1)] [] 5 (by kernel_rfl) (by decide +kernel) ?_
        simp only [pickO, List.append_eq, List.cons_append, List.nil_append, List.getElem?_cons_succ, List.getElem?_cons_zero]
        intro w0 hG
        (repeat ((first | (with_reducible refine ord_q1 ?_) | (with_reducible refine ord_q0 ?_)); intro K hK; first | (refine Or.inr ⟨?_, ?_⟩; (focus (go_simp; first | done | (simp [undef]; done))); go_simp; (with_reducible refine hK _ ?_); clear hK K) | (refine Or.inl ⟨?_, ?_⟩; (focus (go_simp; done)); apply Exists.intro; refine And.intro ?_ ?_; (focus (first | (intro wq hq; obtain ⟨hcq, hfq⟩ := G.old hq; go_simp; (first | done | exact rfl); done) | (intro wq; go_simp; (first | done | exact rfl); done))); go_simp; (with_reducible refine hK _ ?_); clear hK K) | fail))
        (with_reducible refine ord_run ?_ hG)
        intro K hK
        go_simp
        go_at_call 25; (with_reducible refine (compare_any it.e c.me A' P1 n' n1 c' c1 it.p c.mp _ (hp.out.sl.grow hG.b) (H4.out.sl.grow hG.b) hp.out.max).mono ?_); rintro e' w5 ⟨rfl, hb5⟩; rw [hu1'.out]
        replace hG := Grew.trans hG hb5
        (try dsimp only)
        (with_reducible refine hK _ _ hG ?_)
        clear hK K
        (repeat ((first | (with_reducible refine ord_q1 ?_) | (with_reducible refine ord_q0 ?_)); intro K hK; first | (refine Or.inr ⟨?_, ?_⟩; (focus (go_simp; first | done | (simp [undef]; done))); go_simp; (with_reducible refine hK _ ?_); clear hK K) | (refine Or.inl ⟨?_, ?_⟩; (focus (go_simp; done)); apply Exists.intro; refine And.intro ?_ ?_; (focus (first | (intro wq hq; obtain ⟨hcq, hfq⟩ := G.old hq; go_simp; (first | done | exact rfl); done) | (intro wq; go_simp; (first | done | exact rfl); done))); go_simp; (with_reducible refine hK _ ?_); clear hK K) | fail))
        (with_reducible refine ord_run ?_ hG)
        intro K hK
        go_simp
        go_at_call 25; (with_reducible refine (compare_any it.e c.le A' P2 n' n2 c' c2 it.p c.lp _ (hp.out.sl.grow hG.b) (H5.out.sl.grow hG.b) hp.out.max).mono ?_); rintro e' w6 ⟨rfl, hb6⟩; rw [hu2'.out]
        replace hG := Grew.trans hG hb6
        (try dsimp only)
        (with_reducible refine hK _ _ hG ?_)
        clear hK K
        (repeat ((first | (with_reducible refine ord_q1 ?_) | (with_reducible refine ord_q0 ?_)); intro K hK; first | (refine Or.inr ⟨?_, ?_⟩; (focus (go_simp; first | done | (simp [undef]; done))); go_simp; (with_reducible refine hK _ ?_); clear hK K) | (refine Or.inl ⟨?_, ?_⟩; (focus (go_simp; done)); apply Exists.intro; refine And.intro ?_ ?_; (focus (first | (intro wq hq; obtain ⟨hcq, hfq⟩ := G.old hq; go_simp; (first | done | exact rfl); done) | (intro wq; go_simp; (first | done | exact rfl); done))); go_simp; (with_reducible refine hK _ ?_); clear hK K) | fail))
        (with_reducible refine ord_nil ?_)
        go_wp2_with fail
        go_ret
        exact RetMP.same hu hR.out (G.trans hbw4 hG.b)
      · have hu : putM 0 c it = if c.cap ≤ c.items.length then (35, c) else (0, { c with items := c.items ++ [it], me := it.e, mp := it.p, le := it.e, lp := it.p, used := true }) := by
          unfold putM; rw [hu1, hu2, if_neg (by simp), if_neg (by omega)]
        clear hu1 hu2
        refine wp_region_ord [(0, 1), (1, 1), (2, 1), (3, 1), (4, 1), (5, 2), (6, 1), (7, 1), (8, 1), (9, 1), (10, 1), (11, 1), (12, 1), (13, 2), (14, 1), (15, 1)] [] 5 (by kernel_rfl) (by decide +kernel) ?_
        simp only [pickO, List.append_eq, List.cons_append, List.nil_append, List.getElem?_cons_succ, List.getElem?_cons_zero]
        intro w0 hG
        (repeat ((first | (with_reducible refine ord_q1 ?_) | (with_reducible refine ord_q0 ?_)); intro K hK; first | (refine Or.inr ⟨?_, ?_⟩; (focus (go_simp; first | done | (simp [undef]; done))); go_simp; (with_reducible refine hK _ ?_); clear hK K) | (refine Or.inl ⟨?_, ?_⟩; (focus (go_simp; done)); apply Exists.intro; refine And.intro ?_ ?_; (focus (first | (intro wq hq; obtain ⟨hcq, hfq⟩ := G.old hq; go_simp; (first | done | exact rfl); done) | (intro wq; go_simp; (first | done | exact rfl); done))); go_simp; (with_reducible refine hK _ ?_); clear hK K) | fail))
        (with_reducible refine ord_run ?_ hG)
        intro K hK
        go_simp
        go_at_call 25; (with_reducible refine (compare_any it.e c.me A' P1 n' n1 c' c1 it.p c.mp _ (hp.out.sl.grow hG.b) (H4.out.sl.grow hG.b) hp.out.max).mono ?_); rintro e' w5 ⟨rfl, hb5⟩; rw [hu1'.out]
        replace hG := Grew.trans hG hb5
        (try dsimp only)
        (with_reducible refine hK _ _ hG ?_)
        clear hK K
        (repeat ((first | (with_reducible refine ord_q1 ?_) | (with_reducible refine ord_q0 ?_)); intro K hK; first | (refine Or.inr ⟨?_, ?_⟩; (focus (go_simp; first | done | (simp [undef]; done))); go_simp; (with_reducible refine hK _ ?_); clear hK K) | (refine Or.inl ⟨?_, ?_⟩; (focus (go_simp; done)); apply Exists.intro; refine And.intro ?_ ?_; (focus (first | (intro wq hq; obtain ⟨hcq, hfq⟩ := G.old hq; go_simp; (first | done | exact rfl); done) | (intro wq; go_simp; (first | done | exact rfl); done))); go_simp; (with_reducible refine hK _ ?_); clear hK K) | fail))
        (with_reducible refine ord_run ?_ hG)
        intro K hK
        go_simp
        go_at_call 25; (with_reducible refine (compare_any it.e c.le A' P2 n' n2 c' c2 it.p c.lp _ (hp.out.sl.grow hG.b) (H5.out.sl.grow hG.b) hp.out.max).mono ?_); rintro e' w6 ⟨rfl, hb6⟩; rw [hu2'.out]
        replace hG := Grew.trans hG hb6
        (try dsimp only)
        (with_reducible refine hK _ _ hG ?_)
        clear hK K
        (repeat ((first | (with_reducible refine ord_q1 ?_) | (with_reducible refine ord_q0 ?_)); intro K hK; first | (refine Or.inr ⟨?_, ?_⟩; (focus (go_simp; first | done | (simp [undef]; done))); go_simp; (with_reducible refine hK _ ?_); clear hK K) | (refine Or.inl ⟨?_, ?_⟩; (focus (go_simp; done)); apply Exists.intro; refine And.intro ?_ ?_; (focus (first | (intro wq hq; obtain ⟨hcq, hfq⟩ := G.old hq; go_simp; (first | done | exact rfl); done) | (intro wq; go_simp; (first | done | exact rfl); done))); go_simp; (with_reducible refine hK _ ?_); clear hK K) | fail))
        (with_reducible refine ord_nil ?_)
        have hGG := hG.b
        have hbb : Below w.heap.size w w6 := G.trans hbw4 hGG
        replace HI := Lib.hid (HI.out.grow hGG)
        replace HV := Lib.hid (HV.out.grow hGG)
        replace x := Lib.hid (x.out.grow hGG)
        replace y := y.grow hGG
        replace hp := Lib.hid (hp.out.grow hGG)
        have k0 := (HI.out.1.2 0 _ rfl).1
        have k1 := (HI.out.1.2 1 _ rfl).1
        have ltb := HI.out.1.lt
        clear k2 k3 k4 k5 y0 y1 lty hsz4 H4 H5 hG hb5 hu1' hu2' hGG hbw4
        go_wp2_with fail
        refine wp_region_ord [(0, 1), (1, 1), (2, 1), (3, 1), (4, 1), (5, 1), (6, 1), (7, 1), (8, 1), (9, 1)] [] 5 (by kernel_rfl) (by decide +kernel) ?_
        simp only [pickO, List.append_eq, List.cons_append, List.nil_append, List.getElem?_cons_succ, List.getElem?_cons_zero]
        intro w0 hG
        (repeat ((first | (with_reducible refine ord_q1 ?_) | (with_reducible refine ord_q0 ?_)); intro K hK; first | (refine Or.inr ⟨?_, ?_⟩; (focus (go_simp; first | done | (simp [undef]; done))); go_simp; (with_reducible refine hK _ ?_); clear hK K) | (refine Or.inl ⟨?_, ?_⟩; (focus (go_simp; done)); apply Exists.intro; refine And.intro ?_ ?_; (focus (first | (intro wq hq; obtain ⟨hcq, hfq⟩ := G.old hq; go_simp; (first | done | exact rfl); done) | (intro wq; go_simp; (first | done | exact rfl); done))); go_simp; (with_reducible refine hK _ ?_); clear hK K) | fail))
        (with_reducible refine ord_nil ?_)
        have hGG := hG.b
        replace hbb : Below w.heap.size w w0 := G.trans hbb hGG
        replace HI := Lib.hid (HI.out.grow hGG)
        replace HV := Lib.hid (HV.out.grow hGG)
        replace x := Lib.hid (x.out.grow hGG)
        replace y := y.grow hGG
        replace hp := Lib.hid (hp.out.grow hGG)
        clear k0 k1 ltb hG hGG
        by_cases hfull : c.cap ≤ c.items.length
        · rw [if_pos hfull] at hu
          have hfull' : (c.cap : Int) ≤ (c.items.length : Int) := by omega
          go_wp2_with fail
          go_ret
          exact RetMP.same hu hR.out hbb
        · rw [if_neg hfull] at hu
          have hfull' : ¬ (c.cap : Int) ≤ (c.items.length : Int) := by omega
          go_wp2_with fail
          have k1 := (HI.out.1.2 1 _ rfl).1
          have ltb := HI.out.1.lt
          obtain ⟨c0, c1', c2', c3, c4, c5, c6, c7, c8, c9, c10⟩ := x.out.c11
          have ltx := x.out.lt
          have y0 := (y.2 0 _ rfl).1
          have y1 := (y.2 1 _ rfl).1
          have lty := y.lt
          have hI1 := HI.out
          have hV1 := HV.out
          have hp1 := hp.out
          clear HI HV hp x
          refine wp_region_ordD [(0, 0), (1, 0), (2, 0), (3, 0), (4, 0), (5, 0), (6, 1), (7, 1), (10, 0), (11, 0), (8, 2), (9, 3), (12, 0), (13, 0), (14, 3), (15, 0), (16, 0), (17, 3), (18, 0), (19, 0), (20, 3)] [9, 14, 17, 20] 5 (fun wq => Bx wq w3.heap.size [.int .i64 it.e, .slice A' n' c']) (by kernel_rfl) (by decide +kernel) ?_
          simp only [pickO, List.append_eq, List.cons_append, List.nil_append, List.getElem?_cons_succ, List.getElem?_cons_zero]
          intro w0 hG
          have hD := y.grow hG.b
          refine ⟨hD, ?_⟩
          (repeat ((first | (with_reducible refine ord_q1D ?_) | (with_reducible refine ord_q0D ?_)); intro K hK; first | (refine Or.inr ⟨?_, ?_⟩; (focus (go_simp; first | done | (simp [undef]; done))); go_simp; (with_reducible refine hK _ ?_); clear hK K) | (refine Or.inl ⟨?_, ?_⟩; (focus (go_simp; done)); apply Exists.intro; refine And.intro ?_ ?_; (focus (first | (intro wq hq; have hcf := G.old hq; obtain ⟨hcq, hfq⟩ := hcf; go_simp; (first | done | exact rfl); done) | (intro wq hq; have y0 := (hq.2 0 _ rfl).1; have y1 := (hq.2 1 _ rfl).1; go_simp; (first | done | exact rfl); done))); go_simp; (with_reducible refine hK _ ?_); clear hK K) | fail))
          have hGb := hG.b
          replace hI1 := hI1.grow hGb
          replace hV1 := hV1.grow hGb
          replace hp1 := hp1.grow hGb
          replace hbb : Below w.heap.size w w0 := G.trans hbb hGb
          have hbsz := hbb.size
          (with_reducible refine ord_runD ?_ hG)
          intro K hK
          go_simp
          replace hG := Grew.alloc hG (.cells #[.int .i64 z0, .slice A5 n5 c5', .int .i64 z1, .slice A6 n6 c6', .int .i64 z2, .int .i64 z3, .int .i64 z4, .string z5, .slice A7 n7 c7', .slice A8 n8 c8', .slice A9 n9 c9'] 33)
          replace hD := hD.alloc (.cells #[.int .i64 z0, .slice A5 n5 c5', .int .i64 z1, .slice A6 n6 c6', .int .i64 z2, .int .i64 z3, .int .i64 z4, .string z5, .slice A7 n7 c7', .slice A8 n8 c8', .slice A9 n9 c9'] 33)
          (with_reducible refine hK _ _ hG hD ?_)
          clear hK K
          (repeat ((first | (with_reducible refine ord_q1D ?_) | (with_reducible refine ord_q0D ?_)); intro K hK; first | (refine Or.inr ⟨?_, ?_⟩; (focus (go_simp; first | done | (simp [undef]; done))); go_simp; (with_reducible refine hK _ ?_); clear hK K) | (refine Or.inl ⟨?_, ?_⟩; (focus (go_simp; done)); apply Exists.intro; refine And.intro ?_ ?_; (focus (first | (intro wq hq; have hcf := G.old hq; obtain ⟨hcq, hfq⟩ := hcf; go_simp; (first | done | exact rfl); done) | (intro wq hq; have y0 := (hq.2 0 _ rfl).1; have y1 := (hq.2 1 _ rfl).1; go_simp; (first | done | exact rfl); done))); go_simp; (with_reducible refine hK _ ?_); clear hK K) | fail))
          (with_reducible refine ord_tailD hD ?_)
          intro K hK
          have hba : Below w0.heap.size w0 (w0.alloc (.cells #[.int .i64 z0, .slice A5 n5 c5', .int .i64 z1, .slice A6 n6 c6', .int .i64 z2, .int .i64 z3, .int .i64 z4, .string z5, .slice A7 n7 c7', .slice A8 n8 c8', .slice A9 n9 c9'] 33)) := G.alloc (G.refl _) _
          have hx : Bx (w0.alloc (.cells #[.int .i64 z0, .slice A5 n5 c5', .int .i64 z1, .slice A6 n6 c6', .int .i64 z2, .int .i64 z3, .int .i64 z4, .string z5, .slice A7 n7 c7', .slice A8 n8 c8', .slice A9 n9 c9'] 33)) w0.heap.size [.int .i64 z0, .slice A5 n5 c5', .int .i64 z1, .slice A6 n6 c6', .int .i64 z2, .int .i64 z3, .int .i64 z4, .string z5, .slice A7 n7 c7', .slice A8 n8 c8', .slice A9 n9 c9'] := Bx.new rfl rfl
          refine step_appO rfl (.tmp 46) (.tmp 48) _ rfl base 33 i0 _ 11 176 Try.underlying79 hi0 hz0 hz1 hz2 rfl A c.items.length q xs rfl (hI1.grow hba).2.1 w0.heap.size 1 [.int .i64 z0, .slice A5 n5 c5', .int .i64 z1, .slice A6 n6 c6', .int .i64 z2, .int .i64 z3, .int .i64 z4, .string z5, .slice A7 n7 c7', .slice A8 n8 c8', .slice A9 n9 c9'] rfl rfl (fun j u hu => (hx.2 j u hu).1) (by simp [Value.oneCell']) (by show _ ≤ 2 ^ 63 - 1; omega) (by omega) (Nat.le_trans hbase (Nat.le_trans hbsz hba.size)) ?_
          intro A2 q2 w5 hown5 hg5 hob5
          have hD' : Bx w5 w3.heap.size [.int .i64 it.e, .slice A' n' c'] := hD.block hg5.size (hg5.block _ hD.lt (fun e => by have := hAlt.out _ e.symm; omega))
          have hmb5 : Bx w5 mb [.int .i64 c.cap, .slice A c.items.length q, .int .i64 c.me, .slice P1 n1 c1, .int .i64 c.le, .slice P2 n2 c2] := (hI1.1.grow hba).block hg5.size (hg5.block _ (Nat.lt_of_lt_of_le hbm (Nat.le_trans hbase (Nat.le_trans hbsz hba.size))) (fun e => hAmb.out _ e.symm rfl))
          have hne : w3.heap.size ≠ mb := by omega
          (try dsimp only)
          (with_reducible refine hK _ _ hD' ?_)
          clear hK K
          replace hD := hD'
          clear hD'
          have hfin := fun wF (hF : wF = _) => mput_close (wF := wF) hI1 hV1 rfl hp1 hnm hbm hba (Nat.le_trans hbase hbsz) hown5 hg5 hob5 hF
          replace hfin := Lib.hid hfin
          replace hI1 := Lib.hid hI1
          replace hV1 := Lib.hid hV1
          replace hown5 := Lib.hid hown5
          replace hob5 := Lib.hid hob5
          obtain ⟨b1, f1⟩ := hmb5.2 1 _ rfl
          obtain ⟨b2, f2⟩ := hmb5.2 2 _ rfl
          obtain ⟨b3, f3⟩ := hmb5.2 3 _ rfl
          obtain ⟨b4, f4⟩ := hmb5.2 4 _ rfl
          obtain ⟨b5, f5⟩ := hmb5.2 5 _ rfl
          have ltm5 := hmb5.lt
          clear y0 y1 lty ltx k1 ltb c0 c1' c2' c3 c4 c5 c6 c7 c8 c9 c10 hx hG
          (repeat ((first | (with_reducible refine ord_q1D ?_) | (with_reducible refine ord_q0D ?_)); intro K hK; first | (refine Or.inr ⟨?_, ?_⟩; (focus (go_simp; first | done | (simp [undef]; done))); go_simp; (with_reducible refine hK _ ?_); clear hK K) | (refine Or.inl ⟨?_, ?_⟩; (focus (go_simp; done)); apply Exists.intro; refine And.intro ?_ ?_; (focus (first | (intro wq hq; have hcf := G.old hq; obtain ⟨hcq, hfq⟩ := hcf; go_simp; (first | done | exact rfl); done) | (intro wq hq; have y0 := (hq.2 0 _ rfl).1; have y1 := (hq.2 1 _ rfl).1; go_simp; (first | done | exact rfl); done))); go_simp; (with_reducible refine hK _ ?_); clear hK K) | fail))
          (with_reducible refine ord_tailD hD ?_)
          intro K hK
          go_simp
          replace hD := hD.other (p := ⟨mb, 1, none⟩) hne (.slice A2 (c.items.length + 1) q2)
          (with_reducible refine hK _ _ hD ?_)
          clear hK K
          (repeat ((first | (with_reducible refine ord_q1D ?_) | (with_reducible refine ord_q0D ?_)); intro K hK; first | (refine Or.inr ⟨?_, ?_⟩; (focus (go_simp; first | done | (simp [undef]; done))); go_simp; (with_reducible refine hK _ ?_); clear hK K) | (refine Or.inl ⟨?_, ?_⟩; (focus (go_simp; done)); apply Exists.intro; refine And.intro ?_ ?_; (focus (first | (intro wq hq; have hcf := G.old hq; obtain ⟨hcq, hfq⟩ := hcf; go_simp; (first | done | exact rfl); done) | (intro wq hq; have y0 := (hq.2 0 _ rfl).1; have y1 := (hq.2 1 _ rfl).1; go_simp; (first | done | exact rfl); done))); go_simp; (with_reducible refine hK _ ?_); clear hK K) | fail))
          (with_reducible refine ord_tailD hD ?_)
          intro K hK
          go_simp
          replace hD := (hD.other (p := ⟨mb, 2, none⟩) hne (.int .i64 it.e)).other (p := ⟨mb, 3, none⟩) hne (.slice A' n' c')
          (with_reducible refine hK _ _ hD ?_)
          clear hK K
          (repeat ((first | (with_reducible refine ord_q1D ?_) | (with_reducible refine ord_q0D ?_)); intro K hK; first | (refine Or.inr ⟨?_, ?_⟩; (focus (go_simp; first | done | (simp [undef]; done))); go_simp; (with_reducible refine hK _ ?_); clear hK K) | (refine Or.inl ⟨?_, ?_⟩; (focus (go_simp; done)); apply Exists.intro; refine And.intro ?_ ?_; (focus (first | (intro wq hq; have hcf := G.old hq; obtain ⟨hcq, hfq⟩ := hcf; go_simp; (first | done | exact rfl); done) | (intro wq hq; have y0 := (hq.2 0 _ rfl).1; have y1 := (hq.2 1 _ rfl).1; go_simp; (first | done | exact rfl); done))); go_simp; (with_reducible refine hK _ ?_); clear hK K) | fail))
          (with_reducible refine ord_tailD hD ?_)
          intro K hK
          go_simp
          replace hD := (hD.other (p := ⟨mb, 4, none⟩) hne (.int .i64 it.e)).other (p := ⟨mb, 5, none⟩) hne (.slice A' n' c')
          (with_reducible refine hK _ _ hD ?_)
          clear hK K
          (repeat ((first | (with_reducible refine ord_q1D ?_) | (with_reducible refine ord_q0D ?_)); intro K hK; first | (refine Or.inr ⟨?_, ?_⟩; (focus (go_simp; first | done | (simp [undef]; done))); go_simp; (with_reducible refine hK _ ?_); clear hK K) | (refine Or.inl ⟨?_, ?_⟩; (focus (go_simp; done)); apply Exists.intro; refine And.intro ?_ ?_; (focus (first | (intro wq hq; have hcf := G.old hq; obtain ⟨hcq, hfq⟩ := hcf; go_simp; (first | done | exact rfl); done) | (intro wq hq; have y0 := (hq.2 0 _ rfl).1; have y1 := (hq.2 1 _ rfl).1; go_simp; (first | done | exact rfl); done))); go_simp; (with_reducible refine hK _ ?_); clear hK K) | fail))
          (with_reducible refine ord_nilD ?_)
          have hF := hfin.out _ rfl
          clear hfin hD b1 f1 b2 f2 b3 f3 b4 f4 b5 f5 hmb5
          generalize ((((w5.setCell ⟨mb, 1, none⟩ (.slice A2 (c.items.length + 1) q2)).setCell ⟨mb, 2, none⟩ (.int .i64 it.e)).setCell ⟨mb, 3, none⟩ (.slice A' n' c')).setCell ⟨mb, 4, none⟩ (.int .i64 it.e)).setCell ⟨mb, 5, none⟩ (.slice A' n' c') = wF at hF ⊢
          replace hF := Lib.hid hF
          clear hown5 hg5 hob5 hI1 hV1 hp1 hba
          go_wp2_with fail
          go_ret
          obtain ⟨hA2, hmF, hcF⟩ := hF.out
          unfold RetMP
          rw [hu]
          refine ⟨rfl, A2, ?_, hmF, (MChg.of_below hbb).trans hcF⟩
          rcases hA2 with h | ⟨g, h1, h2⟩
          · exact .inl h
          · exact .inr ⟨g, h1, by omega⟩
  · have hu : putM kk c it = (kk, c) := by unfold putM; rw [if_pos hk0]
    have hne : (kk != 0) = true := by simp [hk0]
    go_wp2_with fail
    go_ret
    exact RetMP.same hu hR.out hbw
end Go.Proofs.Ytjldpodehffbnaa
