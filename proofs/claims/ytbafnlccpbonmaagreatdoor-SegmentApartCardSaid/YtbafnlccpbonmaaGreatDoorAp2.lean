/- The law SegmentApart. -/
import Derived.Test.YtbafnlccpbonmaaGreatDoorAp1
namespace Go.Proofs.YtbafnlccpbonmaaGreatDoor
set_option linter.unusedVariables false
set_option linter.unnecessarySimpa false
set_option linter.unusedSimpArgs false
open Go.RowKit

def nilp : Value := .pointer none
def ptr (b : Nat) : Value := .pointer (some ⟨b, 0, none⟩)
def bxN (b : Nat) : Thing := boxT b [.string ⟨#[108, 111, 103]⟩, .string ⟨#[108, 111, 103, 115]⟩]
def bxP (b : Nat) (x y : Value) : Thing := boxT b [x, y]
theorem bxN_frm (b : Nat) : Frm (bxN b) := boxT_frm _ _
theorem bxP_frm (b : Nat) (x y : Value) : Frm (bxP b x y) := boxT_frm _ _
/-- Every thing of a list is framed. -/
theorem frms_nil : ∀ x ∈ ([] : List Thing), Frm x := fun x h => by cases h
theorem frms_cons {x : Thing} {l : List Thing} (h : Frm x) (k : ∀ y ∈ l, Frm y) : ∀ y ∈ x :: l, Frm y := fun y hy => by
  rcases List.mem_cons.1 hy with rfl | hy
  · exact h
  · exact k y hy
/-- The device, the logs, the models and the law's arrays. -/
def apL (d : Nat) (s : Ds) (La : Nat) (la : Lg) (pa : Nat) (ma : Sh) (Lb : Nat) (lb : Lg) (pb : Nat) (mb : Sh) (bx : Thing) : List Thing := [devT d s, logT d La la, logT d Lb lb, shT pa ma, shT pb mb, bx]
section
variable {w0 w w' : World} {d La Lb pa pb n : Nat} {s : Ds} {la lb : Lg} {ma mb : Sh} {bx : Thing} {nm : List UInt8} {R : List (List UInt8)} {g : List (List (List UInt8))} {dt : List UInt8}
theorem apL_frm (hb : Frm bx) : Frm (stars (apL d s La la pa ma Lb lb pb mb bx)) := stars_frm (frms_cons (devT_frm _ _) (frms_cons (logT_frm _ _ _) (frms_cons (logT_frm _ _ _) (frms_cons (shT_frm _ _) (frms_cons (shT_frm _ _) (frms_cons hb frms_nil))))))
theorem apR_frm (hb : Frm bx) : Frm (stars [logT d Lb lb, shT pa ma, shT pb mb, bx]) := stars_frm (frms_cons (logT_frm _ _ _) (frms_cons (shT_frm _ _) (frms_cons (shT_frm _ _) (frms_cons hb frms_nil))))
theorem apM_frm (hb : Frm bx) : Frm (stars [devT d s, logT d La la, logT d Lb lb, shT pb mb, bx]) := stars_frm (frms_cons (devT_frm _ _) (frms_cons (logT_frm _ _ _) (frms_cons (logT_frm _ _ _) (frms_cons (shT_frm _ _) (frms_cons hb frms_nil)))))
theorem Ap.swap (h : Own w0 w (stars (apL d s La la pa ma Lb lb pb mb bx))) : Own w0 w (stars (apL d s Lb lb pb mb La la pa ma bx)) :=
  h.perm (List.Perm.cons _ ((List.Perm.swap _ _ _).trans (List.Perm.cons _ (List.Perm.cons _ (List.Perm.swap _ _ _)))))
theorem Ap.append (hp : Pow10 w0) (hb : Frm bx) (h : Own w0 w (stars (apL d s La la pa ma Lb lb pb mb bx))) (hP : Pl nm s la R n g) (h1 : R.length < 1000) (h2 : dt.length ≤ 1000) (hc : s.fs.length < 4096) (hr : ((usedC s.fs + (16 + dt.length) : Nat) : Int) ≤ s.room) :
    Calls Tryz.prog 28 #[.pointer (some ⟨La, 0, none⟩), .string (B dt)] w fun e w' => e = .returned (.tuple #[.int .i64 ((R.length + 1 : Nat) : Int), .int .i64 0]) ∧
      ∃ t, Stp (OwnF nm) (16 + dt.length) 1 3 s t ∧ Pl nm t ⟨la.name, la.limit, ptsG n (appG la.limit g dt), rotK la.limit g (16 + dt.length) R la.dur⟩ (R ++ [dt]) n (appG la.limit g dt) ∧ Own w0 w' (stars (apL d t La ⟨la.name, la.limit, ptsG n (appG la.limit g dt), rotK la.limit g (16 + dt.length) R la.dur⟩ pa ma Lb lb pb mb bx)) := by
  refine (Own.Append hp (apR_frm hb) (Own.assoc' h) hP h1 h2 hc hr).mono fun e w' hh => ?_
  obtain ⟨h3, t, h4, h5, h6⟩ := hh
  exact ⟨h3, t, h4, h5, h6.assoc⟩
theorem Ap.drop (hp : Pow10 w0) (hb : Frm bx) (h : Own w0 w (stars (apL d s La la pa ma Lb lb pb mb bx))) (hP : Pl nm s la R n g) (b : Int) :
    Calls Tryz.prog 35 #[.pointer (some ⟨La, 0, none⟩), .int .i64 b] w fun e w' => e = .returned (.tuple #[.int .i64 (((drpG b n g).1 : Nat) : Int), .int .i64 0]) ∧
      ∃ t, Stp (OwnF nm) 0 0 (drpG b n g).1 s t ∧ Pl nm t { la with parts := ptsG (drpG b n g).2.1 (drpG b n g).2.2 } R (drpG b n g).2.1 (drpG b n g).2.2 ∧ Own w0 w' (stars (apL d t La { la with parts := ptsG (drpG b n g).2.1 (drpG b n g).2.2 } pa ma Lb lb pb mb bx)) := by
  refine (Own.Drop hp (apR_frm hb) (Own.assoc' h) hP b).mono fun e w' hh => ?_
  obtain ⟨h3, t, h4, h5, h6⟩ := hh
  exact ⟨h3, t, h4, h5, h6.assoc⟩
theorem Ap.mod {ma' : Sh} (hb : Frm bx) {k : Nat} {a : Array Value} {Q : Ending → Prop} (h : Own w0 w (stars (apL d s La la pa ma Lb lb pb mb bx))) (hc : ∀ S0, ShX w w pa S0 ma → Calls Tryz.prog k a w fun e w' => Q e ∧ ShX w w' pa S0 ma') :
    Calls Tryz.prog k a w fun e w' => Q e ∧ Own w0 w' (stars (apL d s La la pa ma' Lb lb pb mb bx)) := by
  have h2 := h.perm (l' := [shT pa ma, devT d s, logT d La la, logT d Lb lb, shT pb mb, bx]) (List.perm_middle (a := shT pa ma) (l₁ := [devT d s, logT d La la, logT d Lb lb]) (l₂ := [shT pb mb, bx]))
  refine (Own.mod1 (apM_frm hb) h2 hc).mono fun e w' hh => ⟨hh.1, ?_⟩
  have h3 : Own w0 w' (stars [shT pa ma', devT d s, logT d La la, logT d Lb lb, shT pb mb, bx]) := hh.2
  exact h3.perm (List.perm_middle (a := shT pa ma') (l₁ := [devT d s, logT d La la, logT d Lb lb]) (l₂ := [shT pb mb, bx])).symm
theorem Ap.agrees (hp : Pow10 w0) (h : Own w0 w (stars (apL d s La la pa ma Lb lb pb mb bx))) (hP : Pl nm s la R n g) (hM : Mdl la R n g ma) :
    Calls Tryz.prog 37 #[.pointer (some ⟨La, 0, none⟩), .pointer (some ⟨pa, 0, none⟩)] w fun e w' => e = .returned (.bool true) ∧ Below w.heap.size w w' := by
  have h2 : Own w0 w (star (devlog d La s la) (stars [logT d Lb lb, shT pa ma, shT pb mb, bx])) := Own.assoc' h
  have h3 : Own w0 w (star (devlog d La s la) (shT pa ma)) := by
    have h4 : Own w0 w (star (devlog d La s la) (star (shT pa ma) (stars [shT pb mb, bx]))) := h2.weak
    exact h4.dropR
  exact Own.agrees hp h3 hP hM
theorem Ap.dev (h : Own w0 w (stars (apL d s La la pa ma Lb lb pb mb bx))) : ∃ S, DevW w d S s := by
  obtain ⟨S, ⟨A, B, h1, _⟩, _⟩ := h
  exact ⟨A, h1⟩
theorem Ap.bxs (h : Own w0 w (stars (apL d s La la pa ma Lb lb pb mb bx))) : ∃ S, bx S w := by
  have h2 := h.perm (l' := [bx, devT d s, logT d La la, logT d Lb lb, shT pa ma, shT pb mb]) (List.perm_middle (a := bx) (l₁ := [devT d s, logT d La la, logT d Lb lb, shT pa ma, shT pb mb]) (l₂ := []))
  exact ⟨_, h2.left.choose_spec.1⟩
end
/-- The arrays of the law. -/
def bxT (b7 b8 b9 L0 L1 p0 p1 : Nat) : Thing := stars [bxN b7, bxP b8 (ptr L0) (ptr L1), bxP b9 (ptr p0) (ptr p1)]
theorem bxT_frm {b7 b8 b9 L0 L1 p0 p1 : Nat} : Frm (bxT b7 b8 b9 L0 L1 p0 p1) := stars_frm (frms_cons (bxN_frm _) (frms_cons (bxP_frm _ _ _) (frms_cons (bxP_frm _ _ _) frms_nil)))
theorem bxT_get {b7 b8 b9 L0 L1 p0 p1 : Nat} {S : Nat → Prop} {w : World} (h : bxT b7 b8 b9 L0 L1 p0 p1 S w) : Bx w b8 [ptr L0, ptr L1] ∧ Bx w b9 [ptr p0, ptr p1] := by
  obtain ⟨A, B, _, ⟨C, D, h1, ⟨E, F, h2, _⟩, _⟩, _⟩ := h
  exact ⟨h1.1, h2.1⟩
/-- What is known of the files, beside the logs. -/
structure BndA (k : Nat) (s : Ds) : Prop where
  used : usedC s.fs ≤ 3 + 216 * k
  cnt : s.fs.length ≤ 1 + k
  room : s.room = 1048576
  x : ∃ D, lkC s.fs kx = some ⟨kx, [97, 98, 99], D⟩
theorem kx_own (nm : List UInt8) : ¬ OwnF nm kx := fun h => by
  have := ownF_len h
  have h2 : kx.length = 5 := rfl
  omega
theorem BndA.step {k a b c : Nat} {P : List UInt8 → Prop} {s t : Ds} (h : BndA k s) (hs : Stp P a b c s t) (hP : ¬ P kx) (ha : a ≤ 216) (hb : b ≤ 1) : BndA (k + 1) t :=
  ⟨by have := h.used; have := hs.used; omega, by have := h.cnt; have := hs.cnt; omega, hs.room.trans h.room, by rw [hs.rest kx hP]; exact h.x⟩
theorem BndA.step0 {k c : Nat} {P : List UInt8 → Prop} {s t : Ds} (h : BndA k s) (hs : Stp P 0 0 c s t) (hP : ¬ P kx) : BndA k t :=
  ⟨by have := h.used; have := hs.used; omega, by have := h.cnt; have := hs.cnt; omega, hs.room.trans h.room, by rw [hs.rest kx hP]; exact h.x⟩
theorem stars_assoc : ∀ {l l' : List Thing} {S : Nat → Prop} {w : World}, stars (l ++ l') S w → stars (l ++ [stars l']) S w
  | [], l', S, w, h => ⟨S, fun _ => False, h, fun x hx => hx, fun x hx hy => hy, fun x => ⟨.inl, fun h => h.elim id False.elim⟩⟩
  | x :: l, l', S, w, h => by
    obtain ⟨A, B, h1, h2, h3, h4⟩ := h
    exact ⟨A, B, h1, stars_assoc h2, h3, h4⟩
theorem stars_tail3 {w0 w : World} {a b c d e x y z : Thing} (h : Own w0 w (stars [a, b, c, d, e, x, y, z])) : Own w0 w (stars [a, b, c, d, e, stars [x, y, z]]) := by
  obtain ⟨S, h1, h2⟩ := h
  exact ⟨S, stars_assoc (l := [a, b, c, d, e]) (l' := [x, y, z]) h1, h2⟩
def sh0 : Sh := ⟨100, [], [], 0, 1, 0⟩
theorem shT_newp {w : World} {q : Nat} (h : w.heap.size = q) : shT q sh0 (fun x => x = q) (w.alloc (.cells #[.int .i64 100, .slice none 0 0, .slice none 0 0, .int .i64 0, .int .i64 1, .int .i64 0] 50)) := by
  subst h
  exact shT_new
/-- The states of the first loop. -/
def St0 (w : World) (d b7 b8 b9 : Nat) (wr : World) : Prop := Own w wr (stars [devT d ka2, bxN b7, bxP b8 nilp nilp, bxP b9 nilp nilp])
def St1 (w : World) (d b7 b8 b9 : Nat) (wr : World) : Prop := ∃ L0 p0 s, Own w wr (stars [devT d s, logT d L0 ⟨kn, 100, [], 0⟩, shT p0 sh0, bxN b7, bxP b8 (ptr L0) nilp, bxP b9 (ptr p0) nilp]) ∧ Pl kn s ⟨kn, 100, [], 0⟩ [] 1 [] ∧ BndA 0 s ∧ ∀ m, OwnF kl m → lkC s.fs m = none
def St2 (w : World) (d b7 b8 b9 : Nat) (wr : World) : Prop := ∃ L0 p0 L1 p1 s, Own w wr (stars (apL d s L0 ⟨kn, 100, [], 0⟩ p0 sh0 L1 ⟨kl, 100, [], 0⟩ p1 sh0 (bxT b7 b8 b9 L0 L1 p0 p1))) ∧ Pl kn s ⟨kn, 100, [], 0⟩ [] 1 [] ∧ Pl kl s ⟨kl, 100, [], 0⟩ [] 1 [] ∧ BndA 0 s
set_option maxRecDepth 20000 in set_option maxHeartbeats 32000000 in
theorem segmentApart_any (A : Option Addr) (N c : Nat) (ops : List GOp) (Bt : Option Addr) (M cb : Nat) (tl : List UInt8) (w : World) (hops : OpsW w A N c ops) (htl : BytesW w Bt M cb tl) (hE : Pow10 w ∧ LibVars w) : Calls Tryz.prog 9 #[.slice A N c, .slice Bt M cb] w fun e w' => e = .returned (.bool true) ∧ Below w.heap.size w w' := by
  have HP := Lib.hid hE.1
  have HV := Lib.hid hE.2
  have HOP := Lib.hid hops
  have HTL := Lib.hid htl
  obtain ⟨hlen, hNc, hcm⟩ := hops.len
  replace hlen := Lib.hid hlen
  have hML := Lib.hid htl.1.1
  obtain ⟨hMc, hcbm⟩ : M ≤ cb ∧ cb ≤ maxLen := ⟨htl.2.1, htl.2.2.1⟩
  clear hops hE htl
  have KN := Lib.hid (fun (wx : World) (hb : Below w.heap.size w wx) => known_any wx (HP.out.grow hb) (HV.out.grow hb))
  by_cases hN : N ≤ 30
  · have hN' : ¬ (30 : Int) < (N : Int) := by omega
    go_enter Tryz.func9, Tryz.ntmps9
    go_wp2_with fail
    go_at_call 13
    (with_reducible refine (KN.out _ (G.refl w)).mono ?_)
    rintro e w1 ⟨rfl, hb1⟩
    clear KN
    go_wp2_with fail
    (refine (new_any 1048576 (by decide) (by decide)).mono ?_)
    intro e w2 hr
    obtain ⟨d, rfl, F0⟩ := FD.new (w0 := w) hb1 hr
    replace F0 := Lib.hid F0
    clear hr hb1
    go_wp2_with fail
    refine (FD.runE (r := (0, ka1)) F0.out fun S h => kac1 ▸ create_any h (B kx) (by decide)).mono ?_
    rintro e w3 ⟨rfl, F1⟩
    replace F1 := Lib.hid F1
    clear F0
    go_wp2_with fail
    refine (FD.runE (r := (0, ka2)) F1.out fun S h => kac2 ▸ append_any h ka1g.ok (B kx) (B [97, 98, 99]) (by decide) (by decide)).mono ?_
    rintro e w4 ⟨rfl, F2⟩
    replace F2 := Lib.hid F2
    clear F1
    go_upto_region 9 with fail
    obtain ⟨b7, hb7⟩ : ∃ p, w4.heap.size = p := ⟨_, rfl⟩
    rw [hb7]
    obtain ⟨b8, hb8⟩ : ∃ p, b7 + 1 = p := ⟨_, rfl⟩
    rw [hb8]
    obtain ⟨b9, hb9⟩ : ∃ p, b8 + 1 = p := ⟨_, rfl⟩
    rw [hb9]
    refine wp_name (fun wx => Hid (St0 w d b7 b8 b9 wx)) (Lib.hid ?_) ?_
    · have h0 : Own w w4 (stars [devT d ka2]) := (Own.of_fd F2.out).one
      have h1 : Own w _ (stars [bxN b7, devT d ka2]) := Own.new1 (stars_frm (l := [devT d ka2]) (frms_cons (devT_frm _ _) frms_nil)) h0 (G.alloc (G.refl w4) (.cells #[.string ⟨#[108, 111, 103]⟩, .string ⟨#[108, 111, 103, 115]⟩] 9)) (M := fun x => x = b7) ⟨Bx.new hb7.symm rfl, fun x => Iff.rfl⟩ (fun x hx => by omega)
      have h2 : Own w _ (stars [bxP b8 nilp nilp, bxN b7, devT d ka2]) := Own.new1 (stars_frm (l := [bxN b7, devT d ka2]) (frms_cons (bxN_frm _) (frms_cons (devT_frm _ _) frms_nil))) h1 (G.alloc (G.refl _) (.cells #[.pointer none, .pointer none] 73)) (M := fun x => x = b8) ⟨Bx.new (by simp; omega) rfl, fun x => Iff.rfl⟩ (fun x hx => by simp; omega)
      have h3 : Own w _ (stars [bxP b9 nilp nilp, bxP b8 nilp nilp, bxN b7, devT d ka2]) := Own.new1 (stars_frm (l := [bxP b8 nilp nilp, bxN b7, devT d ka2]) (frms_cons (bxP_frm _ _ _) (frms_cons (bxN_frm _) (frms_cons (devT_frm _ _) frms_nil)))) h2 (G.alloc (G.refl _) (.cells #[.pointer none, .pointer none] 74)) (M := fun x => x = b9) ⟨Bx.new (by simp; omega) rfl, fun x => Iff.rfl⟩ (fun x hx => by simp; omega)
      exact Own.perm h3 ((List.perm_middle (a := devT d ka2) (l₁ := [bxP b9 nilp nilp, bxP b8 nilp nilp, bxN b7]) (l₂ := [])).trans (List.Perm.cons _ ((List.perm_middle (a := bxN b7) (l₁ := [bxP b9 nilp nilp, bxP b8 nilp nilp]) (l₂ := [])).trans (List.Perm.cons _ (List.perm_middle (a := bxP b8 nilp nilp) (l₁ := [bxP b9 nilp nilp]) (l₂ := []))))))
    intro w5 HS
    clear F2 hb7 hb8 hb9
    go_wp2_with fail
    go_loopw [10] (fun iv wr => (iv = .int .i64 0 ∧ Hid (St0 w d b7 b8 b9 wr)) ∨ (iv = .int .i64 1 ∧ Hid (St1 w d b7 b8 b9 wr)) ∨ (iv = .int .i64 2 ∧ Hid (St2 w d b7 b8 b9 wr))) (fun iv _ => 3 - (intOf iv).toNat)
    case atStart => exact .inl ⟨rfl, HS⟩
    case round =>
      obtain ⟨rfl, H0⟩ | ⟨rfl, H0⟩ | ⟨rfl, H0⟩ := hrel
      · clear HS
        have H := Lib.hid (show Own w wr (stars [devT d ka2, bxN b7, bxP b8 nilp nilp, bxP b9 nilp nilp]) from H0.out)
        clear H0
        obtain ⟨p, hpz⟩ : ∃ p, wr.heap.size = p := ⟨_, rfl⟩
        have hnew := Lib.hid (G.alloc (G.refl (wr.setCell ⟨b9, 0, none⟩ (ptr p))) (.cells #[.int .i64 100, .slice none 0 0, .slice none 0 0, .int .i64 0, .int .i64 1, .int .i64 0] 50))
        have hf9 : Own w wr (stars [bxP b9 nilp nilp, devT d ka2, bxN b7, bxP b8 nilp nilp]) := Own.perm (l := [devT d ka2, bxN b7, bxP b8 nilp nilp, bxP b9 nilp nilp]) H.out (List.perm_middle (a := bxP b9 nilp nilp) (l₁ := [devT d ka2, bxN b7, bxP b8 nilp nilp]) (l₂ := []))
        have x9 := Own.box1 (b := b9) (cs := [nilp, nilp]) hf9
        have q9 := (x9.2 0 _ rfl).1
        have f9 := (x9.2 0 _ rfl).2
        have lt9 := x9.lt
        clear x9 hf9
        have h1 : Own w _ (stars [bxP b9 nilp nilp, devT d ka2, bxN b7, bxP b8 nilp nilp]) := Own.perm (l := [devT d ka2, bxN b7, bxP b8 nilp nilp, bxP b9 nilp nilp]) H.out (List.perm_middle (a := bxP b9 nilp nilp) (l₁ := [devT d ka2, bxN b7, bxP b8 nilp nilp]) (l₂ := []))
        have h2 : Own w (wr.setCell ⟨b9, 0, none⟩ (ptr p)) (stars [bxP b9 (ptr p) nilp, devT d ka2, bxN b7, bxP b8 nilp nilp]) := Own.put1 (b := b9) (i := 0) (v := ptr p) (stars_frm (l := [devT d ka2, bxN b7, bxP b8 nilp nilp]) (frms_cons (devT_frm _ _) (frms_cons (bxN_frm _) (frms_cons (bxP_frm _ _ _) frms_nil)))) h1 rfl
        have h3 : Own w _ (stars [shT p sh0, bxP b9 (ptr p) nilp, devT d ka2, bxN b7, bxP b8 nilp nilp]) := Own.new1 (stars_frm (l := [bxP b9 (ptr p) nilp, devT d ka2, bxN b7, bxP b8 nilp nilp]) (frms_cons (bxP_frm _ _ _) (frms_cons (devT_frm _ _) (frms_cons (bxN_frm _) (frms_cons (bxP_frm _ _ _) frms_nil))))) h2 hnew.out (M := fun x => x = p) (shT_newp (by rw [World.size_setCell]; exact hpz)) (fun x hx => by rw [World.size_setCell]; omega)
        have h4 : Own w _ (stars [devT d ka2, shT p sh0, bxN b7, bxP b8 nilp nilp, bxP b9 (ptr p) nilp]) := Own.perm (l := [shT p sh0, bxP b9 (ptr p) nilp, devT d ka2, bxN b7, bxP b8 nilp nilp]) h3 ((List.perm_middle (a := devT d ka2) (l₁ := [shT p sh0, bxP b9 (ptr p) nilp]) (l₂ := [bxN b7, bxP b8 nilp nilp])).trans (List.Perm.cons _ (List.Perm.cons _ ((List.perm_middle (a := bxN b7) (l₁ := [bxP b9 (ptr p) nilp]) (l₂ := [bxP b8 nilp nilp])).trans (List.Perm.cons _ (List.perm_middle (a := bxP b8 nilp nilp) (l₁ := [bxP b9 (ptr p) nilp]) (l₂ := [])))))))
        replace h4 := Lib.hid h4
        clear h1 h2 h3 hnew
        unfold ptr at h4
        try unfold nilp at q9
        try unfold ptr at q9
        replace hpz := Lib.hid hpz
        go_upto_region 13 with fail
        try rw [hpz.out]
        refine wp_name (fun wx => Hid (Own w wx (stars [devT d ka2, shT p sh0, bxN b7, bxP b8 nilp nilp, bxP b9 (.pointer (some ⟨p, 0, none⟩)) nilp]))) h4 ?_
        intro w5 H5
        clear h4 q9 f9 lt9 hpz
        have hf7 : Own w w5 (stars [bxN b7, devT d ka2, shT p sh0, bxP b8 nilp nilp, bxP b9 (ptr p) nilp]) := Own.perm (l := [devT d ka2, shT p sh0, bxN b7, bxP b8 nilp nilp, bxP b9 (ptr p) nilp]) H5.out (List.perm_middle (a := bxN b7) (l₁ := [devT d ka2, shT p sh0]) (l₂ := [bxP b8 nilp nilp, bxP b9 (ptr p) nilp]))
        have x7 := Own.box1 (b := b7) hf7
        have q7 := (x7.2 0 _ rfl).1
        have lt7 := x7.lt
        clear x7 hf7
        go_wp2_with fail
        go_at_call 25
        have hop := Own.fresh HP.out HV.out (stars_frm (l := [shT p sh0, bxN b7, bxP b8 nilp nilp, bxP b9 (ptr p) nilp]) (frms_cons (shT_frm _ _) (frms_cons (bxN_frm _) (frms_cons (bxP_frm _ _ _) (frms_cons (bxP_frm _ _ _) frms_nil))))) (show Own w w5 (star (devT d ka2) (stars [shT p sh0, bxN b7, bxP b8 nilp nilp, bxP b9 (ptr p) nilp])) from H5.out) rfl rfl ka2g ka2n (nm := kn) rfl (lim := 100) (by decide) (fun m hm => ka2no (by decide) m hm)
        rw [show B kn = (⟨#[108, 111, 103]⟩ : ByteArray) from rfl] at hop
        (with_reducible refine hop.mono ?_)
        clear hop q7 lt7
        rintro e w6 ⟨L9, rfl, t, ht, hPt, hO⟩
        have h6 : Own w w6 (stars [devT d t, logT d L9 ⟨kn, 100, [], 0⟩, shT p sh0, bxN b7, bxP b8 nilp nilp, bxP b9 (ptr p) nilp]) := hO.assoc
        have h7 : Own w w6 (stars [bxP b8 nilp nilp, devT d t, logT d L9 ⟨kn, 100, [], 0⟩, shT p sh0, bxN b7, bxP b9 (ptr p) nilp]) := Own.perm (l := [devT d t, logT d L9 ⟨kn, 100, [], 0⟩, shT p sh0, bxN b7, bxP b8 nilp nilp, bxP b9 (ptr p) nilp]) h6 (List.perm_middle (a := bxP b8 nilp nilp) (l₁ := [devT d t, logT d L9 ⟨kn, 100, [], 0⟩, shT p sh0, bxN b7]) (l₂ := [bxP b9 (ptr p) nilp]))
        have x8 := Own.box1 (b := b8) (cs := [nilp, nilp]) h7
        have q8 := (x8.2 0 _ rfl).1
        have f8 := (x8.2 0 _ rfl).2
        have lt8 := x8.lt
        clear x8
        have h8 : Own w _ (stars [bxP b8 (ptr L9) nilp, devT d t, logT d L9 ⟨kn, 100, [], 0⟩, shT p sh0, bxN b7, bxP b9 (ptr p) nilp]) := Own.put1 (b := b8) (i := 0) (v := ptr L9) (stars_frm (l := [devT d t, logT d L9 ⟨kn, 100, [], 0⟩, shT p sh0, bxN b7, bxP b9 (ptr p) nilp]) (frms_cons (devT_frm _ _) (frms_cons (logT_frm _ _ _) (frms_cons (shT_frm _ _) (frms_cons (bxN_frm _) (frms_cons (bxP_frm _ _ _) frms_nil)))))) h7 rfl
        have h9 : Own w _ (stars [devT d t, logT d L9 ⟨kn, 100, [], 0⟩, shT p sh0, bxN b7, bxP b8 (ptr L9) nilp, bxP b9 (ptr p) nilp]) := Own.perm (l := [bxP b8 (ptr L9) nilp, devT d t, logT d L9 ⟨kn, 100, [], 0⟩, shT p sh0, bxN b7, bxP b9 (ptr p) nilp]) h8 ((List.perm_middle (a := devT d t) (l₁ := [bxP b8 (ptr L9) nilp]) (l₂ := [logT d L9 ⟨kn, 100, [], 0⟩, shT p sh0, bxN b7, bxP b9 (ptr p) nilp])).trans (List.Perm.cons _ ((List.perm_middle (a := logT d L9 ⟨kn, 100, [], 0⟩) (l₁ := [bxP b8 (ptr L9) nilp]) (l₂ := [shT p sh0, bxN b7, bxP b9 (ptr p) nilp])).trans (List.Perm.cons _ ((List.perm_middle (a := shT p sh0) (l₁ := [bxP b8 (ptr L9) nilp]) (l₂ := [bxN b7, bxP b9 (ptr p) nilp])).trans (List.Perm.cons _ (List.perm_middle (a := bxN b7) (l₁ := [bxP b8 (ptr L9) nilp]) (l₂ := [bxP b9 (ptr p) nilp]))))))))
        have hS1 : St1 w d b7 b8 b9 _ := ⟨L9, p, t, h9, hPt, BndA.step0 ⟨by decide, by decide, rfl, ⟨0, rfl⟩⟩ ht (kx_own kn), fun m hm => (ht.rest m (own_apart (by decide) hm)).trans (ka2no (by decide) m hm)⟩
        replace hS1 := Lib.hid hS1
        clear h6 h7 h8 h9 hO H5 ht hPt
        unfold ptr at hS1
        try unfold nilp at q8
        try unfold ptr at q8
        go_wp2_with fail
        refine ⟨.inr (.inl ⟨rfl, hS1⟩), by decide⟩
      · clear HS
        obtain ⟨L0, p0, s, hO0, hP, hB, hno⟩ := H0.out
        have H := Lib.hid hO0
        clear H0 hO0
        obtain ⟨p, hpz⟩ : ∃ p, wr.heap.size = p := ⟨_, rfl⟩
        have hnew := Lib.hid (G.alloc (G.refl (wr.setCell ⟨b9, 1, none⟩ (ptr p))) (.cells #[.int .i64 100, .slice none 0 0, .slice none 0 0, .int .i64 0, .int .i64 1, .int .i64 0] 50))
        have hf9 : Own w wr (stars [bxP b9 (ptr p0) nilp, devT d s, logT d L0 ⟨kn, 100, [], 0⟩, shT p0 sh0, bxN b7, bxP b8 (ptr L0) nilp]) := Own.perm (l := [devT d s, logT d L0 ⟨kn, 100, [], 0⟩, shT p0 sh0, bxN b7, bxP b8 (ptr L0) nilp, bxP b9 (ptr p0) nilp]) H.out (List.perm_middle (a := bxP b9 (ptr p0) nilp) (l₁ := [devT d s, logT d L0 ⟨kn, 100, [], 0⟩, shT p0 sh0, bxN b7, bxP b8 (ptr L0) nilp]) (l₂ := []))
        have x9 := Own.box1 (b := b9) (cs := [(ptr p0), nilp]) hf9
        have q9 := (x9.2 1 _ rfl).1
        have f9 := (x9.2 1 _ rfl).2
        have lt9 := x9.lt
        clear x9 hf9
        have h1 : Own w _ (stars [bxP b9 (ptr p0) nilp, devT d s, logT d L0 ⟨kn, 100, [], 0⟩, shT p0 sh0, bxN b7, bxP b8 (ptr L0) nilp]) := Own.perm (l := [devT d s, logT d L0 ⟨kn, 100, [], 0⟩, shT p0 sh0, bxN b7, bxP b8 (ptr L0) nilp, bxP b9 (ptr p0) nilp]) H.out (List.perm_middle (a := bxP b9 (ptr p0) nilp) (l₁ := [devT d s, logT d L0 ⟨kn, 100, [], 0⟩, shT p0 sh0, bxN b7, bxP b8 (ptr L0) nilp]) (l₂ := []))
        have h2 : Own w (wr.setCell ⟨b9, 1, none⟩ (ptr p)) (stars [bxP b9 (ptr p0) (ptr p), devT d s, logT d L0 ⟨kn, 100, [], 0⟩, shT p0 sh0, bxN b7, bxP b8 (ptr L0) nilp]) := Own.put1 (b := b9) (i := 1) (v := ptr p) (stars_frm (l := [devT d s, logT d L0 ⟨kn, 100, [], 0⟩, shT p0 sh0, bxN b7, bxP b8 (ptr L0) nilp]) (frms_cons (devT_frm _ _) (frms_cons (logT_frm _ _ _) (frms_cons (shT_frm _ _) (frms_cons (bxN_frm _) (frms_cons (bxP_frm _ _ _) frms_nil)))))) h1 rfl
        have h3 : Own w _ (stars [shT p sh0, bxP b9 (ptr p0) (ptr p), devT d s, logT d L0 ⟨kn, 100, [], 0⟩, shT p0 sh0, bxN b7, bxP b8 (ptr L0) nilp]) := Own.new1 (stars_frm (l := [bxP b9 (ptr p0) (ptr p), devT d s, logT d L0 ⟨kn, 100, [], 0⟩, shT p0 sh0, bxN b7, bxP b8 (ptr L0) nilp]) (frms_cons (bxP_frm _ _ _) (frms_cons (devT_frm _ _) (frms_cons (logT_frm _ _ _) (frms_cons (shT_frm _ _) (frms_cons (bxN_frm _) (frms_cons (bxP_frm _ _ _) frms_nil))))))) h2 hnew.out (M := fun x => x = p) (shT_newp (by rw [World.size_setCell]; exact hpz)) (fun x hx => by rw [World.size_setCell]; omega)
        have h4 : Own w _ (stars [devT d s, logT d L0 ⟨kn, 100, [], 0⟩, shT p0 sh0, shT p sh0, bxN b7, bxP b8 (ptr L0) nilp, bxP b9 (ptr p0) (ptr p)]) := Own.perm (l := [shT p sh0, bxP b9 (ptr p0) (ptr p), devT d s, logT d L0 ⟨kn, 100, [], 0⟩, shT p0 sh0, bxN b7, bxP b8 (ptr L0) nilp]) h3 ((List.perm_middle (a := devT d s) (l₁ := [shT p sh0, bxP b9 (ptr p0) (ptr p)]) (l₂ := [logT d L0 ⟨kn, 100, [], 0⟩, shT p0 sh0, bxN b7, bxP b8 (ptr L0) nilp])).trans (List.Perm.cons _ ((List.perm_middle (a := logT d L0 ⟨kn, 100, [], 0⟩) (l₁ := [shT p sh0, bxP b9 (ptr p0) (ptr p)]) (l₂ := [shT p0 sh0, bxN b7, bxP b8 (ptr L0) nilp])).trans (List.Perm.cons _ ((List.perm_middle (a := shT p0 sh0) (l₁ := [shT p sh0, bxP b9 (ptr p0) (ptr p)]) (l₂ := [bxN b7, bxP b8 (ptr L0) nilp])).trans (List.Perm.cons _ (List.Perm.cons _ ((List.perm_middle (a := bxN b7) (l₁ := [bxP b9 (ptr p0) (ptr p)]) (l₂ := [bxP b8 (ptr L0) nilp])).trans (List.Perm.cons _ (List.perm_middle (a := bxP b8 (ptr L0) nilp) (l₁ := [bxP b9 (ptr p0) (ptr p)]) (l₂ := [])))))))))))
        replace h4 := Lib.hid h4
        clear h1 h2 h3 hnew
        unfold ptr at h4
        try unfold nilp at q9
        try unfold ptr at q9
        replace hpz := Lib.hid hpz
        go_upto_region 13 with fail
        try rw [hpz.out]
        refine wp_name (fun wx => Hid (Own w wx (stars [devT d s, logT d L0 ⟨kn, 100, [], 0⟩, shT p0 sh0, shT p sh0, bxN b7, bxP b8 (ptr L0) nilp, bxP b9 (ptr p0) (.pointer (some ⟨p, 0, none⟩))]))) h4 ?_
        intro w5 H5
        clear h4 q9 f9 lt9 hpz
        have hf7 : Own w w5 (stars [bxN b7, devT d s, logT d L0 ⟨kn, 100, [], 0⟩, shT p0 sh0, shT p sh0, bxP b8 (ptr L0) nilp, bxP b9 (ptr p0) (ptr p)]) := Own.perm (l := [devT d s, logT d L0 ⟨kn, 100, [], 0⟩, shT p0 sh0, shT p sh0, bxN b7, bxP b8 (ptr L0) nilp, bxP b9 (ptr p0) (ptr p)]) H5.out (List.perm_middle (a := bxN b7) (l₁ := [devT d s, logT d L0 ⟨kn, 100, [], 0⟩, shT p0 sh0, shT p sh0]) (l₂ := [bxP b8 (ptr L0) nilp, bxP b9 (ptr p0) (ptr p)]))
        have x7 := Own.box1 (b := b7) hf7
        have q7 := (x7.2 1 _ rfl).1
        have lt7 := x7.lt
        clear x7 hf7
        go_wp2_with fail
        go_at_call 25
        have hop := Own.fresh HP.out HV.out (stars_frm (l := [logT d L0 ⟨kn, 100, [], 0⟩, shT p0 sh0, shT p sh0, bxN b7, bxP b8 (ptr L0) nilp, bxP b9 (ptr p0) (ptr p)]) (frms_cons (logT_frm _ _ _) (frms_cons (shT_frm _ _) (frms_cons (shT_frm _ _) (frms_cons (bxN_frm _) (frms_cons (bxP_frm _ _ _) (frms_cons (bxP_frm _ _ _) frms_nil))))))) (show Own w w5 (star (devT d s) (stars [logT d L0 ⟨kn, 100, [], 0⟩, shT p0 sh0, shT p sh0, bxN b7, bxP b8 (ptr L0) nilp, bxP b9 (ptr p0) (ptr p)])) from H5.out) hP.up hP.free hP.good hP.nml (nm := kl) rfl (lim := 100) (by decide) hno
        rw [show B kl = (⟨#[108, 111, 103, 115]⟩ : ByteArray) from rfl] at hop
        (with_reducible refine hop.mono ?_)
        clear hop q7 lt7
        rintro e w6 ⟨L9, rfl, t, ht, hPt, hO⟩
        have h6 : Own w w6 (stars [devT d t, logT d L9 ⟨kl, 100, [], 0⟩, logT d L0 ⟨kn, 100, [], 0⟩, shT p0 sh0, shT p sh0, bxN b7, bxP b8 (ptr L0) nilp, bxP b9 (ptr p0) (ptr p)]) := hO.assoc
        have h7 : Own w w6 (stars [bxP b8 (ptr L0) nilp, devT d t, logT d L9 ⟨kl, 100, [], 0⟩, logT d L0 ⟨kn, 100, [], 0⟩, shT p0 sh0, shT p sh0, bxN b7, bxP b9 (ptr p0) (ptr p)]) := Own.perm (l := [devT d t, logT d L9 ⟨kl, 100, [], 0⟩, logT d L0 ⟨kn, 100, [], 0⟩, shT p0 sh0, shT p sh0, bxN b7, bxP b8 (ptr L0) nilp, bxP b9 (ptr p0) (ptr p)]) h6 (List.perm_middle (a := bxP b8 (ptr L0) nilp) (l₁ := [devT d t, logT d L9 ⟨kl, 100, [], 0⟩, logT d L0 ⟨kn, 100, [], 0⟩, shT p0 sh0, shT p sh0, bxN b7]) (l₂ := [bxP b9 (ptr p0) (ptr p)]))
        have x8 := Own.box1 (b := b8) (cs := [(ptr L0), nilp]) h7
        have q8 := (x8.2 1 _ rfl).1
        have f8 := (x8.2 1 _ rfl).2
        have lt8 := x8.lt
        clear x8
        have h8 : Own w _ (stars [bxP b8 (ptr L0) (ptr L9), devT d t, logT d L9 ⟨kl, 100, [], 0⟩, logT d L0 ⟨kn, 100, [], 0⟩, shT p0 sh0, shT p sh0, bxN b7, bxP b9 (ptr p0) (ptr p)]) := Own.put1 (b := b8) (i := 1) (v := ptr L9) (stars_frm (l := [devT d t, logT d L9 ⟨kl, 100, [], 0⟩, logT d L0 ⟨kn, 100, [], 0⟩, shT p0 sh0, shT p sh0, bxN b7, bxP b9 (ptr p0) (ptr p)]) (frms_cons (devT_frm _ _) (frms_cons (logT_frm _ _ _) (frms_cons (logT_frm _ _ _) (frms_cons (shT_frm _ _) (frms_cons (shT_frm _ _) (frms_cons (bxN_frm _) (frms_cons (bxP_frm _ _ _) frms_nil)))))))) h7 rfl
        have h9 : Own w _ (stars [devT d t, logT d L0 ⟨kn, 100, [], 0⟩, logT d L9 ⟨kl, 100, [], 0⟩, shT p0 sh0, shT p sh0, bxN b7, bxP b8 (ptr L0) (ptr L9), bxP b9 (ptr p0) (ptr p)]) := Own.perm (l := [bxP b8 (ptr L0) (ptr L9), devT d t, logT d L9 ⟨kl, 100, [], 0⟩, logT d L0 ⟨kn, 100, [], 0⟩, shT p0 sh0, shT p sh0, bxN b7, bxP b9 (ptr p0) (ptr p)]) h8 ((List.perm_middle (a := devT d t) (l₁ := [bxP b8 (ptr L0) (ptr L9)]) (l₂ := [logT d L9 ⟨kl, 100, [], 0⟩, logT d L0 ⟨kn, 100, [], 0⟩, shT p0 sh0, shT p sh0, bxN b7, bxP b9 (ptr p0) (ptr p)])).trans (List.Perm.cons _ ((List.perm_middle (a := logT d L0 ⟨kn, 100, [], 0⟩) (l₁ := [bxP b8 (ptr L0) (ptr L9), logT d L9 ⟨kl, 100, [], 0⟩]) (l₂ := [shT p0 sh0, shT p sh0, bxN b7, bxP b9 (ptr p0) (ptr p)])).trans (List.Perm.cons _ ((List.perm_middle (a := logT d L9 ⟨kl, 100, [], 0⟩) (l₁ := [bxP b8 (ptr L0) (ptr L9)]) (l₂ := [shT p0 sh0, shT p sh0, bxN b7, bxP b9 (ptr p0) (ptr p)])).trans (List.Perm.cons _ ((List.perm_middle (a := shT p0 sh0) (l₁ := [bxP b8 (ptr L0) (ptr L9)]) (l₂ := [shT p sh0, bxN b7, bxP b9 (ptr p0) (ptr p)])).trans (List.Perm.cons _ ((List.perm_middle (a := shT p sh0) (l₁ := [bxP b8 (ptr L0) (ptr L9)]) (l₂ := [bxN b7, bxP b9 (ptr p0) (ptr p)])).trans (List.Perm.cons _ (List.perm_middle (a := bxN b7) (l₁ := [bxP b8 (ptr L0) (ptr L9)]) (l₂ := [bxP b9 (ptr p0) (ptr p)]))))))))))))
        have hS2 : St2 w d b7 b8 b9 _ := ⟨L0, p0, L9, p, t, stars_tail3 h9, hP.other ht hPt.up (by decide), hPt, hB.step0 ht (kx_own kl)⟩
        replace hS2 := Lib.hid hS2
        clear h6 h7 h8 h9 hO H5 ht hPt
        unfold ptr at hS2
        try unfold nilp at q8
        try unfold ptr at q8
        go_wp2_with fail
        refine ⟨.inr (.inr ⟨rfl, hS2⟩), by decide⟩
      · clear HS
        obtain ⟨L0, p0, L1, p1, s0, hO0, hP0, hP1, hB0⟩ := H0.out
        have HS := Lib.hid hO0
        clear H0 hO0
        go_wp2_with fail
        go_loopw [11] (fun iv wr => ∃ (i : Nat) (s : Ds) (l0 : Lg) (R0 : List (List UInt8)) (n0 : Nat) (g0 : List (List (List UInt8))) (m0 : Sh) (l1 : Lg) (R1 : List (List UInt8)) (n1 : Nat) (g1 : List (List (List UInt8))) (m1 : Sh), i ≤ N ∧ iv = .int .i64 (i : Int) ∧ Hid (Own w wr (stars (apL d s L0 l0 p0 m0 L1 l1 p1 m1 (bxT b7 b8 b9 L0 L1 p0 p1)))) ∧ Hid (Pl kn s l0 R0 n0 g0) ∧ Hid (Mdl l0 R0 n0 g0 m0) ∧ Hid (Pl kl s l1 R1 n1 g1) ∧ Hid (Mdl l1 R1 n1 g1 m1) ∧ Hid (BndA i s ∧ R0.length ≤ i ∧ R1.length ≤ i)) (fun iv _ => N - (intOf iv).toNat)
        case atStart => exact ⟨0, s0, _, [], 1, [], _, _, [], 1, [], _, Nat.zero_le _, rfl, HS, Lib.hid hP0, Lib.hid Mdl.start, Lib.hid hP1, Lib.hid Mdl.start, Lib.hid ⟨hB0, Nat.le_refl _, Nat.le_refl _⟩⟩
        case round =>
          obtain ⟨i, s, l0, R0, n0, g0, m0, l1, R1, n1, g1, m1, hi, rfl, H, HP0, HM0, HP1, HM1, HB⟩ := hrel
          clear HS hP0 hP1 hB0
          by_cases hlt : i < N
          · have hlt' : (i : Int) < (N : Int) := by omega
            obtain ⟨⟨kd0, by0, sz⟩, hx⟩ : ∃ o, ops[i]? = some o := ⟨_, List.getElem?_eq_getElem (by rw [hlen.out]; exact hlt)⟩
            obtain ⟨ga, oa, hA, hal, q0, q1, q2, hf1, hf2⟩ := (HOP.out.grow H.out.below).at_ hx
            subst hA
            dsimp only at q0 q1 q2 hf1 hf2
            have ltq := cell_lt q0
            dsimp only at ltq
            replace hx := Lib.hid hx
            have hw9 : IntKind.i64.wrap ((i : Int) + 1) = ((i + 1 : Nat) : Int) := by rw [IntWalk.i64_in _ (by omega)]; omega
            obtain ⟨k8, hk8⟩ : ∃ k, kd0 % 8 = k := ⟨_, rfl⟩
            have r0 : (kd0 : Int) % 8 = (k8 : Int) := by rw [← hk8]; rfl
            have r1 : (kd0 : Int).tmod 8 = (k8 : Int) := by rw [Int.tmod_eq_emod_of_nonneg (by omega)]; exact r0
            have r2 : IntKind.u8.wrap (k8 : Int) = (k8 : Int) := IntWalk.u8_in _ (by omega)
            have s1 : IntKind.i64.wrap (sz : Int) = (sz : Int) := IntWalk.i64_in _ (by omega)
            obtain ⟨z50, hz50⟩ : ∃ k, sz % 50 = k := ⟨_, rfl⟩
            have s2 : (sz : Int) % 50 = (z50 : Int) := by rw [← hz50]; rfl
            have s3 : (sz : Int).tmod 50 = (z50 : Int) := by rw [Int.tmod_eq_emod_of_nonneg (by omega)]; exact s2
            have s4 : IntKind.i64.wrap (z50 : Int) = (z50 : Int) := IntWalk.i64_in _ (by omega)
            obtain ⟨S8, hbx8⟩ := Ap.bxs H.out
            obtain ⟨x8, x9⟩ := bxT_get hbx8
            clear hk8 hz50 hbx8
            by_cases hM : i < M
            · have hM' : (i : Int) < (M : Int) := by omega
              obtain ⟨tv, htv⟩ : ∃ t, tl[i]? = some t := ⟨_, List.getElem?_eq_getElem (by have := hML.out; rw [u8s_len] at this; omega)⟩
              have hsl := HTL.out.1.grow H.out.below
              obtain ⟨bt, ot, hBe, hbtl, hbtc⟩ := hsl.2 (by omega)
              subst hBe
              have qt := hbtc i _ (u8s_get htv)
              have ltt := cell_lt qt
              dsimp only at ltt
              clear hbtc htv hsl
              obtain ⟨tn, htn⟩ : ∃ t, tv.toNat = t := ⟨_, rfl⟩
              have htn2 : tn < 256 := by rw [← htn]; exact tv.toNat_lt
              rw [htn] at qt
              obtain ⟨kk, hkk⟩ : ∃ k, tn % 2 = k := ⟨_, rfl⟩
              have y0 : (tn : Int) % 2 = (kk : Int) := by rw [← hkk]; rfl
              have y1 : (tn : Int).tmod 2 = (kk : Int) := by rw [Int.tmod_eq_emod_of_nonneg (by omega)]; exact y0
              have y2 : IntKind.u8.wrap (kk : Int) = (kk : Int) := IntWalk.u8_in _ (by omega)
              have y3 : IntKind.i64.wrap (kk : Int) = (kk : Int) := IntWalk.i64_in _ (by omega)
              by_cases hk0 : kk = 0
              · subst hk0
                clear hkk htn
                by_cases h6 : k8 = 6
                · subst h6
                  have HA := Lib.hid (show Own w wr (stars (apL d s L0 l0 p0 m0 L1 l1 p1 m1 (bxT b7 b8 b9 L0 L1 p0 p1))) from H.out)
                  have q8 := (x8.2 0 _ rfl).1
                  have q9 := (x9.2 0 _ rfl).1
                  unfold ptr at q8 q9
                  have lt8 := x8.lt
                  have lt9 := x9.lt
                  have hdm := HM0.out.drop (z50 : Int)
                  obtain ⟨hMd, hDm⟩ := hdm
                  have hszs := HM0.out.sizes HP0.out.inv.fls.shp
                  have hsz2 := Lib.hid hszs.2.1
                  clear hszs
                  go_wp2_with fail
                  refine wp_region_ord [(0, 1), (1, 1), (2, 1), (3, 1), (4, 1), (5, 1), (6, 1), (7, 1), (8, 1), (9, 1), (10, 3), (11, 0), (12, 0), (13, 0), (14, 0), (15, 0)] [10] 16 (by kernel_rfl) (by decide +kernel) ?_
                  simp only [pickO, List.append_eq, List.cons_append, List.nil_append, List.getElem?_cons_succ, List.getElem?_cons_zero]
                  intro w0 hG
                  (repeat ((first | (with_reducible refine ord_q1 ?_) | (with_reducible refine ord_q0 ?_)); intro K hK; first | (refine Or.inr ⟨?_, ?_⟩; (focus (go_simp; first | done | (simp [undef]; done))); go_simp; (with_reducible refine hK _ ?_); clear hK K) | (refine Or.inl ⟨?_, ?_⟩; (focus (go_simp; done)); apply Exists.intro; refine And.intro ?_ ?_; (focus (first | (intro wq hq; obtain ⟨hcq, hfq⟩ := G.old hq; go_simp; (first | done | exact rfl); done) | (intro wq; go_simp; (first | done | exact rfl); done))); go_simp; (with_reducible refine hK _ ?_); clear hK K) | fail))
                  (with_reducible refine ord_tail ?_)
                  intro K hK
                  go_simp
                  go_at_call 35
                  (refine (Ap.drop HP.out bxT_frm (HA.out.grow (apL_frm bxT_frm) hG.b) HP0.out (z50 : Int)).mono ?_)
                  rintro e w7 ⟨rfl, t, ht, hPt, hO⟩
                  clear hG q0 q1 q2 q8 q9 lt8 lt9 ltq x8 x9 qt ltt
                  (with_reducible refine hK _ _ ?_)
                  clear hK K
                  (repeat ((first | (with_reducible refine ord_q1 ?_) | (with_reducible refine ord_q0 ?_)); intro K hK; first | (refine Or.inr ⟨?_, ?_⟩; (focus (go_simp; first | done | (simp [undef]; done))); go_simp; (with_reducible refine hK _ ?_); clear hK K) | (refine Or.inl ⟨?_, ?_⟩; (focus (go_simp; done)); apply Exists.intro; refine And.intro ?_ ?_; (focus (first | (intro wq hq; obtain ⟨hcq, hfq⟩ := G.old hq; go_simp; (first | done | exact rfl); done) | (intro wq; go_simp; (first | done | exact rfl); done))); go_simp; (with_reducible refine hK _ ?_); clear hK K) | fail))
                  (with_reducible refine ord_nil ?_)
                  have HO7 := Lib.hid hO
                  obtain ⟨S8, hbx8⟩ := Ap.bxs hO
                  obtain ⟨x8, x9⟩ := bxT_get hbx8
                  have q9 := (x9.2 0 _ rfl).1
                  unfold ptr at q9
                  have lt9 := x9.lt
                  obtain ⟨ga, oa, hAe, hal, q0, q1, q2, _, _⟩ := (HOP.out.grow hO.below).at_ hx.out
                  cases hAe
                  dsimp only at q0 q1 q2
                  have ltq := cell_lt q0
                  dsimp only at ltq
                  clear hbx8 x8 x9 hO
                  generalize hdn : (drpG (z50 : Int) n0 g0).1 = dn at *
                  replace hdn := Lib.hid hdn
                  go_wp2_with fail
                  refine wp_region_ord [(0, 0), (1, 1), (2, 1), (3, 1), (4, 1), (5, 1), (6, 1), (7, 1), (8, 1), (9, 1), (10, 1), (11, 3), (12, 0), (13, 0), (14, 0), (15, 0), (16, 0)] [11] 16 (by kernel_rfl) (by decide +kernel) ?_
                  simp only [pickO, List.append_eq, List.cons_append, List.nil_append, List.getElem?_cons_succ, List.getElem?_cons_zero]
                  intro w0 hG
                  (repeat ((first | (with_reducible refine ord_q1 ?_) | (with_reducible refine ord_q0 ?_)); intro K hK; first | (refine Or.inr ⟨?_, ?_⟩; (focus (go_simp; first | done | (simp [undef]; done))); go_simp; (with_reducible refine hK _ ?_); clear hK K) | (refine Or.inl ⟨?_, ?_⟩; (focus (go_simp; done)); apply Exists.intro; refine And.intro ?_ ?_; (focus (first | (intro wq hq; obtain ⟨hcq, hfq⟩ := G.old hq; go_simp; (first | done | exact rfl); done) | (intro wq; go_simp; (first | done | exact rfl); done))); go_simp; (with_reducible refine hK _ ?_); clear hK K) | fail))
                  (with_reducible refine ord_tail ?_)
                  intro K hK
                  go_simp
                  go_at_call 36
                  have MD := Ap.mod bxT_frm (HO7.out.grow (apL_frm bxT_frm) hG.b) (fun S0 hx => mdrop_any hx (z50 : Int) (by have := hsz2.out; omega))
                  rw [hDm] at MD
                  (with_reducible refine MD.mono ?_)
                  clear MD
                  rintro e w9 ⟨rfl, hO⟩
                  clear hG q0 q1 q2 q9 lt9 ltq
                  (with_reducible refine hK _ _ ?_)
                  clear hK K
                  (repeat ((first | (with_reducible refine ord_q1 ?_) | (with_reducible refine ord_q0 ?_)); intro K hK; first | (refine Or.inr ⟨?_, ?_⟩; (focus (go_simp; first | done | (simp [undef]; done))); go_simp; (with_reducible refine hK _ ?_); clear hK K) | (refine Or.inl ⟨?_, ?_⟩; (focus (go_simp; done)); apply Exists.intro; refine And.intro ?_ ?_; (focus (first | (intro wq hq; obtain ⟨hcq, hfq⟩ := G.old hq; go_simp; (first | done | exact rfl); done) | (intro wq; go_simp; (first | done | exact rfl); done))); go_simp; (with_reducible refine hK _ ?_); clear hK K) | fail))
                  (with_reducible refine ord_nil ?_)
                  have hPb := HP1.out.other ht hPt.up (by decide)
                  have hB2 := HB.out.1.step ht (kx_own _) (by omega) (by omega)
                  go_wp2_with fail
                  refine ⟨⟨i + 1, t, _, R0, _, _, _, l1, R1, n1, g1, m1, by omega, rfl, Lib.hid hO, Lib.hid hPt, Lib.hid hMd, Lib.hid hPb, HM1, Lib.hid ⟨hB2, by have := HB.out.2.1; omega, by have := HB.out.2.2; omega⟩⟩, by simp [intOf]; omega⟩
                · have h6' : ((k8 : Int) == 6) = false := by rw [beq_eq_false_iff_ne]; omega
                  have HA := Lib.hid (show Own w wr (stars (apL d s L0 l0 p0 m0 L1 l1 p1 m1 (bxT b7 b8 b9 L0 L1 p0 p1))) from H.out)
                  have q8 := (x8.2 0 _ rfl).1
                  have q9 := (x9.2 0 _ rfl).1
                  unfold ptr at q8 q9
                  have lt8 := x8.lt
                  have lt9 := x9.lt
                  have hdl := dataL_len by0 sz
                  obtain ⟨dt, hdt⟩ : ∃ d, dataL by0 sz = d := ⟨_, rfl⟩
                  have OD := Lib.hid (fun (wx : World) => opdata_any (.int .u8 (kd0 : Int)) by0 sz hf2 wx)
                  rw [hdt] at OD hdl
                  clear hdt
                  have hszs := HM0.out.sizes HP0.out.inv.fls.shp
                  have hRl : R0.length ≤ 30 := by have := HB.out.2; omega
                  have hszs' := Lib.hid hszs
                  clear hszs
                  go_wp2_with fail
                  refine wp_region_ord [(0, 1), (1, 1), (2, 1), (3, 1), (4, 1), (5, 1), (6, 1), (7, 2), (8, 3), (9, 0), (10, 0), (11, 0), (12, 0), (13, 0)] [8] 16 (by kernel_rfl) (by decide +kernel) ?_
                  simp only [pickO, List.append_eq, List.cons_append, List.nil_append, List.getElem?_cons_succ, List.getElem?_cons_zero]
                  intro w0 hG
                  (repeat ((first | (with_reducible refine ord_q1 ?_) | (with_reducible refine ord_q0 ?_)); intro K hK; first | (refine Or.inr ⟨?_, ?_⟩; (focus (go_simp; first | done | (simp [undef]; done))); go_simp; (with_reducible refine hK _ ?_); clear hK K) | (refine Or.inl ⟨?_, ?_⟩; (focus (go_simp; done)); apply Exists.intro; refine And.intro ?_ ?_; (focus (first | (intro wq hq; obtain ⟨hcq, hfq⟩ := G.old hq; go_simp; (first | done | exact rfl); done) | (intro wq; go_simp; (first | done | exact rfl); done))); go_simp; (with_reducible refine hK _ ?_); clear hK K) | fail))
                  (with_reducible refine ord_run ?_ hG)
                  intro K hK
                  go_simp
                  go_at_call 27; (with_reducible refine (OD.out _).mono ?_); rintro e w6 ⟨rfl, hb6⟩
                  replace hG := Grew.trans hG hb6
                  (try dsimp only)
                  (with_reducible refine hK _ _ hG ?_)
                  clear hK K
                  (repeat ((first | (with_reducible refine ord_q1 ?_) | (with_reducible refine ord_q0 ?_)); intro K hK; first | (refine Or.inr ⟨?_, ?_⟩; (focus (go_simp; first | done | (simp [undef]; done))); go_simp; (with_reducible refine hK _ ?_); clear hK K) | (refine Or.inl ⟨?_, ?_⟩; (focus (go_simp; done)); apply Exists.intro; refine And.intro ?_ ?_; (focus (first | (intro wq hq; obtain ⟨hcq, hfq⟩ := G.old hq; go_simp; (first | done | exact rfl); done) | (intro wq; go_simp; (first | done | exact rfl); done))); go_simp; (with_reducible refine hK _ ?_); clear hK K) | fail))
                  (with_reducible refine ord_tail ?_)
                  intro K hK
                  go_simp
                  go_at_call 28
                  (refine (Ap.append HP.out bxT_frm (HA.out.grow (apL_frm bxT_frm) hG.b) HP0.out (dt := dt) (by omega) (by omega) (by have := HB.out.1.cnt; omega) (by have := HB.out.1.used; have := HB.out.1.room; omega)).mono ?_)
                  rintro e w7 ⟨rfl, t, ht, hPt, hO⟩
                  clear hG q0 q1 q2 q8 q9 lt8 lt9 ltq x8 x9 qt ltt
                  (with_reducible refine hK _ _ ?_)
                  clear hK K
                  (repeat ((first | (with_reducible refine ord_q1 ?_) | (with_reducible refine ord_q0 ?_)); intro K hK; first | (refine Or.inr ⟨?_, ?_⟩; (focus (go_simp; first | done | (simp [undef]; done))); go_simp; (with_reducible refine hK _ ?_); clear hK K) | (refine Or.inl ⟨?_, ?_⟩; (focus (go_simp; done)); apply Exists.intro; refine And.intro ?_ ?_; (focus (first | (intro wq hq; obtain ⟨hcq, hfq⟩ := G.old hq; go_simp; (first | done | exact rfl); done) | (intro wq; go_simp; (first | done | exact rfl); done))); go_simp; (with_reducible refine hK _ ?_); clear hK K) | fail))
                  (with_reducible refine ord_nil ?_)
                  have HO7 := Lib.hid hO
                  obtain ⟨S8, hbx8⟩ := Ap.bxs hO
                  obtain ⟨x8, x9⟩ := bxT_get hbx8
                  have q9 := (x9.2 0 _ rfl).1
                  unfold ptr at q9
                  have lt9 := x9.lt
                  obtain ⟨ga, oa, hAe, hal, q0, q1, q2, _, _⟩ := (HOP.out.grow hO.below).at_ hx.out
                  cases hAe
                  dsimp only at q0 q1 q2
                  have ltq := cell_lt q0
                  dsimp only at ltq
                  have hMt := HM0.out.app HP0.out.inv.fls.shp dt
                  have hrr : m0.recs.length = R0.length := by rw [HM0.out.agr.recs]
                  clear hbx8 x8 x9 hO
                  go_wp2_with fail
                  refine wp_region_ord [(0, 0), (1, 1), (2, 1), (3, 1), (4, 1), (5, 1), (6, 1), (7, 1), (8, 2), (9, 3), (10, 0), (11, 0), (12, 0), (13, 0), (14, 0)] [9] 16 (by kernel_rfl) (by decide +kernel) ?_
                  simp only [pickO, List.append_eq, List.cons_append, List.nil_append, List.getElem?_cons_succ, List.getElem?_cons_zero]
                  intro w0 hG
                  (repeat ((first | (with_reducible refine ord_q1 ?_) | (with_reducible refine ord_q0 ?_)); intro K hK; first | (refine Or.inr ⟨?_, ?_⟩; (focus (go_simp; first | done | (simp [undef]; done))); go_simp; (with_reducible refine hK _ ?_); clear hK K) | (refine Or.inl ⟨?_, ?_⟩; (focus (go_simp; done)); apply Exists.intro; refine And.intro ?_ ?_; (focus (first | (intro wq hq; obtain ⟨hcq, hfq⟩ := G.old hq; go_simp; (first | done | exact rfl); done) | (intro wq; go_simp; (first | done | exact rfl); done))); go_simp; (with_reducible refine hK _ ?_); clear hK K) | fail))
                  (with_reducible refine ord_run ?_ hG)
                  intro K hK
                  go_simp
                  go_at_call 27; (with_reducible refine (OD.out _).mono ?_); rintro e w8 ⟨rfl, hb6⟩
                  replace hG := Grew.trans hG hb6
                  (try dsimp only)
                  (with_reducible refine hK _ _ hG ?_)
                  clear hK K
                  (repeat ((first | (with_reducible refine ord_q1 ?_) | (with_reducible refine ord_q0 ?_)); intro K hK; first | (refine Or.inr ⟨?_, ?_⟩; (focus (go_simp; first | done | (simp [undef]; done))); go_simp; (with_reducible refine hK _ ?_); clear hK K) | (refine Or.inl ⟨?_, ?_⟩; (focus (go_simp; done)); apply Exists.intro; refine And.intro ?_ ?_; (focus (first | (intro wq hq; obtain ⟨hcq, hfq⟩ := G.old hq; go_simp; (first | done | exact rfl); done) | (intro wq; go_simp; (first | done | exact rfl); done))); go_simp; (with_reducible refine hK _ ?_); clear hK K) | fail))
                  (with_reducible refine ord_tail ?_)
                  intro K hK
                  go_simp
                  go_at_call 26
                  have MD := Ap.mod bxT_frm (HO7.out.grow (apL_frm bxT_frm) hG.b) (fun S0 hx => mapp_any hx dt (by omega) (by have := hszs'.out; omega) (by have := hszs'.out; omega) (by have := hszs'.out; omega))
                  rw [hrr] at MD
                  (with_reducible refine MD.mono ?_)
                  clear MD
                  rintro e w9 ⟨rfl, hO⟩
                  clear hG q0 q1 q2 q9 lt9 ltq hrr
                  (with_reducible refine hK _ _ ?_)
                  clear hK K
                  (repeat ((first | (with_reducible refine ord_q1 ?_) | (with_reducible refine ord_q0 ?_)); intro K hK; first | (refine Or.inr ⟨?_, ?_⟩; (focus (go_simp; first | done | (simp [undef]; done))); go_simp; (with_reducible refine hK _ ?_); clear hK K) | (refine Or.inl ⟨?_, ?_⟩; (focus (go_simp; done)); apply Exists.intro; refine And.intro ?_ ?_; (focus (first | (intro wq hq; obtain ⟨hcq, hfq⟩ := G.old hq; go_simp; (first | done | exact rfl); done) | (intro wq; go_simp; (first | done | exact rfl); done))); go_simp; (with_reducible refine hK _ ?_); clear hK K) | fail))
                  (with_reducible refine ord_nil ?_)
                  have hPb := HP1.out.other ht hPt.up (by decide)
                  have hB2 := HB.out.1.step ht (kx_own _) (by omega) (by omega)
                  go_wp2_with fail
                  refine ⟨⟨i + 1, t, _, _, n0, _, _, l1, R1, n1, g1, m1, by omega, rfl, Lib.hid hO, Lib.hid hPt, Lib.hid hMt, Lib.hid hPb, HM1, Lib.hid ⟨hB2, by rw [List.length_append]; have := HB.out.2.1; simp; omega, by have := HB.out.2.2; omega⟩⟩, by simp [intOf]; omega⟩
              · obtain rfl : kk = 1 := by omega
                clear hkk htn hk0
                by_cases h6 : k8 = 6
                · subst h6
                  have HA := Lib.hid (show Own w wr (stars (apL d s L1 l1 p1 m1 L0 l0 p0 m0 (bxT b7 b8 b9 L0 L1 p0 p1))) from (Ap.swap H.out))
                  have q8 := (x8.2 1 _ rfl).1
                  have q9 := (x9.2 1 _ rfl).1
                  unfold ptr at q8 q9
                  have lt8 := x8.lt
                  have lt9 := x9.lt
                  have hdm := HM1.out.drop (z50 : Int)
                  obtain ⟨hMd, hDm⟩ := hdm
                  have hszs := HM1.out.sizes HP1.out.inv.fls.shp
                  have hsz2 := Lib.hid hszs.2.1
                  clear hszs
                  go_wp2_with fail
                  refine wp_region_ord [(0, 1), (1, 1), (2, 1), (3, 1), (4, 1), (5, 1), (6, 1), (7, 1), (8, 1), (9, 1), (10, 3), (11, 0), (12, 0), (13, 0), (14, 0), (15, 0)] [10] 16 (by kernel_rfl) (by decide +kernel) ?_
                  simp only [pickO, List.append_eq, List.cons_append, List.nil_append, List.getElem?_cons_succ, List.getElem?_cons_zero]
                  intro w0 hG
                  (repeat ((first | (with_reducible refine ord_q1 ?_) | (with_reducible refine ord_q0 ?_)); intro K hK; first | (refine Or.inr ⟨?_, ?_⟩; (focus (go_simp; first | done | (simp [undef]; done))); go_simp; (with_reducible refine hK _ ?_); clear hK K) | (refine Or.inl ⟨?_, ?_⟩; (focus (go_simp; done)); apply Exists.intro; refine And.intro ?_ ?_; (focus (first | (intro wq hq; obtain ⟨hcq, hfq⟩ := G.old hq; go_simp; (first | done | exact rfl); done) | (intro wq; go_simp; (first | done | exact rfl); done))); go_simp; (with_reducible refine hK _ ?_); clear hK K) | fail))
                  (with_reducible refine ord_tail ?_)
                  intro K hK
                  go_simp
                  go_at_call 35
                  (refine (Ap.drop HP.out bxT_frm (HA.out.grow (apL_frm bxT_frm) hG.b) HP1.out (z50 : Int)).mono ?_)
                  rintro e w7 ⟨rfl, t, ht, hPt, hO⟩
                  clear hG q0 q1 q2 q8 q9 lt8 lt9 ltq x8 x9 qt ltt
                  (with_reducible refine hK _ _ ?_)
                  clear hK K
                  (repeat ((first | (with_reducible refine ord_q1 ?_) | (with_reducible refine ord_q0 ?_)); intro K hK; first | (refine Or.inr ⟨?_, ?_⟩; (focus (go_simp; first | done | (simp [undef]; done))); go_simp; (with_reducible refine hK _ ?_); clear hK K) | (refine Or.inl ⟨?_, ?_⟩; (focus (go_simp; done)); apply Exists.intro; refine And.intro ?_ ?_; (focus (first | (intro wq hq; obtain ⟨hcq, hfq⟩ := G.old hq; go_simp; (first | done | exact rfl); done) | (intro wq; go_simp; (first | done | exact rfl); done))); go_simp; (with_reducible refine hK _ ?_); clear hK K) | fail))
                  (with_reducible refine ord_nil ?_)
                  have HO7 := Lib.hid hO
                  obtain ⟨S8, hbx8⟩ := Ap.bxs hO
                  obtain ⟨x8, x9⟩ := bxT_get hbx8
                  have q9 := (x9.2 1 _ rfl).1
                  unfold ptr at q9
                  have lt9 := x9.lt
                  obtain ⟨ga, oa, hAe, hal, q0, q1, q2, _, _⟩ := (HOP.out.grow hO.below).at_ hx.out
                  cases hAe
                  dsimp only at q0 q1 q2
                  have ltq := cell_lt q0
                  dsimp only at ltq
                  clear hbx8 x8 x9 hO
                  generalize hdn : (drpG (z50 : Int) n1 g1).1 = dn at *
                  replace hdn := Lib.hid hdn
                  go_wp2_with fail
                  refine wp_region_ord [(0, 0), (1, 1), (2, 1), (3, 1), (4, 1), (5, 1), (6, 1), (7, 1), (8, 1), (9, 1), (10, 1), (11, 3), (12, 0), (13, 0), (14, 0), (15, 0), (16, 0)] [11] 16 (by kernel_rfl) (by decide +kernel) ?_
                  simp only [pickO, List.append_eq, List.cons_append, List.nil_append, List.getElem?_cons_succ, List.getElem?_cons_zero]
                  intro w0 hG
                  (repeat ((first | (with_reducible refine ord_q1 ?_) | (with_reducible refine ord_q0 ?_)); intro K hK; first | (refine Or.inr ⟨?_, ?_⟩; (focus (go_simp; first | done | (simp [undef]; done))); go_simp; (with_reducible refine hK _ ?_); clear hK K) | (refine Or.inl ⟨?_, ?_⟩; (focus (go_simp; done)); apply Exists.intro; refine And.intro ?_ ?_; (focus (first | (intro wq hq; obtain ⟨hcq, hfq⟩ := G.old hq; go_simp; (first | done | exact rfl); done) | (intro wq; go_simp; (first | done | exact rfl); done))); go_simp; (with_reducible refine hK _ ?_); clear hK K) | fail))
                  (with_reducible refine ord_tail ?_)
                  intro K hK
                  go_simp
                  go_at_call 36
                  have MD := Ap.mod bxT_frm (HO7.out.grow (apL_frm bxT_frm) hG.b) (fun S0 hx => mdrop_any hx (z50 : Int) (by have := hsz2.out; omega))
                  rw [hDm] at MD
                  (with_reducible refine MD.mono ?_)
                  clear MD
                  rintro e w9 ⟨rfl, hO⟩
                  clear hG q0 q1 q2 q9 lt9 ltq
                  (with_reducible refine hK _ _ ?_)
                  clear hK K
                  (repeat ((first | (with_reducible refine ord_q1 ?_) | (with_reducible refine ord_q0 ?_)); intro K hK; first | (refine Or.inr ⟨?_, ?_⟩; (focus (go_simp; first | done | (simp [undef]; done))); go_simp; (with_reducible refine hK _ ?_); clear hK K) | (refine Or.inl ⟨?_, ?_⟩; (focus (go_simp; done)); apply Exists.intro; refine And.intro ?_ ?_; (focus (first | (intro wq hq; obtain ⟨hcq, hfq⟩ := G.old hq; go_simp; (first | done | exact rfl); done) | (intro wq; go_simp; (first | done | exact rfl); done))); go_simp; (with_reducible refine hK _ ?_); clear hK K) | fail))
                  (with_reducible refine ord_nil ?_)
                  have hPb := HP0.out.other ht hPt.up (by decide)
                  have hB2 := HB.out.1.step ht (kx_own _) (by omega) (by omega)
                  go_wp2_with fail
                  refine ⟨⟨i + 1, t, l0, R0, n0, g0, m0, _, R1, _, _, _, by omega, rfl, Lib.hid (Ap.swap hO), Lib.hid hPb, HM0, Lib.hid hPt, Lib.hid hMd, Lib.hid ⟨hB2, by have := HB.out.2.1; omega, by have := HB.out.2.2; omega⟩⟩, by simp [intOf]; omega⟩
                · have h6' : ((k8 : Int) == 6) = false := by rw [beq_eq_false_iff_ne]; omega
                  have HA := Lib.hid (show Own w wr (stars (apL d s L1 l1 p1 m1 L0 l0 p0 m0 (bxT b7 b8 b9 L0 L1 p0 p1))) from (Ap.swap H.out))
                  have q8 := (x8.2 1 _ rfl).1
                  have q9 := (x9.2 1 _ rfl).1
                  unfold ptr at q8 q9
                  have lt8 := x8.lt
                  have lt9 := x9.lt
                  have hdl := dataL_len by0 sz
                  obtain ⟨dt, hdt⟩ : ∃ d, dataL by0 sz = d := ⟨_, rfl⟩
                  have OD := Lib.hid (fun (wx : World) => opdata_any (.int .u8 (kd0 : Int)) by0 sz hf2 wx)
                  rw [hdt] at OD hdl
                  clear hdt
                  have hszs := HM1.out.sizes HP1.out.inv.fls.shp
                  have hRl : R1.length ≤ 30 := by have := HB.out.2; omega
                  have hszs' := Lib.hid hszs
                  clear hszs
                  go_wp2_with fail
                  refine wp_region_ord [(0, 1), (1, 1), (2, 1), (3, 1), (4, 1), (5, 1), (6, 1), (7, 2), (8, 3), (9, 0), (10, 0), (11, 0), (12, 0), (13, 0)] [8] 16 (by kernel_rfl) (by decide +kernel) ?_
                  simp only [pickO, List.append_eq, List.cons_append, List.nil_append, List.getElem?_cons_succ, List.getElem?_cons_zero]
                  intro w0 hG
                  (repeat ((first | (with_reducible refine ord_q1 ?_) | (with_reducible refine ord_q0 ?_)); intro K hK; first | (refine Or.inr ⟨?_, ?_⟩; (focus (go_simp; first | done | (simp [undef]; done))); go_simp; (with_reducible refine hK _ ?_); clear hK K) | (refine Or.inl ⟨?_, ?_⟩; (focus (go_simp; done)); apply Exists.intro; refine And.intro ?_ ?_; (focus (first | (intro wq hq; obtain ⟨hcq, hfq⟩ := G.old hq; go_simp; (first | done | exact rfl); done) | (intro wq; go_simp; (first | done | exact rfl); done))); go_simp; (with_reducible refine hK _ ?_); clear hK K) | fail))
                  (with_reducible refine ord_run ?_ hG)
                  intro K hK
                  go_simp
                  go_at_call 27; (with_reducible refine (OD.out _).mono ?_); rintro e w6 ⟨rfl, hb6⟩
                  replace hG := Grew.trans hG hb6
                  (try dsimp only)
                  (with_reducible refine hK _ _ hG ?_)
                  clear hK K
                  (repeat ((first | (with_reducible refine ord_q1 ?_) | (with_reducible refine ord_q0 ?_)); intro K hK; first | (refine Or.inr ⟨?_, ?_⟩; (focus (go_simp; first | done | (simp [undef]; done))); go_simp; (with_reducible refine hK _ ?_); clear hK K) | (refine Or.inl ⟨?_, ?_⟩; (focus (go_simp; done)); apply Exists.intro; refine And.intro ?_ ?_; (focus (first | (intro wq hq; obtain ⟨hcq, hfq⟩ := G.old hq; go_simp; (first | done | exact rfl); done) | (intro wq; go_simp; (first | done | exact rfl); done))); go_simp; (with_reducible refine hK _ ?_); clear hK K) | fail))
                  (with_reducible refine ord_tail ?_)
                  intro K hK
                  go_simp
                  go_at_call 28
                  (refine (Ap.append HP.out bxT_frm (HA.out.grow (apL_frm bxT_frm) hG.b) HP1.out (dt := dt) (by omega) (by omega) (by have := HB.out.1.cnt; omega) (by have := HB.out.1.used; have := HB.out.1.room; omega)).mono ?_)
                  rintro e w7 ⟨rfl, t, ht, hPt, hO⟩
                  clear hG q0 q1 q2 q8 q9 lt8 lt9 ltq x8 x9 qt ltt
                  (with_reducible refine hK _ _ ?_)
                  clear hK K
                  (repeat ((first | (with_reducible refine ord_q1 ?_) | (with_reducible refine ord_q0 ?_)); intro K hK; first | (refine Or.inr ⟨?_, ?_⟩; (focus (go_simp; first | done | (simp [undef]; done))); go_simp; (with_reducible refine hK _ ?_); clear hK K) | (refine Or.inl ⟨?_, ?_⟩; (focus (go_simp; done)); apply Exists.intro; refine And.intro ?_ ?_; (focus (first | (intro wq hq; obtain ⟨hcq, hfq⟩ := G.old hq; go_simp; (first | done | exact rfl); done) | (intro wq; go_simp; (first | done | exact rfl); done))); go_simp; (with_reducible refine hK _ ?_); clear hK K) | fail))
                  (with_reducible refine ord_nil ?_)
                  have HO7 := Lib.hid hO
                  obtain ⟨S8, hbx8⟩ := Ap.bxs hO
                  obtain ⟨x8, x9⟩ := bxT_get hbx8
                  have q9 := (x9.2 1 _ rfl).1
                  unfold ptr at q9
                  have lt9 := x9.lt
                  obtain ⟨ga, oa, hAe, hal, q0, q1, q2, _, _⟩ := (HOP.out.grow hO.below).at_ hx.out
                  cases hAe
                  dsimp only at q0 q1 q2
                  have ltq := cell_lt q0
                  dsimp only at ltq
                  have hMt := HM1.out.app HP1.out.inv.fls.shp dt
                  have hrr : m1.recs.length = R1.length := by rw [HM1.out.agr.recs]
                  clear hbx8 x8 x9 hO
                  go_wp2_with fail
                  refine wp_region_ord [(0, 0), (1, 1), (2, 1), (3, 1), (4, 1), (5, 1), (6, 1), (7, 1), (8, 2), (9, 3), (10, 0), (11, 0), (12, 0), (13, 0), (14, 0)] [9] 16 (by kernel_rfl) (by decide +kernel) ?_
                  simp only [pickO, List.append_eq, List.cons_append, List.nil_append, List.getElem?_cons_succ, List.getElem?_cons_zero]
                  intro w0 hG
                  (repeat ((first | (with_reducible refine ord_q1 ?_) | (with_reducible refine ord_q0 ?_)); intro K hK; first | (refine Or.inr ⟨?_, ?_⟩; (focus (go_simp; first | done | (simp [undef]; done))); go_simp; (with_reducible refine hK _ ?_); clear hK K) | (refine Or.inl ⟨?_, ?_⟩; (focus (go_simp; done)); apply Exists.intro; refine And.intro ?_ ?_; (focus (first | (intro wq hq; obtain ⟨hcq, hfq⟩ := G.old hq; go_simp; (first | done | exact rfl); done) | (intro wq; go_simp; (first | done | exact rfl); done))); go_simp; (with_reducible refine hK _ ?_); clear hK K) | fail))
                  (with_reducible refine ord_run ?_ hG)
                  intro K hK
                  go_simp
                  go_at_call 27; (with_reducible refine (OD.out _).mono ?_); rintro e w8 ⟨rfl, hb6⟩
                  replace hG := Grew.trans hG hb6
                  (try dsimp only)
                  (with_reducible refine hK _ _ hG ?_)
                  clear hK K
                  (repeat ((first | (with_reducible refine ord_q1 ?_) | (with_reducible refine ord_q0 ?_)); intro K hK; first | (refine Or.inr ⟨?_, ?_⟩; (focus (go_simp; first | done | (simp [undef]; done))); go_simp; (with_reducible refine hK _ ?_); clear hK K) | (refine Or.inl ⟨?_, ?_⟩; (focus (go_simp; done)); apply Exists.intro; refine And.intro ?_ ?_; (focus (first | (intro wq hq; obtain ⟨hcq, hfq⟩ := G.old hq; go_simp; (first | done | exact rfl); done) | (intro wq; go_simp; (first | done | exact rfl); done))); go_simp; (with_reducible refine hK _ ?_); clear hK K) | fail))
                  (with_reducible refine ord_tail ?_)
                  intro K hK
                  go_simp
                  go_at_call 26
                  have MD := Ap.mod bxT_frm (HO7.out.grow (apL_frm bxT_frm) hG.b) (fun S0 hx => mapp_any hx dt (by omega) (by have := hszs'.out; omega) (by have := hszs'.out; omega) (by have := hszs'.out; omega))
                  rw [hrr] at MD
                  (with_reducible refine MD.mono ?_)
                  clear MD
                  rintro e w9 ⟨rfl, hO⟩
                  clear hG q0 q1 q2 q9 lt9 ltq hrr
                  (with_reducible refine hK _ _ ?_)
                  clear hK K
                  (repeat ((first | (with_reducible refine ord_q1 ?_) | (with_reducible refine ord_q0 ?_)); intro K hK; first | (refine Or.inr ⟨?_, ?_⟩; (focus (go_simp; first | done | (simp [undef]; done))); go_simp; (with_reducible refine hK _ ?_); clear hK K) | (refine Or.inl ⟨?_, ?_⟩; (focus (go_simp; done)); apply Exists.intro; refine And.intro ?_ ?_; (focus (first | (intro wq hq; obtain ⟨hcq, hfq⟩ := G.old hq; go_simp; (first | done | exact rfl); done) | (intro wq; go_simp; (first | done | exact rfl); done))); go_simp; (with_reducible refine hK _ ?_); clear hK K) | fail))
                  (with_reducible refine ord_nil ?_)
                  have hPb := HP0.out.other ht hPt.up (by decide)
                  have hB2 := HB.out.1.step ht (kx_own _) (by omega) (by omega)
                  go_wp2_with fail
                  refine ⟨⟨i + 1, t, l0, R0, n0, g0, m0, _, _, n1, _, _, by omega, rfl, Lib.hid (Ap.swap hO), Lib.hid hPb, HM0, Lib.hid hPt, Lib.hid hMt, Lib.hid ⟨hB2, by have := HB.out.2.1; omega, by rw [List.length_append]; have := HB.out.2.2; simp; omega⟩⟩, by simp [intOf]; omega⟩
            · have hM' : ¬ (i : Int) < (M : Int) := by omega
              by_cases h6 : k8 = 6
              · subst h6
                have HA := Lib.hid (show Own w wr (stars (apL d s L0 l0 p0 m0 L1 l1 p1 m1 (bxT b7 b8 b9 L0 L1 p0 p1))) from H.out)
                have q8 := (x8.2 0 _ rfl).1
                have q9 := (x9.2 0 _ rfl).1
                unfold ptr at q8 q9
                have lt8 := x8.lt
                have lt9 := x9.lt
                have hdm := HM0.out.drop (z50 : Int)
                obtain ⟨hMd, hDm⟩ := hdm
                have hszs := HM0.out.sizes HP0.out.inv.fls.shp
                have hsz2 := Lib.hid hszs.2.1
                clear hszs
                go_wp2_with fail
                refine wp_region_ord [(0, 1), (1, 1), (2, 1), (3, 1), (4, 1), (5, 1), (6, 1), (7, 1), (8, 1), (9, 1), (10, 3), (11, 0), (12, 0), (13, 0), (14, 0), (15, 0)] [10] 16 (by kernel_rfl) (by decide +kernel) ?_
                simp only [pickO, List.append_eq, List.cons_append, List.nil_append, List.getElem?_cons_succ, List.getElem?_cons_zero]
                intro w0 hG
                (repeat ((first | (with_reducible refine ord_q1 ?_) | (with_reducible refine ord_q0 ?_)); intro K hK; first | (refine Or.inr ⟨?_, ?_⟩; (focus (go_simp; first | done | (simp [undef]; done))); go_simp; (with_reducible refine hK _ ?_); clear hK K) | (refine Or.inl ⟨?_, ?_⟩; (focus (go_simp; done)); apply Exists.intro; refine And.intro ?_ ?_; (focus (first | (intro wq hq; obtain ⟨hcq, hfq⟩ := G.old hq; go_simp; (first | done | exact rfl); done) | (intro wq; go_simp; (first | done | exact rfl); done))); go_simp; (with_reducible refine hK _ ?_); clear hK K) | fail))
                (with_reducible refine ord_tail ?_)
                intro K hK
                go_simp
                go_at_call 35
                (refine (Ap.drop HP.out bxT_frm (HA.out.grow (apL_frm bxT_frm) hG.b) HP0.out (z50 : Int)).mono ?_)
                rintro e w7 ⟨rfl, t, ht, hPt, hO⟩
                clear hG q0 q1 q2 q8 q9 lt8 lt9 ltq x8 x9
                (with_reducible refine hK _ _ ?_)
                clear hK K
                (repeat ((first | (with_reducible refine ord_q1 ?_) | (with_reducible refine ord_q0 ?_)); intro K hK; first | (refine Or.inr ⟨?_, ?_⟩; (focus (go_simp; first | done | (simp [undef]; done))); go_simp; (with_reducible refine hK _ ?_); clear hK K) | (refine Or.inl ⟨?_, ?_⟩; (focus (go_simp; done)); apply Exists.intro; refine And.intro ?_ ?_; (focus (first | (intro wq hq; obtain ⟨hcq, hfq⟩ := G.old hq; go_simp; (first | done | exact rfl); done) | (intro wq; go_simp; (first | done | exact rfl); done))); go_simp; (with_reducible refine hK _ ?_); clear hK K) | fail))
                (with_reducible refine ord_nil ?_)
                have HO7 := Lib.hid hO
                obtain ⟨S8, hbx8⟩ := Ap.bxs hO
                obtain ⟨x8, x9⟩ := bxT_get hbx8
                have q9 := (x9.2 0 _ rfl).1
                unfold ptr at q9
                have lt9 := x9.lt
                obtain ⟨ga, oa, hAe, hal, q0, q1, q2, _, _⟩ := (HOP.out.grow hO.below).at_ hx.out
                cases hAe
                dsimp only at q0 q1 q2
                have ltq := cell_lt q0
                dsimp only at ltq
                clear hbx8 x8 x9 hO
                generalize hdn : (drpG (z50 : Int) n0 g0).1 = dn at *
                replace hdn := Lib.hid hdn
                go_wp2_with fail
                refine wp_region_ord [(0, 0), (1, 1), (2, 1), (3, 1), (4, 1), (5, 1), (6, 1), (7, 1), (8, 1), (9, 1), (10, 1), (11, 3), (12, 0), (13, 0), (14, 0), (15, 0), (16, 0)] [11] 16 (by kernel_rfl) (by decide +kernel) ?_
                simp only [pickO, List.append_eq, List.cons_append, List.nil_append, List.getElem?_cons_succ, List.getElem?_cons_zero]
                intro w0 hG
                (repeat ((first | (with_reducible refine ord_q1 ?_) | (with_reducible refine ord_q0 ?_)); intro K hK; first | (refine Or.inr ⟨?_, ?_⟩; (focus (go_simp; first | done | (simp [undef]; done))); go_simp; (with_reducible refine hK _ ?_); clear hK K) | (refine Or.inl ⟨?_, ?_⟩; (focus (go_simp; done)); apply Exists.intro; refine And.intro ?_ ?_; (focus (first | (intro wq hq; obtain ⟨hcq, hfq⟩ := G.old hq; go_simp; (first | done | exact rfl); done) | (intro wq; go_simp; (first | done | exact rfl); done))); go_simp; (with_reducible refine hK _ ?_); clear hK K) | fail))
                (with_reducible refine ord_tail ?_)
                intro K hK
                go_simp
                go_at_call 36
                have MD := Ap.mod bxT_frm (HO7.out.grow (apL_frm bxT_frm) hG.b) (fun S0 hx => mdrop_any hx (z50 : Int) (by have := hsz2.out; omega))
                rw [hDm] at MD
                (with_reducible refine MD.mono ?_)
                clear MD
                rintro e w9 ⟨rfl, hO⟩
                clear hG q0 q1 q2 q9 lt9 ltq
                (with_reducible refine hK _ _ ?_)
                clear hK K
                (repeat ((first | (with_reducible refine ord_q1 ?_) | (with_reducible refine ord_q0 ?_)); intro K hK; first | (refine Or.inr ⟨?_, ?_⟩; (focus (go_simp; first | done | (simp [undef]; done))); go_simp; (with_reducible refine hK _ ?_); clear hK K) | (refine Or.inl ⟨?_, ?_⟩; (focus (go_simp; done)); apply Exists.intro; refine And.intro ?_ ?_; (focus (first | (intro wq hq; obtain ⟨hcq, hfq⟩ := G.old hq; go_simp; (first | done | exact rfl); done) | (intro wq; go_simp; (first | done | exact rfl); done))); go_simp; (with_reducible refine hK _ ?_); clear hK K) | fail))
                (with_reducible refine ord_nil ?_)
                have hPb := HP1.out.other ht hPt.up (by decide)
                have hB2 := HB.out.1.step ht (kx_own _) (by omega) (by omega)
                go_wp2_with fail
                refine ⟨⟨i + 1, t, _, R0, _, _, _, l1, R1, n1, g1, m1, by omega, rfl, Lib.hid hO, Lib.hid hPt, Lib.hid hMd, Lib.hid hPb, HM1, Lib.hid ⟨hB2, by have := HB.out.2.1; omega, by have := HB.out.2.2; omega⟩⟩, by simp [intOf]; omega⟩
              · have h6' : ((k8 : Int) == 6) = false := by rw [beq_eq_false_iff_ne]; omega
                have HA := Lib.hid (show Own w wr (stars (apL d s L0 l0 p0 m0 L1 l1 p1 m1 (bxT b7 b8 b9 L0 L1 p0 p1))) from H.out)
                have q8 := (x8.2 0 _ rfl).1
                have q9 := (x9.2 0 _ rfl).1
                unfold ptr at q8 q9
                have lt8 := x8.lt
                have lt9 := x9.lt
                have hdl := dataL_len by0 sz
                obtain ⟨dt, hdt⟩ : ∃ d, dataL by0 sz = d := ⟨_, rfl⟩
                have OD := Lib.hid (fun (wx : World) => opdata_any (.int .u8 (kd0 : Int)) by0 sz hf2 wx)
                rw [hdt] at OD hdl
                clear hdt
                have hszs := HM0.out.sizes HP0.out.inv.fls.shp
                have hRl : R0.length ≤ 30 := by have := HB.out.2; omega
                have hszs' := Lib.hid hszs
                clear hszs
                go_wp2_with fail
                refine wp_region_ord [(0, 1), (1, 1), (2, 1), (3, 1), (4, 1), (5, 1), (6, 1), (7, 2), (8, 3), (9, 0), (10, 0), (11, 0), (12, 0), (13, 0)] [8] 16 (by kernel_rfl) (by decide +kernel) ?_
                simp only [pickO, List.append_eq, List.cons_append, List.nil_append, List.getElem?_cons_succ, List.getElem?_cons_zero]
                intro w0 hG
                (repeat ((first | (with_reducible refine ord_q1 ?_) | (with_reducible refine ord_q0 ?_)); intro K hK; first | (refine Or.inr ⟨?_, ?_⟩; (focus (go_simp; first | done | (simp [undef]; done))); go_simp; (with_reducible refine hK _ ?_); clear hK K) | (refine Or.inl ⟨?_, ?_⟩; (focus (go_simp; done)); apply Exists.intro; refine And.intro ?_ ?_; (focus (first | (intro wq hq; obtain ⟨hcq, hfq⟩ := G.old hq; go_simp; (first | done | exact rfl); done) | (intro wq; go_simp; (first | done | exact rfl); done))); go_simp; (with_reducible refine hK _ ?_); clear hK K) | fail))
                (with_reducible refine ord_run ?_ hG)
                intro K hK
                go_simp
                go_at_call 27; (with_reducible refine (OD.out _).mono ?_); rintro e w6 ⟨rfl, hb6⟩
                replace hG := Grew.trans hG hb6
                (try dsimp only)
                (with_reducible refine hK _ _ hG ?_)
                clear hK K
                (repeat ((first | (with_reducible refine ord_q1 ?_) | (with_reducible refine ord_q0 ?_)); intro K hK; first | (refine Or.inr ⟨?_, ?_⟩; (focus (go_simp; first | done | (simp [undef]; done))); go_simp; (with_reducible refine hK _ ?_); clear hK K) | (refine Or.inl ⟨?_, ?_⟩; (focus (go_simp; done)); apply Exists.intro; refine And.intro ?_ ?_; (focus (first | (intro wq hq; obtain ⟨hcq, hfq⟩ := G.old hq; go_simp; (first | done | exact rfl); done) | (intro wq; go_simp; (first | done | exact rfl); done))); go_simp; (with_reducible refine hK _ ?_); clear hK K) | fail))
                (with_reducible refine ord_tail ?_)
                intro K hK
                go_simp
                go_at_call 28
                (refine (Ap.append HP.out bxT_frm (HA.out.grow (apL_frm bxT_frm) hG.b) HP0.out (dt := dt) (by omega) (by omega) (by have := HB.out.1.cnt; omega) (by have := HB.out.1.used; have := HB.out.1.room; omega)).mono ?_)
                rintro e w7 ⟨rfl, t, ht, hPt, hO⟩
                clear hG q0 q1 q2 q8 q9 lt8 lt9 ltq x8 x9
                (with_reducible refine hK _ _ ?_)
                clear hK K
                (repeat ((first | (with_reducible refine ord_q1 ?_) | (with_reducible refine ord_q0 ?_)); intro K hK; first | (refine Or.inr ⟨?_, ?_⟩; (focus (go_simp; first | done | (simp [undef]; done))); go_simp; (with_reducible refine hK _ ?_); clear hK K) | (refine Or.inl ⟨?_, ?_⟩; (focus (go_simp; done)); apply Exists.intro; refine And.intro ?_ ?_; (focus (first | (intro wq hq; obtain ⟨hcq, hfq⟩ := G.old hq; go_simp; (first | done | exact rfl); done) | (intro wq; go_simp; (first | done | exact rfl); done))); go_simp; (with_reducible refine hK _ ?_); clear hK K) | fail))
                (with_reducible refine ord_nil ?_)
                have HO7 := Lib.hid hO
                obtain ⟨S8, hbx8⟩ := Ap.bxs hO
                obtain ⟨x8, x9⟩ := bxT_get hbx8
                have q9 := (x9.2 0 _ rfl).1
                unfold ptr at q9
                have lt9 := x9.lt
                obtain ⟨ga, oa, hAe, hal, q0, q1, q2, _, _⟩ := (HOP.out.grow hO.below).at_ hx.out
                cases hAe
                dsimp only at q0 q1 q2
                have ltq := cell_lt q0
                dsimp only at ltq
                have hMt := HM0.out.app HP0.out.inv.fls.shp dt
                have hrr : m0.recs.length = R0.length := by rw [HM0.out.agr.recs]
                clear hbx8 x8 x9 hO
                go_wp2_with fail
                refine wp_region_ord [(0, 0), (1, 1), (2, 1), (3, 1), (4, 1), (5, 1), (6, 1), (7, 1), (8, 2), (9, 3), (10, 0), (11, 0), (12, 0), (13, 0), (14, 0)] [9] 16 (by kernel_rfl) (by decide +kernel) ?_
                simp only [pickO, List.append_eq, List.cons_append, List.nil_append, List.getElem?_cons_succ, List.getElem?_cons_zero]
                intro w0 hG
                (repeat ((first | (with_reducible refine ord_q1 ?_) | (with_reducible refine ord_q0 ?_)); intro K hK; first | (refine Or.inr ⟨?_, ?_⟩; (focus (go_simp; first | done | (simp [undef]; done))); go_simp; (with_reducible refine hK _ ?_); clear hK K) | (refine Or.inl ⟨?_, ?_⟩; (focus (go_simp; done)); apply Exists.intro; refine And.intro ?_ ?_; (focus (first | (intro wq hq; obtain ⟨hcq, hfq⟩ := G.old hq; go_simp; (first | done | exact rfl); done) | (intro wq; go_simp; (first | done | exact rfl); done))); go_simp; (with_reducible refine hK _ ?_); clear hK K) | fail))
                (with_reducible refine ord_run ?_ hG)
                intro K hK
                go_simp
                go_at_call 27; (with_reducible refine (OD.out _).mono ?_); rintro e w8 ⟨rfl, hb6⟩
                replace hG := Grew.trans hG hb6
                (try dsimp only)
                (with_reducible refine hK _ _ hG ?_)
                clear hK K
                (repeat ((first | (with_reducible refine ord_q1 ?_) | (with_reducible refine ord_q0 ?_)); intro K hK; first | (refine Or.inr ⟨?_, ?_⟩; (focus (go_simp; first | done | (simp [undef]; done))); go_simp; (with_reducible refine hK _ ?_); clear hK K) | (refine Or.inl ⟨?_, ?_⟩; (focus (go_simp; done)); apply Exists.intro; refine And.intro ?_ ?_; (focus (first | (intro wq hq; obtain ⟨hcq, hfq⟩ := G.old hq; go_simp; (first | done | exact rfl); done) | (intro wq; go_simp; (first | done | exact rfl); done))); go_simp; (with_reducible refine hK _ ?_); clear hK K) | fail))
                (with_reducible refine ord_tail ?_)
                intro K hK
                go_simp
                go_at_call 26
                have MD := Ap.mod bxT_frm (HO7.out.grow (apL_frm bxT_frm) hG.b) (fun S0 hx => mapp_any hx dt (by omega) (by have := hszs'.out; omega) (by have := hszs'.out; omega) (by have := hszs'.out; omega))
                rw [hrr] at MD
                (with_reducible refine MD.mono ?_)
                clear MD
                rintro e w9 ⟨rfl, hO⟩
                clear hG q0 q1 q2 q9 lt9 ltq hrr
                (with_reducible refine hK _ _ ?_)
                clear hK K
                (repeat ((first | (with_reducible refine ord_q1 ?_) | (with_reducible refine ord_q0 ?_)); intro K hK; first | (refine Or.inr ⟨?_, ?_⟩; (focus (go_simp; first | done | (simp [undef]; done))); go_simp; (with_reducible refine hK _ ?_); clear hK K) | (refine Or.inl ⟨?_, ?_⟩; (focus (go_simp; done)); apply Exists.intro; refine And.intro ?_ ?_; (focus (first | (intro wq hq; obtain ⟨hcq, hfq⟩ := G.old hq; go_simp; (first | done | exact rfl); done) | (intro wq; go_simp; (first | done | exact rfl); done))); go_simp; (with_reducible refine hK _ ?_); clear hK K) | fail))
                (with_reducible refine ord_nil ?_)
                have hPb := HP1.out.other ht hPt.up (by decide)
                have hB2 := HB.out.1.step ht (kx_own _) (by omega) (by omega)
                go_wp2_with fail
                refine ⟨⟨i + 1, t, _, _, n0, _, _, l1, R1, n1, g1, m1, by omega, rfl, Lib.hid hO, Lib.hid hPt, Lib.hid hMt, Lib.hid hPb, HM1, Lib.hid ⟨hB2, by rw [List.length_append]; have := HB.out.2.1; simp; omega, by have := HB.out.2.2; omega⟩⟩, by simp [intOf]; omega⟩
          · obtain rfl : i = N := by omega
            have hlt' : ¬ (i : Int) < (i : Int) := by omega
            obtain ⟨S8, hbx8⟩ := Ap.bxs H.out
            obtain ⟨x8, x9⟩ := bxT_get hbx8
            have q80 := (x8.2 0 _ rfl).1
            have q81 := (x8.2 1 _ rfl).1
            have q90 := (x9.2 0 _ rfl).1
            have q91 := (x9.2 1 _ rfl).1
            unfold ptr at q80 q81 q90 q91
            have lt8 := x8.lt
            have lt9 := x9.lt
            clear hbx8 x8 x9
            have AG0 := Lib.hid (Ap.agrees HP.out H.out HP0.out HM0.out)
            have AG1 := Lib.hid (fun (wx : World) (hb : Below wr.heap.size wr wx) => Ap.agrees HP.out (Ap.swap (H.out.grow (apL_frm bxT_frm) hb)) HP1.out HM1.out)
            obtain ⟨SD, hD⟩ := Ap.dev H.out
            have CT := Lib.hid (fun (wx : World) (hb : Below wr.heap.size wr wx) => contents_any (hD.grow hb) HP0.out.good.ok kx (by decide))
            obtain ⟨DX, hDX⟩ := HB.out.1.x
            rw [text_of HP0.out.up hDX, show B kx = (⟨#[108, 111, 103, 45, 120]⟩ : ByteArray) from rfl, show B [97, 98, 99] = (⟨#[97, 98, 99]⟩ : ByteArray) from rfl] at CT
            have hbl := H.out.below
            clear hD hDX
            go_wp2_with fail
            go_at_call 37
            (with_reducible refine AG0.out.mono ?_)
            rintro e wA ⟨rfl, hbA⟩
            replace q81 := G.cell q81 hbA
            replace q91 := G.cell q91 hbA
            replace lt8 := cell_lt q81
            replace lt9 := cell_lt q91
            dsimp only at lt8 lt9
            clear q80 q90 AG0
            go_wp2_with fail
            go_at_call 37
            (with_reducible refine (AG1.out _ hbA).mono ?_)
            rintro e wB ⟨rfl, hbB⟩
            replace hbB := G.trans hbA hbB
            clear q81 q91 lt8 lt9 AG1 hbA
            go_wp2_with fail
            go_at_call 29
            (with_reducible refine (CT.out _ hbB).mono ?_)
            rintro e wC ⟨rfl, hbC⟩
            replace hbC := G.trans hbl (G.trans hbB hbC)
            go_wp2_with fail
            go_ret
            exact ⟨rfl, hbC⟩
  · have hN' : (30 : Int) < (N : Int) := by omega
    go_enter Tryz.func9, Tryz.ntmps9
    go_wp2_with fail
    go_at_call 13
    (with_reducible refine (KN.out _ (G.refl w)).mono ?_)
    rintro e w1 ⟨rfl, hb1⟩
    go_wp2_with fail
    go_at_call 13
    (with_reducible refine (KN.out _ hb1).mono ?_)
    rintro e w2 ⟨rfl, hb2⟩
    replace hb2 := G.trans hb1 hb2
    go_wp2_with fail
    go_ret
    exact ⟨rfl, hb2⟩
end Go.Proofs.YtbafnlccpbonmaaGreatDoor
