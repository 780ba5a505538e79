/- known -/
import Derived.Test.YtbafnlccpbonmaaGreatDoorOp4
import Derived.Test.YtbafnlccpbonmaaGreatDoorGMh
import Derived.Test.YtbafnlccpbonmaaGreatDoorGMe
namespace Go.Proofs.YtbafnlccpbonmaaGreatDoor
set_option linter.unusedVariables false
set_option linter.unnecessarySimpa false
set_option linter.unusedSimpArgs false
open Go.RowKit

abbrev No : Nat → Prop := fun _ => False
section
variable {w0 w w' : World} {d L : Nat} {s s' : Ds} {l l' : Lg} {S : Nat → Prop} {nm : List UInt8}
theorem open_any (h : DevW w d S s) (hg : s.Good) (hnm : NmL s.fs) (hp : Pow10 w) (hv : LibVars w) (hns : ¬ S 3) (nm : List UInt8) (lim : Int) :
    Calls Tryz.prog 25 #[.pointer (some ⟨d, 0, none⟩), .string (B nm), .int .i64 lim] w (RetO d S (openG s nm lim) w) := by
  by_cases hd : s.down = true
  · rw [show openG s nm lim = (31, s, none) by unfold openG; rw [if_pos hd]]
    exact open_down h hd (B nm) lim
  · have hd' : s.down = false := by simpa using hd
    by_cases hn : nameC nm = true
    · by_cases hl : lim < 64 ∨ 4194304 < lim
      · rw [show openG s nm lim = (2, s, none) by unfold openG; rw [if_neg hd, if_neg (by rw [hn]; decide), if_pos hl]]
        exact open_limit h hd' hn hl
      · exact open_ok h hg hnm hp hv hns hd' hn hl
    · have hn' : nameC nm = false := by simpa using hn
      rw [show openG s nm lim = (12, s, none) by unfold openG; rw [if_neg hd, if_pos hn']]
      exact open_name h hd' hn' lim
theorem LX.fd (h : LX w0 No No w d L s l) : FD w0 w d s := by
  obtain ⟨⟨S, T, h1, h2, h3, h4, h5⟩, hc⟩ := h
  exact ⟨⟨S, h1, fun x hx => (h4 x hx).resolve_left id⟩, below_chg (Below.refl _ w0) (S := fun x => No x ∨ No x) (fun x hx => by rcases hx with hx | hx <;> exact hx.elim) hc⟩
theorem LX.below (h : LX w0 No No w d L s l) : Below w0.heap.size w0 w := h.fd.below
/-- What Open gives on a device that was made since w0. -/
def RetOF (w0 : World) (d : Nat) (R : Int × Ds × Option Lg) (e : Ending) (w' : World) : Prop :=
  (∃ x s', R = (x, s', none) ∧ e = .returned (.tuple #[.pointer none, .int .i64 x]) ∧ FD w0 w' d s') ∨
  (∃ s' l L, R = (0, s', some l) ∧ e = .returned (.tuple #[.pointer (some ⟨L, 0, none⟩), .int .i64 0]) ∧ LX w0 No No w' d L s' l)
theorem FD.open (h : FD w0 w d s) (hg : s.Good) (hnm : NmL s.fs) (hp : Pow10 w0) (hv : LibVars w0) (nm : List UInt8) (lim : Int) :
    Calls Tryz.prog 25 #[.pointer (some ⟨d, 0, none⟩), .string (B nm), .int .i64 lim] w (RetOF w0 d (openG s nm lim)) := by
  obtain ⟨S, h1, h2⟩ := h.dev
  have hb := h.below
  refine (open_any h1 hg hnm (hp.grow hb) (hv.grow hb) (fun hx => by have := h2 _ hx; have := hp.lt; omega) nm lim).mono fun e w' hr => ?_
  rcases hr with ⟨x, s', hR, he, hd⟩ | ⟨s', l, L, hR, he, hx⟩
  · exact .inl ⟨x, s', hR, he, FD.of_ret hb h2 hd⟩
  · refine .inr ⟨s', l, L, hR, he, ?_⟩
    obtain ⟨⟨S', T, k1, k2, k3, k4, k5⟩, kc⟩ := hx
    have hs := hb.size
    refine ⟨⟨S', T, k1, k2, k3, fun x hx => .inr ?_, fun x hx => .inr ?_⟩, (DChg.of_below (S := fun x => No x ∨ No x) hb).trans kc fun x hx => .inr ?_⟩
    · rcases k4 x hx with h6 | h6
      · exact h2 x h6
      · omega
    · rcases k5 x hx with h6 | h6
      · exact h6.elim
      · omega
    · rcases hx with h6 | h6
      · exact h2 x h6
      · exact h6.elim
theorem EnvL.no (hp : Pow10 w0) : EnvL w0 No No := ⟨hp, id, id⟩
end
end Go.Proofs.YtbafnlccpbonmaaGreatDoor

namespace Go.Proofs.YtbafnlccpbonmaaGreatDoor
set_option linter.unusedVariables false
set_option linter.unnecessarySimpa false
set_option linter.unusedSimpArgs false
open Go.RowKit

theorem inv_fresh {nm : List UInt8} {s : Ds} (hd : s.down = false) (hl : s.lim = false) (hg : s.Good) (hn : nameC nm = true) {lim : Int} (hlim : 64 ≤ lim ∧ lim ≤ 4194304) (hno : ∀ m, OwnF nm m → lkC s.fs m = none) :
    ∃ t, openG s nm lim = (0, t, some ⟨nm, lim, [], 0⟩) ∧ t.down = false ∧ Stp (OwnF nm) 0 0 2 s t ∧ Inv nm t ⟨nm, lim, [], 0⟩ [] 1 [] := by
  have hF : Fil nm s.fs 1 [] 0 [] := ⟨fun a r b e => by simp at e, fun a r e => by simp at e, fun x hx _ => hno _ ⟨x, hx, rfl⟩⟩
  have hS : Shp [] 1 [] := ⟨by omega, by simp, rfl, fun a r b e => by simp at e, fun _ => rfl, by simp⟩
  rcases open_inv hF hS hg hd hn hlim (.inl rfl) with ⟨t, e, k1, k2, k3⟩ | ⟨e1, _⟩
  · exact ⟨t, e, k1, k2, k3⟩
  · rw [hl] at e1
    cases e1
/-- A log on a device whose power does not fail, made since w0. -/
structure LI (w0 w : World) (d L : Nat) (nm : List UInt8) (s : Ds) (l : Lg) (R : List (List UInt8)) (n : Nat) (g : List (List (List UInt8))) : Prop where
  lx : LX w0 No No w d L s l
  inv : Inv nm s l R n g
  good : s.Good
  up : s.down = false
  free : s.lim = false
  nml : NmL s.fs
section
variable {w0 w w' : World} {d L : Nat} {s t : Ds} {l l' : Lg} {nm : List UInt8} {R : List (List UInt8)} {n : Nat} {g : List (List (List UInt8))} {dt : List UInt8}
theorem Inv.ok (h : Inv nm s l R n g) : l.Ok := by
  have h1 := h.fls.shp.cnt
  have h2 := h.fls.shp.small.1
  have h3 := h.fls.le
  refine ⟨fun p hp => ?_, by rw [h.parts, ptsG_len]; omega, h.dur0, by omega, h.lim⟩
  rw [h.parts] at hp
  exact h.fls.shp.ptOk p hp
theorem LI.grow (h : LI w0 w d L nm s l R n g) (hb : Below w.heap.size w w') : LI w0 w' d L nm s l R n g := ⟨h.lx.grow hb, h.inv, h.good, h.up, h.free, h.nml⟩
theorem LI.below (h : LI w0 w d L nm s l R n g) : Below w0.heap.size w0 w := h.lx.below
theorem LI.step (h : LI w0 w d L nm s l R n g) {a b c : Nat} {P : List UInt8 → Prop} (hs : Stp P a b c s t) (hu : t.down = false) {R' : List (List UInt8)} {n' : Nat} {g' : List (List (List UInt8))} (hx : LX w0 No No w' d L t l') (hi : Inv nm t l' R' n' g') : LI w0 w' d L nm t l' R' n' g' :=
  ⟨hx, hi, hs.good h.good, hu, hs.lim.trans h.free, hs.nml h.nml⟩
theorem LI.Append (hp : Pow10 w0) (h : LI w0 w d L nm s l R n g) (h1 : R.length < 1000) (h2 : dt.length ≤ 1000) (hc : s.fs.length < 4096) (hr : ((usedC s.fs + (16 + dt.length) : Nat) : Int) ≤ s.room) :
    Calls Tryz.prog 28 #[.pointer (some ⟨L, 0, none⟩), .string (B dt)] w fun e w' => e = .returned (.tuple #[.int .i64 ((R.length + 1 : Nat) : Int), .int .i64 0]) ∧
      ∃ t, Stp (OwnF nm) (16 + dt.length) 1 3 s t ∧ LI w0 w' d L nm t ⟨l.name, l.limit, ptsG n (appG l.limit g dt), rotK l.limit g (16 + dt.length) R l.dur⟩ (R ++ [dt]) n (appG l.limit g dt) := by
  refine (h.lx.Append (EnvL.no hp) h.inv.ok h.good dt (by omega)).mono fun e w' hh => ?_
  rcases h.inv.app h.good h.up h1 h2 hc hr with ⟨t, e1, k1, k2, k3⟩ | ⟨e1, _⟩
  · rw [e1] at hh
    exact ⟨hh.1, t, k2, h.step k2 k1 hh.2 k3⟩
  · rw [h.free] at e1
    cases e1
theorem LI.Sync (hp : Pow10 w0) (h : LI w0 w d L nm s l R n g) :
    Calls Tryz.prog 34 #[.pointer (some ⟨L, 0, none⟩)] w fun e w' => e = .returned (.int .i64 0) ∧ ∃ t, Stp (OwnF nm) 0 0 1 s t ∧ LI w0 w' d L nm t { l with dur := R.length } R n g := by
  refine (h.lx.Sync (EnvL.no hp) h.inv.ok).mono fun e w' hh => ?_
  rcases h.inv.sync h.good h.up with ⟨t, e1, k1, k2, k3⟩ | ⟨e1, _⟩
  · rw [e1] at hh
    exact ⟨hh.1, t, k2, h.step k2 k1 hh.2 k3⟩
  · rw [h.free] at e1
    cases e1
theorem LI.Drop (hp : Pow10 w0) (h : LI w0 w d L nm s l R n g) (b : Int) :
    Calls Tryz.prog 35 #[.pointer (some ⟨L, 0, none⟩), .int .i64 b] w fun e w' => e = .returned (.tuple #[.int .i64 (((drpG b n g).1 : Nat) : Int), .int .i64 0]) ∧
      ∃ t, Stp (OwnF nm) 0 0 (drpG b n g).1 s t ∧ LI w0 w' d L nm t { l with parts := ptsG (drpG b n g).2.1 (drpG b n g).2.2 } R (drpG b n g).2.1 (drpG b n g).2.2 := by
  have hc : l.parts.length ≤ 100000000 := h.inv.ok.2.1
  refine (h.lx.Drop (EnvL.no hp) hc b).mono fun e w' hh => ?_
  rw [h.inv.nam, h.inv.parts] at hh
  rcases h.inv.fls.dropAll (b := b) g n 0 s h.good h.up with ⟨t, e1, k1, k2, k3⟩ | ⟨e1, _⟩
  · rw [e1, Nat.zero_add] at hh
    exact ⟨hh.1, t, k2, h.step k2 k1 (by rw [h.inv.nam]; exact hh.2) ⟨h.inv.nam, h.inv.lim, rfl, h.inv.dur0, k3⟩⟩
  · rw [h.free] at e1
    cases e1
theorem LI.Last (h : LI w0 w d L nm s l R n g) : Calls Tryz.prog 33 #[.pointer (some ⟨L, 0, none⟩)] w fun e w' => e = .returned (.int .i64 (R.length : Int)) ∧ LI w0 w' d L nm s l R n g := by
  have := h.lx.mLast h.inv.ok
  rw [h.inv.last] at this
  exact this.mono fun e w' hh => ⟨hh.1, hh.2, h.inv, h.good, h.up, h.free, h.nml⟩
theorem LI.First (h : LI w0 w d L nm s l R n g) : Calls Tryz.prog 40 #[.pointer (some ⟨L, 0, none⟩)] w fun e w' => e = .returned (.int .i64 (n : Int)) ∧ LI w0 w' d L nm s l R n g := by
  have := h.lx.mFirst
  rw [h.inv.frst] at this
  exact this.mono fun e w' hh => ⟨hh.1, hh.2, h.inv, h.good, h.up, h.free, h.nml⟩
/-- Open on a device that has none of the log's files. -/
theorem FD.fresh (h : FD w0 w d s) (hp : Pow10 w0) (hv : LibVars w0) (hd : s.down = false) (hl : s.lim = false) (hg : s.Good) (hnm : NmL s.fs) (hn : nameC nm = true) {lim : Int} (hlim : 64 ≤ lim ∧ lim ≤ 4194304) (hno : ∀ m, OwnF nm m → lkC s.fs m = none) :
    Calls Tryz.prog 25 #[.pointer (some ⟨d, 0, none⟩), .string (B nm), .int .i64 lim] w fun e w' => ∃ L, e = .returned (.tuple #[.pointer (some ⟨L, 0, none⟩), .int .i64 0]) ∧ ∃ t, Stp (OwnF nm) 0 0 2 s t ∧ LI w0 w' d L nm t ⟨nm, lim, [], 0⟩ [] 1 [] := by
  refine (h.open hg hnm hp hv nm lim).mono fun e w' hh => ?_
  obtain ⟨t, e1, k1, k2, k3⟩ := inv_fresh hd hl hg hn hlim hno
  rw [e1] at hh
  rcases hh with ⟨x, s', hR, he, hx⟩ | ⟨s', l, L, hR, he, hx⟩
  · simp at hR
  · simp only [Prod.mk.injEq, Option.some.injEq, true_and] at hR
    obtain ⟨rfl, rfl⟩ := hR
    exact ⟨L, he, t, k2, hx, k3, k2.good hg, k1, k2.lim.trans hl, k2.nml hnm⟩
end
/-! ### known -/
def kd : List UInt8 := [49, 50, 51, 52, 53, 54, 55, 56, 57, 48, 49, 50, 51, 52, 53, 54, 55, 56, 57, 48]
def kn : List UInt8 := [108, 111, 103]
theorem kcrc : (crcL [49, 50, 51, 52, 53, 54, 55, 56, 57] : Int) = 3421780262 := by kernel_rfl
theorem kfr : frameR 1 [97] = ([0, 0, 0, 1, 0, 0, 0, 0, 0, 0, 0, 1, 195, 24, 77, 51, 97], 0) := by kernel_rfl
/-- The segments behind k appends. -/
def kg (k : Nat) : List (List (List UInt8)) := List.replicate k [kd]
theorem ka : ∀ k, k ≤ 2 → appG 64 (kg k) kd = kg (k + 1)
  | 0, _ => by kernel_rfl
  | 1, _ => by kernel_rfl
  | 2, _ => by kernel_rfl
  | k + 3, h => by omega
theorem kdrop : drpG 3 1 (kg 3) = (2, 3, [[kd]]) := by kernel_rfl
theorem own_none (nm m : List UInt8) : lkC ([] : List Fl) m = none := rfl
set_option maxRecDepth 20000 in set_option maxHeartbeats 4000000 in
theorem known_any (w : World) (hp : Pow10 w) (hv : LibVars w) : Calls Tryz.prog 13 #[] w fun e w' => e = .returned (.bool true) ∧ Below w.heap.size w w' := by
  have HP := Lib.hid hp
  have HV := Lib.hid hv
  have FA := Lib.hid (fun (wx : World) => frame_any 1 [97] (by decide) wx)
  rw [kfr, show B [97] = (⟨#[97]⟩ : ByteArray) from rfl] at FA
  have CK := Lib.hid (fun (wx : World) => checksum_any ⟨#[49, 50, 51, 52, 53, 54, 55, 56, 57]⟩ (by decide) wx)
  rw [show ((crcL ((⟨#[49, 50, 51, 52, 53, 54, 55, 56, 57]⟩ : ByteArray).data.toList) : Nat) : Int) = 3421780262 from kcrc] at CK
  have i1 : (B [0, 0, 0, 1, 0, 0, 0, 0, 0, 0, 0, 1, 195, 24, 77, 51, 97]) = ⟨#[0, 0, 0, 1, 0, 0, 0, 0, 0, 0, 0, 1, 195, 24, 77, 51, 97]⟩ := rfl
  dsimp only at FA
  rw [i1] at FA
  clear hp hv i1
  go_enter Tryz.func13, Tryz.ntmps13
  go_wp2_with fail
  go_at_call 12
  (with_reducible refine (FA.out _).mono ?_)
  rintro e w1 ⟨rfl, hb1⟩
  clear FA
  go_wp2_with fail
  refine (new_any 1000 (by decide) (by decide)).mono ?_
  intro e w2 hr
  obtain ⟨d, rfl, F0⟩ := FD.new (w0 := w) hb1 hr
  replace F0 := Lib.hid F0
  clear hr hb1
  go_wp2_with fail
  go_at_call 14
  (with_reducible refine (CK.out _).mono ?_)
  rintro e w3 ⟨rfl, hb3⟩
  replace F0 := Lib.hid (F0.out.grow hb3)
  clear CK hb3
  go_wp2_with fail
  go_at_call 25
  have hop := FD.fresh F0.out HP.out HV.out rfl rfl (new_good (by decide) (by decide)) (fun f hf => by cases hf) (nm := kn) rfl (lim := 64) (by decide) (fun m _ => rfl)
  rw [show B kn = (⟨#[108, 111, 103]⟩ : ByteArray) from rfl] at hop
  (with_reducible refine hop.mono ?_)
  clear hop F0
  rintro e w4 ⟨L, rfl, s0, hs0, h0⟩
  have hS0 := Lib.hid hs0
  have H0 := Lib.hid h0
  clear hs0 h0
  go_wp2_with fail
  go_loopw [7] (fun iv wr => ∃ (k : Nat) (s : Ds) (l : Lg), k ≤ 3 ∧ iv = .int .i64 ((k + 1 : Nat) : Int) ∧ Hid (LI w wr d L kn s l (List.replicate k kd) 1 (kg k)) ∧ Hid (l.limit = 64 ∧ usedC s.fs ≤ 36 * k ∧ s.fs.length ≤ k ∧ s.room = 1000)) (fun iv _ => 5 - (intOf iv).toNat)
  case atStart =>
    refine ⟨0, s0, _, by omega, rfl, H0, Lib.hid ⟨rfl, ?_, ?_, ?_⟩⟩
    · have := hS0.out.used; exact this
    · have := hS0.out.cnt; exact this
    · exact hS0.out.room
  case round =>
    obtain ⟨k, s, l, hk, rfl, H, HQ⟩ := hrel
    clear H0 hS0
    by_cases hk3 : k < 3
    · have hk4 : ((k + 1 : Nat) : Int) ≤ 3 := by omega
      have hw1 : IntKind.i64.wrap (((k + 1 : Nat) : Int) + 1) = ((k + 1 + 1 : Nat) : Int) := by rw [IntWalk.i64_in _ (by omega)]; omega
      have hrl : (List.replicate k kd).length = k := List.length_replicate
      have AP := Lib.hid (H.out.Append HP.out (dt := kd) (by rw [hrl]; omega) (by decide) (by have := HQ.out.2.2.1; omega) (by have := HQ.out.2.1; have := HQ.out.2.2.2; rw [show kd.length = 20 from rfl]; omega))
      rw [hrl, HQ.out.1, ka k (by omega), show List.replicate k kd ++ [kd] = List.replicate (k + 1) kd from List.replicate_succ'.symm] at AP
      rw [show B kd = (⟨#[49, 50, 51, 52, 53, 54, 55, 56, 57, 48, 49, 50, 51, 52, 53, 54, 55, 56, 57, 48]⟩ : ByteArray) from rfl] at AP
      go_wp2_with fail
      go_at_call 28
      (with_reducible refine AP.out.mono ?_)
      clear AP
      rintro e w5 ⟨rfl, t, ht, hL⟩
      replace hL := Lib.hid hL
      replace ht := Lib.hid ht
      go_wp2_with fail
      refine ⟨⟨k + 1, t, _, by omega, rfl, hL, Lib.hid ⟨rfl, ?_, ?_, ?_⟩⟩, by simp [intOf]; omega⟩
      · have := ht.out.used; have := HQ.out.2.1; rw [show kd.length = 20 from rfl] at *; omega
      · have := ht.out.cnt; have := HQ.out.2.2.1; omega
      · rw [ht.out.room]; exact HQ.out.2.2.2
    · obtain rfl : k = 3 := by omega
      have hk4 : ¬ (((3 + 1 : Nat) : Int)) ≤ 3 := by omega
      have DP := Lib.hid (H.out.Drop HP.out 3)
      rw [kdrop] at DP
      go_wp2_with fail
      go_at_call 35
      (with_reducible refine DP.out.mono ?_)
      clear DP
      rintro e w5 ⟨rfl, t, ht, hL⟩
      replace hL := Lib.hid hL
      clear ht
      go_wp2_with fail
      go_at_call 40
      (with_reducible refine hL.out.First.mono ?_)
      rintro e w6 ⟨rfl, hL6⟩
      replace hL6 := Lib.hid hL6
      clear hL
      go_wp2_with fail
      go_at_call 33
      (with_reducible refine hL6.out.Last.mono ?_)
      rintro e w7 ⟨rfl, hL7⟩
      replace hL7 := Lib.hid hL7
      clear hL6
      go_wp2_with fail
      go_ret
      exact ⟨rfl, hL7.out.below⟩
end Go.Proofs.YtbafnlccpbonmaaGreatDoor
