/- Plain Lean: a log on a device whose power may fail. -/
import Derived.Test.YtbafnlccpbonmaaGreatDoorLg2
namespace Go.Proofs.YtbafnlccpbonmaaGreatDoor
set_option linter.unusedVariables false
set_option linter.unnecessarySimpa false
set_option linter.unusedSimpArgs false
open Go.RowKit

section
variable {s t u : Ds} {l : Lg} {X R : List (List UInt8)} {dv kp n : Nat} {g : List (List (List UInt8))} {d : List UInt8} {nm : List UInt8}
/-- The durable number never falls. -/
theorem lsync_dur (s : Ds) (h : l.dur ≤ l.last) : l.dur ≤ (lsync s l).2.2.dur := by
  unfold lsync
  split
  · exact Int.le_refl _
  · split
    · exact Int.le_refl _
    · exact h
theorem lnew_dur (s : Ds) (l : Lg) (n : Int) : (lnew s l n).2.2.dur = l.dur := by
  unfold lnew
  split <;> rfl
theorem lrot_dur (s : Ds) (h : l.dur ≤ l.last) (n z : Int) : l.dur ≤ (lrot s l n z).2.2.dur := by
  unfold lrot
  split
  · rw [lnew_dur]; exact Int.le_refl _
  · split
    · exact Int.le_refl _
    · split
      · exact lsync_dur s h
      · rw [lnew_dur]; exact lsync_dur s h
theorem more_dur (l : Lg) (z : Nat) : (l.more z).dur = l.dur := by
  unfold Lg.more
  split <;> rfl
theorem ladd_dur (s : Ds) (l : Lg) (n : Int) (t : List UInt8) : (ladd s l n t).2.2.dur = l.dur := by
  unfold ladd
  split
  · rfl
  · split
    · rfl
    · exact more_dur _ _
theorem lapp_dur (s : Ds) (h : l.dur ≤ l.last) (d : List UInt8) : l.dur ≤ (lapp s l d).2.2.dur := by
  unfold lapp
  split
  · exact Int.le_refl _
  · split
    · exact Int.le_refl _
    · split
      · exact lrot_dur s h _ _
      · rw [ladd_dur]; exact lrot_dur s h _ _
/-- What a log's files hold, whatever became of the power: at least dv records and at most X, from a number up to kp on. -/
structure Rcv (s : Ds) (l : Lg) (X : List (List UInt8)) (dv kp : Nat) : Prop where
  good : s.Good
  nml : NmL s.fs
  dur0 : 0 ≤ l.dur
  fls : ∃ R n g K, Fls kn s.fs R n g K ∧ R <+: X ∧ (dv : Int) ≤ K ∧ l.dur ≤ K ∧ n ≤ kp
/-- The log while the power lasts. -/
structure Upr (s : Ds) (l : Lg) (X : List (List UInt8)) (dv kp n : Nat) (g : List (List (List UInt8))) : Prop where
  good : s.Good
  nml : NmL s.fs
  up : s.down = false
  inv : Inv kn s l X n g
  n : n ≤ kp
  dv : (dv : Int) ≤ l.dur
theorem Upr.rcv (h : Upr s l X dv kp n g) : Rcv s l X dv kp := ⟨h.good, h.nml, h.inv.dur0, X, n, g, l.dur, h.inv.fls, List.prefix_refl _, h.dv, Int.le_refl _, h.n⟩
theorem Upr.sync (h : Upr s l X dv kp n g) :
    (∃ t l', lsync s l = (0, t, l') ∧ Upr t l' X X.length kp n g ∧ Stp (OwnF kn) 0 0 1 s t) ∨ (∃ t l', lsync s l = (31, t, l') ∧ t.down = true ∧ Rcv t l' X dv kp ∧ Stp (OwnF kn) 0 0 1 s t) := by
  rcases h.inv.sync h.good h.up with ⟨t, e, k1, k2, k3⟩ | ⟨_, _, t, e, k1, k2, k3, _⟩
  · exact .inl ⟨t, _, e, ⟨k2.good h.good, k2.nml h.nml, k1, k3, h.n, Int.le_refl _⟩, k2⟩
  · exact .inr ⟨t, _, e, k1, ⟨k2.good h.good, k2.nml h.nml, k3.dur0, X, n, g, l.dur, k3.fls, List.prefix_refl _, h.dv, Int.le_refl _, h.n⟩, k2⟩
theorem drp_le (b : Int) : ∀ (g : List (List (List UInt8))) (n : Nat), (drpG b n g).1 ≤ g.length
  | [], n => Nat.zero_le _
  | [r], n => Nat.zero_le _
  | r :: q :: g, n => by
    by_cases h : ((n + r.length : Nat) : Int) ≤ b
    · rw [drpG_go b n r q g h]
      have := drp_le b (q :: g) (n + r.length)
      simp only [List.length_cons] at *
      omega
    · rw [drpG_end b n r q g h]
      exact Nat.zero_le _
theorem Upr.drop (h : Upr s l X dv kp n g) (b : Nat) : ∃ x e t ps, ldrop kn (b : Int) s l.parts 0 = ((x, e), t, ps) ∧ Stp (OwnF kn) 0 0 g.length s t ∧
    ((∃ n' g', Upr t { l with parts := ps } X dv (max kp b) n' g') ∨ (t.down = true ∧ Rcv t { l with parts := ps } X dv (max kp b))) := by
  rw [h.inv.parts]
  rcases h.inv.fls.dropAll (b := (b : Int)) g n 0 s h.good h.up with ⟨t, e, k1, k2, k3⟩ | ⟨_, t, n', g', e, k1, k2, k3, k4⟩
  · have h4 := (drp_last (b : Int) g n).2.2.2
    have h5 := h.n
    refine ⟨_, _, t, _, e, k2.mono (Nat.le_refl _) (Nat.le_refl _) (drp_le _ _ _), .inl ⟨_, _, k2.good h.good, k2.nml h.nml, k1, ⟨h.inv.nam, h.inv.lim, rfl, h.inv.dur0, k3⟩, by omega, h.dv⟩⟩
  · have h5 := h.n
    exact ⟨_, _, t, _, e, k2, .inr ⟨k1, k2.good h.good, k2.nml h.nml, h.inv.dur0, X, n', g', l.dur, k3, List.prefix_refl _, h.dv, Int.le_refl _, by omega⟩⟩
theorem Upr.app (h : Upr s l X dv kp n g) (h1 : X.length < 1000) (h2 : d.length ≤ 1000) (hc : s.fs.length < 4096) (hr : ((usedC s.fs + (16 + d.length) : Nat) : Int) ≤ s.room) :
    (∃ t l' g', lapp s l d = ((((X.length + 1 : Nat) : Int), 0), t, l') ∧ Upr t l' (X ++ [d]) dv kp n g' ∧ Stp (OwnF kn) (16 + d.length) 1 3 s t) ∨
    (∃ t l', lapp s l d = ((0, 31), t, l') ∧ t.down = true ∧ Rcv t l' (X ++ [d]) dv kp ∧ Stp (OwnF kn) (16 + d.length) 1 3 s t) := by
  have hle : l.dur ≤ l.last := by rw [h.inv.last]; exact h.inv.fls.le
  have hdur := lapp_dur s hle d
  have hdv := h.dv
  rcases h.inv.app h.good h.up h1 h2 hc hr with ⟨t, e, k1, k2, k3⟩ | ⟨_, _, t, l', R', g', e, k1, k2, k3, k4, k5, k6⟩
  · rw [e] at hdur
    exact .inl ⟨t, _, _, e, ⟨k2.good h.good, k2.nml h.nml, k1, k3, h.n, Int.le_trans hdv hdur⟩, k2⟩
  · rw [e] at hdur
    refine .inr ⟨t, _, e, k1, ⟨k2.good h.good, k2.nml h.nml, k4, R', n, g', l'.dur, k6, ?_, Int.le_trans hdv hdur, Int.le_refl _, h.n⟩, k2⟩
    rcases k3 with rfl | rfl
    · exact List.prefix_append _ _
    · exact List.prefix_refl _
/-- The log when it was opened again. -/
structure Fin9 (u : Ds) (l : Lg) (X : List (List UInt8)) (D : Int) (kp : Nat) (R : List (List UInt8)) (n : Nat) (g : List (List (List UInt8))) : Prop where
  good : u.Good
  nml : NmL u.fs
  up : u.down = false
  inv : Inv kn u l R n g
  dur : l.dur = R.length
  pre : R <+: X
  least : D ≤ R.length
  n : n ≤ kp
theorem nml_start {fs : List Fl} (h : NmL fs) (ch : List UInt8) : NmL (startL fs ch) := fun f hf => by
  have h1 : f.name ∈ (startL fs ch).map Fl.name := List.mem_map_of_mem hf
  rw [start_names] at h1
  obtain ⟨y, hy, he⟩ := List.mem_map.1 h1
  rw [← he]
  exact h y hy
theorem Rcv.reopen (h : Rcv s l X dv kp) (ch : List UInt8) (q : Int) {most : Int} (hm : 64 ≤ most ∧ most ≤ 4194304) :
    (∃ u l2 R n g, openG (limitD (startD { s with down := true } ch) q) kn most = (0, u, some l2) ∧ Fin9 u l2 X (max (dv : Int) l.dur) kp R n g ∧ Stp (OwnF kn) 0 0 2 (limitD (startD { s with down := true } ch) q) u) ∨
    (∃ t, openG (limitD (startD { s with down := true } ch) q) kn most = (31, t, none) ∧ t.down = true ∧ t.Good ∧ NmL t.fs ∧ Stp (OwnF kn) 0 0 2 (limitD (startD { s with down := true } ch) q) t ∧ ∀ ch2 : List UInt8,
      ∃ u l2 R n g, openG (startD t ch2) kn most = (0, u, some l2) ∧ Fin9 u l2 X (max (dv : Int) l.dur) kp R n g ∧ Stp (OwnF kn) 0 0 2 (startD t ch2) u) := by
  obtain ⟨R, n, g, K, hF, hR, hdv, hl, hn⟩ := h.fls
  obtain ⟨R', g', z, D', h1, h2, h3, h4, h5, h6⟩ := hF.start h.good ch
  have hg : (limitD (startD { s with down := true } ch) q).Good := limit_good (start_good (crash_good h.good) ch) q
  have hfs : (limitD (startD { s with down := true } ch) q).fs = startL s.fs ch := rfl
  have hnm : NmL (limitD (startD { s with down := true } ch) q).fs := nml_start h.nml ch
  have hK : max (dv : Int) l.dur ≤ R'.length := by omega
  rcases open_inv (s := limitD (startD { s with down := true } ch) q) h2 h3 hg rfl hF.name hm h4 with ⟨u, e, k1, k2, k3⟩ | ⟨_, t, D2, z2, e, k1, k2, k3, k4, k5⟩
  · exact .inl ⟨u, _, R', n, g', e, ⟨k2.good hg, k2.nml hnm, k1, k3, rfl, h1.trans hR, hK, hn⟩, k2⟩
  · refine .inr ⟨t, e, k1, k2.good hg, k2.nml hnm, k2, fun ch2 => ?_⟩
    have hst : startL t.fs ch2 = t.fs := start_full _ _ (k5 h6)
    have hg2 : (startD t ch2).Good := start_good (k2.good hg) ch2
    have hf2 : (startD t ch2).fs = t.fs := by unfold startD; rw [if_pos k1]; exact hst
    have hd2 : (startD t ch2).down = false := by unfold startD; rw [if_pos k1]
    have hl2 : (startD t ch2).lim = false := by unfold startD; rw [if_pos k1]
    rcases open_inv (s := startD t ch2) (D := D2) (z := z2) (hf2.symm ▸ k3) h3 hg2 hd2 hF.name hm (by rcases k4 with rfl | rfl; exact .inl rfl; exact h4) with ⟨u, e2, j1, j2, j3⟩ | ⟨e9, _⟩
    · exact ⟨u, _, R', n, g', e2, ⟨j2.good hg2, j2.nml (hf2.symm ▸ k2.nml hnm), j1, j3, rfl, h1.trans hR, hK, hn⟩, j2⟩
    · rw [hl2] at e9
      cases e9
theorem Inv.lmt (h : Inv nm s l R n g) (q : Int) : Inv nm (limitD s q) l R n g := ⟨h.nam, h.lim, h.parts, h.dur0, h.fls⟩
/-- What is left of the room. -/
structure Rm (s : Ds) : Prop where
  used : usedC s.fs ≤ 8640
  cnt : s.fs.length ≤ 40
  room : s.room = 1048576
theorem Rm.stp {P : List UInt8 → Prop} {c : Nat} (h : Rm s) (hs : Stp P 0 0 c s t) : Rm t := ⟨by have := h.used; have := hs.used; omega, by have := h.cnt; have := hs.cnt; omega, hs.room.trans h.room⟩
theorem Rm.lmt (h : Rm s) (q : Int) : Rm (limitD s q) := ⟨h.used, h.cnt, h.room⟩
theorem Rm.crash (h : Rm s) : Rm { s with down := true } := ⟨h.used, h.cnt, h.room⟩
theorem Rm.start (h : Rm s) (hg : s.Good) (ch : List UInt8) : Rm (startD s ch) := by
  unfold startD
  split
  · have h3 := start_names s.fs ch
    have h4 : (startL s.fs ch).length = s.fs.length := by have := congrArg List.length h3; simpa using this
    exact ⟨Nat.le_trans (start_le s.fs ch hg.ok.du) h.used, by show (startL s.fs ch).length ≤ 40; rw [h4]; exact h.cnt, h.room⟩
  · exact h
theorem Bnd.rm {i : Nat} (h : Bnd i s X) (hi : i ≤ 40) : Rm s := ⟨by have := h.used; omega, by have := h.cnt; omega, h.room⟩
def kag : List UInt8 := [97, 103, 97, 105, 110]
end
end Go.Proofs.YtbafnlccpbonmaaGreatDoor
