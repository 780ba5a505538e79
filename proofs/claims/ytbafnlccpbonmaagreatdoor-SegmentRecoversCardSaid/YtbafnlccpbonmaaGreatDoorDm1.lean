/- Plain Lean: a changed byte of a log's file. -/
import Derived.Test.YtbafnlccpbonmaaGreatDoorPl7
namespace Go.Proofs.YtbafnlccpbonmaaGreatDoor
set_option linter.unusedVariables false
set_option linter.unnecessarySimpa false
set_option linter.unusedSimpArgs false

/-- The frame of a record in its file. -/
theorem frames_split (m : Nat) {r : List (List UInt8)} {i : Nat} {d : List UInt8} (h : r[i]? = some d) : framesL m r = framesL m (r.take i) ++ (frameL (m + i) d ++ framesL (m + i + 1) (r.drop (i + 1))) := by
  have h1 := (List.getElem?_eq_some_iff.1 h).1
  have h2 : r.drop i = d :: r.drop (i + 1) := by rw [← (List.getElem?_eq_some_iff.1 h).2]; exact (List.getElem_cons_drop h1).symm
  conv => lhs; rw [← List.take_append_drop i r, h2]
  rw [framesL_app, framesL, List.length_take, Nat.min_eq_left (by omega)]
/-- Byte i of the frame of record i0 in the segment r is changed; all else is as it was. -/
structure Dmg (nm : List UInt8) (s t : Ds) (m : Nat) (r : List (List UInt8)) (i0 : Nat) (d : List UInt8) (i : Nat) (c : UInt8) : Prop where
  rcd : r[i0]? = some d
  lo : 4 ≤ i
  hi : i < 16 + d.length
  ne : (frameL (m + i0) d)[i]? ≠ some c
  file : ∃ D, lkC t.fs (fileL nm m) = some ⟨fileL nm m, framesL m (r.take i0) ++ ((frameL (m + i0) d).set i c ++ framesL (m + i0 + 1) (r.drop (i0 + 1))), D⟩
  rest : ∀ x, x ≠ fileL nm m → lkC t.fs x = lkC s.fs x
  good : t.Good
  up : t.down = false
  free : t.lim = false
section
variable {nm : List UInt8} {s t : Ds} {l : Lg} {R : List (List UInt8)} {n i0 i m : Nat} {c : UInt8} {g a b : List (List (List UInt8))} {r : List (List UInt8)} {d : List UInt8}
theorem Dmg.bad (h : Dmg nm s t m r i0 d i c) (hd : d.length ≤ 1048576) (y : List UInt8) (k : Int) : parseR ((frameL (m + i0) d).set i c ++ y) k = .bad 28 := parse_damaged hd h.lo h.hi h.ne k
theorem dmg_read (hI : Inv nm s l R n (a ++ r :: b)) (h : Dmg nm s t (n + a.flatten.length) r i0 d i c) : lread t l ((n + a.flatten.length + i0 : Nat) : Int) = ([], 28) := by
  have h0 := hI.fls.shp.n1
  have hir : i0 < r.length := (List.getElem?_eq_some_iff.1 h.rcd).1
  have hlen := hI.fls.shp.at
  have h3 : n + a.flatten.length ≤ n + a.flatten.length + i0 := by omega
  have h4 : n + a.flatten.length + i0 < n + a.flatten.length + r.length := by omega
  obtain ⟨D, hf⟩ := h.file
  have hdl := hI.fls.shp.mem d (List.mem_of_getElem? h.rcd)
  unfold lread
  rw [hI.frst, hI.last, if_neg (by omega), hI.part h3 h4]
  dsimp only
  rw [hI.file, show (((n + a.flatten.length + i0 : Nat) : Int) - ((n + a.flatten.length : Nat) : Int)).toNat = i0 by omega]
  have o1 : (offsF 0 r).getD i0 0 = bytesF (r.take i0) := by rw [List.getD_eq_getElem?_getD, offsF_get r 0 i0 (by omega)]; simp
  have o2 : (offsF 0 r).getD (i0 + 1) 0 = bytesF (r.take i0) + (16 + d.length) := by rw [List.getD_eq_getElem?_getD, offsF_get r 0 (i0 + 1) (by omega), bytes_take h.rcd]; simp
  rw [o1, o2, show ((bytesF (r.take i0) + (16 + d.length) : Nat) : Int) - ((bytesF (r.take i0) : Nat) : Int) = ((16 + d.length : Nat) : Int) by omega]
  have hrd : readD t (fileL nm (n + a.flatten.length)) ((bytesF (r.take i0) : Nat) : Int) ((16 + d.length : Nat) : Int) = ((frameL (n + a.flatten.length + i0) d).set i c, 0) := by
    unfold readD
    rw [if_neg (by rw [h.up]; decide), hf]
    dsimp only
    rw [if_neg (by simp only [List.length_append, List.length_set, len_frames, frameL_len]; omega), Int.toNat_natCast, Int.toNat_natCast]
    rw [List.drop_left' (by rw [len_frames]), List.take_left' (by rw [List.length_set, frameL_len])]
  rw [hrd]
  dsimp only
  rw [if_neg (by simp)]
  have hk : inN ((n + a.flatten.length + i0 : Nat) : Int) := by
    have := hI.fls.shp.small.1
    unfold inN
    omega
  have hpf := h.bad (by omega) [] ((n + a.flatten.length + i0 : Nat) : Int)
  rw [List.append_nil] at hpf
  unfold parseP
  rw [if_neg (by rw [List.length_set, frameL_len]; rintro (h9 | h9 | h9); omega; omega; exact h9 hk)]
  rw [show (0 : Int).toNat = 0 from rfl, List.drop_zero, hpf]
/-- The last segment is cut. -/
theorem dmg_last (hI : Inv nm s l R n (a ++ [r])) (h : Dmg nm s t (n + a.flatten.length) r i0 d i c) {lim : Int} (hl : 64 ≤ lim ∧ lim ≤ 4194304) :
    ∃ u l' R', openG t nm lim = (0, u, some l') ∧ u.down = false ∧ Stp (OwnF nm) 0 0 2 t u ∧ Inv nm u l' R' n (a ++ [r.take i0]) ∧ R'.length = n + a.flatten.length + i0 - 1 ∧ ∃ D, lkC u.fs (fileL nm (n + a.flatten.length)) = some ⟨fileL nm (n + a.flatten.length), framesL (n + a.flatten.length) (r.take i0), D⟩ := by
  have hir : i0 < r.length := (List.getElem?_eq_some_iff.1 h.rcd).1
  have hS := hI.fls.shp.cut (a := a) (r := r) (i := i0) (by omega)
  have hSl := hI.fls.shp.cutLen (a := a) (r := r) (i := i0) (by omega)
  have h0 := hI.fls.shp.n1
  obtain ⟨D, hf⟩ := h.file
  obtain ⟨D0, hF, _⟩ := hI.fls.fil
  have hdl := hI.fls.shp.mem d (List.mem_of_getElem? h.rcd)
  have hin := hI.fls.shp.in
  have hFil : Fil nm t.fs n (a ++ [r.take i0]) D ((frameL (n + a.flatten.length + i0) d).set i c ++ framesL (n + a.flatten.length + i0 + 1) (r.drop (i0 + 1))) := by
    refine ⟨fun a' r' b' e hb => ?_, fun a' r' e => ?_, fun x hx hn => ?_⟩
    · obtain ⟨b2, rfl, rfl⟩ := split_old e hb
      have hlt := hI.fls.shp.before (a' := a') (r' := r') (b' := b2) rfl
      unfold inN at hin
      rw [h.rest _ (fun e9 => by have := fileL_inj (by omega) (by omega) e9; omega)]
      exact hF.old a' r' (b2 ++ [r]) (by simp) (by simp)
    · obtain ⟨rfl, rfl⟩ := split_last e
      exact hf
    · have hxm : x ≠ n + a.flatten.length := hn a (r.take i0) [] rfl
      unfold inN at hin hx
      rw [h.rest _ (fun e9 => by have := fileL_inj (by omega) (by omega) e9; omega)]
      refine hF.none x hx fun a' r' b' e => ?_
      rcases split_any e with ⟨rfl, rfl, rfl⟩ | ⟨b2, rfl, rfl⟩
      · exact hxm
      · exact hn a' r' (b2 ++ [r.take i0]) (by simp)
  rcases open_inv hFil hS h.good h.up hI.fls.name hl (.inr ⟨28, h.bad (by omega) _ _⟩) with ⟨u, e, k1, k2, k3⟩ | ⟨e1, _⟩
  · obtain ⟨D2, k4⟩ := Fls.data (s := u) (a := a) (r := r.take i0) (b := []) k3.fls
    exact ⟨u, _, _, e, k1, k2, k3, by rw [hSl]; omega, D2, k4⟩
  · rw [h.free] at e1; cases e1
/-- An earlier segment stops Open. -/
theorem dmg_early (hI : Inv nm s l R n (a ++ r :: b)) (hb : b ≠ []) (h : Dmg nm s t (n + a.flatten.length) r i0 d i c) {lim : Int} (hl : 64 ≤ lim ∧ lim ≤ 4194304) : openG t nm lim = (28, t, none) := by
  have hir : i0 < r.length := (List.getElem?_eq_some_iff.1 h.rcd).1
  have h0 := hI.fls.shp.n1
  obtain ⟨D, hf⟩ := h.file
  obtain ⟨D0, hF, _⟩ := hI.fls.fil
  have hdl := hI.fls.shp.mem d (List.mem_of_getElem? h.rcd)
  have hin := hI.fls.shp.in
  have hat := hI.fls.shp.at
  have hsm := hI.fls.shp.small.1
  have hfirst : firstsN nm (namesC t.fs) = nums n (a ++ r :: b) := by
    refine firsts_of (fun a' r' b' e => ?_) (fun x hx hn => ?_) hI.fls.shp hI.fls.name h.good.uq
    · by_cases he : fileL nm (n + a'.flatten.length) = fileL nm (n + a.flatten.length)
      · exact ⟨_, he ▸ hf⟩
      · rw [h.rest _ he]
        have h5 : Fls nm s.fs R n (a' ++ r' :: b') l.dur := e ▸ hI.fls
        obtain ⟨D2, h6⟩ := Fls.data (s := s) h5
        exact ⟨_, h6⟩
    · have hxm : x ≠ n + a.flatten.length := hn a r b rfl
      unfold inN at hin hx
      rw [h.rest _ (fun e9 => by have := fileL_inj (by omega) (by omega) e9; omega)]
      exact hF.none x hx hn
  have hnum : nums n (a ++ r :: b) = nums n a ++ (n + a.flatten.length) :: nums (n + a.flatten.length + r.length) b := by rw [nums_app, nums]
  unfold openG
  rw [if_neg (by rw [h.up]; decide), if_neg (by rw [hI.fls.name]; decide), if_neg (by omega), hfirst, hnum]
  have hfit := hI.fls.shp.fit
  rw [open_conflict (D := D) (z := (frameL (n + a.flatten.length + i0) d).set i c ++ framesL (n + a.flatten.length + i0 + 1) (r.drop (i0 + 1))) (r := r.take i0) (e := 28) h.up hI.fls.name _ ?_ ?_ ?_ ?_ hf ?_ (h.bad (by omega) _ _) (by decide)]
  · rfl
  · intro e9
    cases b with
    | nil => exact hb rfl
    | cons x y => rw [nums] at e9; cases e9
  · intro c1 r1 c2 e
    have h5 : Shp R n (c1 ++ r1 :: (c2 ++ r :: b)) := by
      have := hI.fls.shp
      rw [e] at this
      simpa using this
    have h6 : Fls nm s.fs R n (c1 ++ r1 :: (c2 ++ r :: b)) l.dur := by
      have := hI.fls
      rw [e] at this
      simpa using this
    have h7 := h5.at
    have h8 := h5.mid c1 r1 _ rfl (by simp)
    have h9 := List.length_pos_iff.2 h8
    have hal : a.flatten.length = c1.flatten.length + r1.length + c2.flatten.length := by rw [e]; simp; omega
    unfold inN at hin
    refine ⟨h5.fit, by omega, ?_⟩
    rw [h.rest _ (fun e9 => by have := fileL_inj (by omega) (by omega) e9; omega)]
    exact Fls.data (s := s) h6
  · exact ⟨hfit.1, by have := hfit.2.1; rw [List.length_take]; omega, fun x hx => hfit.2.2 x (List.mem_of_mem_take hx)⟩
  · rw [List.length_take]; omega
  · intro e9
    have := congrArg List.length e9
    rw [List.length_append, List.length_set, frameL_len] at this
    simp at this
/-- The changed byte in the file's bytes. -/
theorem frames_set (m : Nat) (h : r[i0]? = some d) (hi : i < 16 + d.length) (c : UInt8) : (framesL m r).set (bytesF (r.take i0) + i) c = framesL m (r.take i0) ++ ((frameL (m + i0) d).set i c ++ framesL (m + i0 + 1) (r.drop (i0 + 1))) := by
  rw [frames_split m h, List.set_append, if_neg (by rw [len_frames]; omega), len_frames, show bytesF (r.take i0) + i - bytesF (r.take i0) = i by omega, List.set_append, if_pos (by rw [frameL_len]; exact hi)]
theorem frames_get (m : Nat) (h : r[i0]? = some d) (hi : i < 16 + d.length) : (framesL m r)[bytesF (r.take i0) + i]? = (frameL (m + i0) d)[i]? := by
  rw [frames_split m h, List.getElem?_append_right (by rw [len_frames]; omega), len_frames, show bytesF (r.take i0) + i - bytesF (r.take i0) = i by omega, List.getElem?_append_left (by rw [frameL_len]; exact hi)]
/-- The law's two calls leave the damage. -/
theorem dmg_steps (hI : Inv nm s l R n (a ++ r :: b)) (hg : s.Good) (hd : s.down = false) (hf : s.lim = false) (hu : usedC s.fs ≤ 10000) (hroom : s.room = 1048576) (hm : n + a.flatten.length = m) (h1 : r[i0]? = some d) (h2 : 4 ≤ i) (h3 : i < 16 + d.length) (hc : (frameL (m + i0) d)[i]? ≠ some c) :
    ∃ t1 t2, truncD s (fileL nm m) 0 = (0, t1) ∧ t1.Good ∧ appendD t1 (fileL nm m) ((framesL m r).set (bytesF (r.take i0) + i) c) = (0, t2) ∧ Dmg nm s t2 m r i0 d i c ∧ (NmL s.fs → NmL t2.fs) := by
  obtain ⟨D, hF⟩ := hI.fls.data
  rw [hm] at hF
  have hby := hI.fls.shp.bytes
  rcases trunc_ran (P := fun x => x = fileL nm m) hg hd rfl hF (k := 0) (Nat.zero_le _) with ⟨t1, e1, k1, k2, k3⟩ | ⟨e9, _⟩
  · have hl1 := lk_upd_self (m := fileL nm m) (x := ⟨fileL nm m, (framesL m r).take 0, min D 0⟩) rfl hF
    rw [← k3] at hl1
    have hlen : ((framesL m r).set (bytesF (r.take i0) + i) c).length = bytesF r := by rw [List.length_set, len_frames]
    rcases append_ran (P := fun x => x = fileL nm m) (k2.good hg) k1 rfl hl1 (l := (framesL m r).set (bytesF (r.take i0) + i) c) (by rw [hlen]; simp; omega) (by rw [hlen, k2.room, hroom]; have := k2.used; omega) with ⟨t2, e2, j1, j2, j3⟩ | ⟨e9, _⟩
    · refine ⟨t1, t2, e1, k2.good hg, e2, ⟨h1, h2, h3, hc, ⟨min D 0, ?_⟩, fun x hx => (j2.rest x hx).trans (k2.rest x hx), j2.good (k2.good hg), j1, ?_⟩, fun h => j2.nml (k2.nml h)⟩
      · rw [j3]
        refine (lk_upd_self (m := fileL nm m) rfl hl1).trans ?_
        dsimp only
        rw [List.take_zero, List.nil_append, frames_set m h1 h3]
      · rw [j2.lim, k2.lim, hf]
    · rw [k2.lim, hf] at e9
      cases e9
  · rw [hf] at e9
    cases e9
/-- The segments' numbers. -/
theorem nums_get : ∀ (g : List (List (List UInt8))) (n j : Nat), j < g.length → (nums n g)[j]? = some (n + (g.take j).flatten.length)
  | [], _, _, h => by cases h
  | r :: g, n, 0, _ => by simp [nums]
  | r :: g, n, j + 1, h => by
    rw [nums, List.getElem?_cons_succ, nums_get g (n + r.length) j (by simpa using h), List.take_succ_cons, List.flatten_cons, List.length_append]
    congr 1
    omega
theorem nums_low {j : Nat} (h : j ≤ a.length) : ∃ x, (nums n (a ++ r :: b))[j]? = some x ∧ x ≤ n + a.flatten.length := by
  refine ⟨_, nums_get _ n j (by rw [List.length_append, List.length_cons]; omega), ?_⟩
  rw [List.take_append_of_le_length h]
  have : (a.take j).flatten.length + (a.drop j).flatten.length = a.flatten.length := by rw [← List.length_append, ← List.flatten_append, List.take_append_drop]
  omega
theorem nums_behind (h : b ≠ []) : (nums n (a ++ r :: b))[a.length + 1]? = some (n + a.flatten.length + r.length) := by
  cases b with
  | nil => exact absurd rfl h
  | cons q b =>
    rw [nums_get _ n _ (by simp), show a ++ r :: q :: b = (a ++ [r]) ++ q :: b by simp, List.take_left' (by simp)]
    simp
    omega
end
end Go.Proofs.YtbafnlccpbonmaaGreatDoor
