/- Plain Lean: a log on a full device, and on one that is down. -/
import Derived.Test.YtbafnlccpbonmaaGreatDoorGMh
namespace Go.Proofs.YtbafnlccpbonmaaGreatDoor
set_option linter.unusedVariables false
set_option linter.unnecessarySimpa false
set_option linter.unusedSimpArgs false

section
variable {nm : List UInt8} {s t : Ds} {l : Lg} {R : List (List UInt8)} {n : Nat} {g a b : List (List (List UInt8))} {r : List (List UInt8)} {d : List UInt8}
theorem perf_used {f g : Ds → Ds} {k : Nat} (hf : usedC (f s).fs = k) (hg : ∀ t, t.fs = (f s).fs → usedC (g t).fs = k) : usedC (perfD s f g).2.fs = k := by
  unfold perfD
  split
  · exact hf
  · exact hg _ rfl
theorem sync_used (h : s.Good) (nm : List UInt8) : usedC (syncD s nm).2.fs = usedC s.fs := by
  unfold syncD
  split
  · rfl
  · split
    · rfl
    · rename_i f hl
      refine perf_used rfl fun t ht => ?_
      dsimp only [id] at ht ⊢
      rw [ht]
      have := used_upd (x := { f with dur := f.data.length }) h.uq hl
      dsimp only at this
      omega
theorem del_none {fs : List Fl} {m : List UInt8} (h : lkC fs m = none) : delC fs m = fs := by
  unfold delC
  refine List.filter_eq_self.2 fun y hy => ?_
  have := lkC_none h y hy
  simpa using this
theorem create_used (nm : List UInt8) : usedC (createD s nm).2.fs = usedC s.fs := by
  unfold createD
  split
  · rfl
  · split
    · rfl
    · split
      · rfl
      · rename_i h1
        split
        · rfl
        · refine perf_used rfl fun t ht => ?_
          dsimp only [id] at ht ⊢
          unfold putFl
          rw [used_ins, ht, del_none (by simpa using h1)]
          simp
theorem append_used (h : s.Good) {nm l : List UInt8} (h0 : (appendD s nm l).1 = 0) : usedC (appendD s nm l).2.fs = usedC s.fs + l.length := by
  unfold appendD at h0 ⊢
  split at h0
  · cases h0
  · rename_i hd
    rw [if_neg hd]
    split at h0
    · cases h0
    · rename_i f hl
      (try dsimp only at h0 ⊢)
      split at h0
      · cases h0
      · rename_i h1
        rw [if_neg h1]
        split at h0
        · cases h0
        · rename_i h2
          rw [if_neg h2]
          have hu := used_upd (x := ⟨f.name, f.data ++ l, f.dur⟩) h.uq hl
          rw [List.length_append] at hu
          refine perf_used (by unfold appendC; dsimp only; omega) fun t ht => ?_
          unfold appendC at ht
          dsimp only [id] at ht ⊢
          rw [ht]
          omega
theorem lsync_used (h : s.Good) (l : Lg) : usedC (lsync s l).2.1.fs = usedC s.fs := by
  unfold lsync
  split
  · rfl
  · split <;> exact sync_used h _
theorem lnew_used (l : Lg) (n : Int) : usedC (lnew s l n).2.1.fs = usedC s.fs := by
  unfold lnew
  split <;> exact create_used _
theorem lrot_used (h : s.Good) (l : Lg) (n z : Int) : usedC (lrot s l n z).2.1.fs = usedC s.fs := by
  unfold lrot
  split
  · exact lnew_used l n
  · split
    · rfl
    · split
      · exact lsync_used h l
      · rw [lnew_used, lsync_used h]
theorem lapp_used (h : s.Good) (l : Lg) (d : List UInt8) (h0 : (lapp s l d).1.2 = 0) : usedC (lapp s l d).2.1.fs = usedC s.fs + (16 + d.length) := by
  unfold lapp at h0 ⊢
  split at h0
  · cases h0
  · rename_i h1
    rw [if_neg h1]
    split at h0
    · cases h0
    · rename_i h2
      rw [if_neg h2]
      split at h0
      · rename_i h3
        exact absurd h0 h3
      · rename_i h3
        rw [if_neg h3]
        have hg := lrot_good h l (l.last + 1) (16 + d.length)
        rw [← lrot_used h l (l.last + 1) (16 + d.length)]
        unfold ladd at h0 ⊢
        split at h0
        · rename_i hX
          exfalso
          -- no segment: rotate makes one
          clear h0
          have : (lrot s l (l.last + 1) (16 + d.length)).2.2.parts ≠ [] := by
            have h4 : (lrot s l (l.last + 1) (16 + d.length)).1 = 0 := by
              by_cases h9 : (lrot s l (l.last + 1) (16 + d.length)).1 = 0
              · exact h9
              · exact absurd h9 h3
            have hn : ∀ (s : Ds) (l : Lg) (n : Int), (lnew s l n).1 = 0 → (lnew s l n).2.2.parts ≠ [] := fun s l n h => by
              unfold lnew at h ⊢
              split at h
              · rename_i h5; exact absurd h h5
              · rename_i h5; rw [if_neg h5]; simp
            unfold lrot at h4 ⊢
            rcases hp : l.parts.getLast? with _ | p
            · rw [hp] at h4
              exact hn _ _ _ h4
            · rw [hp] at h4
              dsimp only at h4 ⊢
              split
              · rename_i h6
                intro e
                rw [e] at hp
                cases hp
              · rename_i h6
                rw [if_neg h6] at h4
                split
                · rename_i h7
                  rw [if_pos h7] at h4
                  exact absurd h4 h7
                · rename_i h7
                  rw [if_neg h7] at h4
                  exact hn _ _ _ h4
          rw [List.getLast?_eq_none_iff] at hX
          exact this hX
        · rename_i p hX
          (try dsimp only)
          split at h0
          · rename_i h4
            exact absurd h0 h4
          · rename_i h4
            rw [if_neg h4]
            dsimp only
            rw [append_used hg (by simpa using h4), frameL_len]
/-- There is no room for the record. -/
theorem Inv.noroom (h : Inv nm s l R n g) (hg : s.Good) (hd : s.down = false) (hl : s.lim = false) (h1 : R.length < 1000) (h2 : d.length ≤ 1000) (hc : s.fs.length < 4096) (hr : s.room < ((usedC s.fs + (16 + d.length) : Nat) : Int)) :
    ∃ t l' g', lapp s l d = ((0, 32), t, l') ∧ t.down = false ∧ Stp (OwnF nm) 0 1 2 s t ∧ Inv nm t l' R n g' ∧ g' ≠ [] := by
  have e0 : lapp s l d = if (lrot s l ((R.length + 1 : Nat) : Int) ((16 + d.length : Nat) : Int)).1 ≠ 0 then ((0, (lrot s l ((R.length + 1 : Nat) : Int) ((16 + d.length : Nat) : Int)).1), (lrot s l ((R.length + 1 : Nat) : Int) ((16 + d.length : Nat) : Int)).2)
      else ladd (lrot s l ((R.length + 1 : Nat) : Int) ((16 + d.length : Nat) : Int)).2.1 (lrot s l ((R.length + 1 : Nat) : Int) ((16 + d.length : Nat) : Int)).2.2 ((R.length + 1 : Nat) : Int) (frameL (R.length + 1) d) := by
    unfold lapp
    rw [h.last, show (R.length : Int) + 1 = ((R.length + 1 : Nat) : Int) by omega, show (16 : Int) + (d.length : Int) = ((16 + d.length : Nat) : Int) by omega, if_neg (by omega), if_neg (by omega), Int.toNat_natCast]
  have hu := lrot_used hg l ((R.length + 1 : Nat) : Int) ((16 + d.length : Nat) : Int)
  rw [e0]
  rcases h.rot hg hd h1 hc (16 + d.length) with ⟨t, e, k1, k2, k3, k4⟩ | ⟨e1, _⟩
  · rw [e] at hu ⊢
    dsimp only at hu ⊢
    rw [if_neg (by simp)]
    rcases snocL (rotG l.limit g (16 + d.length)) with e9 | ⟨a, r, e9⟩
    · exact absurd e9 k4
    · rw [e9] at k3 ⊢
      obtain ⟨D, q1, q2⟩ := k3.fls.fil
      have hf := q1.last a r rfl
      have hby := k3.fls.shp.bytes
      refine ⟨t, _, _, ?_, k1, k2, k3, by simp⟩
      unfold ladd
      rw [k3.lastPt]
      dsimp only
      rw [k3.file]
      have hap : appendD t (fileL nm (n + a.flatten.length)) (frameL (R.length + 1) d) = (32, t) := by
        unfold appendD
        rw [if_neg (by rw [k1]; decide), hf]
        dsimp only
        rw [if_neg (by rw [List.append_nil, len_frames, frameL_len]; omega), if_pos (by unfold freeD; rw [k1, frameL_len, k2.room, hu]; simp; omega)]
      rw [hap]
      dsimp only
      rw [if_pos (by decide)]
  · rw [hl] at e1
    cases e1
theorem down_sync (hd : s.down = true) (h : l.parts ≠ []) : lsync s l = (31, s, l) := by
  unfold lsync
  rcases hp : l.parts.getLast? with _ | p
  · rw [List.getLast?_eq_none_iff] at hp
    exact absurd hp h
  · dsimp only
    have : syncD s (l.file p.first) = (31, s) := by unfold syncD; rw [if_pos hd]
    rw [this]
    dsimp only
    rw [if_pos (by decide)]
theorem down_app (hd : s.down = true) (h : l.parts ≠ []) (h1 : l.last ≤ 1000) (h2 : d.length ≤ 1000) : (lapp s l d).1 = (0, 31) := by
  obtain ⟨p, hp⟩ : ∃ p, l.parts.getLast? = some p := by
    rcases hp : l.parts.getLast? with _ | p
    · rw [List.getLast?_eq_none_iff] at hp
      exact absurd hp h
    · exact ⟨p, rfl⟩
  unfold lapp
  rw [if_neg (by omega), if_neg (by omega)]
  have hr : lrot s l (l.last + 1) (16 + d.length) = if p.size = 0 ∨ (p.size : Int) + (16 + d.length) ≤ l.limit then (0, s, l) else (31, s, l) := by
    unfold lrot
    rw [hp]
    dsimp only
    rw [down_sync hd h]
    rfl
  rw [hr]
  split
  · dsimp only
    rw [if_neg (by simp)]
    unfold ladd
    rw [hp]
    dsimp only
    have : appendD s (l.file p.first) (frameL (l.last + 1).toNat d) = (31, s) := by unfold appendD; rw [if_pos hd]
    rw [this]
    dsimp only
    rw [if_pos (by decide)]
  · rfl
theorem down_same (hd : s.down = true) (h : l.parts ≠ []) (h1 : l.last ≤ 1000) (h2 : d.length ≤ 1000) : (lapp s l d).2.1 = s ∧ (lapp s l d).2.2 = l := by
  obtain ⟨p, hp⟩ : ∃ p, l.parts.getLast? = some p := by
    rcases hp : l.parts.getLast? with _ | p
    · rw [List.getLast?_eq_none_iff] at hp
      exact absurd hp h
    · exact ⟨p, rfl⟩
  unfold lapp
  rw [if_neg (by omega), if_neg (by omega)]
  have hr : lrot s l (l.last + 1) (16 + d.length) = if p.size = 0 ∨ (p.size : Int) + (16 + d.length) ≤ l.limit then (0, s, l) else (31, s, l) := by
    unfold lrot
    rw [hp]
    dsimp only
    rw [down_sync hd h]
    rfl
  rw [hr]
  split
  · dsimp only
    rw [if_neg (by simp)]
    unfold ladd
    rw [hp]
    dsimp only
    have : appendD s (l.file p.first) (frameL (l.last + 1).toNat d) = (31, s) := by unfold appendD; rw [if_pos hd]
    rw [this]
    dsimp only
    rw [if_pos (by decide)]
    exact ⟨rfl, rfl⟩
  · exact ⟨rfl, rfl⟩
end
end Go.Proofs.YtbafnlccpbonmaaGreatDoor
