/- device: used, Free. -/
import Derived.Test.YtphjgembpcikdaaDev3
namespace Go.Proofs.Ytphjgembpcikdaa
set_option linter.unusedVariables false
set_option linter.unnecessarySimpa false
set_option linter.unusedSimpArgs false
open Go.RowKit

/-- The bytes of all files. -/
def usedC (fs : List Fl) : Nat := (fs.map fun f => f.data.length).sum
theorem used_fl (fs : List FR) : usedC (fs.map FR.fl) = sumF fs := by
  unfold usedC sumF
  rw [List.map_map]
  rfl
theorem sum_le {fs : List FR} {r : FR} (h : r ∈ fs) : r.data.length ≤ sumF fs := by
  unfold sumF
  induction fs with
  | nil => exact (List.not_mem_nil h).elim
  | cons a fs ih =>
    rw [List.map_cons, List.sum_cons]
    rcases List.mem_cons.1 h with rfl | h
    · omega
    · have := ih h; omega
section
variable {w w' : World} {d mb : Nat} {s s' : Ds} {fs : List FR} {r q : FR} {S : Nat → Prop}
set_option maxRecDepth 20000 in set_option maxHeartbeats 1000000 in
theorem used_any (h : DevW w d S s) (hu : usedC s.fs ≤ 1099511627776) : Calls Try.prog 43 #[.pointer (some ⟨d, 0, none⟩)] w fun e w' => e = .returned (.int .i64 (usedC s.fs)) ∧ Below w.heap.size w w' := by
  obtain ⟨mb, fs, hR, hS⟩ := h
  have k1 := (hR.box.2 1 _ rfl).1
  have lt := hR.box.lt
  have hne := Lib.hid (names_ne hR)
  have hown := hR.map
  have hfl := Lib.hid hR.files
  rw [hR.eq, used_fl] at hu ⊢
  clear hR
  go_enter Try.func43, Try.ntmps43
  go_wp2_with (first
    | (at_range; refine wpList_range_own _ rfl _ 67 rfl 9 71 (Maps.string_keyed Try.underlying9) Try.underlying67 _ mb fs.length _ rfl hown ?_; intro w0 hrg0 hg0 hs0)
    | fail)
  go_frame
  go_loopw [3] (fun tv wr => ∃ (left : Lit → Bool) (cnt : Nat), wr.ranges Try.prog 9 ptrElem mb w.heap.size fs.length (dat fs) left cnt ∧ tv = .int .i64 (doneL left fs) ∧ Below w.heap.size w wr) (fun _ wr => wr.rangeLeft mb w.heap.size)
  case atStart => exact ⟨_, _, hrg0, by rw [doneL_start]; rfl, (Below.refl _ _).grown hg0 (Nat.le_refl _) (fun j hj => by cases hj)⟩
  case round =>
    obtain ⟨left, cnt, hrg, rfl, hbr⟩ := hrel
    go_wp2_with (first
      | (at_next; refine wpList_next_fs rfl _ rfl 9 Try.underlying9 mb w.heap.size fs.length fs left cnt rfl hrg ?_ ?_)
      | fail)
    · intro hl0
      rw [doneL_end hl0]
      go_wp2_with fail
      go_ret
      exact ⟨rfl, hbr⟩
    · intro x sb w1 cnt1 hx hsb hsm hlx hrg1 hlt hg1 hs1 hen
      have hb1 : Below w.heap.size w w1 := hbr.grown hg1 hbr.size (fun j hj => by cases hj; exact Nat.le_refl _)
      have hF := (hfl.out x hx).keep (w' := w1) hb1.size fun y hy => hb1.block y ((hfl.out x hx).lt hy)
      have c0 := (hF.box.2 0 _ rfl).1
      have ltc := hF.box.lt
      have hv : x.val = .slice x.A x.data.length x.cap := rfl
      rw [hv] at c0
      have hst := Lib.hid (doneL_step hlx fs hne.out hx)
      have hle := doneL_le left fs
      have hle2 := sum_le hx
      have hw1 : IntKind.i64.wrap ((doneL left fs : Int) + (x.data.length : Int)) = ((doneL left fs + x.data.length : Nat) : Int) := by rw [IntWalk.i64_in _ (by omega)]; omega
      have hw2 : IntKind.i64.wrap (x.data.length : Int) = (x.data.length : Int) := IntWalk.i64_in _ (by omega)
      clear hF hv
      go_wp2_with fail
      go_roundw
      case rel => exact ⟨_, cnt1, hrg1, by rw [hst.out, Int.natCast_add], hb1⟩
      case measure => rw [hrg1.left_eq, hrg.left_eq]; exact hlt
/-- What holds of a device's state. -/
structure Ds.Ok (s : Ds) : Prop where
  r0 : 0 ≤ s.room
  r1 : s.room ≤ 1099511627776
  us : (usedC s.fs : Int) ≤ s.room
  cnt : s.fs.length ≤ 4096
  sz : ∀ f ∈ s.fs, f.data.length ≤ 16777216
  du : ∀ f ∈ s.fs, f.dur ≤ f.data.length
def freeD (s : Ds) : Int := if s.down then 0 else s.room - usedC s.fs
set_option maxRecDepth 20000 in set_option maxHeartbeats 1000000 in
theorem free_any (h : DevW w d S s) (ho : s.Ok) : Calls Try.prog 20 #[.pointer (some ⟨d, 0, none⟩)] w fun e w' => e = .returned (.int .i64 (freeD s)) ∧ Below w.heap.size w w' := by
  have H := Lib.hid h
  have CK := Lib.hid (check_any h)
  have h1 := ho.us
  have h2 := ho.r1
  have h3 := ho.r0
  have UA := Lib.hid (fun (w2 : World) (hw : DevW w2 d S s) => used_any hw (by omega))
  obtain ⟨mb, fs, hR, hS⟩ := h
  have k0 := (hR.box.2 0 _ rfl).1
  have lt := hR.box.lt
  unfold freeD
  unfold chkD at CK
  clear hR
  rcases hd : s.down with _ | _
  · rw [hd] at CK
    have hw1 : IntKind.i64.wrap (s.room - (usedC s.fs : Int)) = s.room - (usedC s.fs : Int) := IntWalk.i64_in _ (by omega)
    generalize (usedC s.fs : Int) = u at *
    generalize s.room = rm at *
    replace hd := Lib.hid hd
    go_enter Try.func20, Try.ntmps20
    go_wp2_with fail
    refine CK.out.mono ?_
    rintro e w2 ⟨rfl, hw⟩
    subst hw
    go_wp2_with fail
    refine wp_region_ord [(0, 1), (1, 1), (2, 1), (3, 1), (4, 1), (5, 2), (6, 1), (7, 1)] [] 5 (by kernel_rfl) (by decide +kernel) ?_
    simp only [pickO, List.append_eq, List.cons_append, List.nil_append, List.getElem?_cons_succ, List.getElem?_cons_zero]
    intro w0 hG
    (repeat ((first | (with_reducible refine ord_q1 ?_) | (with_reducible refine ord_q0 ?_)); intro K hK; first | (refine Or.inr ⟨?_, ?_⟩; (focus (go_simp; first | done | (simp [undef]; done))); go_simp; (with_reducible refine hK _ ?_); clear hK K) | (refine Or.inl ⟨?_, ?_⟩; (focus (go_simp; done)); apply Exists.intro; refine And.intro ?_ ?_; (focus (first | (intro wq hq; obtain ⟨hcq, hfq⟩ := G.old hq; go_simp; (first | done | exact rfl); done) | (intro wq; go_simp; (first | done | exact rfl); done))); go_simp; (with_reducible refine hK _ ?_); clear hK K) | fail))
    (with_reducible refine ord_run ?_ hG)
    intro K hK
    go_simp
    go_at_call 43; (with_reducible refine (UA.out _ (H.out.grow hG.b)).mono ?_); rintro e w3 ⟨rfl, hb⟩
    replace hG := Grew.trans hG hb
    (try dsimp only)
    (with_reducible refine hK _ _ hG ?_)
    clear hK K
    (repeat ((first | (with_reducible refine ord_q1 ?_) | (with_reducible refine ord_q0 ?_)); intro K hK; first | (refine Or.inr ⟨?_, ?_⟩; (focus (go_simp; first | done | (simp [undef]; done))); go_simp; (with_reducible refine hK _ ?_); clear hK K) | (refine Or.inl ⟨?_, ?_⟩; (focus (go_simp; done)); apply Exists.intro; refine And.intro ?_ ?_; (focus (first | (intro wq hq; obtain ⟨hcq, hfq⟩ := G.old hq; go_simp; (first | done | exact rfl); done) | (intro wq; go_simp; (first | done | exact rfl); done))); go_simp; (with_reducible refine hK _ ?_); clear hK K) | fail))
    (with_reducible refine ord_nil ?_)
    go_wp2_with fail
    go_ret
    exact ⟨rfl, hG.b⟩
  · rw [hd] at CK
    replace hd := Lib.hid hd
    go_enter Try.func20, Try.ntmps20
    go_wp2_with fail
    refine CK.out.mono ?_
    rintro e w2 ⟨rfl, hw⟩
    subst hw
    go_wp2_with fail
    go_ret
    exact ⟨rfl, G.refl _⟩
end
end Go.Proofs.Ytphjgembpcikdaa
