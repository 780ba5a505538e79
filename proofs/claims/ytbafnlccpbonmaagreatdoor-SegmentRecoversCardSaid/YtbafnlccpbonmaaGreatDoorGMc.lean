/- device: list, start -/
import Derived.Test.YtbafnlccpbonmaaGreatDoorGMb
import Derived.Test.YtbafnlccpbonmaaGreatDoorShelf4
namespace Go.Proofs.YtbafnlccpbonmaaGreatDoor
set_option linter.unusedVariables false
set_option linter.unnecessarySimpa false
set_option linter.unusedSimpArgs false
open Go.RowKit Go.Maps Go.Sort Go.Shelf

theorem sorts_any (m : Nat) : AnyZ.SortsIn Tryz.prog Tryz.sorted79_ren Fence.wide m :=
  ⟨fun blk off cap ss W hH hblk hsz => callsIn_wide.2 (AnyM.slices_Sort_string Tryz.sort100 blk off cap ss W hH hblk hsz),
   fun p cap W => callsIn_wide.2 (AnyM.slices_Sort_string_none Tryz.sort100 p cap W)⟩
theorem keys_any (mb : Option Nat) (W : World) : Calls Tryz.prog 80 #[.map mb] W fun e w' => e = .returned (.func (.func 101) #[] #[.pointer (some ⟨W.heap.size, 0, none⟩)]) ∧ w' = W.alloc (.cells #[.map mb] 95) :=
  callsIn_wide.1 (AnyZ.keys_in Tryz.keys80 Fence.wide 5 trivial rfl mb W)
set_option maxHeartbeats 1000000 in
theorem sortedK_any {H : Type} (b nn : Nat) (D0 : DataW H) (R : Value → Option (DataW H × List MemPlace)) (w : World) (hown : w.ownsMap Tryz.prog 9 R b nn D0) (hmax : Maps.size D0 ≤ maxLen) (hbytes : Maps.size D0 * 16 ≤ 140737488355328) :
    CallsIn Fence.wide 5 Tryz.prog 79 #[.func (.func 101) #[] #[.pointer (some ⟨w.heap.size, 0, none⟩)]] (w.alloc (.cells #[.map (some b)] 95)) fun e w' => ∃ (v : Value) (ss : List (List UInt8)), e = .returned v ∧ ss.Perm (strKeys D0) ∧
      w'.ownsRow (w.alloc (.cells #[.map (some b)] 95)).heap.size 9 1 v ss.length ((ss.mergeSort (fun x y => decide (x ≤ y))).map encStr) ∧ (v = .slice none 0 0 ↔ ss = []) ∧ Below (w.alloc (.cells #[.map (some b)] 95)).heap.size (w.alloc (.cells #[.map (some b)] 95)) w' := by
  have hbl := hown.lt
  have hseq : SeqGives Fence.wide 2 Tryz.prog 101 #[.pointer (some ⟨w.heap.size, 0, none⟩)] encStr (fun ss => ss.Perm (strKeys D0)) (Maps.size D0) (w.alloc (.cells #[.map (some b)] 95)) :=
    AnyZ.keys_gives (ρ := Tryz.keys80_ren) { Tryz.keys80 with } Fence.wide _ trivial rfl (by omega) w.heap.size b nn D0 _ (by simp) (by simp) (by
      obtain ⟨es, clock, hb, Ft, hs, hD⟩ := hown
      exact ⟨es, clock, (Below.heap_alloc _ _ b hbl).trans hb, Ft, hs, hD⟩)
  exact AnyZ.sorted_in Tryz.sorted79 Fence.wide 5 trivial trivial trivial trivial rfl (by omega) (sorts_any _) (enters_of Tryz.func100 (by kernel_rfl) rfl) 101 #[.pointer (some ⟨w.heap.size, 0, none⟩)] trivial (enters_of Tryz.func101 (by kernel_rfl) rfl) _ _ hmax hbytes _ hseq
theorem bb_lt : ∀ a b : List UInt8, bytesBefore a b = true ↔ a < b
  | [], [] => by simp [bytesBefore]
  | [], _ :: _ => by simp [bytesBefore]
  | _ :: _, [] => by simp [bytesBefore]
  | a :: r, b :: s => by
    have ih := bb_lt r s
    rw [List.cons_lt_cons_iff]
    simp [bytesBefore, ih]
theorem bb_le {a b : List UInt8} (h : bytesBefore a b = true) : a ≤ b := by
  intro hlt
  have h1 := (bb_lt b a).2 hlt
  have h2 := Go.WideShapes.bytes_trans _ _ _ h h1
  rw [before_irr] at h2
  cases h2
theorem le_anti {a b : List UInt8} (h1 : a ≤ b) (h2 : b ≤ a) : a = b := by
  rcases Classical.em (a = b) with h | h
  · exact h
  · rcases Go.WideAt.bytes_total a b h with h3 | h3
    · exact absurd ((bb_lt a b).1 h3) h2
    · exact absurd ((bb_lt b a).1 h3) h1
theorem sort_names {fs : List FR} (h : fs.Pairwise fun x y => bytesBefore x.name y.name = true) {ss : List (List UInt8)} (hp : ss.Perm (strKeys (dat fs))) : ss.mergeSort (fun x y => decide (x ≤ y)) = fs.map (·.name) := by
  have hk : strKeys (dat fs) = fs.map (·.name) := by
    show (fs.map FR.ent).map (fun p => strOf p.1) = _
    rw [List.map_map]
    rfl
  rw [hk] at hp
  have hs : (ss.mergeSort (fun x y => decide (x ≤ y))).Pairwise (fun a b => decide (a ≤ b) = true) := List.pairwise_mergeSort (fun a b c h1 h2 => by
    have h1' : a ≤ b := of_decide_eq_true h1
    have h2' : b ≤ c := of_decide_eq_true h2
    refine decide_eq_true ?_
    intro hlt
    rcases Classical.em (b = c) with rfl | hne
    · exact h1' hlt
    · rcases Go.WideAt.bytes_total b c hne with h3 | h3
      · exact h1' ((bb_lt b a).1 (Go.WideShapes.bytes_trans _ _ _ h3 ((bb_lt c a).2 hlt)))
      · exact h2' ((bb_lt c b).1 h3)) (fun a b => by
    rcases Classical.em (a ≤ b) with h1 | h1
    · simp [h1]
    · have h2 : b < a := Classical.not_not.1 h1
      have h3 := bb_le ((bb_lt b a).2 h2)
      simp [h3]) ss
  refine List.Perm.eq_of_pairwise (le := fun a b => decide (a ≤ b) = true) (fun a b _ _ h1 h2 => le_anti (of_decide_eq_true h1) (of_decide_eq_true h2)) hs ?_ ((List.mergeSort_perm ss _).trans hp)
  rw [List.pairwise_map]
  exact h.imp fun {a b} hab => decide_eq_true (bb_le hab)
theorem keys_names (fs : List FR) : strKeys (dat fs) = fs.map (·.name) := by
  show (fs.map FR.ent).map (fun p => strOf p.1) = _
  rw [List.map_map]
  rfl
end Go.Proofs.YtbafnlccpbonmaaGreatDoor

namespace Go.Proofs.YtbafnlccpbonmaaGreatDoor
set_option linter.unusedVariables false
set_option linter.unnecessarySimpa false
set_option linter.unusedSimpArgs false
open Go.RowKit

def strs (l : List (List UInt8)) : List Value := l.map fun b => .string (BA b)
theorem enc_strs (l : List (List UInt8)) : l.map encStr = strs l := rfl
def namesC (fs : List Fl) : List (List UInt8) := fs.map (·.name)
section
variable {w w' w1 : World} {d mb : Nat} {s s' : Ds} {fs : List FR} {r q x : FR} {S : Nat → Prop} {n : List UInt8}
def RetS (l : List (List UInt8)) (w : World) (e : Ending) (w' : World) : Prop := ∃ A c, e = .returned (.slice A l.length c) ∧ w'.ownsRow w.heap.size 9 1 (.slice A l.length c) l.length (strs l) ∧ Below w.heap.size w w'
theorem sortedF_any (hR : DevR w d mb s fs) (hcn : fs.length ≤ 4096) :
    Calls Tryz.prog 79 #[.func (.func 101) #[] #[.pointer (some ⟨w.heap.size, 0, none⟩)]] (w.alloc (.cells #[.map (some mb)] 95)) (RetS (fs.map (·.name)) w) := by
  have hsz : Maps.size (dat fs) ≤ 4096 := by rw [size_dat]; exact hcn
  refine (callsIn_wide.1 (sortedK_any mb fs.length (dat fs) ptrElem w hR.map (by unfold maxLen; omega) (by omega))).mono ?_
  rintro e w' ⟨v, ss, rfl, hp, hrow, hnil, hb⟩
  rw [sort_names (own_rise hR.map Tryz.underlying9) hp, enc_strs] at hrow
  rw [keys_names fs] at hp
  rw [hp.length_eq] at hrow
  obtain ⟨A, c, rfl, h1, h2⟩ := own_shape hrow
  refine ⟨A, c, rfl, ?_, (G.alloc (G.refl w) _).trans (hb.mono (by simp))⟩
  have := hrow
  refine ⟨this.1, ?_⟩
  rcases this.2 with h0 | ⟨g, cap, cur, hv, hg, hr⟩
  · exact .inl h0
  · exact .inr ⟨g, cap, cur, hv, by simp at hg; omega, hr⟩
/-- List's answer. -/
def RetL (s : Ds) (w : World) (e : Ending) (w' : World) : Prop :=
  (s.down = true ∧ e = .returned (.tuple #[.slice none 0 0, .int .i64 31]) ∧ Below w.heap.size w w') ∨
  (s.down = false ∧ ∃ A c, e = .returned (.tuple #[.slice A (namesC s.fs).length c, .int .i64 0]) ∧ w'.ownsRow w.heap.size 9 1 (.slice A (namesC s.fs).length c) (namesC s.fs).length (strs (namesC s.fs)) ∧ Below w.heap.size w w')
set_option maxRecDepth 20000 in set_option maxHeartbeats 1000000 in
theorem list_any (h : DevW w d S s) (ho : s.Ok) : Calls Tryz.prog 57 #[.pointer (some ⟨d, 0, none⟩)] w (RetL s w) := by
  have CK := Lib.hid (check_any h)
  unfold chkD at CK
  have hcn := ho.cnt
  obtain ⟨mb, fs, hR, hS⟩ := h
  have k1 := (hR.box.2 1 _ rfl).1
  have lt := hR.box.lt
  have hnm : Hid (namesC s.fs = fs.map (·.name)) := by unfold Hid namesC; rw [hR.eq, List.map_map]; rfl
  rw [hR.eq, List.length_map] at hcn
  have HR := Lib.hid hR
  clear hR
  rcases hd : s.down with _ | _
  · rw [hd] at CK
    replace hd := Lib.hid hd
    go_enter Tryz.func57, Tryz.ntmps57
    go_wp2_with fail
    refine CK.out.mono ?_
    rintro e w3 ⟨rfl, hw⟩
    subst hw
    go_wp2_with fail
    refine (keys_any (some mb) _).mono ?_
    rintro e w4 ⟨rfl, hw⟩
    subst hw
    go_wp2_with fail
    refine (sortedF_any HR.out hcn).mono ?_
    rintro e w5 ⟨A, c, rfl, hrow, hb⟩
    go_wp2_with fail
    exact bodyPost_ret (v := .tuple #[.slice A (fs.map (·.name)).length c, .int .i64 0]) (by simp only [results, Tryz.results57]; go_simp) rfl (.inr ⟨hd.out, A, c, by rw [hnm.out], by rw [hnm.out]; exact hrow, hb⟩)
  · rw [hd] at CK
    replace hd := Lib.hid hd
    go_enter Tryz.func57, Tryz.ntmps57
    go_wp2_with fail
    refine CK.out.mono ?_
    rintro e w3 ⟨rfl, hw⟩
    subst hw
    go_wp2_with fail
    exact bodyPost_ret (v := .tuple #[.slice none 0 0, .int .i64 31]) (by simp only [results, Tryz.results57]; go_simp) rfl (.inl ⟨hd.out, rfl, G.refl _⟩)
end
end Go.Proofs.YtbafnlccpbonmaaGreatDoor

namespace Go.Proofs.YtbafnlccpbonmaaGreatDoor
set_option linter.unusedVariables false
set_option linter.unnecessarySimpa false
set_option linter.unusedSimpArgs false
open Go.RowKit

/-- What is left of the bytes that were not durable. -/
def keptB (f : Fl) (c : Nat) : Nat := c * (f.data.length - f.dur + 1) / 256
def flipB (l : List UInt8) : List UInt8 := l.set (l.length - 1) (255 - l.getD (l.length - 1) 0)
def chopB (f : Fl) (c : Nat) : List UInt8 := if c % 2 = 1 ∧ 0 < keptB f c then flipB (f.data.take (f.dur + keptB f c)) else f.data.take (f.dur + keptB f c)
def startL : List Fl → List UInt8 → List Fl
  | [], _ => []
  | f :: fs, ch => if f.data.length ≤ f.dur then ⟨f.name, f.data, f.data.length⟩ :: startL fs ch else ⟨f.name, chopB f (ch.headD 0).toNat, (chopB f (ch.headD 0).toNat).length⟩ :: startL fs ch.tail
def startD (s : Ds) (ch : List UInt8) : Ds := if s.down = true then ⟨s.room, false, false, 0, startL s.fs ch⟩ else s
theorem kept_le {f : Fl} {c : Nat} (hc : c ≤ 255) (hd : f.dur ≤ f.data.length) : f.dur + keptB f c ≤ f.data.length := by
  unfold keptB
  have : c * (f.data.length - f.dur + 1) / 256 ≤ f.data.length - f.dur := by
    have h1 : c * (f.data.length - f.dur + 1) < 256 * (f.data.length - f.dur + 1) := Nat.mul_lt_mul_of_pos_right (by omega) (by omega)
    have h2 : c * (f.data.length - f.dur + 1) / 256 < f.data.length - f.dur + 1 := Nat.div_lt_of_lt_mul h1
    omega
  omega
theorem own_upd {w : World} {e : TypeId} {g n c j : Nat} {xs : List Value} (h : w.ownsRow 0 e 1 (.slice (some ⟨g, 0, none⟩) n c) n xs) (hj : j < n) (v : Value) : (w.setCell ⟨g, j, none⟩ v).ownsRow 0 e 1 (.slice (some ⟨g, 0, none⟩) n c) n (xs.set j v) := by
  refine ⟨by rw [List.length_set]; exact h.1, ?_⟩
  rcases h.2 with ⟨h0, h1⟩ | ⟨g', cap, cur, hv, hg, hh, hnc, hcm, hcs, ht⟩
  · omega
  · cases hv
    refine .inr ⟨g, c, _, rfl, hg, heap_setCell_same w g j cur e v hh, hnc, hcm, by rw [Array.size_setIfInBounds]; exact hcs, ?_⟩
    rw [← ht, Array.toList_setIfInBounds, List.take_set]
theorem FileAt.some_ {w : World} {r : FR} (h : FileAt w r) (hl : 0 < r.data.length) : ∃ g, r.A = some ⟨g, 0, none⟩ ∧ g < w.heap.size ∧ g ≠ r.fb ∧ r.val.ownBlock = some g := by
  rcases h.row.2 with ⟨_, h1⟩ | ⟨g, cap, cur, hv, hg, hh, _⟩
  · omega
  · have hA : r.A = some ⟨g, 0, none⟩ := by
      have hv' : Value.slice r.A r.data.length r.cap = .slice (some ⟨g, 0, none⟩) r.data.length cap := hv
      injection hv'
    have ho : r.val.ownBlock = some g := by rw [hv]; rfl
    exact ⟨g, hA, (h.row.lt g ho).2, fun e => h.ne (by rw [← e]; exact ho), ho⟩
/-- The device while it starts: the files before i are done. -/
structure StI (w w' : World) (d mb : Nat) (s : Ds) (fs fi : List FR) (S : Nat → Prop) (i : Nat) (ch ci : List UInt8) : Prop where
  dev : DevR w' d mb ⟨s.room, false, false, 0, fi.map FR.fl⟩ fi
  names : fi.map (·.name) = fs.map (·.name)
  todo : fi.drop i = fs.drop i
  done : (fi.take i).map FR.fl ++ startL ((fs.drop i).map FR.fl) ci = startL (fs.map FR.fl) ch
  has : ∀ z, hasD d mb fi z → S z
  chg : DChg S w w'
theorem updF_get {fi : List FR} {i : Nat} {r x : FR} (hu : fi.Pairwise fun a b => a.name ≠ b.name) (hr : fi[i]? = some r) : updF fi r.name x = fi.set i x := by
  apply List.ext_getElem?
  intro j
  unfold updF
  rw [List.getElem?_map]
  have hil := (List.getElem?_eq_some_iff.1 hr).1
  have hie := (List.getElem?_eq_some_iff.1 hr).2
  by_cases hji : j = i
  · subst hji
    rw [hr, List.getElem?_set_self hil]
    simp
  · rw [List.getElem?_set_ne (fun e => hji e.symm)]
    rcases hj : fi[j]? with _ | y
    · rfl
    · have hjl := (List.getElem?_eq_some_iff.1 hj).1
      have hje := (List.getElem?_eq_some_iff.1 hj).2
      have hne : y.name ≠ r.name := by
        rw [← hie, ← hje]
        rcases Nat.lt_or_gt_of_ne hji with h | h
        · exact List.pairwise_iff_getElem.1 hu j i hjl hil h
        · exact fun e => List.pairwise_iff_getElem.1 hu i j hil hjl h e.symm
      have : (y.name == r.name) = false := by simpa using hne
      show some (if (y.name == r.name) = true then x else y) = some y
      rw [this]
      rfl
theorem lk_get {fi : List FR} {i : Nat} {r : FR} (hu : fi.Pairwise fun a b => a.name ≠ b.name) (hr : fi[i]? = some r) : lk fi r.name = some r := by
  rcases h : lk fi r.name with _ | y
  · exact absurd rfl (lk_none h r (List.mem_of_getElem? hr))
  · obtain ⟨hy, hyn⟩ := lk_some h
    obtain ⟨j, hj, rfl⟩ := List.getElem_of_mem hy
    have hil := (List.getElem?_eq_some_iff.1 hr).1
    have hie := (List.getElem?_eq_some_iff.1 hr).2
    rcases Nat.lt_trichotomy i j with h1 | h1 | h1
    · exact absurd (hie ▸ hyn.symm) (List.pairwise_iff_getElem.1 hu i j hil hj h1)
    · subst h1; rw [← hie]
    · exact absurd (hie ▸ hyn) (List.pairwise_iff_getElem.1 hu j i hj hil h1)
section
variable {w w' w1 wr : World} {d mb : Nat} {s s' : Ds} {fs fi : List FR} {r q x : FR} {S : Nat → Prop} {n : List UInt8} {i : Nat} {ch ci : List UInt8}
/-- One file is done. -/
theorem StI.step (h : StI w wr d mb s fs fi S i ch ci) (hr : fi[i]? = some r) {cj : List UInt8} (hx : x.name = r.name) (hb : x.fb = r.fb) (hcw : DChg (fun z => r.has z) wr w') (hF : FileAt w' x) (hrow : ∀ y, x.val.ownBlock = some y → r.val.ownBlock = some y)
    (hst : startL (r.fl :: (fs.drop (i + 1)).map FR.fl) ci = x.fl :: startL ((fs.drop (i + 1)).map FR.fl) cj) : StI w w' d mb s fs (fi.set i x) S (i + 1) ch cj := by
  obtain ⟨h1, h2, h3, h4, h5, h6⟩ := h
  have hu := names_ne h1
  have hil := (List.getElem?_eq_some_iff.1 hr).1
  have hrm := List.mem_of_getElem? hr
  have hdev := h1.file (x := x) (lk_get hu hr) hx hb hcw.size (fun y hy hno => hcw.2.2 y hno hy) hF (fun y hy => .inl (hrow y hy))
  have hset := updF_get (x := x) hu hr
  rw [hset] at hdev
  have hxhas : ∀ z, x.has z → r.has z := fun z hz => by
    rcases hz with rfl | hz
    · exact .inl hb
    · exact .inr (hrow z hz)
  have hdr : fs.drop i = r :: fs.drop (i + 1) := by
    rw [← h3, List.drop_eq_getElem_cons hil, (List.getElem?_eq_some_iff.1 hr).2]
    congr 1
    have := congrArg (List.drop 1) h3
    rw [List.drop_drop, List.drop_drop] at this
    exact this
  refine ⟨⟨hdev.box, hdev.map, hdev.files, hdev.apart, hdev.out, rfl, hdev.dm⟩, ?_, ?_, ?_, fun z hz => ?_, h6.trans (hcw.mono fun z hz => h5 z (.inr (.inr ⟨r, hrm, hz⟩))) fun z hz => .inl hz⟩
  · rw [← h2, List.map_set, hx]
    have e : (fi.map (·.name))[i]? = some r.name := by rw [List.getElem?_map, hr]; rfl
    apply List.ext_getElem?
    intro j
    by_cases hji : j = i
    · subst hji
      rw [List.getElem?_set_self (by rw [List.length_map]; exact hil), e]
    · rw [List.getElem?_set_ne (fun e => hji e.symm)]
  · rw [List.drop_set_of_lt (by omega)]
    have := congrArg (List.drop 1) h3
    rw [List.drop_drop, List.drop_drop] at this
    exact this
  · rw [hdr, List.map_cons, hst] at h4
    rw [← h4, List.take_add_one, List.getElem?_set_self hil, List.take_set_of_le (Nat.le_refl _)]
    simp
  · rcases hz with rfl | rfl | ⟨y, hy, hz⟩
    · exact h5 _ (.inl rfl)
    · exact h5 _ (.inr (.inl rfl))
    · rcases List.mem_or_eq_of_mem_set hy with hy | rfl
      · exact h5 _ (.inr (.inr ⟨y, hy, hz⟩))
      · exact h5 _ (.inr (.inr ⟨r, hrm, hxhas z hz⟩))
/-- A slice without its first element. -/
theorem Sl.tl {v : World} {b o o' k : Nat} {y : Value} {xs : List Value} (h : Sl v (some ⟨b, o, none⟩) (k + 1) (y :: xs)) (ho : k = 0 ∨ o' = o + 1) : Sl v (some ⟨b, o', none⟩) k xs := by
  have hl := h.1
  refine ⟨by simpa using hl, fun hp => ?_⟩
  obtain ⟨b', off0, e, hb, hc⟩ := h.2 (by omega)
  cases e
  refine ⟨b, o', rfl, hb, fun j u hu => ?_⟩
  have := hc (j + 1) u (by simpa using hu)
  rcases ho with ho | ho
  · omega
  · rw [ho, Nat.add_assoc, Nat.add_comm 1 j]; exact this
theorem own_bx {w : World} {e : TypeId} {g n c : Nat} {xs : List Value} (h : w.ownsRow 0 e 1 (.slice (some ⟨g, 0, none⟩) n c) n xs) (hn : 0 < n) : Bx w g xs := by
  have hs := Sl.of_own1 h
  obtain ⟨b, o, e1, hl, hc⟩ := hs.2 hn
  cases e1
  refine ⟨hl, fun i u hu => ⟨?_, ?_⟩⟩
  · have := hc i u hu
    rwa [Nat.zero_add] at this
  · rcases h.2 with ⟨h0, h1⟩ | ⟨g', cap, cur, hv, hg, hh, hnc, hcm, hcs, ht⟩
    · omega
    · cases hv
      unfold World.frozen?
      rw [hh]
      simp
theorem len_flip (l : List UInt8) : (flipB l).length = l.length := by unfold flipB; rw [List.length_set]
theorem u8_flip (b : UInt8) : IntKind.u8.wrap (255 - (b.toNat : Int)) = ((255 - b : UInt8).toNat : Int) := by
  have h1 : b.toNat < 256 := b.toNat_lt
  have h2 : (255 - b : UInt8).toNat = 255 - b.toNat := by
    rw [UInt8.toNat_sub_of_le]
    · rfl
    · rw [UInt8.le_iff_toNat_le]; show b.toNat ≤ 255; omega
  rw [h2]
  have e1 : IntKind.u8.signed = false := rfl
  have e2 : IntKind.u8.bits = 8 := rfl
  simp only [IntKind.wrap, e1, e2, Bool.false_and, Bool.false_eq_true, if_false]
  omega
theorem StI.fin (h : StI w wr d mb s fs fi S i ch ci) (hr : fi[i]? = some r) {wx : World} {l cj : List UInt8} {m : Nat} (hm : l.length = m) (hx : Bx wx r.fb [.slice r.A m r.cap, .int .i64 r.dur]) (ho : wx.ownsRow 0 5 1 (.slice r.A m r.cap) m (u8s l)) (hc : DChg (fun z => r.has z) wr wx)
    (hst : startL (r.fl :: (fs.drop (i + 1)).map FR.fl) ci = ⟨r.name, l, m⟩ :: startL ((fs.drop (i + 1)).map FR.fl) cj) :
    StI w (wx.setCell ⟨r.fb, 1, none⟩ (.int .i64 m)) d mb s fs (fi.set i ⟨r.name, r.fb, r.A, r.cap, l, m⟩) S (i + 1) ch cj ∧ DChg (fun z => r.has z) wr (wx.setCell ⟨r.fb, 1, none⟩ (.int .i64 m)) := by
  subst hm
  have hF := h.dev.files r (List.mem_of_getElem? hr)
  have hcw : DChg (fun z => r.has z) wr (wx.setCell ⟨r.fb, 1, none⟩ (.int .i64 l.length)) := DChg.setCell (S := fun z => r.has z) hc (b := r.fb) (.inl rfl) _ _
  have hob : ∀ y, (Value.slice r.A l.length r.cap).ownBlock = some y → r.val.ownBlock = some y := fun y hy => by rw [← hy]; exact own_A _ _ _ _ _
  refine ⟨h.step (x := ⟨r.name, r.fb, r.A, r.cap, l, l.length⟩) hr rfl rfl hcw ⟨hx.put rfl, own_blk ho fun g hg => Below.heap_setCell _ _ _ g fun e => hF.ne ?_, fun e => hF.ne (hob _ e)⟩ hob hst, hcw⟩
  have := hob g hg
  rwa [show g = r.fb from e] at this

set_option maxRecDepth 20000 in set_option maxHeartbeats 4000000 in
theorem start_any (h : DevW w d S s) (ho : s.Ok) {A : Option Addr} {n c : Nat} {ch : List UInt8} (hx : Sl w A n (u8s ch)) (hnc : n ≤ c) (hcm : c ≤ maxLen) (hA : ∀ ad, A = some ad → ¬ S ad.block) :
    Calls Tryz.prog 46 #[.pointer (some ⟨d, 0, none⟩), .slice A n c] w fun e w' => e = .returned (.tuple #[]) ∧ RetD d S (startD s ch) w w' := by
  obtain ⟨R, hr⟩ : ∃ R, startD s ch = R := ⟨_, rfl⟩
  rw [hr]
  unfold startD at hr
  have H := Lib.hid h
  have HO := Lib.hid ho
  have hcn := ho.cnt
  obtain ⟨mb, fs, hR, hS⟩ := h
  have k2 := (hR.box.2 2 _ rfl).1
  have lt := hR.box.lt
  rcases hd : s.down with _ | _
  · rw [hd, if_neg (by simp)] at hr
    rw [hd] at k2
    replace hr := Lib.hid hr
    clear hR
    go_enter Tryz.func46, Tryz.ntmps46
    go_wp2_with fail
    exact bodyPost_ret (v := .tuple #[]) (results_none rfl _ _ _) rfl ⟨rfl, by rw [← hr.out]; exact RetD.of_below H.out (G.refl _)⟩
  · rw [hd, if_pos rfl] at hr
    rw [hd] at k2
    have k3 := (hR.box.2 3 _ rfl).1
    have k4 := (hR.box.2 4 _ rfl).1
    have k1 := (hR.box.2 1 _ rfl).1
    have f2 := (hR.box.2 2 _ rfl).2
    have f3 := (hR.box.2 3 _ rfl).2
    have f4 := (hR.box.2 4 _ rfl).2
    have hSd : S d := (hS d).2 (.inl rfl)
    have hfs : s.fs = fs.map FR.fl := hR.eq
    rw [hfs, List.length_map] at hcn
    have hR3 : DevR (((w.setCell ⟨d, 2, none⟩ (.bool false)).setCell ⟨d, 3, none⟩ (.bool false)).setCell ⟨d, 4, none⟩ (.int .i64 0)) d mb ⟨s.room, false, false, 0, s.fs⟩ fs := by
      have h1 := hR.cell (i := 2) (v := .bool false) (s' := ⟨s.room, false, s.lim, s.left, s.fs⟩) rfl rfl
      have h2 := h1.cell (i := 3) (v := .bool false) (s' := ⟨s.room, false, false, s.left, s.fs⟩) rfl rfl
      exact h2.cell (i := 4) (v := .int .i64 0) (s' := ⟨s.room, false, false, 0, s.fs⟩) rfl rfl
    have hch3 : DChg S w (((w.setCell ⟨d, 2, none⟩ (.bool false)).setCell ⟨d, 3, none⟩ (.bool false)).setCell ⟨d, 4, none⟩ (.int .i64 0)) := (((DChg.refl _ _).setCell hSd _ _).setCell hSd _ _).setCell hSd _ _
    have hx3 : Sl (((w.setCell ⟨d, 2, none⟩ (.bool false)).setCell ⟨d, 3, none⟩ (.bool false)).setCell ⟨d, 4, none⟩ (.int .i64 0)) A n (u8s ch) := hx.keep (ok := fun z => ¬ S z) hA hch3.2
    have HS := Lib.hid hS
    replace hr := Lib.hid hr
    replace hR3 := Lib.hid hR3
    replace hch3 := Lib.hid hch3
    replace hx3 := Lib.hid hx3
    clear hR hx
    go_enter Tryz.func46, Tryz.ntmps46
    go_wp2_with fail
    refine calls_name (fun wx => Hid (DevR wx d mb ⟨s.room, false, false, 0, s.fs⟩ fs) ∧ Hid (DChg S w wx) ∧ Hid (Sl wx A n (u8s ch))) ⟨hR3, hch3, hx3⟩ ?_
    clear hR3 hch3 hx3 k1 k2 k3 k4 f2 f3 f4 lt
    rintro w3 ⟨hR3, hch3, hx3⟩
    refine (keys_any (some mb) _).mono ?_
    rintro e w4 ⟨rfl, hw⟩
    subst hw
    go_wp2_with fail
    refine (sortedF_any hR3.out hcn).mono ?_
    rintro e w5 ⟨A5, c5, rfl, hrow5, hb5⟩
    rw [List.length_map] at hrow5 ⊢
    have hsl5 := Sl.of_own hrow5
    rw [Nat.mul_one] at hsl5
    have hA5 : ∀ ad, A5 = some ad → ¬ S ad.block := fun ad e hh => by
      have h1 := H.out.lt hh
      have h2 := hch3.out.size
      have h3 := (hrow5.lt ad.block (by rw [e]; rfl)).1
      omega
    have hI5 : StI w w5 d mb s fs fs S 0 ch ch := ⟨(by have := hR3.out.grow hb5; rwa [hfs] at this), rfl, rfl, rfl, fun z hz => (HS.out z).2 hz, hch3.out.trans (DChg.of_below (S := S) hb5) fun z hz => .inl hz⟩
    have hx5 : Hid (Sl w5 A n (u8s ch) ∧ n ≤ c ∧ c ≤ maxLen ∧ ∀ ad, A = some ad → ¬ S ad.block) := ⟨hx3.out.grow hb5, hnc, hcm, hA⟩
    replace hsl5 := Lib.hid hsl5
    replace hA5 := Lib.hid hA5
    replace hI5 := Lib.hid hI5
    clear hrow5 hR3 hch3 hx3 hb5 hA
    go_wp2_with fail
    go_loopw [1, 35] (fun cv iv wr => ∃ (i : Nat) (ci : List UInt8) (Ac : Option Addr) (nc cc : Nat) (fi : List FR), i ≤ fs.length ∧ iv = .int .i64 i ∧ cv = .slice Ac nc cc ∧ Hid (StI w wr d mb s fs fi S i ch ci) ∧
      Hid (Sl wr Ac nc (u8s ci) ∧ nc ≤ cc ∧ cc ≤ maxLen ∧ ∀ ad, Ac = some ad → ¬ S ad.block) ∧ Hid (Sl wr A5 fs.length (strs (fs.map (·.name))))) (fun _ iv _ => fs.length - (intOf iv).toNat)
    case atStart => exact ⟨0, ch, A, n, c, fs, Nat.zero_le _, rfl, rfl, hI5, hx5, hsl5⟩
    case round =>
      clear hI5 hx5 hsl5
      obtain ⟨i, ci, Ac, nc, cc, fi, hi, rfl, rfl, hI, hC, hN⟩ := hrel
      obtain ⟨hCs, hC1, hC2, hC3⟩ := hC.out
      unfold maxLen at hC2
      by_cases hlt : i < fs.length
      · have hfl : fi.length = fs.length := by have := congrArg List.length hI.out.names; simpa using this
        obtain ⟨r, hri⟩ : ∃ r, fi[i]? = some r := ⟨_, List.getElem?_eq_getElem (by omega)⟩
        have hfsi : fs[i]? = some r := by
          have := congrArg (fun l => l[0]?) hI.out.todo
          simp only [List.getElem?_drop, Nat.add_zero] at this
          rw [← this]; exact hri
        have hrs : r.fl ∈ s.fs := by rw [hfs]; exact List.mem_map_of_mem (List.mem_of_getElem? hfsi)
        have hd1 : r.dur ≤ r.data.length := HO.out.du _ hrs
        have hd2 : r.data.length ≤ 16777216 := HO.out.sz _ hrs
        have hDev := hI.out.dev
        have hu := names_ne hDev
        have hrm := List.mem_of_getElem? hri
        have hF := hDev.files r hrm
        obtain ⟨b5, o5, hA5e, hb5l, hc5⟩ := hN.out.2 (by omega)
        have hcx := hc5 i (.string (BA r.name)) (by unfold strs; rw [List.getElem?_map, List.getElem?_map, hfsi]; rfl)
        subst hA5e
        have k1 := (hDev.box.2 1 _ rfl).1
        have lt := hDev.box.lt
        have LK := look_fs hDev.map Tryz.underlying9 Tryz.underlying95 (zeroP _) (s := BA r.name) (by have := own_names hDev.map Tryz.underlying9 r hrm; exact this)
        have hlk : lk fi (BA r.name).data.toList = some r := lk_get hu hri
        rw [hlk] at LK
        have hpv : ptrV (some r) = .pointer (some ⟨r.fb, 0, none⟩) := rfl
        rw [hpv] at LK
        have k5 := (hF.box.2 0 _ rfl).1
        have k6 := (hF.box.2 1 _ rfl).1
        have g6 := (hF.box.2 1 _ rfl).2
        have g5 := (hF.box.2 0 _ rfl).2
        have hv : r.val = .slice r.A r.data.length r.cap := rfl
        rw [hv] at k5
        have ltf := hF.box.lt
        have HF := Lib.hid hF
        replace hfsi := Lib.hid hfsi
        replace hri := Lib.hid hri
        replace hrs := Lib.hid hrs
        obtain ⟨u, hu0⟩ : ∃ u : Nat, r.data.length - r.dur = u := ⟨_, rfl⟩
        have hw1 : IntKind.i64.wrap ((r.data.length : Int) - (r.dur : Int)) = (u : Int) := by rw [IntWalk.i64_in _ (by omega)]; omega
        have hSr : ∀ z, r.has z → S z := fun z hz => hI.out.has z (.inr (.inr ⟨r, hrm, hz⟩))
        have hkN : Hid (∀ wx, DChg (fun z => r.has z) wr wx → Sl wx (some ⟨b5, o5, none⟩) fs.length (strs (fs.map (·.name)))) := fun wx hc => hN.out.keep (ok := fun z => ¬ S z) hA5.out (hc.mono hSr).2
        have hkC : Hid (∀ wx, DChg (fun z => r.has z) wr wx → Sl wx Ac nc (u8s ci)) := fun wx hc => hCs.keep (ok := fun z => ¬ S z) hC3 (hc.mono hSr).2
        clear hDev hu hlk hc5 hF hv hpv hfl hSr
        by_cases hu1 : u = 0
        · subst hu1
          have hle : r.data.length ≤ r.dur := by omega
          clear g5
          go_wp2_with fail
          refine wp_region_ord [(0, 1), (1, 1), (2, 1), (3, 1), (4, 1), (5, 1), (6, 1), (7, 1), (8, 1), (9, 1), (10, 1)] [] 5 (by kernel_rfl) (by decide +kernel) ?_
          simp only [pickO, List.append_eq, List.cons_append, List.nil_append, List.getElem?_cons_succ, List.getElem?_cons_zero]
          intro w0 hG
          (repeat ((first | (with_reducible refine ord_q1 ?_) | (with_reducible refine ord_q0 ?_)); intro K hK; first | (refine Or.inr ⟨?_, ?_⟩; (focus (go_simp; first | done | (simp [undef]; done))); go_simp; (with_reducible refine hK _ ?_); clear hK K) | (refine Or.inl ⟨?_, ?_⟩; (focus (go_simp; done)); apply Exists.intro; refine And.intro ?_ ?_; (focus (first | (intro wq hq; obtain ⟨hcq, hfq⟩ := G.old hq; go_simp; (first | done | exact rfl); done) | (intro wq; go_simp; (first | done | exact rfl); done))); go_simp; (with_reducible refine hK _ ?_); clear hK K) | fail))
          (with_reducible refine ord_nil ?_)
          have hbg := hG.b
          replace k5 := G.cell k5 hbg
          replace k6 := G.cell k6 hbg
          replace ltf := cell_lt k5
          dsimp only at ltf
          have hB := HF.out.box.grow hbg
          replace g6 := (hB.2 1 _ rfl).2
          clear hG LK hcx k1 lt
          go_wp2_with fail
          have hcw : DChg (fun z => r.has z) wr (w0.setCell ⟨r.fb, 1, none⟩ (.int .i64 r.data.length)) := DChg.setCell (S := fun z => r.has z) (DChg.of_below hbg) (b := r.fb) (.inl rfl) _ _
          have hF0 := HF.out.keep hbg.size fun z hz => hbg.block z (HF.out.lt hz)
          have hFx : FileAt (w0.setCell ⟨r.fb, 1, none⟩ (.int .i64 r.data.length)) { r with dur := r.data.length } := ⟨hF0.box.put rfl, own_blk hF0.row fun g hg => Below.heap_setCell _ _ _ g fun e => hF0.ne (by rw [← (show g = r.fb from e)]; exact hg), hF0.ne⟩
          have hstep := Lib.hid (hI.out.step (x := { r with dur := r.data.length }) hri.out rfl rfl hcw hFx (fun y hy => hy) (cj := ci) (by
            show (if r.data.length ≤ r.dur then _ else _) = _
            rw [if_pos hle]
            rfl))
          have hN2 := Lib.hid (hkN.out _ hcw)
          have hC4 := Lib.hid (And.intro (hkC.out _ hcw) (And.intro hC1 (And.intro hC.out.2.2.1 hC3)))
          go_roundw
          case rel => exact ⟨i + 1, ci, Ac, nc, cc, _, by omega, by go_num, rfl, hstep, hC4, hN2⟩
          case measure => simp [intOf]; omega
        · have hup : (0 : Int) < (u : Int) := by omega
          have hgt : r.dur < r.data.length := by omega
          have hFl : ∀ k, k ≤ r.data.length → Value.ownBlock (.slice r.A k r.cap) = r.val.ownBlock := fun k _ => own_A _ _ _ _ _
          have hcap := own_cap HF.out.row
          obtain ⟨hcp1, hcp2⟩ := hcap
          unfold maxLen at hcp2
          clear g6
          rcases ci with _ | ⟨b, rest⟩
          · have hn0 : nc = 0 := by have := hCs.1; simpa [u8s] using this.symm
            subst hn0
            go_wp2_with fail
            refine wp_region_ord [(0, 1), (1, 1), (2, 1), (3, 1), (4, 1), (5, 1), (6, 1), (7, 1), (8, 1), (9, 1), (10, 1)] [] 5 (by kernel_rfl) (by decide +kernel) ?_
            simp only [pickO, List.append_eq, List.cons_append, List.nil_append, List.getElem?_cons_succ, List.getElem?_cons_zero]
            intro w0 hG
            (repeat ((first | (with_reducible refine ord_q1 ?_) | (with_reducible refine ord_q0 ?_)); intro K hK; first | (refine Or.inr ⟨?_, ?_⟩; (focus (go_simp; first | done | (simp [undef]; done))); go_simp; (with_reducible refine hK _ ?_); clear hK K) | (refine Or.inl ⟨?_, ?_⟩; (focus (go_simp; done)); apply Exists.intro; refine And.intro ?_ ?_; (focus (first | (intro wq hq; obtain ⟨hcq, hfq⟩ := G.old hq; go_simp; (first | done | exact rfl); done) | (intro wq; go_simp; (first | done | exact rfl); done))); go_simp; (with_reducible refine hK _ ?_); clear hK K) | fail))
            (with_reducible refine ord_nil ?_)
            have hbg := hG.b
            replace k5 := G.cell k5 hbg
            replace k6 := G.cell k6 hbg
            replace ltf := cell_lt k5
            dsimp only at ltf
            have hB := HF.out.box.grow hbg
            have hO := HF.out.keep hbg.size fun z hz => hbg.block z (HF.out.lt hz)
            have hO2 := hO.row
            have hc0 := DChg.of_below (S := fun z => r.has z) hbg
            obtain ⟨wa, rfl⟩ : ∃ wa, wa = w0 := ⟨_, rfl⟩
            clear hG LK hcx k1 lt hbg hO
            have hk1 : (r.dur : Int) ≤ (r.cap : Int) := by omega
            have hk2 : r.dur ≤ r.cap := by omega
            have hw2 : IntKind.i64.wrap (r.dur : Int) = (r.dur : Int) := by rw [IntWalk.i64_in _ (by omega)]
            go_wp2_with fail
            refine wp_region_ord [(0, 1), (1, 1), (2, 1), (3, 1), (4, 1), (5, 1), (6, 1), (7, 1), (8, 1), (9, 1), (10, 1), (11, 1), (12, 1), (13, 1), (14, 3)] [14] 5 (by kernel_rfl) (by decide +kernel) ?_
            simp only [pickO, List.append_eq, List.cons_append, List.nil_append, List.getElem?_cons_succ, List.getElem?_cons_zero]
            intro w0 hG
            (repeat ((first | (with_reducible refine ord_q1 ?_) | (with_reducible refine ord_q0 ?_)); intro K hK; first | (refine Or.inr ⟨?_, ?_⟩; (focus (go_simp; first | done | (simp [undef]; done))); go_simp; (with_reducible refine hK _ ?_); clear hK K) | (refine Or.inl ⟨?_, ?_⟩; (focus (go_simp; done)); apply Exists.intro; refine And.intro ?_ ?_; (focus (first | (intro wq hq; obtain ⟨hcq, hfq⟩ := G.old hq; go_simp; (first | done | exact rfl); done) | (intro wq; go_simp; (first | done | exact rfl); done))); go_simp; (with_reducible refine hK _ ?_); clear hK K) | fail))
            have hB0 := hB.grow hG.b
            obtain ⟨u0, g0⟩ := hB0.2 0 _ rfl
            ((with_reducible refine ord_tail ?_); intro K hK; go_simp; (with_reducible refine hK _ _ ?_); clear hK K)
            (with_reducible refine ord_nil ?_)
            have x1 := hB0.put (i := 0) (v := .slice r.A r.dur r.cap) (l' := [.slice r.A r.dur r.cap, .int .i64 r.dur]) rfl
            have hch : DChg (fun z => r.has z) wr (w0.setCell ⟨r.fb, 0, none⟩ (.slice r.A r.dur r.cap)) := DChg.setCell (S := fun z => r.has z) (hc0.trans (DChg.of_below (S := fun z => r.has z) hG.b) fun z hz => .inl hz) (b := r.fb) (.inl rfl) _ _
            have hrw : (w0.setCell ⟨r.fb, 0, none⟩ (.slice r.A r.dur r.cap)).ownsRow 0 5 1 (.slice r.A r.dur r.cap) r.dur (u8s (r.data.take r.dur)) := by
              rw [show u8s (r.data.take r.dur) = (u8s r.data).take r.dur from List.map_take]
              refine own_blk (own_grow (own_take hO2 hd1) hG.b) fun g hg => Below.heap_setCell _ _ _ g fun e => HF.out.ne ?_
              rw [own_A _ _ _ r.data.length r.cap] at hg
              rw [← (show g = r.fb from e)]
              exact hg
            generalize (w0.setCell ⟨r.fb, 0, none⟩ (.slice r.A r.dur r.cap)) = wx at x1 hch hrw ⊢
            clear hB0 u0 g0 hG
            have hf := hI.out.fin hri.out (l := r.data.take r.dur) (m := r.dur) (cj := []) (by rw [List.length_take]; omega) x1 hrw hch (by
              show (if r.data.length ≤ r.dur then _ else _) = _
              rw [if_neg (by omega)]
              have e1 : chopB r.fl 0 = r.data.take r.dur := by
                unfold chopB keptB
                simp
                rfl
              show (⟨r.name, chopB r.fl 0, (chopB r.fl 0).length⟩ : Fl) :: startL _ [] = _
              rw [e1, List.length_take]
              congr 2
              omega)
            have k5 := (x1.2 0 _ rfl).1
            have k6 := (x1.2 1 _ rfl).1
            have g6 := (x1.2 1 _ rfl).2
            have ltf := x1.lt
            replace hf := Lib.hid hf
            have hN2 := Lib.hid (hkN.out _ hf.out.2)
            have hC4 := Lib.hid (And.intro (hkC.out _ hf.out.2) (And.intro hC1 (And.intro hC.out.2.2.1 hC3)))
            have hI4 := Lib.hid hf.out.1
            clear x1 hch hrw hf
            go_wp2_with fail
            go_roundw
            case rel => exact ⟨i + 1, [], Ac, 0, cc, _, by omega, by go_num, rfl, hI4, hC4, hN2⟩
            case measure => simp [intOf]; omega
          · have hn0 : nc = rest.length + 1 := by have := hCs.1; simpa [u8s] using this.symm
            obtain ⟨b8, o8, hA8, hl8, hc8⟩ := hCs.2 (by omega)
            subst hA8
            have hc80 := hc8 0 (.int .u8 b.toNat) rfl
            rw [Nat.add_zero] at hc80
            have hb256 : b.toNat < 256 := b.toNat_lt
            obtain ⟨P, hP⟩ : ∃ P : Nat, b.toNat * (u + 1) = P := ⟨_, rfl⟩
            have hP1 : P ≤ 255 * (u + 1) := by rw [← hP]; exact Nat.mul_le_mul_right _ (by omega)
            have hwu : IntKind.i64.wrap ((u : Int) + 1) = (u : Int) + 1 := by rw [IntWalk.i64_in _ (by omega)]
            have hPi : (b.toNat : Int) * ((u : Int) + 1) = (P : Int) := by rw [← hP]; push_cast; rfl
            have hwP : IntKind.i64.wrap ((b.toNat : Int) * ((u : Int) + 1)) = (P : Int) := by rw [hPi, IntWalk.i64_in _ (by omega)]
            obtain ⟨K, hKe⟩ : ∃ K : Nat, P / 256 = K := ⟨_, rfl⟩
            have hwq : IntKind.i64.wrap (Int.tdiv (P : Int) 256) = (K : Int) := by
              rw [Int.tdiv_eq_ediv_of_nonneg (by omega), IntWalk.i64_in _ (by omega)]
              omega
            have hKu : K ≤ u := by omega
            have hwd : IntKind.i64.wrap ((r.dur : Int) + (K : Int)) = ((r.dur + K : Nat) : Int) := by rw [IntWalk.i64_in _ (by omega)]; omega
            have hwb : IntKind.i64.wrap (b.toNat : Int) = (b.toNat : Int) := by rw [IntWalk.i64_in _ (by omega)]
            have hpos8 : (0 : Int) < (nc : Int) := by omega
            have hle8 : (1 : Int) ≤ (nc : Int) := by omega
            have hle9 : (nc : Int) ≤ (cc : Int) := by omega
            have hle7 : (1 : Int) ≤ (rest.length : Int) + 1 := by omega
            have hle6 : nc ≤ cc := hC1
            have hHc := Lib.hid hc8
            have hHs := Lib.hid hCs
            have hPn := Lib.hid hP
            clear hc8 hCs hP hPi
            go_wp2_with fail
            refine wp_region_ord [(0, 1), (1, 1), (2, 1), (3, 1), (4, 1), (5, 1), (6, 1), (7, 1), (8, 1), (9, 1), (10, 1)] [] 5 (by kernel_rfl) (by decide +kernel) ?_
            simp only [pickO, List.append_eq, List.cons_append, List.nil_append, List.getElem?_cons_succ, List.getElem?_cons_zero]
            intro w0 hG
            (repeat ((first | (with_reducible refine ord_q1 ?_) | (with_reducible refine ord_q0 ?_)); intro K hK; first | (refine Or.inr ⟨?_, ?_⟩; (focus (go_simp; first | done | (simp [undef]; done))); go_simp; (with_reducible refine hK _ ?_); clear hK K) | (refine Or.inl ⟨?_, ?_⟩; (focus (go_simp; done)); apply Exists.intro; refine And.intro ?_ ?_; (focus (first | (intro wq hq; obtain ⟨hcq, hfq⟩ := G.old hq; go_simp; (first | done | exact rfl); done) | (intro wq; go_simp; (first | done | exact rfl); done))); go_simp; (with_reducible refine hK _ ?_); clear hK K) | fail))
            (with_reducible refine ord_nil ?_)
            have hbg := hG.b
            replace k5 := G.cell k5 hbg
            replace k6 := G.cell k6 hbg
            replace ltf := cell_lt k5
            dsimp only at ltf
            have hB := HF.out.box.grow hbg
            have hO := HF.out.keep hbg.size fun z hz => hbg.block z (HF.out.lt hz)
            have hO2 := hO.row
            have hc0 := DChg.of_below (S := fun z => r.has z) hbg
            obtain ⟨wa, rfl⟩ : ∃ wa, wa = w0 := ⟨_, rfl⟩
            replace hc80 := G.cell hc80 hbg
            replace hl8 := Nat.lt_of_lt_of_le hl8 hbg.size
            clear hG LK hcx k1 lt hbg hO
            go_wp2_with fail
            refine wp_region_ord [(0, 1), (1, 1), (2, 1), (3, 1), (4, 1), (5, 1), (6, 1), (7, 1)] [] 5 (by kernel_rfl) (by decide +kernel) ?_
            simp only [pickO, List.append_eq, List.cons_append, List.nil_append, List.getElem?_cons_succ, List.getElem?_cons_zero]
            intro w0 hG
            (repeat ((first | (with_reducible refine ord_q1 ?_) | (with_reducible refine ord_q0 ?_)); intro K hK; first | (refine Or.inr ⟨?_, ?_⟩; (focus (go_simp; first | done | (simp [undef]; done))); go_simp; (with_reducible refine hK _ ?_); clear hK K) | (refine Or.inl ⟨?_, ?_⟩; (focus (go_simp; done)); apply Exists.intro; refine And.intro ?_ ?_; (focus (first | (intro wq hq; obtain ⟨hcq, hfq⟩ := G.old hq; go_simp; (first | done | exact rfl); done) | (intro wq; go_simp; (first | done | exact rfl); done))); go_simp; (with_reducible refine hK _ ?_); clear hK K) | fail))
            (with_reducible refine ord_nil ?_)
            obtain ⟨A9, hA9⟩ : ∃ A9 : Option Addr, (if cc = 1 then (some ⟨b8, o8, none⟩ : Option Addr) else some ⟨b8, o8 + 1, none⟩) = A9 := ⟨_, rfl⟩
            rw [hA9]
            replace hA9 := Lib.hid hA9
            have hq : (P : Int) / 256 = (K : Int) := by omega
            have hbg := hG.b
            replace k5 := G.cell k5 hbg
            replace k6 := G.cell k6 hbg
            replace ltf := cell_lt k5
            dsimp only at ltf
            replace hB := hB.grow hbg
            replace hO2 := own_grow hO2 hbg
            replace hc0 := hc0.trans (DChg.of_below (S := fun z => r.has z) hbg) fun z hz => .inl hz
            obtain ⟨wb, rfl⟩ : ∃ wb, wb = w0 := ⟨_, rfl⟩
            clear hG hbg hc80 hl8
            obtain ⟨m, hm⟩ : ∃ m : Nat, r.dur + K = m := ⟨_, rfl⟩
            have hdk : (r.dur : Int) + (K : Int) = (m : Int) := by omega
            have hml : m ≤ r.data.length := by omega
            have hwm : IntKind.i64.wrap (m : Int) = (m : Int) := by rw [IntWalk.i64_in _ (by omega)]
            have hwl : IntKind.i64.wrap ((r.dur : Int) + (K : Int)) = (m : Int) := by rw [hdk, hwm]
            clear hwd
            have hk1 : (m : Int) ≤ (r.cap : Int) := by omega
            have hk2 : m ≤ r.cap := by omega
            have hkB : keptB r.fl b.toNat = K := by
              unfold keptB
              show b.toNat * (r.data.length - r.dur + 1) / 256 = K
              rw [hu0, hPn.out, hKe]
            replace hkB := Lib.hid hkB
            have hcr : rest.length ≤ cc - 1 := by omega
            have hcs8 : cc - 1 ≤ maxLen := by unfold maxLen; omega
            have hA10 : ∀ ad, A9 = some ad → ¬ S ad.block := fun ad e => by
              have := hA9.out
              rw [e] at this
              split at this
              · cases this; exact hC3 _ rfl
              · cases this; exact hC3 ⟨b8, o8, none⟩ rfl
            have hC5 : Hid (∀ wx, DChg (fun z => r.has z) wr wx → Sl wx A9 rest.length (u8s rest)) := fun wx hc => by
              have h1 := hkC.out wx hc
              rw [hn0] at h1
              have h2 := hA9.out
              split at h2
              · next hcc =>
                subst h2
                exact Sl.tl h1 (.inl (by omega))
              · subst h2
                exact Sl.tl h1 (.inr rfl)
            clear hkC
            go_wp2_with fail
            refine wp_region_ord [(0, 1), (1, 1), (2, 1), (3, 1), (4, 1), (5, 1), (6, 1), (7, 1), (8, 1), (9, 1), (10, 1), (11, 1), (12, 1), (13, 1), (14, 3)] [14] 5 (by kernel_rfl) (by decide +kernel) ?_
            simp only [pickO, List.append_eq, List.cons_append, List.nil_append, List.getElem?_cons_succ, List.getElem?_cons_zero]
            intro w0 hG
            (repeat ((first | (with_reducible refine ord_q1 ?_) | (with_reducible refine ord_q0 ?_)); intro K hK; first | (refine Or.inr ⟨?_, ?_⟩; (focus (go_simp; first | done | (simp [undef]; done))); go_simp; (with_reducible refine hK _ ?_); clear hK K) | (refine Or.inl ⟨?_, ?_⟩; (focus (go_simp; done)); apply Exists.intro; refine And.intro ?_ ?_; (focus (first | (intro wq hq; obtain ⟨hcq, hfq⟩ := G.old hq; go_simp; (first | done | exact rfl); done) | (intro wq; go_simp; (first | done | exact rfl); done))); go_simp; (with_reducible refine hK _ ?_); clear hK K) | fail))
            have hB0 := hB.grow hG.b
            obtain ⟨u0, g0⟩ := hB0.2 0 _ rfl
            ((with_reducible refine ord_tail ?_); intro K hK; go_simp; (with_reducible refine hK _ _ ?_); clear hK K)
            (with_reducible refine ord_nil ?_)
            have x1 := hB0.put (i := 0) (v := .slice r.A m r.cap) (l' := [.slice r.A m r.cap, .int .i64 r.dur]) rfl
            have hch : DChg (fun z => r.has z) wr (w0.setCell ⟨r.fb, 0, none⟩ (.slice r.A m r.cap)) := DChg.setCell (S := fun z => r.has z) (hc0.trans (DChg.of_below (S := fun z => r.has z) hG.b) fun z hz => .inl hz) (b := r.fb) (.inl rfl) _ _
            have hrw : (w0.setCell ⟨r.fb, 0, none⟩ (.slice r.A m r.cap)).ownsRow 0 5 1 (.slice r.A m r.cap) m (u8s (r.data.take m)) := by
              rw [show u8s (r.data.take m) = (u8s r.data).take m from List.map_take]
              refine own_blk (own_grow (own_take hO2 hml) hG.b) fun g hg => Below.heap_setCell _ _ _ g fun e => HF.out.ne ?_
              rw [own_A _ _ _ r.data.length r.cap] at hg
              rw [← (show g = r.fb from e)]
              exact hg
            generalize (w0.setCell ⟨r.fb, 0, none⟩ (.slice r.A m r.cap)) = wx at x1 hch hrw ⊢
            clear hB0 u0 g0 hG hB k5 k6 ltf hc0 hO2 hKe hP1 hwP hwu hwq hle7 hpos8 hle8 hle9 hq
            replace hkB := hkB.out
            by_cases hb2 : b.toNat % 2 = 1
            · by_cases hK0 : K = 0
              · have hb3 : (b.toNat : Int) % 2 = 1 := by omega
                have hK1 : ¬ (0 : Int) < (K : Int) := by omega
                have hf := hI.out.fin hri.out (l := r.data.take m) (m := m) (cj := rest) (by rw [List.length_take]; omega) x1 hrw hch (by
                  show (if r.data.length ≤ r.dur then _ else _) = _
                  rw [if_neg (by omega)]
                  have e1 : chopB r.fl b.toNat = r.data.take m := by
                    unfold chopB
                    rw [hkB, if_neg (by omega)]
                    show r.data.take (r.dur + K) = _
                    rw [hm]
                  show (⟨r.name, chopB r.fl b.toNat, (chopB r.fl b.toNat).length⟩ : Fl) :: startL _ rest = _
                  rw [e1, List.length_take]
                  congr 2
                  omega)
                have k5 := (x1.2 0 _ rfl).1
                have k6 := (x1.2 1 _ rfl).1
                have g6 := (x1.2 1 _ rfl).2
                have ltf := x1.lt
                replace hf := Lib.hid hf
                have hN2 := Lib.hid (hkN.out _ hf.out.2)
                have hC4 := Lib.hid (And.intro (hC5.out _ hf.out.2) (And.intro hcr (And.intro hcs8 hA10)))
                have hI4 := Lib.hid hf.out.1
                clear x1 hch hrw hf hkB
                go_wp2_with fail
                go_roundw
                case rel => exact ⟨i + 1, rest, A9, rest.length, cc - 1, _, by omega, by go_num, rfl, hI4, hC4, hN2⟩
                case measure => simp [intOf]; omega
              · have hb3 : (b.toNat : Int) % 2 = 1 := by omega
                have hK1 : (0 : Int) < (K : Int) := by omega
                obtain ⟨g, hAg, hgl, hgn, hgo⟩ := HF.out.some_ (by omega)
                rw [hAg] at x1 hrw
                obtain ⟨j, hj⟩ : ∃ j, m = j + 1 := ⟨m - 1, by omega⟩
                have hlt9 : j < (r.data.take m).length := by rw [List.length_take]; omega
                obtain ⟨v, hv⟩ : ∃ v, (r.data.take m)[j]? = some v := ⟨_, List.getElem?_eq_getElem hlt9⟩
                have hrb := own_bx hrw (by omega)
                have kv := (hrb.2 j _ (u8s_get hv)).1
                have gv := (hrb.2 j _ (u8s_get hv)).2
                have hmj : (m : Int) - 1 = (j : Int) := by omega
                have hwj : IntKind.i64.wrap ((m : Int) - 1) = (j : Int) := by rw [hmj, IntWalk.i64_in _ (by omega)]
                have hwj2 : IntKind.i64.wrap (j : Int) = (j : Int) := by rw [IntWalk.i64_in _ (by omega)]
                have hjm : (j : Int) < (m : Int) := by omega
                have hjm' : j < m := by omega
                have hwv := u8_flip v
                have hfv : flipB (r.data.take m) = (r.data.take m).set j (255 - v) := by
                  unfold flipB
                  have e1 : (r.data.take m).length - 1 = j := by rw [List.length_take]; omega
                  rw [e1]
                  congr 2
                  rw [List.getD_eq_getElem?_getD, hv]
                  rfl
                replace hv := Lib.hid hv
                replace hfv := Lib.hid hfv
                have k5 := (x1.2 0 _ rfl).1
                have k6 := (x1.2 1 _ rfl).1
                have ltf := x1.lt
                have ltg := hrb.lt
                have X1 := Lib.hid x1
                have HR := Lib.hid hrw
                have HB := Lib.hid hrb
                clear x1 hrw hrb hlt9 hj
                go_wp2_with fail
                refine wp_region_ord [(0, 1), (1, 1), (2, 1), (3, 1), (4, 1), (5, 1), (6, 1), (7, 1), (8, 1), (9, 1), (10, 1), (11, 1), (12, 1), (13, 1), (14, 1), (15, 1), (16, 1), (17, 1), (18, 1), (19, 1), (20, 1), (21, 1), (22, 1), (23, 1), (24, 3)] [24] 5 (by kernel_rfl) (by decide +kernel) ?_
                simp only [pickO, List.append_eq, List.cons_append, List.nil_append, List.getElem?_cons_succ, List.getElem?_cons_zero]
                intro w0 hG
                (repeat ((first | (with_reducible refine ord_q1 ?_) | (with_reducible refine ord_q0 ?_)); intro K hK; first | (refine Or.inr ⟨?_, ?_⟩; (focus (go_simp; first | done | (simp [undef]; done))); go_simp; (with_reducible refine hK _ ?_); clear hK K) | (refine Or.inl ⟨?_, ?_⟩; (focus (go_simp; done)); apply Exists.intro; refine And.intro ?_ ?_; (focus (first | (intro wq hq; obtain ⟨hcq, hfq⟩ := G.old hq; go_simp; (first | done | exact rfl); done) | (intro wq; go_simp; (first | done | exact rfl); done))); go_simp; (with_reducible refine hK _ ?_); clear hK K) | fail))
                have hB0 := HB.out.grow hG.b
                obtain ⟨u0, g0⟩ := hB0.2 j _ (u8s_get hv.out)
                ((with_reducible refine ord_tail ?_); intro K hK; go_simp; (with_reducible refine hK _ _ ?_); clear hK K)
                (with_reducible refine ord_nil ?_)
                have y1 := (X1.out.grow hG.b).other (p := ⟨g, j, none⟩) (fun e => hgn e.symm) (.int .u8 ((255 - v : UInt8).toNat))
                have hch2 : DChg (fun z => r.has z) wr (w0.setCell ⟨g, j, none⟩ (.int .u8 ((255 - v : UInt8).toNat))) := DChg.setCell (S := fun z => r.has z) (hch.trans (DChg.of_below (S := fun z => r.has z) hG.b) fun z hz => .inl hz) (b := g) (.inr hgo) _ _
                have hrw2 := own_upd (own_grow HR.out hG.b) hjm' (.int .u8 ((255 - v : UInt8).toNat))
                generalize (w0.setCell ⟨g, j, none⟩ (.int .u8 ((255 - v : UInt8).toNat))) = wy at y1 hch2 hrw2 ⊢
                clear hG hB0 u0 g0 k5 k6 ltf hwv kv gv
                have k5 := (y1.2 0 _ rfl).1
                have k6 := (y1.2 1 _ rfl).1
                have g6 := (y1.2 1 _ rfl).2
                have ltf := y1.lt
                have hset : (u8s (r.data.take m)).set j (.int .u8 ((255 - v : UInt8).toNat)) = u8s (flipB (r.data.take m)) := by rw [hfv.out]; unfold u8s; rw [List.map_set]
                rw [hset] at hrw2
                rw [← hAg] at y1 hrw2
                have hf := hI.out.fin hri.out (l := flipB (r.data.take m)) (m := m) (cj := rest) (by rw [len_flip, List.length_take]; omega) y1 hrw2 hch2 (by
                  show (if r.data.length ≤ r.dur then _ else _) = _
                  rw [if_neg (by omega)]
                  have e1 : chopB r.fl b.toNat = flipB (r.data.take m) := by
                    unfold chopB
                    rw [hkB, if_pos ⟨hb2, by omega⟩]
                    show flipB (r.data.take (r.dur + K)) = _
                    rw [hm]
                  show (⟨r.name, chopB r.fl b.toNat, (chopB r.fl b.toNat).length⟩ : Fl) :: startL _ rest = _
                  rw [e1, len_flip, List.length_take]
                  congr 2
                  omega)
                replace hf := Lib.hid hf
                have hN2 := Lib.hid (hkN.out _ hf.out.2)
                have hC4 := Lib.hid (And.intro (hC5.out _ hf.out.2) (And.intro hcr (And.intro hcs8 hA10)))
                have hI4 := Lib.hid hf.out.1
                clear y1 hch2 hrw2 hf hkB hset hch
                go_wp2_with fail
                go_roundw
                case rel => exact ⟨i + 1, rest, A9, rest.length, cc - 1, _, by omega, by go_num, rfl, hI4, hC4, hN2⟩
                case measure => simp [intOf]; omega
            · have hb3 : (b.toNat : Int) % 2 = 0 := by omega
              have hf := hI.out.fin hri.out (l := r.data.take m) (m := m) (cj := rest) (by rw [List.length_take]; omega) x1 hrw hch (by
                show (if r.data.length ≤ r.dur then _ else _) = _
                rw [if_neg (by omega)]
                have e1 : chopB r.fl b.toNat = r.data.take m := by
                  unfold chopB
                  rw [hkB, if_neg (by omega)]
                  show r.data.take (r.dur + K) = _
                  rw [hm]
                show (⟨r.name, chopB r.fl b.toNat, (chopB r.fl b.toNat).length⟩ : Fl) :: startL _ rest = _
                rw [e1, List.length_take]
                congr 2
                omega)
              have k5 := (x1.2 0 _ rfl).1
              have k6 := (x1.2 1 _ rfl).1
              have g6 := (x1.2 1 _ rfl).2
              have ltf := x1.lt
              replace hf := Lib.hid hf
              have hN2 := Lib.hid (hkN.out _ hf.out.2)
              have hC4 := Lib.hid (And.intro (hC5.out _ hf.out.2) (And.intro hcr (And.intro hcs8 hA10)))
              have hI4 := Lib.hid hf.out.1
              clear x1 hch hrw hf hkB
              go_wp2_with fail
              go_roundw
              case rel => exact ⟨i + 1, rest, A9, rest.length, cc - 1, _, by omega, by go_num, rfl, hI4, hC4, hN2⟩
              case measure => simp [intOf]; omega
      · obtain rfl : i = fs.length := by omega
        have hI' := hI.out
        have hdn : fi.map FR.fl = startL (fs.map FR.fl) ch := by
          have h1 := hI'.done
          have hfl : fi.length = fs.length := by have := congrArg List.length hI'.names; simpa using this
          rw [List.drop_length, List.take_of_length_le (by omega)] at h1
          simpa [startL] using h1
        have hfin : RetD d S R w wr := by
          rw [← hr.out, hfs, ← hdn]
          exact ⟨hasD d mb fi, ⟨mb, fi, hI'.dev, fun z => Iff.rfl⟩, fun z hz => .inl (hI'.has z hz), hI'.chg⟩
        replace hfin := Lib.hid hfin
        clear hI'
        go_wp2_with fail
        go_end0
        exact ⟨rfl, hfin.out⟩

end
end Go.Proofs.YtbafnlccpbonmaaGreatDoor

namespace Go.Proofs.YtbafnlccpbonmaaGreatDoor
set_option linter.unusedVariables false
set_option linter.unnecessarySimpa false
set_option linter.unusedSimpArgs false
open Go.RowKit

/-- A device that was made since w0. -/
structure FD (w0 w : World) (d : Nat) (s : Ds) : Prop where
  dev : ∃ S, DevW w d S s ∧ ∀ x, S x → w0.heap.size ≤ x
  below : Below w0.heap.size w0 w
section
variable {w0 w w' : World} {d : Nat} {s s' : Ds}
theorem FD.grow (h : FD w0 w d s) (hb : Below w.heap.size w w') : FD w0 w' d s := by
  obtain ⟨S, h1, h2⟩ := h.dev
  exact ⟨⟨S, h1.grow hb, h2⟩, G.trans h.below hb⟩
theorem below_chg {S : Nat → Prop} (h : Below w0.heap.size w0 w) (hS : ∀ x, S x → w0.heap.size ≤ x) (hc : DChg S w w') : Below w0.heap.size w0 w' :=
  ⟨hc.1.os.trans h.os, hc.1.tape.trans h.tape, hc.1.output.trans h.output, Nat.le_trans h.size hc.size, fun k hk => (hc.2.2 k (fun hk' => absurd (hS k hk') (by omega)) (Nat.lt_of_lt_of_le hk h.size)).trans (h.block k hk)⟩
theorem FD.of_ret {S : Nat → Prop} (hb : Below w0.heap.size w0 w) (hS : ∀ x, S x → w0.heap.size ≤ x) (h : RetD d S s' w w') : FD w0 w' d s' := by
  obtain ⟨S', h1, h2, h3⟩ := h
  have := hb.size
  exact ⟨⟨S', h1, fun x hx => by rcases h2 x hx with h4 | h4; exact hS x h4; omega⟩, below_chg hb hS h3⟩
theorem FD.new {w1 : World} {n : Int} {e : Ending} (hb : Below w0.heap.size w0 w) (h : RetNew n w e w1) : ∃ d, e = .returned (.tuple #[.pointer (some ⟨d, 0, none⟩), .int .i64 0]) ∧ FD w0 w1 d (newD n) := by
  obtain ⟨d, S, h1, h2, h3, h4⟩ := h
  have := hb.size
  exact ⟨d, h1, ⟨S, h2, fun x hx => Nat.le_trans this (h3 x hx)⟩, G.trans hb h4⟩
theorem FD.runE {n : Nat} {a : Array Value} {r : Int × Ds} (h : FD w0 w d s) (hc : ∀ S, DevW w d S s → Calls Tryz.prog n a w (RetE d S r w)) : Calls Tryz.prog n a w fun e w' => e = .returned (.int .i64 r.1) ∧ FD w0 w' d r.2 := by
  obtain ⟨S, h1, h2⟩ := h.dev
  exact (hc S h1).mono fun e w' hh => ⟨hh.1, FD.of_ret h.below h2 hh.2⟩
theorem FD.runV {n : Nat} {a : Array Value} (h : FD w0 w d s) (hc : ∀ S, DevW w d S s → Calls Tryz.prog n a w fun e w' => e = .returned (.tuple #[]) ∧ RetD d S s' w w') : Calls Tryz.prog n a w fun e w' => e = .returned (.tuple #[]) ∧ FD w0 w' d s' := by
  obtain ⟨S, h1, h2⟩ := h.dev
  exact (hc S h1).mono fun e w' hh => ⟨hh.1, FD.of_ret h.below h2 hh.2⟩
theorem FD.below2 (h : FD w0 w d s) : Below w0.heap.size w0 w := h.below
end
end Go.Proofs.YtbafnlccpbonmaaGreatDoor

namespace Go.Proofs.YtbafnlccpbonmaaGreatDoor
set_option linter.unusedVariables false
set_option linter.unnecessarySimpa false
set_option linter.unusedSimpArgs false
open Go.RowKit

theorem usedC_cons (x : Fl) (l : List Fl) : usedC (x :: l) = x.data.length + usedC l := by unfold usedC; rw [List.map_cons, List.sum_cons]
theorem ins_perm (x : Fl) : ∀ l : List Fl, (insC x l).Perm (x :: l)
  | [] => List.Perm.refl _
  | y :: r => by
    unfold insC
    split
    · exact List.Perm.refl _
    · exact ((ins_perm x r).cons y).trans (List.Perm.swap x y r)
theorem used_ins (x : Fl) : ∀ l : List Fl, usedC (insC x l) = x.data.length + usedC l
  | [] => usedC_cons _ _
  | y :: r => by
    unfold insC
    split
    · exact usedC_cons _ _
    · rw [usedC_cons, usedC_cons, used_ins x r]; omega
theorem used_del (n : List UInt8) : ∀ l : List Fl, usedC (delC l n) ≤ usedC l
  | [] => Nat.le_refl _
  | y :: r => by
    have ih := used_del n r
    unfold delC at ih ⊢
    rw [List.filter_cons]
    split
    · rw [usedC_cons, usedC_cons]; omega
    · rw [usedC_cons]; omega
/-- No two files have one name. -/
def Uq (l : List Fl) : Prop := l.Pairwise fun a b => a.name ≠ b.name
theorem Uq.ins {x : Fl} {l : List Fl} (h : Uq l) (hx : ∀ y ∈ l, y.name ≠ x.name) : Uq (insC x l) :=
  ((ins_perm x l).pairwise_iff (R := fun a b : Fl => a.name ≠ b.name) (fun h e => h e.symm)).2 (List.pairwise_cons.2 ⟨fun y hy e => hx y hy e.symm, h⟩)
theorem Uq.del {l : List Fl} (h : Uq l) (n : List UInt8) : Uq (delC l n) := List.Pairwise.filter _ h
theorem del_ne {l : List Fl} {n : List UInt8} : ∀ y ∈ delC l n, y.name ≠ n := fun y hy e => by
  have := (List.mem_filter.1 hy).2
  rw [e] at this
  simp at this
theorem Uq.put {l : List Fl} (h : Uq l) (x : Fl) : Uq (putFl l x) := (h.del x.name).ins del_ne
theorem upd_names {l : List Fl} {n : List UInt8} {x : Fl} (hx : x.name = n) : (updC l n x).map Fl.name = l.map Fl.name := by
  unfold updC
  rw [List.map_map]
  refine List.map_congr_left fun y _ => ?_
  show (if (y.name == n) = true then x else y).name = y.name
  split
  · next h => rw [hx]; exact (eq_of_beq h).symm
  · rfl
theorem Uq.upd {l : List Fl} {n : List UInt8} {x : Fl} (h : Uq l) (hx : x.name = n) : Uq (updC l n x) := by
  have h1 : (l.map Fl.name).Pairwise (· ≠ ·) := List.pairwise_map.2 h
  rw [← upd_names hx] at h1
  exact List.pairwise_map.1 h1
theorem upd_none {n : List UInt8} {x : Fl} : ∀ {l : List Fl}, (∀ y ∈ l, y.name ≠ n) → updC l n x = l := fun {l} h => by
  unfold updC
  conv => rhs; rw [← List.map_id l]
  refine List.map_congr_left fun y hy => ?_
  have : (y.name == n) = false := by simpa using h y hy
  rw [this]
  rfl
theorem used_upd {n : List UInt8} {x f : Fl} : ∀ {l : List Fl}, Uq l → lkC l n = some f → usedC (updC l n x) + f.data.length = usedC l + x.data.length
  | [], _, h => by cases h
  | y :: r, hu, h => by
    have hu' := List.pairwise_cons.1 hu
    unfold lkC at h
    rw [List.find?_cons] at h
    rcases hy : (y.name == n) with _ | _
    · rw [hy] at h
      have ih := used_upd (x := x) hu'.2 h
      have e : updC (y :: r) n x = y :: updC r n x := by unfold updC; rw [List.map_cons, hy]; rfl
      rw [e, usedC_cons, usedC_cons]
      omega
    · rw [hy] at h
      obtain rfl : y = f := Option.some.inj h
      have hn := eq_of_beq hy
      have e : updC (y :: r) n x = x :: updC r n x := by unfold updC; rw [List.map_cons, hy]; rfl
      rw [e, upd_none (fun z hz e => hu'.1 z hz (by rw [hn, e])), usedC_cons, usedC_cons]
      omega
/-- Ok, and no name twice. -/
structure Ds.Good (s : Ds) : Prop where
  ok : s.Ok
  uq : Uq s.fs
section
variable {s t : Ds} {nm : List UInt8}
theorem Ds.Good.same (h : s.Good) (h1 : t.room = s.room) (h2 : t.fs = s.fs) : t.Good := by
  obtain ⟨⟨a, b, c, d, e, f⟩, g⟩ := h
  exact ⟨⟨by rw [h1]; exact a, by rw [h1]; exact b, by rw [h1, h2]; exact c, by rw [h2]; exact d, by rw [h2]; exact e, by rw [h2]; exact f⟩, by rw [h2]; exact g⟩
theorem perf_good {f g : Ds → Ds} (hf : (f s).Good) (hg : ∀ t, t.room = (f s).room → t.fs = (f s).fs → (g t).Good) : (perfD s f g).2.Good := by
  unfold perfD
  split
  · exact hf.same rfl rfl
  · exact hg _ rfl rfl
theorem updC_mem {l : List Fl} {n : List UInt8} {x y : Fl} (h : y ∈ updC l n x) : y = x ∨ y ∈ l := by
  unfold updC at h
  obtain ⟨z, hz, rfl⟩ := List.mem_map.1 h
  split
  · exact .inl rfl
  · exact .inr hz
theorem lkC_some {l : List Fl} {n : List UInt8} {f : Fl} (h : lkC l n = some f) : f ∈ l ∧ f.name = n :=
  ⟨List.mem_of_find?_eq_some h, by have := List.find?_some (p := fun f : Fl => f.name == n) h; exact eq_of_beq this⟩
theorem lkC_none {l : List Fl} {n : List UInt8} (h : lkC l n = none) : ∀ y ∈ l, y.name ≠ n := fun y hy e => by
  have := List.find?_eq_none.1 h y hy
  simp [e] at this
theorem Ds.Good.upd {x f : Fl} (h : s.Good) (hl : lkC s.fs nm = some f) (hx : x.name = nm) (h1 : (usedC s.fs : Int) + x.data.length ≤ s.room + f.data.length) (h2 : x.data.length ≤ 16777216) (h3 : x.dur ≤ x.data.length) (hr : t.room = s.room) (hf : t.fs = updC s.fs nm x) : t.Good := by
  obtain ⟨⟨a, b, c, d, e, g⟩, u⟩ := h
  have hu := used_upd (x := x) u hl
  refine ⟨⟨by rw [hr]; exact a, by rw [hr]; exact b, by rw [hr, hf]; omega, by rw [hf]; unfold updC; rw [List.length_map]; exact d, fun y hy => ?_, fun y hy => ?_⟩, by rw [hf]; exact u.upd hx⟩
  · rw [hf] at hy
    rcases updC_mem hy with rfl | hy
    · exact h2
    · exact e y hy
  · rw [hf] at hy
    rcases updC_mem hy with rfl | hy
    · exact h3
    · exact g y hy
theorem Ds.Good.del (h : s.Good) (hr : t.room = s.room) (hf : t.fs = delC s.fs nm) : t.Good := by
  obtain ⟨⟨a, b, c, d, e, g⟩, u⟩ := h
  have hu := used_del nm s.fs
  have hlen : (delC s.fs nm).length ≤ s.fs.length := List.length_filter_le _ _
  exact ⟨⟨by rw [hr]; exact a, by rw [hr]; exact b, by rw [hr, hf]; omega, by rw [hf]; omega, by rw [hf]; exact fun y hy => e y (List.mem_filter.1 hy).1, by rw [hf]; exact fun y hy => g y (List.mem_filter.1 hy).1⟩, by rw [hf]; exact u.del nm⟩
theorem Ds.Good.put {x : Fl} (h : s.Good) (h0 : s.fs.length < 4096) (h1 : (usedC s.fs : Int) + x.data.length ≤ s.room) (h2 : x.data.length ≤ 16777216) (h3 : x.dur ≤ x.data.length) (hr : t.room = s.room) (hf : t.fs = putFl s.fs x) : t.Good := by
  have hd : (⟨s.room, s.down, s.lim, s.left, delC s.fs x.name⟩ : Ds).Good := h.del rfl rfl
  have hu := used_del x.name s.fs
  have hlen : (delC s.fs x.name).length ≤ s.fs.length := List.length_filter_le _ _
  obtain ⟨⟨a, b, c, d, e, g⟩, u⟩ := hd
  have hp := ins_perm x (delC s.fs x.name)
  have hi := used_ins x (delC s.fs x.name)
  have hpl := hp.length_eq
  rw [List.length_cons] at hpl
  refine ⟨⟨by rw [hr]; exact a, by rw [hr]; exact b, ?_, ?_, fun y hy => ?_, fun y hy => ?_⟩, by rw [hf]; exact h.uq.put x⟩
  · rw [hr, hf]; unfold putFl; rw [hi]; omega
  · rw [hf]; unfold putFl; omega
  · rw [hf] at hy
    rcases List.mem_cons.1 (hp.mem_iff.1 hy) with rfl | hy
    · exact h2
    · exact e y hy
  · rw [hf] at hy
    rcases List.mem_cons.1 (hp.mem_iff.1 hy) with rfl | hy
    · exact h3
    · exact g y hy
theorem lk_used {l : List Fl} {n : List UInt8} {f : Fl} (h : lkC l n = some f) : usedC (delC l n) + f.data.length ≤ usedC l := by
  induction l with
  | nil => cases h
  | cons y r ih =>
    unfold lkC at h
    rw [List.find?_cons] at h
    rcases hy : (y.name == n) with _ | _
    · rw [hy] at h
      have := ih h
      have e : delC (y :: r) n = y :: delC r n := by unfold delC; rw [List.filter_cons, hy]; rfl
      rw [e, usedC_cons, usedC_cons]
      omega
    · rw [hy] at h
      obtain rfl : y = f := Option.some.inj h
      have e : delC (y :: r) n = delC r n := by unfold delC; rw [List.filter_cons, hy]; rfl
      have := used_del n r
      rw [e, usedC_cons]
      omega
theorem lk_del_len {l : List Fl} {n : List UInt8} {f : Fl} (h : lkC l n = some f) : (delC l n).length < l.length := by
  unfold delC
  refine Nat.lt_of_le_of_ne (List.length_filter_le _ _) fun e => ?_
  have := List.length_filter_eq_length_iff.1 e f (lkC_some h).1
  rw [(lkC_some h).2] at this
  simp at this
theorem create_good (h : s.Good) (nm : List UInt8) : (createD s nm).2.Good := by
  unfold createD
  split
  · exact h
  · split
    · exact h
    · split
      · exact h
      · split
        · exact h
        · next hc =>
          refine perf_good h fun t hr hf => ?_
          have hr' : t.room = s.room := hr
          have hf' : t.fs = s.fs := hf
          have hu := h.ok.us
          exact h.put (x := ⟨nm, [], 0⟩) (by omega) (by show (usedC s.fs : Int) + ((0 : Nat) : Int) ≤ _; omega) (Nat.zero_le _) (Nat.le_refl _) hr' (by show putFl t.fs _ = _; rw [hf'])
theorem append_good (h : s.Good) (nm l : List UInt8) : (appendD s nm l).2.Good := by
  unfold appendD
  split
  · exact h
  · next hdn =>
    split
    · exact h
    · next f hl =>
      split
      · exact h
      · next h1 =>
        split
        · exact h
        · next h2 =>
          have hd : s.down = false := by simpa using hdn
          have hfr : freeD s = s.room - usedC s.fs := by unfold freeD; rw [hd]; rfl
          rw [hfr] at h2
          have hdu := h.ok.du f (lkC_some hl).1
          refine perf_good (h.upd (x := ⟨f.name, f.data ++ l, f.dur⟩) hl (lkC_some hl).2 ?_ ?_ ?_ rfl rfl) fun t hr hf => ?_
          · show (usedC s.fs : Int) + ((f.data ++ l).length : Int) ≤ _
            rw [List.length_append]
            omega
          · show (f.data ++ l).length ≤ _
            rw [List.length_append]
            omega
          · show f.dur ≤ (f.data ++ l).length
            rw [List.length_append]
            omega
          · exact (h.upd (x := ⟨f.name, f.data ++ l, f.dur⟩) hl (lkC_some hl).2 (by show (usedC s.fs : Int) + ((f.data ++ l).length : Int) ≤ _; rw [List.length_append]; omega) (by show (f.data ++ l).length ≤ _; rw [List.length_append]; omega) (by show f.dur ≤ (f.data ++ l).length; rw [List.length_append]; omega) hr hf)
theorem remove_good (h : s.Good) (nm : List UInt8) : (removeD s nm).2.Good := by
  unfold removeD
  split
  · exact h
  · split
    · exact h
    · exact perf_good h fun t hr hf => h.del (nm := nm) hr (by show delC t.fs nm = _; rw [show t.fs = s.fs from hf])
theorem sync_good (h : s.Good) (nm : List UInt8) : (syncD s nm).2.Good := by
  unfold syncD
  split
  · exact h
  · split
    · exact h
    · next f hl =>
      have hu := h.ok.us
      exact perf_good h fun t hr hf => h.upd (x := ⟨f.name, f.data, f.data.length⟩) hl (lkC_some hl).2 (by show (usedC s.fs : Int) + (f.data.length : Int) ≤ _; omega) (h.ok.sz f (lkC_some hl).1) (Nat.le_refl _) hr (by show updC t.fs nm _ = _; rw [show t.fs = s.fs from hf])
theorem trunc_good (h : s.Good) (nm : List UInt8) (sz : Int) : (truncD s nm sz).2.Good := by
  unfold truncD
  split
  · exact h
  · split
    · exact h
    · next f hl =>
      split
      · exact h
      · next h1 =>
        have hu := h.ok.us
        have hs := h.ok.sz f (lkC_some hl).1
        have hdu := h.ok.du f (lkC_some hl).1
        have hlen : (f.data.take sz.toNat).length = min sz.toNat f.data.length := List.length_take
        exact perf_good h fun t hr hf => h.upd (x := ⟨f.name, f.data.take sz.toNat, min f.dur sz.toNat⟩) hl (lkC_some hl).2 (by show (usedC s.fs : Int) + ((f.data.take sz.toNat).length : Int) ≤ _; omega) (by show (f.data.take sz.toNat).length ≤ _; omega) (by show min f.dur sz.toNat ≤ (f.data.take sz.toNat).length; omega) hr (by show updC t.fs nm _ = _; rw [show t.fs = s.fs from hf])
theorem crash_good (h : s.Good) : ({ s with down := true } : Ds).Good := h.same rfl rfl
theorem limit_good (h : s.Good) (n : Int) : (limitD s n).Good := h.same rfl rfl
theorem chop_len {f : Fl} {c : Nat} (hc : c ≤ 255) (hd : f.dur ≤ f.data.length) : (chopB f c).length ≤ f.data.length := by
  have h1 := kept_le (c := c) hc hd
  unfold chopB
  split
  · rw [len_flip, List.length_take]; omega
  · rw [List.length_take]; omega
theorem start_names : ∀ (l : List Fl) (ch : List UInt8), (startL l ch).map Fl.name = l.map Fl.name
  | [], _ => rfl
  | f :: l, ch => by
    unfold startL
    split
    · rw [List.map_cons, List.map_cons, start_names l ch]
    · rw [List.map_cons, List.map_cons, start_names l ch.tail]
theorem start_le : ∀ (l : List Fl) (ch : List UInt8), (∀ f ∈ l, f.dur ≤ f.data.length) → usedC (startL l ch) ≤ usedC l
  | [], _, _ => Nat.le_refl _
  | f :: l, ch, h => by
    have hf := h f (List.mem_cons_self)
    have hb : (ch.headD 0).toNat ≤ 255 := by have := (ch.headD 0).toNat_lt; omega
    unfold startL
    split
    · have := start_le l ch fun y hy => h y (List.mem_cons_of_mem _ hy)
      rw [usedC_cons, usedC_cons]
      show f.data.length + _ ≤ _
      omega
    · have := start_le l ch.tail fun y hy => h y (List.mem_cons_of_mem _ hy)
      have := chop_len (c := (ch.headD 0).toNat) hb hf
      rw [usedC_cons, usedC_cons]
      show (chopB f (ch.headD 0).toNat).length + _ ≤ _
      omega
theorem start_each : ∀ (l : List Fl) (ch : List UInt8), (∀ f ∈ l, f.dur ≤ f.data.length ∧ f.data.length ≤ 16777216) → ∀ y ∈ startL l ch, y.dur = y.data.length ∧ y.data.length ≤ 16777216
  | [], _, _ => fun y hy => (List.not_mem_nil hy).elim
  | f :: l, ch, h => fun y hy => by
    have hf := h f (List.mem_cons_self)
    have hb : (ch.headD 0).toNat ≤ 255 := by have := (ch.headD 0).toNat_lt; omega
    unfold startL at hy
    split at hy
    · rcases List.mem_cons.1 hy with rfl | hy
      · exact ⟨rfl, hf.2⟩
      · exact start_each l ch (fun y hy => h y (List.mem_cons_of_mem _ hy)) y hy
    · rcases List.mem_cons.1 hy with rfl | hy
      · exact ⟨rfl, Nat.le_trans (chop_len hb hf.1) hf.2⟩
      · exact start_each l ch.tail (fun y hy => h y (List.mem_cons_of_mem _ hy)) y hy
theorem start_good (h : s.Good) (ch : List UInt8) : (startD s ch).Good := by
  unfold startD
  split
  · have h1 := start_le s.fs ch h.ok.du
    have h2 := start_each s.fs ch fun f hf => ⟨h.ok.du f hf, h.ok.sz f hf⟩
    have h3 := start_names s.fs ch
    have h4 : (startL s.fs ch).length = s.fs.length := by have := congrArg List.length h3; simpa using this
    have hus := h.ok.us
    refine ⟨⟨h.ok.r0, h.ok.r1, by show (usedC (startL s.fs ch) : Int) ≤ s.room; omega, by show (startL s.fs ch).length ≤ 4096; rw [h4]; exact h.ok.cnt, fun f hf => (h2 f hf).2, fun f hf => Nat.le_of_eq (h2 f hf).1⟩, ?_⟩
    have h5 : (s.fs.map Fl.name).Pairwise (· ≠ ·) := List.pairwise_map.2 h.uq
    rw [← h3] at h5
    exact List.pairwise_map.1 h5
  · exact h
theorem new_good {n : Int} (h0 : 0 ≤ n) (h1 : n ≤ 1099511627776) : (newD n).Good :=
  ⟨⟨h0, h1, h0, Nat.zero_le _, fun f hf => (List.not_mem_nil hf).elim, fun f hf => (List.not_mem_nil hf).elim⟩, List.Pairwise.nil⟩
end
end Go.Proofs.YtbafnlccpbonmaaGreatDoor
