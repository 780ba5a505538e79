/- device laws: the model in memory (XRn1 to XRn6). -/
import Derived.Test.YtphjgembpcikdaaVKp0
import Derived.Test.YtphjgembpcikdaaTree
namespace Go.Proofs.Ytphjgembpcikdaa
set_option linter.unusedVariables false
set_option linter.unnecessarySimpa false
set_option linter.unusedSimpArgs false
open Go.RowKit

/-- The model's state. -/
structure Md where
  room : Int
  limit : Int
  down : Bool
  fs : List Fl
def fcells (l : List Fl) : List Value := l.flatMap fun f => [.string (BA f.name), .string (BA f.data), .int .i64 f.dur]
theorem fcells_cons (f : Fl) (l : List Fl) : fcells (f :: l) = .string (BA f.name) :: .string (BA f.data) :: .int .i64 f.dur :: fcells l := rfl
theorem fcells_len : ∀ l : List Fl, (fcells l).length = l.length * 3
  | [] => rfl
  | f :: l => by rw [fcells_cons, List.length_cons, List.length_cons, List.length_cons, fcells_len l, List.length_cons]; omega
theorem fcells_get : ∀ {l : List Fl} {j : Nat} {f : Fl}, l[j]? = some f → (fcells l)[j * 3]? = some (.string (BA f.name)) ∧ (fcells l)[j * 3 + 1]? = some (.string (BA f.data)) ∧ (fcells l)[j * 3 + 2]? = some (.int .i64 f.dur)
  | [], j, f, h => by simp at h
  | a :: l, 0, f, h => by
    obtain rfl : a = f := by simpa using h
    exact ⟨rfl, rfl, rfl⟩
  | a :: l, j + 1, f, h => by
    have h' : l[j]? = some f := by simpa using h
    have := fcells_get h'
    rw [fcells_cons]
    have e1 : (j + 1) * 3 = j * 3 + 1 + 1 + 1 := by omega
    rw [e1]
    exact this
structure MdR (w : World) (M : Nat) (m : Md) (A : Option Addr) (c : Nat) : Prop where
  box : Bx w M [.int .i64 m.room, .int .i64 m.limit, .bool m.down, .slice A m.fs.length c]
  row : w.ownsRow 0 88 3 (.slice A m.fs.length c) m.fs.length (fcells m.fs)
  ne : (Value.slice A m.fs.length c).ownBlock ≠ some M
def hasM (M : Nat) (A : Option Addr) (x : Nat) : Prop := x = M ∨ (Value.slice A 0 0).ownBlock = some x
/-- The model at M; its blocks are T. -/
def MdW (w : World) (M : Nat) (T : Nat → Prop) (m : Md) : Prop := ∃ A c, MdR w M m A c ∧ ∀ x, T x ↔ hasM M A x
def RetM (M : Nat) (T : Nat → Prop) (m' : Md) (w w' : World) : Prop := ∃ T', MdW w' M T' m' ∧ (∀ x, T' x → T x ∨ w.heap.size ≤ x) ∧ DChg T w w'
theorem own_any {A : Option Addr} {n c n' c' : Nat} : (Value.slice A n c).ownBlock = (Value.slice A n' c').ownBlock := by cases A <;> rfl
section
variable {w w' w1 : World} {M : Nat} {m m' : Md} {T : Nat → Prop} {A : Option Addr} {c : Nat} {f : Fl}
theorem MdR.lt (h : MdR w M m A c) {x : Nat} (hx : hasM M A x) : x < w.heap.size := by
  rcases hx with rfl | hx
  · exact h.box.lt
  · exact (h.row.lt x (by rw [own_any (n' := 0) (c' := 0)]; exact hx)).2
theorem MdR.keep (h : MdR w M m A c) (hs : w.heap.size ≤ w'.heap.size) (hk : ∀ x, hasM M A x → w'.heap[x]? = w.heap[x]?) : MdR w' M m A c :=
  ⟨h.box.block hs (hk _ (.inl rfl)), own_blk h.row fun g hg => hk g (.inr (by rw [own_any (n' := m.fs.length) (c' := c)]; exact hg)), h.ne⟩
theorem MdR.grow (h : MdR w M m A c) (hb : Below w.heap.size w w') : MdR w' M m A c := h.keep hb.size fun x hx => hb.block x (h.lt hx)
theorem MdW.lt (h : MdW w M T m) {x : Nat} (hx : T x) : x < w.heap.size := by
  obtain ⟨A, c, h1, h2⟩ := h
  exact h1.lt ((h2 x).1 hx)
theorem MdW.keep (h : MdW w M T m) (hs : w.heap.size ≤ w'.heap.size) (hk : ∀ x, T x → w'.heap[x]? = w.heap[x]?) : MdW w' M T m := by
  obtain ⟨A, c, h1, h2⟩ := h
  exact ⟨A, c, h1.keep hs fun x hx => hk x ((h2 x).2 hx), h2⟩
theorem MdW.grow (h : MdW w M T m) (hb : Below w.heap.size w w') : MdW w' M T m := h.keep hb.size fun x hx => hb.block x (h.lt hx)
theorem MdW.other {S' : Nat → Prop} (h : MdW w M T m) (hc : DChg S' w w') (hS : ∀ x, T x → ¬ S' x) : MdW w' M T m := h.keep hc.size fun x hx => hc.2.2 x (hS x hx) (h.lt hx)
/-- The row's block. -/
theorem MdR.some_ (h : MdR w M m A c) (hl : 0 < m.fs.length) : ∃ g, A = some ⟨g, 0, none⟩ ∧ g ≠ M ∧ Bx w g (fcells m.fs) := by
  rcases h.row.2 with ⟨_, h1⟩ | ⟨g, cap, cur, hv, hg, hh, hnc, hcm, hcs, ht⟩
  · omega
  · injection hv with hA
    subst hA
    refine ⟨g, rfl, fun e => h.ne (by rw [e]; rfl), ?_⟩
    obtain ⟨b, o, e1, hl, hc⟩ := (Sl.of_own h.row).2 (by omega)
    cases e1
    refine ⟨hl, fun i u hu => ⟨?_, ?_⟩⟩
    · have := hc i u hu
      rwa [Nat.zero_add] at this
    · unfold World.frozen?
      rw [hh]
      simp
theorem MdR.file (h : MdR w M m A c) {j : Nat} (hf : m.fs[j]? = some f) : ∃ g, A = some ⟨g, 0, none⟩ ∧ g ≠ M ∧ Bx w g (fcells m.fs) ∧ w.cell? ⟨g, j * 3, none⟩ = some (.string (BA f.name)) ∧ w.cell? ⟨g, j * 3 + 1, none⟩ = some (.string (BA f.data)) ∧ w.cell? ⟨g, j * 3 + 2, none⟩ = some (.int .i64 f.dur) ∧ g < w.heap.size := by
  have hl : 0 < m.fs.length := by have := (List.getElem?_eq_some_iff.1 hf).1; omega
  obtain ⟨g, rfl, hne, hb⟩ := h.some_ hl
  obtain ⟨h1, h2, h3⟩ := fcells_get hf
  exact ⟨g, rfl, hne, hb, (hb.2 _ _ h1).1, (hb.2 _ _ h2).1, (hb.2 _ _ h3).1, hb.lt⟩
def findL : List Fl → List UInt8 → Nat × Bool
  | [], _ => (0, false)
  | y :: r, n => if bytesBefore y.name n then ((findL r n).1 + 1, (findL r n).2) else (0, y.name == n)
theorem findL_at : ∀ {l : List Fl} {n : List UInt8} {i : Nat} {y : Fl}, (∀ j z, j < i → l[j]? = some z → bytesBefore z.name n = true) → l[i]? = some y → bytesBefore y.name n = false → findL l n = (i, y.name == n)
  | [], _, _, _, _, h, _ => by simp at h
  | a :: l, n, 0, y, _, h, hb => by
    obtain rfl : a = y := by simpa using h
    unfold findL
    rw [hb]
    rfl
  | a :: l, n, i + 1, y, hj, h, hb => by
    have h0 := hj 0 a (by omega) rfl
    have ih := findL_at (l := l) (n := n) (i := i) (y := y) (fun j z hji hz => hj (j + 1) z (by omega) (by simpa using hz)) (by simpa using h) hb
    unfold findL
    rw [h0, ih]
    rfl
theorem findL_end : ∀ {l : List Fl} {n : List UInt8}, (∀ z ∈ l, bytesBefore z.name n = true) → findL l n = (l.length, false)
  | [], _, _ => rfl
  | a :: l, n, h => by
    have ih := findL_end (l := l) (n := n) fun z hz => h z (List.mem_cons_of_mem _ hz)
    unfold findL
    rw [h a (List.mem_cons_self ..), ih]
    rfl
theorem BA_data (l : List UInt8) : (BA l).data.toList = l := by unfold BA; simp
theorem BA_less (a b : List UInt8) : Op.bytesLess (BA a).toList (BA b).toList = bytesBefore a b := by
  rw [ByteArray.toList_eq, ByteArray.toList_eq, less_before, BA_data, BA_data]
theorem BA_eq (a b : List UInt8) : ((BA a).toList == (BA b).toList) = (a == b) := by
  rw [ByteArray.toList_eq, ByteArray.toList_eq, BA_data, BA_data]
end
end Go.Proofs.Ytphjgembpcikdaa

namespace Go.Proofs.Ytphjgembpcikdaa
open Go.RowKit

section
variable {w w' w1 : World} {M : Nat} {m m' : Md} {T : Nat → Prop} {A : Option Addr} {c : Nat} {f : Fl}
set_option maxRecDepth 20000 in set_option maxHeartbeats 2000000 in
theorem find_any (h : MdW w M T m) (n : List UInt8) (hl : m.fs.length ≤ 1000) : Calls Try.prog 54 #[.pointer (some ⟨M, 0, none⟩), .string (BA n)] w fun e w' => e = .returned (.tuple #[.int .i64 (findL m.fs n).1, .bool (findL m.fs n).2]) ∧ Below w.heap.size w w' := by
  obtain ⟨A, c, hR, _⟩ := h
  obtain ⟨L, hL⟩ : ∃ L, m.fs.length = L := ⟨_, rfl⟩
  have HR := Lib.hid hR
  obtain ⟨l, hlq⟩ : ∃ l, m.fs = l := ⟨_, rfl⟩
  rw [hlq] at hL ⊢
  have hL0 := Lib.hid hL
  rw [hlq] at hl
  rw [hL] at hl
  clear hR
  go_enter Try.func54, Try.ntmps54
  go_wp2_with fail
  go_loopw [6] (fun iv wr => ∃ i : Nat, i ≤ L ∧ iv = .int .i64 i ∧ Hid (∀ j z, j < i → l[j]? = some z → bytesBefore z.name n = true) ∧ Below w.heap.size w wr) (fun iv _ => L - (intOf iv).toNat)
  case atStart => exact ⟨0, Nat.zero_le _, rfl, fun j z hj => absurd hj (by omega), G.refl _⟩
  case round =>
    obtain ⟨i, hi, rfl, hno, hbr⟩ := hrel
    have hRr := HR.out.grow hbr
    have k3 := (hRr.box.2 3 _ rfl).1
    rw [hlq, hL0.out] at k3
    have ltM := hRr.box.lt
    by_cases hlt : i < L
    · obtain ⟨y, hy⟩ : ∃ y, l[i]? = some y := ⟨_, List.getElem?_eq_getElem (by rw [hL0.out]; exact hlt)⟩
      obtain ⟨g, rfl, hgM, hbx, c0, c1, c2, ltg⟩ := hRr.file (by rw [hlq]; exact hy)
      clear hRr hbx
      rcases hb : bytesBefore y.name n with _ | _
      · have hls : Op.bytesLess (BA y.name).toList (BA n).toList = false := by rw [BA_less]; exact hb
        have hres := Lib.hid (findL_at hno.out hy hb)
        have heq := BA_eq y.name n
        replace hb := Lib.hid hb
        replace hy := Lib.hid hy
        go_wp2_with fail
        refine wp_region_ord [(0, 1), (1, 1), (2, 1), (3, 1), (4, 1), (5, 1), (6, 1), (7, 1), (8, 1), (9, 1), (10, 1), (11, 1), (12, 1)] [] 5 (by kernel_rfl) (by decide +kernel) ?_
        simp only [pickO, List.append_eq, List.cons_append, List.nil_append, List.getElem?_cons_succ, List.getElem?_cons_zero]
        intro w0 hG
        (repeat ((first | (with_reducible refine ord_q1 ?_) | (with_reducible refine ord_q0 ?_)); intro K hK; first | (refine Or.inr ⟨?_, ?_⟩; (focus (go_simp; first | done | (simp [undef]; done))); go_simp; (with_reducible refine hK _ ?_); clear hK K) | (refine Or.inl ⟨?_, ?_⟩; (focus (go_simp; done)); apply Exists.intro; refine And.intro ?_ ?_; (focus (first | (intro wq hq; obtain ⟨hcq, hfq⟩ := G.old hq; go_simp; (first | done | exact rfl); done) | (intro wq; go_simp; (first | done | exact rfl); done))); go_simp; (with_reducible refine hK _ ?_); clear hK K) | fail))
        (with_reducible refine ord_nil ?_)
        go_wp2_with fail
        refine bodyPost_ret (v := .tuple #[.int .i64 i, .bool (y.name == n)]) (by simp only [results, Try.results54]; go_simp) rfl ⟨?_, G.trans hbr hG.b⟩
        rw [hres.out]
      · have hls : Op.bytesLess (BA y.name).toList (BA n).toList = true := by rw [BA_less]; exact hb
        have hno2 : Hid (∀ j z, j < i + 1 → l[j]? = some z → bytesBefore z.name n = true) := fun j z hj hz => by
          rcases Nat.lt_succ_iff_lt_or_eq.1 hj with h1 | rfl
          · exact hno.out j z h1 hz
          · rw [hy] at hz; cases hz; exact hb
        replace hb := Lib.hid hb
        replace hy := Lib.hid hy
        go_wp2_with fail
        go_roundw
        case rel => exact ⟨i + 1, by omega, by go_num, hno2, hbr⟩
        case measure => simp [intOf]; omega
    · obtain rfl : i = L := by omega
      have hres := Lib.hid (findL_end (l := l) (n := n) fun z hz => by
        obtain ⟨j, hj⟩ := List.getElem?_of_mem hz
        exact hno.out j z (by have := (List.getElem?_eq_some_iff.1 hj).1; have := hL0.out; omega) hj)
      clear hRr
      go_wp2_with fail
      refine bodyPost_ret (v := .tuple #[.int .i64 i, .bool false]) (by simp only [results, Try.results54]; go_simp) rfl ⟨?_, hbr⟩
      rw [hres.out, hL0.out]
set_option maxRecDepth 20000 in set_option maxHeartbeats 2000000 in
theorem mfree_any (h : MdW w M T m) (hl : m.fs.length ≤ 1000) (hr : 0 ≤ m.room ∧ m.room ≤ 1099511627776) (hu : (usedC m.fs : Int) ≤ 1099511627776) : Calls Try.prog 57 #[.pointer (some ⟨M, 0, none⟩)] w fun e w' => e = .returned (.int .i64 (m.room - usedC m.fs)) ∧ Below w.heap.size w w' := by
  obtain ⟨A, c, hR, _⟩ := h
  obtain ⟨L, hL⟩ : ∃ L, m.fs.length = L := ⟨_, rfl⟩
  have HR := Lib.hid hR
  have k0 := (hR.box.2 0 _ rfl).1
  have ltM := hR.box.lt
  obtain ⟨l, hlq⟩ : ∃ l, m.fs = l := ⟨_, rfl⟩
  rw [hlq] at hL hu ⊢
  have hL0 := Lib.hid hL
  rw [hlq] at hl
  rw [hL] at hl
  clear hR hL
  go_enter Try.func57, Try.ntmps57
  go_wp2_with fail
  go_loopw [3, 4] (fun nv iv wr => ∃ i : Nat, i ≤ L ∧ iv = .int .i64 i ∧ nv = .int .i64 (m.room - usedC (l.take i)) ∧ Below w.heap.size w wr) (fun _ iv _ => L - (intOf iv).toNat)
  case atStart => exact ⟨0, Nat.zero_le _, rfl, by simp [usedC], G.refl _⟩
  case round =>
    obtain ⟨i, hi, rfl, rfl, hbr⟩ := hrel
    have hRr := HR.out.grow hbr
    have k3 := (hRr.box.2 3 _ rfl).1
    rw [hlq, hL0.out] at k3
    have ltM := hRr.box.lt
    by_cases hlt : i < L
    · obtain ⟨y, hy⟩ : ∃ y, l[i]? = some y := ⟨_, List.getElem?_eq_getElem (by rw [hL0.out]; exact hlt)⟩
      obtain ⟨g, rfl, hgM, hbx, c0, c1, c2, ltg⟩ := hRr.file (by rw [hlq]; exact hy)
      have h1 := used_take hy
      have h2 := used_take_le l (i + 1)
      have h3 : (BA y.data).size = y.data.length := by show y.data.toArray.size = _; rw [List.size_toArray]
      obtain ⟨z, hz⟩ : ∃ z, y.data.length = z := ⟨_, rfl⟩
      obtain ⟨u, hu1⟩ : ∃ u, usedC (l.take i) = u := ⟨_, rfl⟩
      obtain ⟨v, hv1⟩ : ∃ v, usedC (l.take (i + 1)) = v := ⟨_, rfl⟩
      rw [hz] at h1 h3
      rw [hu1] at h1 ⊢
      rw [hv1] at h1 h2
      have e1 : m.room - (u : Int) - (z : Int) = m.room - (v : Int) := by omega
      have hw1 : IntKind.i64.wrap (m.room - (u : Int) - (z : Int)) = m.room - (v : Int) := by rw [e1, IntWalk.i64_in _ (by omega)]
      have hw2 : Hid (-9223372036854775808 ≤ m.room - (v : Int) ∧ m.room - (v : Int) ≤ 9223372036854775807) := by unfold Hid; omega
      replace hv1 := Lib.hid hv1
      clear hRr hbx hy h1 h2 hu1 hz e1
      go_wp2_with fail
      go_roundw
      case rel => exact ⟨i + 1, by omega, by go_num, by rw [hv1.out], hbr⟩
      case measure => simp [intOf]; omega
    · obtain rfl : i = L := by omega
      rw [List.take_of_length_le (by rw [hL0.out]; exact Nat.le_refl _)]
      clear hRr
      go_wp2_with fail
      go_ret
      exact ⟨rfl, hbr⟩
end
end Go.Proofs.Ytphjgembpcikdaa

namespace Go.Proofs.Ytphjgembpcikdaa
open Go.RowKit

theorem findL_true : ∀ {l : List Fl} {n : List UInt8}, (findL l n).2 = true → ∃ y, l[(findL l n).1]? = some y ∧ y.name = n
  | [], n, h => by cases h
  | a :: l, n, h => by
    unfold findL at h ⊢
    split
    · rename_i hb
      rw [if_pos hb] at h
      obtain ⟨y, h1, h2⟩ := findL_true h
      exact ⟨y, by simpa using h1, h2⟩
    · rename_i hb
      rw [if_neg hb] at h
      exact ⟨a, rfl, eq_of_beq h⟩
def dlen (m : Md) (i : Nat) : Nat := ((m.fs[i]?).map fun f => f.data.length).getD 0
def faultM (m : Md) (o : LOp) (dl : List UInt8) : Int :=
  if m.down = true then 31 else if o.kind % 12 = 0 then (if okName (nameL o.name) = false then 12 else if (findL m.fs (nameL o.name)).2 = true then 7 else 0)
  else if (findL m.fs (nameL o.name)).2 = false then 8 else if o.kind % 12 = 1 then (if m.room - usedC m.fs < (dl.length : Int) then 32 else 0)
  else if o.kind % 12 = 2 then (if o.num < 0 ∨ (dlen m (findL m.fs (nameL o.name)).1 : Int) < o.num then 2 else 0)
  else if o.kind % 12 = 4 then (if okName (nameL o.other) = false then 12 else 0) else 0
/-- What the model's numbers are bounded by. -/
structure Md.Fine (m : Md) : Prop where
  len : m.fs.length ≤ 1000
  room : 0 ≤ m.room ∧ m.room ≤ 1099511627776
  used : (usedC m.fs : Int) ≤ 1099511627776
theorem nameB_L (n : Nat) : nameB n = BA (nameL n) := (BA_id _).symm
theorem nameL_le (n : Nat) : (BA (nameL n)).size ≤ maxLen := by rw [← nameB_L]; exact nameB_max n
section
variable {w w' w1 : World} {M : Nat} {m m' : Md} {T : Nat → Prop} {A : Option Addr} {c : Nat} {f : Fl}
theorem named_L (n : Nat) (w : World) : Calls Try.prog 18 #[.string (BA (nameL n))] w fun e w' => e = .returned (.bool (okName (nameL n))) ∧ w' = w := by
  have := lawnamed_any (BA (nameL n)) (nameL_le n) w
  rwa [BA_data] at this
theorem nameOf_L (n : Nat) (hn : n ≤ 255) (w : World) : Calls Try.prog 46 #[.int .u8 n] w fun e w' => e = .returned (.string (BA (nameL n))) ∧ Below w.heap.size w w' := by
  have := nameOf_any n hn w
  rwa [nameB_L] at this
set_option maxRecDepth 20000 in set_option maxHeartbeats 4000000 in
theorem fault_any (h : MdW w M T m) (hm : m.Fine) (o : LOp) (ho : o.Fit) (hj5 : o.kind % 12 ≤ 5) (dl : List UInt8) (hdl : dl.length ≤ 64) :
    Calls Try.prog 64 #[.pointer (some ⟨M, 0, none⟩), o.val, .string (BA dl)] w fun e w' => e = .returned (.int .i64 (faultM m o dl)) ∧ Below w.heap.size w w' := by
  have H := Lib.hid h
  have hn8 := ho.name
  have hk8 := ho.kind
  have ho8 := ho.other
  have hlo := ho.lo
  have hhi := ho.hi
  obtain ⟨R, hr⟩ : ∃ R, faultM m o dl = R := ⟨_, rfl⟩
  rw [hr]
  unfold faultM at hr
  obtain ⟨kd, nm, ot, dt, nu⟩ := o
  dsimp only at *
  unfold LOp.val
  dsimp only
  obtain ⟨j, hj⟩ : ∃ j, kd % 12 = j := ⟨_, rfl⟩
  have hmj : (kd : Int) % 12 = (j : Int) := by omega
  have hwk : IntKind.i64.wrap (kd : Int) = (kd : Int) := by rw [IntWalk.i64_in _ (by omega)]
  rw [hj] at hr hj5
  have hds : (BA dl).size = dl.length := by show dl.toArray.size = _; rw [List.size_toArray]
  clear hj ho h hk8
  replace hr := Lib.hid hr
  have HM := Lib.hid hm
  have hml := hm.len
  obtain ⟨hroom0, hroom1⟩ := hm.room
  have husd := hm.used
  clear hm
  go_enter Try.func64, Try.ntmps64
  go_wp2_with fail
  refine wp_name (fun wx => Below w.heap.size w wx ∧ Bx wx w.heap.size [.int .u8 kd, .int .u8 nm, .int .u8 ot, .int .u8 dt, .int .i64 nu]) ⟨by repeat (first | with_reducible assumption | with_reducible exact G.refl _ | with_reducible refine G.drew ?_ | with_reducible refine G.drewN ?_ _ | with_reducible refine G.alloc ?_ _ | with_reducible refine Below.setCell ?_ (by first | (simp; done) | (simp; omega)) _ | with_reducible refine G.trans ?_ hb12 | with_reducible refine G.trans ?_ hb11 | with_reducible refine G.trans ?_ hb10 | with_reducible refine G.trans ?_ hb9 | with_reducible refine G.trans ?_ hb8 | with_reducible refine G.trans ?_ hb7 | with_reducible refine G.trans ?_ hb6 | with_reducible refine G.trans ?_ hb5 | with_reducible refine G.trans ?_ hb4 | with_reducible refine G.trans ?_ hb3 | with_reducible refine G.trans ?_ hb2 | with_reducible refine G.trans ?_ hb1 | with_reducible refine G.trans ?_ hb | assumption), by repeat (first | with_reducible assumption | (with_reducible exact Bx.new (by simp; done) (by rfl)) | (with_reducible refine Bx.alloc ?_ _) | (with_reducible refine Bx.drewN ?_ _) | ((with_reducible apply Bx.put); rotate_right; (first | rfl | skip)) | (with_reducible refine Bx.other ?_ (by first | (simp; done) | (simp; omega)) _))⟩ ?_
  rintro w1 ⟨hb1, x1⟩
  have c0 := (x1.2 0 _ rfl).1
  have c1 := (x1.2 1 _ rfl).1
  have c2 := (x1.2 2 _ rfl).1
  have c4 := (x1.2 4 _ rfl).1
  have lt1 := x1.lt
  clear x1
  refine wp_region_ord [(0, 1), (1, 1), (3, 1), (4, 1), (2, 2), (5, 2), (6, 1), (7, 1)] [] 5 (by kernel_rfl) (by decide +kernel) ?_
  simp only [pickO, List.append_eq, List.cons_append, List.nil_append, List.getElem?_cons_succ, List.getElem?_cons_zero]
  intro w0 hG
  (repeat ((first | (with_reducible refine ord_q1 ?_) | (with_reducible refine ord_q0 ?_)); intro K hK; first | (refine Or.inr ⟨?_, ?_⟩; (focus (go_simp; first | done | (simp [undef]; done))); go_simp; (with_reducible refine hK _ ?_); clear hK K) | (refine Or.inl ⟨?_, ?_⟩; (focus (go_simp; done)); apply Exists.intro; refine And.intro ?_ ?_; (focus (first | (intro wq hq; obtain ⟨hcq, hfq⟩ := G.old hq; go_simp; (first | done | exact rfl); done) | (intro wq; go_simp; (first | done | exact rfl); done))); go_simp; (with_reducible refine hK _ ?_); clear hK K) | fail))
  (with_reducible refine ord_run ?_ hG)
  intro K hK
  go_simp
  go_at_call 46; (with_reducible refine (nameOf_L nm hn8 _).mono ?_); rintro e w2 ⟨rfl, hb⟩
  replace hG := Grew.trans hG hb
  (try dsimp only)
  (with_reducible refine hK _ _ hG ?_)
  clear hK K
  (repeat ((first | (with_reducible refine ord_q1 ?_) | (with_reducible refine ord_q0 ?_)); intro K hK; first | (refine Or.inr ⟨?_, ?_⟩; (focus (go_simp; first | done | (simp [undef]; done))); go_simp; (with_reducible refine hK _ ?_); clear hK K) | (refine Or.inl ⟨?_, ?_⟩; (focus (go_simp; done)); apply Exists.intro; refine And.intro ?_ ?_; (focus (first | (intro wq hq; obtain ⟨hcq, hfq⟩ := G.old hq; go_simp; (first | done | exact rfl); done) | (intro wq; go_simp; (first | done | exact rfl); done))); go_simp; (with_reducible refine hK _ ?_); clear hK K) | fail))
  (with_reducible refine ord_run ?_ hG)
  intro K hK
  go_simp
  go_at_call 46; (with_reducible refine (nameOf_L ot ho8 _).mono ?_); rintro e w2 ⟨rfl, hb⟩
  replace hG := Grew.trans hG hb
  (try dsimp only)
  (with_reducible refine hK _ _ hG ?_)
  clear hK K
  (repeat ((first | (with_reducible refine ord_q1 ?_) | (with_reducible refine ord_q0 ?_)); intro K hK; first | (refine Or.inr ⟨?_, ?_⟩; (focus (go_simp; first | done | (simp [undef]; done))); go_simp; (with_reducible refine hK _ ?_); clear hK K) | (refine Or.inl ⟨?_, ?_⟩; (focus (go_simp; done)); apply Exists.intro; refine And.intro ?_ ?_; (focus (first | (intro wq hq; obtain ⟨hcq, hfq⟩ := G.old hq; go_simp; (first | done | exact rfl); done) | (intro wq; go_simp; (first | done | exact rfl); done))); go_simp; (with_reducible refine hK _ ?_); clear hK K) | fail))
  (with_reducible refine ord_nil ?_)
  have hbg := hG.b
  replace c0 := G.cell c0 hbg
  replace c4 := G.cell c4 hbg
  replace hb1 := G.trans hb1 hbg
  clear hG c1 c2 hbg
  go_wp2_with fail
  refine (find_any (H.out.grow hb1) (nameL nm) hml).mono ?_
  rintro e w2 ⟨rfl, hb2⟩
  replace c0 := G.cell c0 hb2
  replace c4 := G.cell c4 hb2
  replace lt1 := cell_lt c0
  dsimp only at lt1
  replace hb1 := G.trans hb1 hb2
  clear hb2
  have H2 := Lib.hid (H.out.grow hb1)
  obtain ⟨A, c, hR, _⟩ := H2.out
  have k2 := (hR.box.2 2 _ rfl).1
  have k3 := (hR.box.2 3 _ rfl).1
  have ltM := hR.box.lt
  obtain ⟨⟨fi, fb⟩, hfd⟩ : ∃ p, findL m.fs (nameL nm) = p := ⟨_, rfl⟩
  rw [hfd] at hr ⊢
  dsimp only at hr ⊢
  rcases hd : m.down with _ | _
  · rw [hd] at k2
    replace hr := hr.out
    rw [hd, if_neg (by simp)] at hr
    replace hd := Lib.hid hd
    by_cases hj0 : j = 0
    · subst hj0
      rw [if_pos rfl] at hr
      replace hr := Lib.hid hr
      clear hR
      simp only [Int.ofNat_zero, Int.natCast_one, Int.cast_ofNat_Int] at hmj
      go_wp2_with fail
      refine (named_L nm _).mono ?_
      rintro e w3 ⟨rfl, hw⟩
      subst hw
      rcases hok : okName (nameL nm) with _ | _
      · replace hr := hr.out
        rw [if_pos hok] at hr
        subst hr
        replace hok := Lib.hid hok
        go_wp2_with fail
        go_ret
        exact ⟨rfl, hb1⟩
      · replace hr := hr.out
        rw [hok, if_neg (by simp)] at hr
        replace hok := Lib.hid hok
        rcases fb with _ | _
        · rw [if_neg (by simp)] at hr
          subst hr
          go_wp2_with fail
          go_ret
          exact ⟨rfl, hb1⟩
        · rw [if_pos rfl] at hr
          subst hr
          go_wp2_with fail
          go_ret
          exact ⟨rfl, hb1⟩
    · rw [if_neg hj0] at hr
      rcases fb with _ | _
      · have hz : ((j : Int) == 0) = false := by simp; omega
        rw [if_pos rfl] at hr
        subst hr
        clear hR
        go_wp2_with fail
        go_ret
        exact ⟨rfl, hb1⟩
      · rw [if_neg (by simp)] at hr
        obtain ⟨y, hy, hyn⟩ := findL_true (l := m.fs) (n := nameL nm) (by rw [hfd])
        rw [hfd] at hy
        dsimp only at hy
        have hdle : dlen m fi = y.data.length := by unfold dlen; rw [hy]; rfl
        have hil := (List.getElem?_eq_some_iff.1 hy).1
        obtain ⟨g, rfl, hgM, hbx, d0, d1, d2, ltg⟩ := hR.file hy
        have hys : (BA y.data).size = y.data.length := by show y.data.toArray.size = _; rw [List.size_toArray]
        rw [hdle] at hr
        have hil2 : (fi : Int) < (m.fs.length : Int) := by omega
        have hyl : y.data.length ≤ 1099511627776 := by
          have h1 := used_take hy
          have h2 := used_take_le m.fs (fi + 1)
          omega
        obtain ⟨z, hz⟩ : ∃ z, y.data.length = z := ⟨_, rfl⟩
        rw [hz] at hr hys hyl
        clear hR hbx hy hz
        replace hfd := Lib.hid hfd
        have hkk : j = 1 ∨ j = 2 ∨ j = 3 ∨ j = 4 ∨ j = 5 := by omega
        clear hj5 hj0
        rcases hkk with rfl | rfl | rfl | rfl | rfl
        all_goals simp only [Int.ofNat_zero, Int.natCast_one, Int.cast_ofNat_Int] at hmj
        · rw [if_pos rfl] at hr
          replace hr := Lib.hid hr
          go_wp2_with fail
          refine (mfree_any H2.out hml ⟨hroom0, hroom1⟩ husd).mono ?_
          rintro e w3 ⟨rfl, hb3⟩
          replace hb1 := G.trans hb1 hb3
          clear k2 k3 ltM d0 d1 d2 ltg
          by_cases hlt : m.room - (usedC m.fs : Int) < (dl.length : Int)
          · replace hr := hr.out
            rw [if_pos hlt] at hr
            subst hr
            go_wp2_with fail
            go_ret
            exact ⟨rfl, hb1⟩
          · replace hr := hr.out
            rw [if_neg hlt] at hr
            subst hr
            go_wp2_with fail
            go_ret
            exact ⟨rfl, hb1⟩
        · rw [if_neg (by decide), if_pos rfl] at hr
          by_cases h1 : nu < 0
          · rw [if_pos (.inl h1)] at hr
            subst hr
            go_wp2_with fail
            refine wp_region_ord [(0, 1), (1, 1), (2, 1), (3, 1), (4, 1), (5, 1), (6, 1), (7, 1), (8, 1), (9, 1), (10, 1), (11, 1), (12, 1), (13, 1), (14, 1), (15, 1), (16, 1)] [] 5 (by kernel_rfl) (by decide +kernel) ?_
            simp only [pickO, List.append_eq, List.cons_append, List.nil_append, List.getElem?_cons_succ, List.getElem?_cons_zero]
            intro w0 hG
            (repeat ((first | (with_reducible refine ord_q1 ?_) | (with_reducible refine ord_q0 ?_)); intro K hK; first | (refine Or.inr ⟨?_, ?_⟩; (focus (go_simp; first | done | (simp [undef]; done))); go_simp; (with_reducible refine hK _ ?_); clear hK K) | (refine Or.inl ⟨?_, ?_⟩; (focus (go_simp; done)); apply Exists.intro; refine And.intro ?_ ?_; (focus (first | (intro wq hq; obtain ⟨hcq, hfq⟩ := G.old hq; go_simp; (first | done | exact rfl); done) | (intro wq; go_simp; (first | done | exact rfl); done))); go_simp; (with_reducible refine hK _ ?_); clear hK K) | fail))
            (with_reducible refine ord_nil ?_)
            go_wp2_with fail
            go_ret
            exact ⟨rfl, G.trans hb1 hG.b⟩
          · by_cases h2 : (z : Int) < nu
            · rw [if_pos (.inr h2)] at hr
              subst hr
              go_wp2_with fail
              refine wp_region_ord [(0, 1), (1, 1), (2, 1), (3, 1), (4, 1), (5, 1), (6, 1), (7, 1), (8, 1), (9, 1), (10, 1), (11, 1), (12, 1), (13, 1), (14, 1), (15, 1), (16, 1)] [] 5 (by kernel_rfl) (by decide +kernel) ?_
              simp only [pickO, List.append_eq, List.cons_append, List.nil_append, List.getElem?_cons_succ, List.getElem?_cons_zero]
              intro w0 hG
              (repeat ((first | (with_reducible refine ord_q1 ?_) | (with_reducible refine ord_q0 ?_)); intro K hK; first | (refine Or.inr ⟨?_, ?_⟩; (focus (go_simp; first | done | (simp [undef]; done))); go_simp; (with_reducible refine hK _ ?_); clear hK K) | (refine Or.inl ⟨?_, ?_⟩; (focus (go_simp; done)); apply Exists.intro; refine And.intro ?_ ?_; (focus (first | (intro wq hq; obtain ⟨hcq, hfq⟩ := G.old hq; go_simp; (first | done | exact rfl); done) | (intro wq; go_simp; (first | done | exact rfl); done))); go_simp; (with_reducible refine hK _ ?_); clear hK K) | fail))
              (with_reducible refine ord_nil ?_)
              go_wp2_with fail
              go_ret
              exact ⟨rfl, G.trans hb1 hG.b⟩
            · rw [if_neg (by omega)] at hr
              subst hr
              go_wp2_with fail
              refine wp_region_ord [(0, 1), (1, 1), (2, 1), (3, 1), (4, 1), (5, 1), (6, 1), (7, 1), (8, 1), (9, 1), (10, 1), (11, 1), (12, 1), (13, 1), (14, 1), (15, 1), (16, 1)] [] 5 (by kernel_rfl) (by decide +kernel) ?_
              simp only [pickO, List.append_eq, List.cons_append, List.nil_append, List.getElem?_cons_succ, List.getElem?_cons_zero]
              intro w0 hG
              (repeat ((first | (with_reducible refine ord_q1 ?_) | (with_reducible refine ord_q0 ?_)); intro K hK; first | (refine Or.inr ⟨?_, ?_⟩; (focus (go_simp; first | done | (simp [undef]; done))); go_simp; (with_reducible refine hK _ ?_); clear hK K) | (refine Or.inl ⟨?_, ?_⟩; (focus (go_simp; done)); apply Exists.intro; refine And.intro ?_ ?_; (focus (first | (intro wq hq; obtain ⟨hcq, hfq⟩ := G.old hq; go_simp; (first | done | exact rfl); done) | (intro wq; go_simp; (first | done | exact rfl); done))); go_simp; (with_reducible refine hK _ ?_); clear hK K) | fail))
              (with_reducible refine ord_nil ?_)
              go_wp2_with fail
              go_ret
              exact ⟨rfl, G.trans hb1 hG.b⟩
        · rw [if_neg (by decide), if_neg (by decide), if_neg (by decide)] at hr
          subst hr
          go_wp2_with fail
          go_ret
          exact ⟨rfl, hb1⟩
        · rw [if_neg (by decide), if_neg (by decide), if_pos rfl] at hr
          replace hr := Lib.hid hr
          go_wp2_with fail
          refine (named_L ot _).mono ?_
          rintro e w3 ⟨rfl, hw⟩
          subst hw
          rcases hok : okName (nameL ot) with _ | _
          · replace hr := hr.out
            rw [if_pos hok] at hr
            subst hr
            replace hok := Lib.hid hok
            go_wp2_with fail
            go_ret
            exact ⟨rfl, hb1⟩
          · replace hr := hr.out
            rw [hok, if_neg (by simp)] at hr
            subst hr
            replace hok := Lib.hid hok
            go_wp2_with fail
            go_ret
            exact ⟨rfl, hb1⟩
        · rw [if_neg (by decide), if_neg (by decide), if_neg (by decide)] at hr
          subst hr
          go_wp2_with fail
          go_ret
          exact ⟨rfl, hb1⟩
  · rw [hd] at k2
    replace hr := hr.out
    rw [hd, if_pos rfl] at hr
    subst hr
    clear hR
    replace hd := Lib.hid hd
    go_wp2_with fail
    go_ret
    exact ⟨rfl, hb1⟩
end
end Go.Proofs.Ytphjgembpcikdaa

namespace Go.Proofs.Ytphjgembpcikdaa
open Go.RowKit

theorem Try.infoF : (Try.prog.info? 88).map (fun i => (i.zero, i.size, i.bytes)) = some (some (.agg #[.string ⟨#[]⟩, .string ⟨#[]⟩, .int .i64 0]), 3, 40) := by kernel_rfl
theorem fcells_append (a b : List Fl) : fcells (a ++ b) = fcells a ++ fcells b := by unfold fcells; rw [List.flatMap_append]
theorem fcells_take : ∀ (l : List Fl) (i : Nat), (fcells l).take (i * 3) = fcells (l.take i)
  | [], i => by simp [fcells]
  | f :: l, 0 => by simp [fcells]
  | f :: l, i + 1 => by
    have e1 : (i + 1) * 3 = i * 3 + 1 + 1 + 1 := by omega
    rw [List.take_succ_cons, fcells_cons, fcells_cons, e1, List.take_succ_cons, List.take_succ_cons, List.take_succ_cons, fcells_take l i]
theorem fcells_drop : ∀ (l : List Fl) (i : Nat), (fcells l).drop (i * 3) = fcells (l.drop i)
  | [], i => by simp [fcells]
  | f :: l, 0 => by simp [fcells]
  | f :: l, i + 1 => by
    have e1 : (i + 1) * 3 = i * 3 + 1 + 1 + 1 := by omega
    rw [List.drop_succ_cons, fcells_cons, e1, List.drop_succ_cons, List.drop_succ_cons, List.drop_succ_cons, fcells_drop l i]
theorem oneCell_f (l : List Fl) : ∀ u ∈ fcells l, u.oneCell' = true := by
  intro u hu
  obtain ⟨f, _, hf⟩ := List.mem_flatMap.1 hu
  simp only [List.mem_cons, List.not_mem_nil, or_false] at hf
  rcases hf with rfl | rfl | rfl <;> rfl
theorem Sl.dropN {w : World} {b off n k j : Nat} {off' : Nat} {xs : List Value} (h : Sl w (some ⟨b, off, none⟩) n xs) (hj : j + k = n) (ho : k = 0 ∨ off' = off + j) : Sl w (some ⟨b, off', none⟩) k (xs.drop j) := by
  have hl := h.1
  refine ⟨by rw [List.length_drop]; omega, fun hp => ?_⟩
  obtain ⟨b', off0, e, hb, hc⟩ := h.2 (by omega)
  cases e
  refine ⟨b, off', rfl, hb, fun i u hu => ?_⟩
  rw [List.getElem?_drop] at hu
  have := hc _ u hu
  rcases ho with ho | ho
  · omega
  · rwa [ho, Nat.add_assoc]
section
variable {w w' w1 : World} {M : Nat} {m m' : Md} {T : Nat → Prop} {A : Option Addr} {c : Nat} {f : Fl}
theorem MdR.sl (h : MdR w M m A c) : Sl w A (m.fs.length * 3) (fcells m.fs) := Sl.of_own h.row
/-- The struct's row of files is set. -/
theorem MdR.set (h : MdR w M m A c) (hT : ∀ x, T x ↔ hasM M A x) {B : Option Addr} {k : Nat} {l : List Fl} (hc : DChg T w w') (hx : Bx w' M [.int .i64 m.room, .int .i64 m.limit, .bool m.down, .slice B l.length k])
    (hrow : w'.ownsRow 0 88 3 (.slice B l.length k) l.length (fcells l)) (hnew : ∀ g, (Value.slice B l.length k).ownBlock = some g → w.heap.size ≤ g) : RetM M T { m with fs := l } w w' :=
  ⟨hasM M B, ⟨B, k, ⟨hx, hrow, fun e => by have := hnew M e; have := h.box.lt; omega⟩, fun x => Iff.rfl⟩, fun x hx => by
    rcases hx with rfl | hx
    · exact .inl ((hT _).2 (.inl rfl))
    · exact .inr (hnew x (by rw [own_any (n' := 0) (c' := 0)]; exact hx)), hc⟩
set_option maxRecDepth 20000 in set_option maxHeartbeats 2000000 in
theorem mremove_any (h : MdW w M T m) (hm : m.Fine) (i : Nat) (hi : i < m.fs.length) : Calls Try.prog 66 #[.pointer (some ⟨M, 0, none⟩), .int .i64 i] w fun e w' => e = .returned (.tuple #[]) ∧ RetM M T { m with fs := m.fs.take i ++ m.fs.drop (i + 1) } w w' := by
  obtain ⟨iF, hi0, hz0, hz1, hz2⟩ := info_parts Try.infoF
  have hl := hm.len
  obtain ⟨A, c, hR, hT⟩ := h
  obtain ⟨g, hA, hgM, hbx⟩ := hR.some_ (by omega)
  subst hA
  have k3 := (hR.box.2 3 _ rfl).1
  have ltM := hR.box.lt
  obtain ⟨hcap1, hcap2⟩ := own_cap hR.row
  unfold maxLen at hcap2
  have H := Lib.hid hR
  have HT := Lib.hid hT
  obtain ⟨n, hn⟩ : ∃ n, m.fs.length = n := ⟨_, rfl⟩
  rw [hn] at k3 hcap1 hl hi
  replace hn := Lib.hid hn
  have hi2 : (i : Int) < (n : Int) := by omega
  have hi3 : (i : Int) + 1 ≤ (n : Int) := by omega
  have hi4 : i + 1 ≤ n := by omega
  have hi5 : i ≤ c := by omega
  have hi6 : i + 1 ≤ c := by omega
  have hw1 : IntKind.i64.wrap ((i : Int) + 1) = (i : Int) + 1 := by rw [IntWalk.i64_in _ (by omega)]
  clear hR hT hbx
  go_enter Try.func66, Try.ntmps66
  go_wp2_with fail
  refine wp_region_ord [(0, 1), (2, 1), (3, 1), (4, 1), (5, 1), (6, 1), (7, 1), (9, 1), (10, 1), (11, 1), (12, 1), (13, 1), (14, 1), (15, 1), (1, 2), (8, 2), (16, 2), (17, 1), (18, 1), (19, 3)] [19] 5 (by kernel_rfl) (by decide +kernel) ?_
  simp only [pickO, List.append_eq, List.cons_append, List.nil_append, List.getElem?_cons_succ, List.getElem?_cons_zero]
  intro w0 hG
  (repeat ((first | (with_reducible refine ord_q1 ?_) | (with_reducible refine ord_q0 ?_)); intro K hK; first | (refine Or.inr ⟨?_, ?_⟩; (focus (go_simp; first | done | (simp [undef]; done))); go_simp; (with_reducible refine hK _ ?_); clear hK K) | (refine Or.inl ⟨?_, ?_⟩; (focus (go_simp; done)); apply Exists.intro; refine And.intro ?_ ?_; (focus (first | (intro wq hq; obtain ⟨hcq, hfq⟩ := G.old hq; go_simp; (first | done | exact rfl); done) | (intro wq; go_simp; (first | done | exact rfl); done))); go_simp; (with_reducible refine hK _ ?_); clear hK K) | fail))
  have hS := H.out.sl
  rw [hn.out] at hS
  have hsl1 : Sl w (some ⟨g, 0, none⟩) (i * 3) (fcells (m.fs.take i)) := by rw [← fcells_take]; exact hS.take (Nat.mul_le_mul_right 3 (by omega))
  obtain ⟨A9, hA9⟩ : ∃ A9 : Option Addr, (if c = i + 1 then (some ⟨g, 0, none⟩ : Option Addr) else some ⟨g, (i + 1) * 3, none⟩) = A9 := ⟨_, rfl⟩
  rw [hA9]
  have hsl2 : Sl w A9 ((n - (i + 1)) * 3) (fcells (m.fs.drop (i + 1))) := by
    rw [← fcells_drop, ← hA9]
    split
    · exact hS.dropN (by omega) (.inl (by omega))
    · exact hS.dropN (by omega) (.inr (by omega))
  have hbase := hG.b.size
  (with_reducible refine ord_run ?_ hG)
  intro K hK
  go_simp
  replace hG := Grew.alloc hG (.cells #[] 88)
  (with_reducible refine hK _ _ hG ?_)
  clear hK K
  (repeat ((first | (with_reducible refine ord_q1 ?_) | (with_reducible refine ord_q0 ?_)); intro K hK; first | (refine Or.inr ⟨?_, ?_⟩; (focus (go_simp; first | done | (simp [undef]; done))); go_simp; (with_reducible refine hK _ ?_); clear hK K) | (refine Or.inl ⟨?_, ?_⟩; (focus (go_simp; done)); apply Exists.intro; refine And.intro ?_ ?_; (focus (first | (intro wq hq; obtain ⟨hcq, hfq⟩ := G.old hq; go_simp; (first | done | exact rfl); done) | (intro wq; go_simp; (first | done | exact rfl); done))); go_simp; (with_reducible refine hK _ ?_); clear hK K) | fail))
  have hown0 : (w0.alloc (.cells #[] 88)).ownsRow w.heap.size 88 3 (.slice (some ⟨w0.heap.size, 0, none⟩) 0 0) 0 [] := own_made rfl hbase
  (with_reducible refine ord_run ?_ hG)
  intro K hK
  refine step_appB rfl (.tmp 5) (.tmp 11) _ rfl w.heap.size 88 iF _ 3 40 Try.underlying59 hi0 hz0 hz1 hz2 rfl (by decide) (.slice (some ⟨w0.heap.size, 0, none⟩) 0 0) 0 [] rfl hown0 (some ⟨g, 0, none⟩) i c (fcells (m.fs.take i)) rfl (hsl1.grow hG.b) (oneCell_f _) (by show _ ≤ 2 ^ 63 - 1; omega) (by omega) hG.b.size ?_
  intro B4 s4 v4 hown hc1 hc2 hgr hob
  replace hG : Grew w v4 := Below.grown hG.b hgr hG.b.size (fun q hq => (hown0.lt q hq).1)
  rw [Nat.zero_add] at hown hob ⊢
  rw [List.nil_append] at hown
  (try dsimp only)
  (with_reducible refine hK _ _ hG ?_)
  clear hK K hgr hob hown0
  (repeat ((first | (with_reducible refine ord_q1 ?_) | (with_reducible refine ord_q0 ?_)); intro K hK; first | (refine Or.inr ⟨?_, ?_⟩; (focus (go_simp; first | done | (simp [undef]; done))); go_simp; (with_reducible refine hK _ ?_); clear hK K) | (refine Or.inl ⟨?_, ?_⟩; (focus (go_simp; done)); apply Exists.intro; refine And.intro ?_ ?_; (focus (first | (intro wq hq; obtain ⟨hcq, hfq⟩ := G.old hq; go_simp; (first | done | exact rfl); done) | (intro wq; go_simp; (first | done | exact rfl); done))); go_simp; (with_reducible refine hK _ ?_); clear hK K) | fail))
  (with_reducible refine ord_run ?_ hG)
  intro K hK
  refine step_appB rfl (.tmp 12) (.tmp 19) _ rfl w.heap.size 88 iF _ 3 40 Try.underlying59 hi0 hz0 hz1 hz2 rfl (by decide) (.slice B4 i s4) i _ rfl hown A9 (n - (i + 1)) (c - (i + 1)) (fcells (m.fs.drop (i + 1))) rfl (hsl2.grow hG.b) (oneCell_f _) (by show _ ≤ 2 ^ 63 - 1; omega) (by omega) hG.b.size ?_
  intro B5 s5 v5 hown2 hc3 hc4 hgr hob
  replace hG : Grew w v5 := Below.grown hG.b hgr hG.b.size (fun q hq => (hown.lt q hq).1)
  rw [← fcells_append] at hown2
  (try dsimp only)
  (with_reducible refine hK _ _ hG ?_)
  clear hK K hgr hob
  (repeat ((first | (with_reducible refine ord_q1 ?_) | (with_reducible refine ord_q0 ?_)); intro K hK; first | (refine Or.inr ⟨?_, ?_⟩; (focus (go_simp; first | done | (simp [undef]; done))); go_simp; (with_reducible refine hK _ ?_); clear hK K) | (refine Or.inl ⟨?_, ?_⟩; (focus (go_simp; done)); apply Exists.intro; refine And.intro ?_ ?_; (focus (first | (intro wq hq; obtain ⟨hcq, hfq⟩ := G.old hq; go_simp; (first | done | exact rfl); done) | (intro wq; go_simp; (first | done | exact rfl); done))); go_simp; (with_reducible refine hK _ ?_); clear hK K) | fail))
  have hbx := (H.out.grow hG.b).box
  obtain ⟨u3, f3⟩ := hbx.2 3 _ rfl
  have ltM5 := hbx.lt
  have hll : (m.fs.take i ++ m.fs.drop (i + 1)).length = i + (n - (i + 1)) := by rw [List.length_append, List.length_take, List.length_drop, hn.out]; omega
  have hfin : RetM M T { m with fs := m.fs.take i ++ m.fs.drop (i + 1) } w (v5.setCell ⟨M, 3, none⟩ (.slice B5 (i + (n - (i + 1))) s5)) := by
    have hgM5 : ∀ g5, (Value.slice B5 (i + (n - (i + 1))) s5).ownBlock = some g5 → w.heap.size ≤ g5 := fun g5 e => (hown2.lt g5 e).1
    refine H.out.set HT.out (B := B5) (k := s5) ?_ ?_ ?_ ?_
    · exact (DChg.of_below hG.b).setCell ((HT.out M).2 (.inl rfl)) _ _
    · rw [hll]; exact hbx.put rfl
    · rw [hll]
      exact own_blk (own_mono hown2 (Nat.zero_le _)) fun g5 e => Below.heap_setCell _ _ _ g5 fun e2 => by have := hgM5 g5 e; have := H.out.box.lt; have : g5 = M := e2; omega
    · rw [hll]; exact hgM5
  replace hfin := Lib.hid hfin
  clear hbx hown2 hown
  ((with_reducible refine ord_tail ?_); intro K hK; go_simp; (with_reducible refine hK _ _ ?_); clear hK K)
  (with_reducible refine ord_nil ?_)
  go_end0
  exact ⟨rfl, hfin.out⟩
end
end Go.Proofs.Ytphjgembpcikdaa

namespace Go.Proofs.Ytphjgembpcikdaa
open Go.RowKit

/-- The list that insert builds, and the block with the new file. -/
def Wf (base : Nat) (x : Fl) (row : Option (Option Addr × Nat × Nat × List Value)) (g5 : Option Nat) (w : World) : Prop :=
  base ≤ w.heap.size ∧ (∀ A n c xs, row = some (A, n, c, xs) → w.ownsRow base 88 3 (.slice A n c) n xs ∧ ∀ g, g5 = some g → (Value.slice A n c).ownBlock ≠ some g) ∧ ∀ g, g5 = some g → Bx w g (fcells [x])
section
variable {base : Nat} {w w' : World} {row : Option (Option Addr × Nat × Nat × List Value)} {g5 : Option Nat} {x : Fl}
theorem Wf.start (x : Fl) (h : base ≤ w.heap.size) : Wf base x none none w := ⟨h, fun A n c xs e => (by cases e), fun g e => (by cases e)⟩
theorem Wf.alloc0 (h : Wf base x none g5 w) : Wf base x (some (some ⟨w.heap.size, 0, none⟩, 0, 0, [])) g5 (w.alloc (.cells #[] 88)) := by
  obtain ⟨h1, _, h3⟩ := h
  refine ⟨by simp; omega, fun A n c xs e => ?_, fun g e => (h3 g e).alloc _⟩
  cases e
  exact ⟨World.ownsRow_made w #[] 0 h1 (Nat.zero_le _) rfl, fun g e k => by
    have := (h3 g e).lt
    have k' : w.heap.size = g := by simpa [Value.ownBlock] using k
    omega⟩
theorem Wf.alloc5 (h : Wf base x row none w) : Wf base x row (some w.heap.size) (w.alloc (.cells #[.string (BA x.name), .string (BA x.data), .int .i64 x.dur] 88)) := by
  obtain ⟨h1, h2, _⟩ := h
  refine ⟨by simp; omega, fun A n c xs e => ?_, fun g e => by cases e; exact Bx.new rfl rfl⟩
  obtain ⟨h4, _⟩ := h2 A n c xs e
  exact ⟨h4.alloc _, fun g e k => by cases e; have := (h4.lt _ k).2; omega⟩
theorem Wf.rowOf (h : Wf base x row g5 w) {A : Option Addr} {n c : Nat} {xs : List Value} (e : row = some (A, n, c, xs)) : w.ownsRow base 88 3 (.slice A n c) n xs := (h.2.1 A n c xs e).1
theorem Wf.one5 {g : Nat} (h : Wf base x row (some g) w) : Sl w (some ⟨g, 0, none⟩) (1 * 3) (fcells [x]) := ⟨rfl, fun _ => ⟨g, 0, rfl, (h.2.2 g rfl).lt, fun j u hu => by rw [Nat.zero_add]; exact ((h.2.2 g rfl).2 j u hu).1⟩⟩
theorem Wf.base_le (h : Wf base x row g5 w) : base ≤ w.heap.size := h.1
theorem Wf.app {A A' : Option Addr} {n n' c c' : Nat} {xs ys : List Value} (h : Wf base x (some (A, n, c, xs)) g5 w) (hown : w'.ownsRow base 88 3 (.slice A' n' c') n' ys) (hg : w.grownBy w' (Value.slice A n c).ownBlock)
    (hob : (Value.slice A' n' c').ownBlock = (Value.slice A n c).ownBlock ∨ (Value.slice A' n' c').ownBlock = some w.heap.size) : Wf base x (some (A', n', c', ys)) g5 w' := by
  obtain ⟨h1, h2, h3⟩ := h
  obtain ⟨h4, h5⟩ := h2 _ _ _ _ rfl
  refine ⟨Nat.le_trans h1 hg.size, fun A n c xs e => ?_, fun g e => (h3 g e).block hg.size (hg.block _ (h3 g e).lt fun k => h5 g e k.symm)⟩
  cases e
  refine ⟨hown, fun g e k => ?_⟩
  rcases hob with hh | hh
  · rw [hh] at k; exact h5 g e k
  · rw [hh] at k; cases k; have := (h3 _ e).lt; omega
end
theorem findL_le : ∀ (l : List Fl) (n : List UInt8), (findL l n).1 ≤ l.length
  | [], _ => Nat.le_refl _
  | a :: l, n => by
    have := findL_le l n
    unfold findL
    split
    · rw [List.length_cons]; show (findL l n).1 + 1 ≤ _; omega
    · exact Nat.zero_le _
def insM (l : List Fl) (x : Fl) : List Fl := l.take (findL l x.name).1 ++ x :: l.drop (findL l x.name).1
section
variable {w w' w1 : World} {M : Nat} {m m' : Md} {T : Nat → Prop} {A : Option Addr} {c : Nat} {x : Fl}
set_option maxRecDepth 20000 in set_option maxHeartbeats 8000000 in
theorem minsert_any (h : MdW w M T m) (hm : m.Fine) (x : Fl) : Calls Try.prog 65 #[.pointer (some ⟨M, 0, none⟩), .agg #[.string (BA x.name), .string (BA x.data), .int .i64 x.dur]] w fun e w' => e = .returned (.tuple #[]) ∧ RetM M T { m with fs := insM m.fs x } w w' := by
  obtain ⟨iF, hi0, hz0, hz1, hz2⟩ := info_parts Try.infoF
  have H := Lib.hid h
  have hl := hm.len
  obtain ⟨A, c, hR, hT⟩ := h
  have HR := Lib.hid hR
  have HT := Lib.hid hT
  have hile := findL_le m.fs x.name
  obtain ⟨⟨i, fb⟩, hfi⟩ : ∃ p, findL m.fs x.name = p := ⟨_, rfl⟩
  have hins : Hid (insM m.fs x = m.fs.take i ++ x :: m.fs.drop i) := by unfold Hid insM; rw [hfi]
  rw [hfi] at hile
  dsimp only at hile
  replace hfi := Lib.hid hfi
  obtain ⟨hcap1, hcap2⟩ := own_cap hR.row
  unfold maxLen at hcap2
  have hS := hR.sl
  have hsl1 : Sl w A (i * 3) (fcells (m.fs.take i)) := by rw [← fcells_take]; exact hS.take (Nat.mul_le_mul_right 3 hile)
  have hAg : A = none ∧ m.fs.length = 0 ∧ c = 0 ∨ ∃ g, A = some ⟨g, 0, none⟩ := by
    rcases hR.row.2 with ⟨hv, h0⟩ | ⟨g, cap, cur, hv, _⟩
    · injection hv with e1 e2 e3; exact .inl ⟨e1, h0, e3⟩
    · injection hv with e1; exact .inr ⟨g, e1⟩
  obtain ⟨n, hn⟩ : ∃ n, m.fs.length = n := ⟨_, rfl⟩
  rw [hn] at hcap1 hl hile hS hAg
  replace hn := Lib.hid hn
  have hw1 : IntKind.i64.wrap (i : Int) = (i : Int) := by rw [IntWalk.i64_in _ (by omega)]
  have hi2 : (i : Int) ≤ (n : Int) := by omega
  have hi5 : i ≤ c := by omega
  have hi6 : (i : Int) ≤ (c : Int) := by omega
  clear hR hT
  rcases hAg with ⟨rfl, rfl, rfl⟩ | ⟨g, rfl⟩
  · obtain rfl : i = 0 := by omega
    have hsl2 : Sl w none (0 * 3) (fcells (m.fs.drop 0)) := by rw [← fcells_drop]; exact hS
    go_enter Try.func65, Try.ntmps65
    go_wp2_with fail
    refine calls_name (fun wx => Below w.heap.size w wx ∧ Bx wx w.heap.size (fcells [x])) ⟨by repeat (first | with_reducible assumption | with_reducible exact G.refl _ | with_reducible refine G.drew ?_ | with_reducible refine G.drewN ?_ _ | with_reducible refine G.alloc ?_ _ | with_reducible refine Below.setCell ?_ (by first | (simp; done) | (simp; omega)) _ | with_reducible refine G.trans ?_ hb12 | with_reducible refine G.trans ?_ hb11 | with_reducible refine G.trans ?_ hb10 | with_reducible refine G.trans ?_ hb9 | with_reducible refine G.trans ?_ hb8 | with_reducible refine G.trans ?_ hb7 | with_reducible refine G.trans ?_ hb6 | with_reducible refine G.trans ?_ hb5 | with_reducible refine G.trans ?_ hb4 | with_reducible refine G.trans ?_ hb3 | with_reducible refine G.trans ?_ hb2 | with_reducible refine G.trans ?_ hb1 | with_reducible refine G.trans ?_ hb | assumption), Bx.new rfl rfl⟩ ?_
    rintro w1 ⟨hb1, x1⟩
    have c0 := (x1.2 0 _ rfl).1
    have c1 := (x1.2 1 _ rfl).1
    have c2 := (x1.2 2 _ rfl).1
    have ltx := x1.lt
    clear x1
    refine (find_any (H.out.grow hb1) x.name hm.len).mono ?_
    rintro e w2 ⟨rfl, hb2⟩
    replace c0 := G.cell c0 hb2
    replace c1 := G.cell c1 hb2
    replace c2 := G.cell c2 hb2
    replace ltx := cell_lt c0
    dsimp only at ltx
    replace hb1 := G.trans hb1 hb2
    rw [hfi]
    clear hb2
    have hR2 := HR.out.grow hb1
    have k3 := (hR2.box.2 3 _ rfl).1
    rw [hn.out] at k3
    have ltM := hR2.box.lt
    have hS0 := hR2.sl
    rw [hn.out] at hS0
    replace hb1 := Lib.hid hb1
    clear hR2
    go_wp2_with fail
    refine wp_region_tree (.quiet 1 1 (.quiet 2 1 (.quiet 3 1 (.quiet 4 1 (.quiet 5 1 (.quiet 6 1 (.quiet 8 1 (.run 0 2 (.run 7 2 (.run 9 2 (.run 10 2 (.quiet 11 1 .nil) .stop) .stop) (.run 9 2 (.run 7 2 (.run 10 2 (.quiet 11 1 .nil) .stop) .stop) .stop)) (.run 9 2 (.run 0 2 (.run 7 2 (.run 10 2 (.quiet 11 1 .nil) .stop) .stop) .stop) .stop))))))))) [] 5 (by kernel_rfl) (by decide +kernel) ?_
    simp only [pickT, List.getElem?_cons_succ, List.getElem?_cons_zero]
    intro w0 hG
    have hG0 := hG.b
    have szG := hG0.size
    (try simp at szG)
    (repeat ((first | (with_reducible refine tree_q1 ?_) | (with_reducible refine tree_q0 ?_)); intro K hK; first | (refine Or.inr ⟨?_, ?_⟩; (focus (go_simp; first | done | (simp [undef]; done))); go_simp; (with_reducible refine hK _ ?_); clear hK K) | (refine Or.inl ⟨?_, ?_⟩; (focus (go_simp; done)); apply Exists.intro; refine And.intro ?_ ?_; (focus (first | (intro wq hq; obtain ⟨hcq, hfq⟩ := G.old hq; go_simp; (first | done | exact rfl); done) | (intro wq; go_simp; (first | done | exact rfl); done))); go_simp; (with_reducible refine hK _ ?_); clear hK K) | fail))
    (with_reducible refine tree_run hG ?_ ?_)
    · intro K hK
      go_simp
      replace hG := Grew.alloc hG (.cells #[] 88)
      (first | (replace hW := Wf.alloc0 hW) | (have hW := Wf.alloc0 (Wf.start x hG0.size)))
      (try simp only [World.size_alloc] at hW)
      (with_reducible refine hK _ _ hG ?_)
      clear hK K
      (with_reducible refine tree_run hG ?_ ?_)
      · intro K hK
        refine step_appB rfl (.tmp 14) (.tmp 20) _ rfl w2.heap.size 88 iF _ 3 40 Try.underlying59 hi0 hz0 hz1 hz2 rfl (by decide) (.slice (some ⟨_, 0, none⟩) 0 0) 0 [] rfl (hW.rowOf rfl) (none) 0 0 (fcells (m.fs.take 0)) rfl (hsl1.grow (G.trans hb1.out hG.b)) (oneCell_f _) (by show _ ≤ 2 ^ 63 - 1; omega) (by omega) hW.base_le ?_
        intro B4 s4 v4 hown hc1 hc2 hgr hob
        rw [Nat.zero_add] at hown hob ⊢
        rw [List.nil_append] at hown
        replace hG : Grew w2 v4 := Below.grown hG.b hgr hW.base_le (fun q hq => ((hW.rowOf rfl).lt q hq).1)
        replace hW := hW.app hown hgr hob
        clear hown hc1 hc2 hgr hob
        (try dsimp only)
        (with_reducible refine hK _ _ hG ?_)
        clear hK K
        (with_reducible refine tree_run hG ?_ ?_)
        · intro K hK
          go_simp
          replace hG := Grew.alloc hG (.cells #[.string (BA x.name), .string (BA x.data), .int .i64 x.dur] 88)
          (first | (replace hW := Wf.alloc5 hW) | (have hW := Wf.alloc5 (Wf.start x hG0.size)))
          (try simp only [World.size_alloc] at hW)
          (with_reducible refine hK _ _ hG ?_)
          clear hK K
          (with_reducible refine tree_run hG ?_ ?_)
          · intro K hK
            refine step_appB rfl (.tmp 21) (.tmp 23) _ rfl w2.heap.size 88 iF _ 3 40 Try.underlying59 hi0 hz0 hz1 hz2 rfl (by decide) (.slice B4 0 s4) 0 _ rfl (hW.rowOf rfl) (some ⟨_, 0, none⟩) 1 1 (fcells [x]) rfl hW.one5 (oneCell_f _) (by show _ ≤ 2 ^ 63 - 1; omega) (by omega) hW.base_le ?_
            intro B6 s6 v6 hown hc1 hc2 hgr hob
            replace hG : Grew w2 v6 := Below.grown hG.b hgr hW.base_le (fun q hq => ((hW.rowOf rfl).lt q hq).1)
            replace hW := hW.app hown hgr hob
            clear hown hc1 hc2 hgr hob
            (try dsimp only)
            (with_reducible refine hK _ _ hG ?_)
            clear hK K
            (repeat ((first | (with_reducible refine tree_q1 ?_) | (with_reducible refine tree_q0 ?_)); intro K hK; first | (refine Or.inr ⟨?_, ?_⟩; (focus (go_simp; first | done | (simp [undef]; done))); go_simp; (with_reducible refine hK _ ?_); clear hK K) | (refine Or.inl ⟨?_, ?_⟩; (focus (go_simp; done)); apply Exists.intro; refine And.intro ?_ ?_; (focus (first | (intro wq hq; obtain ⟨hcq, hfq⟩ := G.old hq; go_simp; (first | done | exact rfl); done) | (intro wq; go_simp; (first | done | exact rfl); done))); go_simp; (with_reducible refine hK _ ?_); clear hK K) | fail))
            (with_reducible refine tree_nil ?_)
            have hrow6 := hW.rowOf rfl
            have hb6 := hG.b
            clear hW hG hG0
            replace k3 := G.cell k3 hb6
            replace ltM := cell_lt k3
            dsimp only at ltM
            have hbs := hb1.out.size
            have hbx6 := (HR.out.grow (G.trans hb1.out hb6)).box
            obtain ⟨u3, f3⟩ := hbx6.2 3 _ rfl
            replace hbx6 := Lib.hid hbx6
            go_wp2_with (first | (at_builtin; refine wpList_app _ rfl (.tmp 26) (.tmp 32) _ rfl w2.heap.size 88 iF _ 3 40 Try.underlying59 hi0 hz0 hz1 hz2 rfl (by decide) (.slice B6 (0 + 1) s6) (0 + 1) _ rfl hrow6 (none) 0 0 (fcells (m.fs.drop 0)) rfl ((hsl2.grow (G.trans hb1.out hb6))) (oneCell_f _) (by show _ ≤ 2 ^ 63 - 1; omega) (by omega) hb6.size ?_; intro B7 s7 v7 hown7 hc7 hc8 hgr7; have hb7 : Below w2.heap.size w2 v7 := Below.grown hb6 hgr7 hb6.size (fun q hq => (hrow6.lt q hq).1); have hbx7 := (HR.out.grow (G.trans hb1.out hb7)).box; obtain ⟨u7, f7⟩ := hbx7.2 3 _ rfl; have lt7 := hbx7.lt; replace hbx7 := Lib.hid hbx7) | fail)
            have hll : (insM m.fs x).length = 0 + 1 + 0 := by rw [hins.out, List.length_append, List.length_take, List.length_cons, List.length_drop, hn.out]; omega
            have hown8 : v7.ownsRow w2.heap.size 88 3 (.slice B7 (insM m.fs x).length s7) (insM m.fs x).length (fcells (insM m.fs x)) := by
                rw [hll, hins.out]
                rw [← fcells_append, ← fcells_append] at hown7
                rw [List.append_cons]
                exact hown7
            have hfin : RetM M T { m with fs := insM m.fs x } w (v7.setCell ⟨M, 3, none⟩ (.slice B7 (0 + 1 + 0) s7)) := by
                have hgM7 : ∀ g5, (Value.slice B7 (insM m.fs x).length s7).ownBlock = some g5 → w.heap.size ≤ g5 := fun g5 e => Nat.le_trans hbs (hown8.lt g5 e).1
                refine HR.out.set HT.out (B := B7) (k := s7) ?_ ?_ ?_ hgM7
                · exact (DChg.of_below (G.trans hb1.out hb7)).setCell ((HT.out M).2 (.inl rfl)) _ _
                · rw [hll]; exact hbx7.out.put rfl
                · exact own_blk (own_mono hown8 (Nat.zero_le _)) fun g5 e => Below.heap_setCell _ _ _ g5 fun e2 => by have := hgM7 g5 e; have := HR.out.box.lt; have : g5 = M := e2; omega
            replace hfin := Lib.hid hfin
            go_end0
            exact ⟨rfl, hfin.out⟩
          exact tree_stop
        exact tree_stop
      (with_reducible refine tree_run hG ?_ ?_)
      · intro K hK
        go_simp
        replace hG := Grew.alloc hG (.cells #[.string (BA x.name), .string (BA x.data), .int .i64 x.dur] 88)
        (first | (replace hW := Wf.alloc5 hW) | (have hW := Wf.alloc5 (Wf.start x hG0.size)))
        (try simp only [World.size_alloc] at hW)
        (with_reducible refine hK _ _ hG ?_)
        clear hK K
        (with_reducible refine tree_run hG ?_ ?_)
        · intro K hK
          refine step_appB rfl (.tmp 14) (.tmp 20) _ rfl w2.heap.size 88 iF _ 3 40 Try.underlying59 hi0 hz0 hz1 hz2 rfl (by decide) (.slice (some ⟨_, 0, none⟩) 0 0) 0 [] rfl (hW.rowOf rfl) (none) 0 0 (fcells (m.fs.take 0)) rfl (hsl1.grow (G.trans hb1.out hG.b)) (oneCell_f _) (by show _ ≤ 2 ^ 63 - 1; omega) (by omega) hW.base_le ?_
          intro B4 s4 v4 hown hc1 hc2 hgr hob
          rw [Nat.zero_add] at hown hob ⊢
          rw [List.nil_append] at hown
          replace hG : Grew w2 v4 := Below.grown hG.b hgr hW.base_le (fun q hq => ((hW.rowOf rfl).lt q hq).1)
          replace hW := hW.app hown hgr hob
          clear hown hc1 hc2 hgr hob
          (try dsimp only)
          (with_reducible refine hK _ _ hG ?_)
          clear hK K
          (with_reducible refine tree_run hG ?_ ?_)
          · intro K hK
            refine step_appB rfl (.tmp 21) (.tmp 23) _ rfl w2.heap.size 88 iF _ 3 40 Try.underlying59 hi0 hz0 hz1 hz2 rfl (by decide) (.slice B4 0 s4) 0 _ rfl (hW.rowOf rfl) (some ⟨_, 0, none⟩) 1 1 (fcells [x]) rfl hW.one5 (oneCell_f _) (by show _ ≤ 2 ^ 63 - 1; omega) (by omega) hW.base_le ?_
            intro B6 s6 v6 hown hc1 hc2 hgr hob
            replace hG : Grew w2 v6 := Below.grown hG.b hgr hW.base_le (fun q hq => ((hW.rowOf rfl).lt q hq).1)
            replace hW := hW.app hown hgr hob
            clear hown hc1 hc2 hgr hob
            (try dsimp only)
            (with_reducible refine hK _ _ hG ?_)
            clear hK K
            (repeat ((first | (with_reducible refine tree_q1 ?_) | (with_reducible refine tree_q0 ?_)); intro K hK; first | (refine Or.inr ⟨?_, ?_⟩; (focus (go_simp; first | done | (simp [undef]; done))); go_simp; (with_reducible refine hK _ ?_); clear hK K) | (refine Or.inl ⟨?_, ?_⟩; (focus (go_simp; done)); apply Exists.intro; refine And.intro ?_ ?_; (focus (first | (intro wq hq; obtain ⟨hcq, hfq⟩ := G.old hq; go_simp; (first | done | exact rfl); done) | (intro wq; go_simp; (first | done | exact rfl); done))); go_simp; (with_reducible refine hK _ ?_); clear hK K) | fail))
            (with_reducible refine tree_nil ?_)
            have hrow6 := hW.rowOf rfl
            have hb6 := hG.b
            clear hW hG hG0
            replace k3 := G.cell k3 hb6
            replace ltM := cell_lt k3
            dsimp only at ltM
            have hbs := hb1.out.size
            have hbx6 := (HR.out.grow (G.trans hb1.out hb6)).box
            obtain ⟨u3, f3⟩ := hbx6.2 3 _ rfl
            replace hbx6 := Lib.hid hbx6
            go_wp2_with (first | (at_builtin; refine wpList_app _ rfl (.tmp 26) (.tmp 32) _ rfl w2.heap.size 88 iF _ 3 40 Try.underlying59 hi0 hz0 hz1 hz2 rfl (by decide) (.slice B6 (0 + 1) s6) (0 + 1) _ rfl hrow6 (none) 0 0 (fcells (m.fs.drop 0)) rfl ((hsl2.grow (G.trans hb1.out hb6))) (oneCell_f _) (by show _ ≤ 2 ^ 63 - 1; omega) (by omega) hb6.size ?_; intro B7 s7 v7 hown7 hc7 hc8 hgr7; have hb7 : Below w2.heap.size w2 v7 := Below.grown hb6 hgr7 hb6.size (fun q hq => (hrow6.lt q hq).1); have hbx7 := (HR.out.grow (G.trans hb1.out hb7)).box; obtain ⟨u7, f7⟩ := hbx7.2 3 _ rfl; have lt7 := hbx7.lt; replace hbx7 := Lib.hid hbx7) | fail)
            have hll : (insM m.fs x).length = 0 + 1 + 0 := by rw [hins.out, List.length_append, List.length_take, List.length_cons, List.length_drop, hn.out]; omega
            have hown8 : v7.ownsRow w2.heap.size 88 3 (.slice B7 (insM m.fs x).length s7) (insM m.fs x).length (fcells (insM m.fs x)) := by
                rw [hll, hins.out]
                rw [← fcells_append, ← fcells_append] at hown7
                rw [List.append_cons]
                exact hown7
            have hfin : RetM M T { m with fs := insM m.fs x } w (v7.setCell ⟨M, 3, none⟩ (.slice B7 (0 + 1 + 0) s7)) := by
                have hgM7 : ∀ g5, (Value.slice B7 (insM m.fs x).length s7).ownBlock = some g5 → w.heap.size ≤ g5 := fun g5 e => Nat.le_trans hbs (hown8.lt g5 e).1
                refine HR.out.set HT.out (B := B7) (k := s7) ?_ ?_ ?_ hgM7
                · exact (DChg.of_below (G.trans hb1.out hb7)).setCell ((HT.out M).2 (.inl rfl)) _ _
                · rw [hll]; exact hbx7.out.put rfl
                · exact own_blk (own_mono hown8 (Nat.zero_le _)) fun g5 e => Below.heap_setCell _ _ _ g5 fun e2 => by have := hgM7 g5 e; have := HR.out.box.lt; have : g5 = M := e2; omega
            replace hfin := Lib.hid hfin
            go_end0
            exact ⟨rfl, hfin.out⟩
          exact tree_stop
        exact tree_stop
      exact tree_stop
    (with_reducible refine tree_run hG ?_ ?_)
    · intro K hK
      go_simp
      replace hG := Grew.alloc hG (.cells #[.string (BA x.name), .string (BA x.data), .int .i64 x.dur] 88)
      (first | (replace hW := Wf.alloc5 hW) | (have hW := Wf.alloc5 (Wf.start x hG0.size)))
      (try simp only [World.size_alloc] at hW)
      (with_reducible refine hK _ _ hG ?_)
      clear hK K
      (with_reducible refine tree_run hG ?_ ?_)
      · intro K hK
        go_simp
        replace hG := Grew.alloc hG (.cells #[] 88)
        (first | (replace hW := Wf.alloc0 hW) | (have hW := Wf.alloc0 (Wf.start x hG0.size)))
        (try simp only [World.size_alloc] at hW)
        (with_reducible refine hK _ _ hG ?_)
        clear hK K
        (with_reducible refine tree_run hG ?_ ?_)
        · intro K hK
          refine step_appB rfl (.tmp 14) (.tmp 20) _ rfl w2.heap.size 88 iF _ 3 40 Try.underlying59 hi0 hz0 hz1 hz2 rfl (by decide) (.slice (some ⟨_, 0, none⟩) 0 0) 0 [] rfl (hW.rowOf rfl) (none) 0 0 (fcells (m.fs.take 0)) rfl (hsl1.grow (G.trans hb1.out hG.b)) (oneCell_f _) (by show _ ≤ 2 ^ 63 - 1; omega) (by omega) hW.base_le ?_
          intro B4 s4 v4 hown hc1 hc2 hgr hob
          rw [Nat.zero_add] at hown hob ⊢
          rw [List.nil_append] at hown
          replace hG : Grew w2 v4 := Below.grown hG.b hgr hW.base_le (fun q hq => ((hW.rowOf rfl).lt q hq).1)
          replace hW := hW.app hown hgr hob
          clear hown hc1 hc2 hgr hob
          (try dsimp only)
          (with_reducible refine hK _ _ hG ?_)
          clear hK K
          (with_reducible refine tree_run hG ?_ ?_)
          · intro K hK
            refine step_appB rfl (.tmp 21) (.tmp 23) _ rfl w2.heap.size 88 iF _ 3 40 Try.underlying59 hi0 hz0 hz1 hz2 rfl (by decide) (.slice B4 0 s4) 0 _ rfl (hW.rowOf rfl) (some ⟨_, 0, none⟩) 1 1 (fcells [x]) rfl hW.one5 (oneCell_f _) (by show _ ≤ 2 ^ 63 - 1; omega) (by omega) hW.base_le ?_
            intro B6 s6 v6 hown hc1 hc2 hgr hob
            replace hG : Grew w2 v6 := Below.grown hG.b hgr hW.base_le (fun q hq => ((hW.rowOf rfl).lt q hq).1)
            replace hW := hW.app hown hgr hob
            clear hown hc1 hc2 hgr hob
            (try dsimp only)
            (with_reducible refine hK _ _ hG ?_)
            clear hK K
            (repeat ((first | (with_reducible refine tree_q1 ?_) | (with_reducible refine tree_q0 ?_)); intro K hK; first | (refine Or.inr ⟨?_, ?_⟩; (focus (go_simp; first | done | (simp [undef]; done))); go_simp; (with_reducible refine hK _ ?_); clear hK K) | (refine Or.inl ⟨?_, ?_⟩; (focus (go_simp; done)); apply Exists.intro; refine And.intro ?_ ?_; (focus (first | (intro wq hq; obtain ⟨hcq, hfq⟩ := G.old hq; go_simp; (first | done | exact rfl); done) | (intro wq; go_simp; (first | done | exact rfl); done))); go_simp; (with_reducible refine hK _ ?_); clear hK K) | fail))
            (with_reducible refine tree_nil ?_)
            have hrow6 := hW.rowOf rfl
            have hb6 := hG.b
            clear hW hG hG0
            replace k3 := G.cell k3 hb6
            replace ltM := cell_lt k3
            dsimp only at ltM
            have hbs := hb1.out.size
            have hbx6 := (HR.out.grow (G.trans hb1.out hb6)).box
            obtain ⟨u3, f3⟩ := hbx6.2 3 _ rfl
            replace hbx6 := Lib.hid hbx6
            go_wp2_with (first | (at_builtin; refine wpList_app _ rfl (.tmp 26) (.tmp 32) _ rfl w2.heap.size 88 iF _ 3 40 Try.underlying59 hi0 hz0 hz1 hz2 rfl (by decide) (.slice B6 (0 + 1) s6) (0 + 1) _ rfl hrow6 (none) 0 0 (fcells (m.fs.drop 0)) rfl ((hsl2.grow (G.trans hb1.out hb6))) (oneCell_f _) (by show _ ≤ 2 ^ 63 - 1; omega) (by omega) hb6.size ?_; intro B7 s7 v7 hown7 hc7 hc8 hgr7; have hb7 : Below w2.heap.size w2 v7 := Below.grown hb6 hgr7 hb6.size (fun q hq => (hrow6.lt q hq).1); have hbx7 := (HR.out.grow (G.trans hb1.out hb7)).box; obtain ⟨u7, f7⟩ := hbx7.2 3 _ rfl; have lt7 := hbx7.lt; replace hbx7 := Lib.hid hbx7) | fail)
            have hll : (insM m.fs x).length = 0 + 1 + 0 := by rw [hins.out, List.length_append, List.length_take, List.length_cons, List.length_drop, hn.out]; omega
            have hown8 : v7.ownsRow w2.heap.size 88 3 (.slice B7 (insM m.fs x).length s7) (insM m.fs x).length (fcells (insM m.fs x)) := by
                rw [hll, hins.out]
                rw [← fcells_append, ← fcells_append] at hown7
                rw [List.append_cons]
                exact hown7
            have hfin : RetM M T { m with fs := insM m.fs x } w (v7.setCell ⟨M, 3, none⟩ (.slice B7 (0 + 1 + 0) s7)) := by
                have hgM7 : ∀ g5, (Value.slice B7 (insM m.fs x).length s7).ownBlock = some g5 → w.heap.size ≤ g5 := fun g5 e => Nat.le_trans hbs (hown8.lt g5 e).1
                refine HR.out.set HT.out (B := B7) (k := s7) ?_ ?_ ?_ hgM7
                · exact (DChg.of_below (G.trans hb1.out hb7)).setCell ((HT.out M).2 (.inl rfl)) _ _
                · rw [hll]; exact hbx7.out.put rfl
                · exact own_blk (own_mono hown8 (Nat.zero_le _)) fun g5 e => Below.heap_setCell _ _ _ g5 fun e2 => by have := hgM7 g5 e; have := HR.out.box.lt; have : g5 = M := e2; omega
            replace hfin := Lib.hid hfin
            go_end0
            exact ⟨rfl, hfin.out⟩
          exact tree_stop
        exact tree_stop
      exact tree_stop
    exact tree_stop
  · by_cases hci : c = i
    · obtain rfl : n = i := by omega
      obtain rfl : c = n := hci
      have hsl2 : Sl w (some ⟨g, 0, none⟩) (0 * 3) (fcells (m.fs.drop c)) := by
        rw [← fcells_drop]
        exact hS.dropN (by omega) (.inl (by omega))
      go_enter Try.func65, Try.ntmps65
      go_wp2_with fail
      refine calls_name (fun wx => Below w.heap.size w wx ∧ Bx wx w.heap.size (fcells [x])) ⟨by repeat (first | with_reducible assumption | with_reducible exact G.refl _ | with_reducible refine G.drew ?_ | with_reducible refine G.drewN ?_ _ | with_reducible refine G.alloc ?_ _ | with_reducible refine Below.setCell ?_ (by first | (simp; done) | (simp; omega)) _ | with_reducible refine G.trans ?_ hb12 | with_reducible refine G.trans ?_ hb11 | with_reducible refine G.trans ?_ hb10 | with_reducible refine G.trans ?_ hb9 | with_reducible refine G.trans ?_ hb8 | with_reducible refine G.trans ?_ hb7 | with_reducible refine G.trans ?_ hb6 | with_reducible refine G.trans ?_ hb5 | with_reducible refine G.trans ?_ hb4 | with_reducible refine G.trans ?_ hb3 | with_reducible refine G.trans ?_ hb2 | with_reducible refine G.trans ?_ hb1 | with_reducible refine G.trans ?_ hb | assumption), Bx.new rfl rfl⟩ ?_
      rintro w1 ⟨hb1, x1⟩
      have c0 := (x1.2 0 _ rfl).1
      have c1 := (x1.2 1 _ rfl).1
      have c2 := (x1.2 2 _ rfl).1
      have ltx := x1.lt
      clear x1
      refine (find_any (H.out.grow hb1) x.name hm.len).mono ?_
      rintro e w2 ⟨rfl, hb2⟩
      replace c0 := G.cell c0 hb2
      replace c1 := G.cell c1 hb2
      replace c2 := G.cell c2 hb2
      replace ltx := cell_lt c0
      dsimp only at ltx
      replace hb1 := G.trans hb1 hb2
      rw [hfi]
      clear hb2
      have hR2 := HR.out.grow hb1
      have k3 := (hR2.box.2 3 _ rfl).1
      rw [hn.out] at k3
      have ltM := hR2.box.lt
      have hS0 := hR2.sl
      rw [hn.out] at hS0
      replace hb1 := Lib.hid hb1
      clear hR2
      go_wp2_with fail
      refine wp_region_tree (.quiet 1 1 (.quiet 2 1 (.quiet 3 1 (.quiet 4 1 (.quiet 5 1 (.quiet 6 1 (.quiet 8 1 (.run 0 2 (.run 7 2 (.run 9 2 (.run 10 2 (.quiet 11 1 .nil) .stop) .stop) (.run 9 2 (.run 7 2 (.run 10 2 (.quiet 11 1 .nil) .stop) .stop) .stop)) (.run 9 2 (.run 0 2 (.run 7 2 (.run 10 2 (.quiet 11 1 .nil) .stop) .stop) .stop) .stop))))))))) [] 5 (by kernel_rfl) (by decide +kernel) ?_
      simp only [pickT, List.getElem?_cons_succ, List.getElem?_cons_zero]
      intro w0 hG
      have hG0 := hG.b
      have szG := hG0.size
      (try simp at szG)
      (repeat ((first | (with_reducible refine tree_q1 ?_) | (with_reducible refine tree_q0 ?_)); intro K hK; first | (refine Or.inr ⟨?_, ?_⟩; (focus (go_simp; first | done | (simp [undef]; done))); go_simp; (with_reducible refine hK _ ?_); clear hK K) | (refine Or.inl ⟨?_, ?_⟩; (focus (go_simp; done)); apply Exists.intro; refine And.intro ?_ ?_; (focus (first | (intro wq hq; obtain ⟨hcq, hfq⟩ := G.old hq; go_simp; (first | done | exact rfl); done) | (intro wq; go_simp; (first | done | exact rfl); done))); go_simp; (with_reducible refine hK _ ?_); clear hK K) | fail))
      (with_reducible refine tree_run hG ?_ ?_)
      · intro K hK
        go_simp
        replace hG := Grew.alloc hG (.cells #[] 88)
        (first | (replace hW := Wf.alloc0 hW) | (have hW := Wf.alloc0 (Wf.start x hG0.size)))
        (try simp only [World.size_alloc] at hW)
        (with_reducible refine hK _ _ hG ?_)
        clear hK K
        (with_reducible refine tree_run hG ?_ ?_)
        · intro K hK
          refine step_appB rfl (.tmp 14) (.tmp 20) _ rfl w2.heap.size 88 iF _ 3 40 Try.underlying59 hi0 hz0 hz1 hz2 rfl (by decide) (.slice (some ⟨_, 0, none⟩) 0 0) 0 [] rfl (hW.rowOf rfl) (some ⟨g, 0, none⟩) c c (fcells (m.fs.take c)) rfl (hsl1.grow (G.trans hb1.out hG.b)) (oneCell_f _) (by show _ ≤ 2 ^ 63 - 1; omega) (by omega) hW.base_le ?_
          intro B4 s4 v4 hown hc1 hc2 hgr hob
          rw [Nat.zero_add] at hown hob ⊢
          rw [List.nil_append] at hown
          replace hG : Grew w2 v4 := Below.grown hG.b hgr hW.base_le (fun q hq => ((hW.rowOf rfl).lt q hq).1)
          replace hW := hW.app hown hgr hob
          clear hown hc1 hc2 hgr hob
          (try dsimp only)
          (with_reducible refine hK _ _ hG ?_)
          clear hK K
          (with_reducible refine tree_run hG ?_ ?_)
          · intro K hK
            go_simp
            replace hG := Grew.alloc hG (.cells #[.string (BA x.name), .string (BA x.data), .int .i64 x.dur] 88)
            (first | (replace hW := Wf.alloc5 hW) | (have hW := Wf.alloc5 (Wf.start x hG0.size)))
            (try simp only [World.size_alloc] at hW)
            (with_reducible refine hK _ _ hG ?_)
            clear hK K
            (with_reducible refine tree_run hG ?_ ?_)
            · intro K hK
              refine step_appB rfl (.tmp 21) (.tmp 23) _ rfl w2.heap.size 88 iF _ 3 40 Try.underlying59 hi0 hz0 hz1 hz2 rfl (by decide) (.slice B4 c s4) c _ rfl (hW.rowOf rfl) (some ⟨_, 0, none⟩) 1 1 (fcells [x]) rfl hW.one5 (oneCell_f _) (by show _ ≤ 2 ^ 63 - 1; omega) (by omega) hW.base_le ?_
              intro B6 s6 v6 hown hc1 hc2 hgr hob
              replace hG : Grew w2 v6 := Below.grown hG.b hgr hW.base_le (fun q hq => ((hW.rowOf rfl).lt q hq).1)
              replace hW := hW.app hown hgr hob
              clear hown hc1 hc2 hgr hob
              (try dsimp only)
              (with_reducible refine hK _ _ hG ?_)
              clear hK K
              (repeat ((first | (with_reducible refine tree_q1 ?_) | (with_reducible refine tree_q0 ?_)); intro K hK; first | (refine Or.inr ⟨?_, ?_⟩; (focus (go_simp; first | done | (simp [undef]; done))); go_simp; (with_reducible refine hK _ ?_); clear hK K) | (refine Or.inl ⟨?_, ?_⟩; (focus (go_simp; done)); apply Exists.intro; refine And.intro ?_ ?_; (focus (first | (intro wq hq; obtain ⟨hcq, hfq⟩ := G.old hq; go_simp; (first | done | exact rfl); done) | (intro wq; go_simp; (first | done | exact rfl); done))); go_simp; (with_reducible refine hK _ ?_); clear hK K) | fail))
              (with_reducible refine tree_nil ?_)
              have hrow6 := hW.rowOf rfl
              have hb6 := hG.b
              clear hW hG hG0
              replace k3 := G.cell k3 hb6
              replace ltM := cell_lt k3
              dsimp only at ltM
              have hbs := hb1.out.size
              have hbx6 := (HR.out.grow (G.trans hb1.out hb6)).box
              obtain ⟨u3, f3⟩ := hbx6.2 3 _ rfl
              replace hbx6 := Lib.hid hbx6
              go_wp2_with (first | (at_builtin; refine wpList_app _ rfl (.tmp 26) (.tmp 32) _ rfl w2.heap.size 88 iF _ 3 40 Try.underlying59 hi0 hz0 hz1 hz2 rfl (by decide) (.slice B6 (c + 1) s6) (c + 1) _ rfl hrow6 (some ⟨g, 0, none⟩) 0 0 (fcells (m.fs.drop c)) rfl ((hsl2.grow (G.trans hb1.out hb6))) (oneCell_f _) (by show _ ≤ 2 ^ 63 - 1; omega) (by omega) hb6.size ?_; intro B7 s7 v7 hown7 hc7 hc8 hgr7; have hb7 : Below w2.heap.size w2 v7 := Below.grown hb6 hgr7 hb6.size (fun q hq => (hrow6.lt q hq).1); have hbx7 := (HR.out.grow (G.trans hb1.out hb7)).box; obtain ⟨u7, f7⟩ := hbx7.2 3 _ rfl; have lt7 := hbx7.lt; replace hbx7 := Lib.hid hbx7) | fail)
              have hll : (insM m.fs x).length = c + 1 + 0 := by rw [hins.out, List.length_append, List.length_take, List.length_cons, List.length_drop, hn.out]; omega
              have hown8 : v7.ownsRow w2.heap.size 88 3 (.slice B7 (insM m.fs x).length s7) (insM m.fs x).length (fcells (insM m.fs x)) := by
                    rw [hll, hins.out]
                    rw [← fcells_append, ← fcells_append] at hown7
                    rw [List.append_cons]
                    exact hown7
              have hfin : RetM M T { m with fs := insM m.fs x } w (v7.setCell ⟨M, 3, none⟩ (.slice B7 (c + 1 + 0) s7)) := by
                    have hgM7 : ∀ g5, (Value.slice B7 (insM m.fs x).length s7).ownBlock = some g5 → w.heap.size ≤ g5 := fun g5 e => Nat.le_trans hbs (hown8.lt g5 e).1
                    refine HR.out.set HT.out (B := B7) (k := s7) ?_ ?_ ?_ hgM7
                    · exact (DChg.of_below (G.trans hb1.out hb7)).setCell ((HT.out M).2 (.inl rfl)) _ _
                    · rw [hll]; exact hbx7.out.put rfl
                    · exact own_blk (own_mono hown8 (Nat.zero_le _)) fun g5 e => Below.heap_setCell _ _ _ g5 fun e2 => by have := hgM7 g5 e; have := HR.out.box.lt; have : g5 = M := e2; omega
              replace hfin := Lib.hid hfin
              go_end0
              exact ⟨rfl, hfin.out⟩
            exact tree_stop
          exact tree_stop
        (with_reducible refine tree_run hG ?_ ?_)
        · intro K hK
          go_simp
          replace hG := Grew.alloc hG (.cells #[.string (BA x.name), .string (BA x.data), .int .i64 x.dur] 88)
          (first | (replace hW := Wf.alloc5 hW) | (have hW := Wf.alloc5 (Wf.start x hG0.size)))
          (try simp only [World.size_alloc] at hW)
          (with_reducible refine hK _ _ hG ?_)
          clear hK K
          (with_reducible refine tree_run hG ?_ ?_)
          · intro K hK
            refine step_appB rfl (.tmp 14) (.tmp 20) _ rfl w2.heap.size 88 iF _ 3 40 Try.underlying59 hi0 hz0 hz1 hz2 rfl (by decide) (.slice (some ⟨_, 0, none⟩) 0 0) 0 [] rfl (hW.rowOf rfl) (some ⟨g, 0, none⟩) c c (fcells (m.fs.take c)) rfl (hsl1.grow (G.trans hb1.out hG.b)) (oneCell_f _) (by show _ ≤ 2 ^ 63 - 1; omega) (by omega) hW.base_le ?_
            intro B4 s4 v4 hown hc1 hc2 hgr hob
            rw [Nat.zero_add] at hown hob ⊢
            rw [List.nil_append] at hown
            replace hG : Grew w2 v4 := Below.grown hG.b hgr hW.base_le (fun q hq => ((hW.rowOf rfl).lt q hq).1)
            replace hW := hW.app hown hgr hob
            clear hown hc1 hc2 hgr hob
            (try dsimp only)
            (with_reducible refine hK _ _ hG ?_)
            clear hK K
            (with_reducible refine tree_run hG ?_ ?_)
            · intro K hK
              refine step_appB rfl (.tmp 21) (.tmp 23) _ rfl w2.heap.size 88 iF _ 3 40 Try.underlying59 hi0 hz0 hz1 hz2 rfl (by decide) (.slice B4 c s4) c _ rfl (hW.rowOf rfl) (some ⟨_, 0, none⟩) 1 1 (fcells [x]) rfl hW.one5 (oneCell_f _) (by show _ ≤ 2 ^ 63 - 1; omega) (by omega) hW.base_le ?_
              intro B6 s6 v6 hown hc1 hc2 hgr hob
              replace hG : Grew w2 v6 := Below.grown hG.b hgr hW.base_le (fun q hq => ((hW.rowOf rfl).lt q hq).1)
              replace hW := hW.app hown hgr hob
              clear hown hc1 hc2 hgr hob
              (try dsimp only)
              (with_reducible refine hK _ _ hG ?_)
              clear hK K
              (repeat ((first | (with_reducible refine tree_q1 ?_) | (with_reducible refine tree_q0 ?_)); intro K hK; first | (refine Or.inr ⟨?_, ?_⟩; (focus (go_simp; first | done | (simp [undef]; done))); go_simp; (with_reducible refine hK _ ?_); clear hK K) | (refine Or.inl ⟨?_, ?_⟩; (focus (go_simp; done)); apply Exists.intro; refine And.intro ?_ ?_; (focus (first | (intro wq hq; obtain ⟨hcq, hfq⟩ := G.old hq; go_simp; (first | done | exact rfl); done) | (intro wq; go_simp; (first | done | exact rfl); done))); go_simp; (with_reducible refine hK _ ?_); clear hK K) | fail))
              (with_reducible refine tree_nil ?_)
              have hrow6 := hW.rowOf rfl
              have hb6 := hG.b
              clear hW hG hG0
              replace k3 := G.cell k3 hb6
              replace ltM := cell_lt k3
              dsimp only at ltM
              have hbs := hb1.out.size
              have hbx6 := (HR.out.grow (G.trans hb1.out hb6)).box
              obtain ⟨u3, f3⟩ := hbx6.2 3 _ rfl
              replace hbx6 := Lib.hid hbx6
              go_wp2_with (first | (at_builtin; refine wpList_app _ rfl (.tmp 26) (.tmp 32) _ rfl w2.heap.size 88 iF _ 3 40 Try.underlying59 hi0 hz0 hz1 hz2 rfl (by decide) (.slice B6 (c + 1) s6) (c + 1) _ rfl hrow6 (some ⟨g, 0, none⟩) 0 0 (fcells (m.fs.drop c)) rfl ((hsl2.grow (G.trans hb1.out hb6))) (oneCell_f _) (by show _ ≤ 2 ^ 63 - 1; omega) (by omega) hb6.size ?_; intro B7 s7 v7 hown7 hc7 hc8 hgr7; have hb7 : Below w2.heap.size w2 v7 := Below.grown hb6 hgr7 hb6.size (fun q hq => (hrow6.lt q hq).1); have hbx7 := (HR.out.grow (G.trans hb1.out hb7)).box; obtain ⟨u7, f7⟩ := hbx7.2 3 _ rfl; have lt7 := hbx7.lt; replace hbx7 := Lib.hid hbx7) | fail)
              have hll : (insM m.fs x).length = c + 1 + 0 := by rw [hins.out, List.length_append, List.length_take, List.length_cons, List.length_drop, hn.out]; omega
              have hown8 : v7.ownsRow w2.heap.size 88 3 (.slice B7 (insM m.fs x).length s7) (insM m.fs x).length (fcells (insM m.fs x)) := by
                    rw [hll, hins.out]
                    rw [← fcells_append, ← fcells_append] at hown7
                    rw [List.append_cons]
                    exact hown7
              have hfin : RetM M T { m with fs := insM m.fs x } w (v7.setCell ⟨M, 3, none⟩ (.slice B7 (c + 1 + 0) s7)) := by
                    have hgM7 : ∀ g5, (Value.slice B7 (insM m.fs x).length s7).ownBlock = some g5 → w.heap.size ≤ g5 := fun g5 e => Nat.le_trans hbs (hown8.lt g5 e).1
                    refine HR.out.set HT.out (B := B7) (k := s7) ?_ ?_ ?_ hgM7
                    · exact (DChg.of_below (G.trans hb1.out hb7)).setCell ((HT.out M).2 (.inl rfl)) _ _
                    · rw [hll]; exact hbx7.out.put rfl
                    · exact own_blk (own_mono hown8 (Nat.zero_le _)) fun g5 e => Below.heap_setCell _ _ _ g5 fun e2 => by have := hgM7 g5 e; have := HR.out.box.lt; have : g5 = M := e2; omega
              replace hfin := Lib.hid hfin
              go_end0
              exact ⟨rfl, hfin.out⟩
            exact tree_stop
          exact tree_stop
        exact tree_stop
      (with_reducible refine tree_run hG ?_ ?_)
      · intro K hK
        go_simp
        replace hG := Grew.alloc hG (.cells #[.string (BA x.name), .string (BA x.data), .int .i64 x.dur] 88)
        (first | (replace hW := Wf.alloc5 hW) | (have hW := Wf.alloc5 (Wf.start x hG0.size)))
        (try simp only [World.size_alloc] at hW)
        (with_reducible refine hK _ _ hG ?_)
        clear hK K
        (with_reducible refine tree_run hG ?_ ?_)
        · intro K hK
          go_simp
          replace hG := Grew.alloc hG (.cells #[] 88)
          (first | (replace hW := Wf.alloc0 hW) | (have hW := Wf.alloc0 (Wf.start x hG0.size)))
          (try simp only [World.size_alloc] at hW)
          (with_reducible refine hK _ _ hG ?_)
          clear hK K
          (with_reducible refine tree_run hG ?_ ?_)
          · intro K hK
            refine step_appB rfl (.tmp 14) (.tmp 20) _ rfl w2.heap.size 88 iF _ 3 40 Try.underlying59 hi0 hz0 hz1 hz2 rfl (by decide) (.slice (some ⟨_, 0, none⟩) 0 0) 0 [] rfl (hW.rowOf rfl) (some ⟨g, 0, none⟩) c c (fcells (m.fs.take c)) rfl (hsl1.grow (G.trans hb1.out hG.b)) (oneCell_f _) (by show _ ≤ 2 ^ 63 - 1; omega) (by omega) hW.base_le ?_
            intro B4 s4 v4 hown hc1 hc2 hgr hob
            rw [Nat.zero_add] at hown hob ⊢
            rw [List.nil_append] at hown
            replace hG : Grew w2 v4 := Below.grown hG.b hgr hW.base_le (fun q hq => ((hW.rowOf rfl).lt q hq).1)
            replace hW := hW.app hown hgr hob
            clear hown hc1 hc2 hgr hob
            (try dsimp only)
            (with_reducible refine hK _ _ hG ?_)
            clear hK K
            (with_reducible refine tree_run hG ?_ ?_)
            · intro K hK
              refine step_appB rfl (.tmp 21) (.tmp 23) _ rfl w2.heap.size 88 iF _ 3 40 Try.underlying59 hi0 hz0 hz1 hz2 rfl (by decide) (.slice B4 c s4) c _ rfl (hW.rowOf rfl) (some ⟨_, 0, none⟩) 1 1 (fcells [x]) rfl hW.one5 (oneCell_f _) (by show _ ≤ 2 ^ 63 - 1; omega) (by omega) hW.base_le ?_
              intro B6 s6 v6 hown hc1 hc2 hgr hob
              replace hG : Grew w2 v6 := Below.grown hG.b hgr hW.base_le (fun q hq => ((hW.rowOf rfl).lt q hq).1)
              replace hW := hW.app hown hgr hob
              clear hown hc1 hc2 hgr hob
              (try dsimp only)
              (with_reducible refine hK _ _ hG ?_)
              clear hK K
              (repeat ((first | (with_reducible refine tree_q1 ?_) | (with_reducible refine tree_q0 ?_)); intro K hK; first | (refine Or.inr ⟨?_, ?_⟩; (focus (go_simp; first | done | (simp [undef]; done))); go_simp; (with_reducible refine hK _ ?_); clear hK K) | (refine Or.inl ⟨?_, ?_⟩; (focus (go_simp; done)); apply Exists.intro; refine And.intro ?_ ?_; (focus (first | (intro wq hq; obtain ⟨hcq, hfq⟩ := G.old hq; go_simp; (first | done | exact rfl); done) | (intro wq; go_simp; (first | done | exact rfl); done))); go_simp; (with_reducible refine hK _ ?_); clear hK K) | fail))
              (with_reducible refine tree_nil ?_)
              have hrow6 := hW.rowOf rfl
              have hb6 := hG.b
              clear hW hG hG0
              replace k3 := G.cell k3 hb6
              replace ltM := cell_lt k3
              dsimp only at ltM
              have hbs := hb1.out.size
              have hbx6 := (HR.out.grow (G.trans hb1.out hb6)).box
              obtain ⟨u3, f3⟩ := hbx6.2 3 _ rfl
              replace hbx6 := Lib.hid hbx6
              go_wp2_with (first | (at_builtin; refine wpList_app _ rfl (.tmp 26) (.tmp 32) _ rfl w2.heap.size 88 iF _ 3 40 Try.underlying59 hi0 hz0 hz1 hz2 rfl (by decide) (.slice B6 (c + 1) s6) (c + 1) _ rfl hrow6 (some ⟨g, 0, none⟩) 0 0 (fcells (m.fs.drop c)) rfl ((hsl2.grow (G.trans hb1.out hb6))) (oneCell_f _) (by show _ ≤ 2 ^ 63 - 1; omega) (by omega) hb6.size ?_; intro B7 s7 v7 hown7 hc7 hc8 hgr7; have hb7 : Below w2.heap.size w2 v7 := Below.grown hb6 hgr7 hb6.size (fun q hq => (hrow6.lt q hq).1); have hbx7 := (HR.out.grow (G.trans hb1.out hb7)).box; obtain ⟨u7, f7⟩ := hbx7.2 3 _ rfl; have lt7 := hbx7.lt; replace hbx7 := Lib.hid hbx7) | fail)
              have hll : (insM m.fs x).length = c + 1 + 0 := by rw [hins.out, List.length_append, List.length_take, List.length_cons, List.length_drop, hn.out]; omega
              have hown8 : v7.ownsRow w2.heap.size 88 3 (.slice B7 (insM m.fs x).length s7) (insM m.fs x).length (fcells (insM m.fs x)) := by
                    rw [hll, hins.out]
                    rw [← fcells_append, ← fcells_append] at hown7
                    rw [List.append_cons]
                    exact hown7
              have hfin : RetM M T { m with fs := insM m.fs x } w (v7.setCell ⟨M, 3, none⟩ (.slice B7 (c + 1 + 0) s7)) := by
                    have hgM7 : ∀ g5, (Value.slice B7 (insM m.fs x).length s7).ownBlock = some g5 → w.heap.size ≤ g5 := fun g5 e => Nat.le_trans hbs (hown8.lt g5 e).1
                    refine HR.out.set HT.out (B := B7) (k := s7) ?_ ?_ ?_ hgM7
                    · exact (DChg.of_below (G.trans hb1.out hb7)).setCell ((HT.out M).2 (.inl rfl)) _ _
                    · rw [hll]; exact hbx7.out.put rfl
                    · exact own_blk (own_mono hown8 (Nat.zero_le _)) fun g5 e => Below.heap_setCell _ _ _ g5 fun e2 => by have := hgM7 g5 e; have := HR.out.box.lt; have : g5 = M := e2; omega
              replace hfin := Lib.hid hfin
              go_end0
              exact ⟨rfl, hfin.out⟩
            exact tree_stop
          exact tree_stop
        exact tree_stop
      exact tree_stop
    · have hsl2 : Sl w (some ⟨g, i * 3, none⟩) ((n - i) * 3) (fcells (m.fs.drop i)) := by
        rw [← fcells_drop]
        exact hS.dropN (by omega) (.inr (by omega))
      go_enter Try.func65, Try.ntmps65
      go_wp2_with fail
      refine calls_name (fun wx => Below w.heap.size w wx ∧ Bx wx w.heap.size (fcells [x])) ⟨by repeat (first | with_reducible assumption | with_reducible exact G.refl _ | with_reducible refine G.drew ?_ | with_reducible refine G.drewN ?_ _ | with_reducible refine G.alloc ?_ _ | with_reducible refine Below.setCell ?_ (by first | (simp; done) | (simp; omega)) _ | with_reducible refine G.trans ?_ hb12 | with_reducible refine G.trans ?_ hb11 | with_reducible refine G.trans ?_ hb10 | with_reducible refine G.trans ?_ hb9 | with_reducible refine G.trans ?_ hb8 | with_reducible refine G.trans ?_ hb7 | with_reducible refine G.trans ?_ hb6 | with_reducible refine G.trans ?_ hb5 | with_reducible refine G.trans ?_ hb4 | with_reducible refine G.trans ?_ hb3 | with_reducible refine G.trans ?_ hb2 | with_reducible refine G.trans ?_ hb1 | with_reducible refine G.trans ?_ hb | assumption), Bx.new rfl rfl⟩ ?_
      rintro w1 ⟨hb1, x1⟩
      have c0 := (x1.2 0 _ rfl).1
      have c1 := (x1.2 1 _ rfl).1
      have c2 := (x1.2 2 _ rfl).1
      have ltx := x1.lt
      clear x1
      refine (find_any (H.out.grow hb1) x.name hm.len).mono ?_
      rintro e w2 ⟨rfl, hb2⟩
      replace c0 := G.cell c0 hb2
      replace c1 := G.cell c1 hb2
      replace c2 := G.cell c2 hb2
      replace ltx := cell_lt c0
      dsimp only at ltx
      replace hb1 := G.trans hb1 hb2
      rw [hfi]
      clear hb2
      have hR2 := HR.out.grow hb1
      have k3 := (hR2.box.2 3 _ rfl).1
      rw [hn.out] at k3
      have ltM := hR2.box.lt
      have hS0 := hR2.sl
      rw [hn.out] at hS0
      replace hb1 := Lib.hid hb1
      clear hR2
      go_wp2_with fail
      refine wp_region_tree (.quiet 1 1 (.quiet 2 1 (.quiet 3 1 (.quiet 4 1 (.quiet 5 1 (.quiet 6 1 (.quiet 8 1 (.run 0 2 (.run 7 2 (.run 9 2 (.run 10 2 (.quiet 11 1 .nil) .stop) .stop) (.run 9 2 (.run 7 2 (.run 10 2 (.quiet 11 1 .nil) .stop) .stop) .stop)) (.run 9 2 (.run 0 2 (.run 7 2 (.run 10 2 (.quiet 11 1 .nil) .stop) .stop) .stop) .stop))))))))) [] 5 (by kernel_rfl) (by decide +kernel) ?_
      simp only [pickT, List.getElem?_cons_succ, List.getElem?_cons_zero]
      intro w0 hG
      have hG0 := hG.b
      have szG := hG0.size
      (try simp at szG)
      (repeat ((first | (with_reducible refine tree_q1 ?_) | (with_reducible refine tree_q0 ?_)); intro K hK; first | (refine Or.inr ⟨?_, ?_⟩; (focus (go_simp; first | done | (simp [undef]; done))); go_simp; (with_reducible refine hK _ ?_); clear hK K) | (refine Or.inl ⟨?_, ?_⟩; (focus (go_simp; done)); apply Exists.intro; refine And.intro ?_ ?_; (focus (first | (intro wq hq; obtain ⟨hcq, hfq⟩ := G.old hq; go_simp; (first | done | exact rfl); done) | (intro wq; go_simp; (first | done | exact rfl); done))); go_simp; (with_reducible refine hK _ ?_); clear hK K) | fail))
      (with_reducible refine tree_run hG ?_ ?_)
      · intro K hK
        go_simp
        replace hG := Grew.alloc hG (.cells #[] 88)
        (first | (replace hW := Wf.alloc0 hW) | (have hW := Wf.alloc0 (Wf.start x hG0.size)))
        (try simp only [World.size_alloc] at hW)
        (with_reducible refine hK _ _ hG ?_)
        clear hK K
        (with_reducible refine tree_run hG ?_ ?_)
        · intro K hK
          refine step_appB rfl (.tmp 14) (.tmp 20) _ rfl w2.heap.size 88 iF _ 3 40 Try.underlying59 hi0 hz0 hz1 hz2 rfl (by decide) (.slice (some ⟨_, 0, none⟩) 0 0) 0 [] rfl (hW.rowOf rfl) (some ⟨g, 0, none⟩) i c (fcells (m.fs.take i)) rfl (hsl1.grow (G.trans hb1.out hG.b)) (oneCell_f _) (by show _ ≤ 2 ^ 63 - 1; omega) (by omega) hW.base_le ?_
          intro B4 s4 v4 hown hc1 hc2 hgr hob
          rw [Nat.zero_add] at hown hob ⊢
          rw [List.nil_append] at hown
          replace hG : Grew w2 v4 := Below.grown hG.b hgr hW.base_le (fun q hq => ((hW.rowOf rfl).lt q hq).1)
          replace hW := hW.app hown hgr hob
          clear hown hc1 hc2 hgr hob
          (try dsimp only)
          (with_reducible refine hK _ _ hG ?_)
          clear hK K
          (with_reducible refine tree_run hG ?_ ?_)
          · intro K hK
            go_simp
            replace hG := Grew.alloc hG (.cells #[.string (BA x.name), .string (BA x.data), .int .i64 x.dur] 88)
            (first | (replace hW := Wf.alloc5 hW) | (have hW := Wf.alloc5 (Wf.start x hG0.size)))
            (try simp only [World.size_alloc] at hW)
            (with_reducible refine hK _ _ hG ?_)
            clear hK K
            (with_reducible refine tree_run hG ?_ ?_)
            · intro K hK
              refine step_appB rfl (.tmp 21) (.tmp 23) _ rfl w2.heap.size 88 iF _ 3 40 Try.underlying59 hi0 hz0 hz1 hz2 rfl (by decide) (.slice B4 i s4) i _ rfl (hW.rowOf rfl) (some ⟨_, 0, none⟩) 1 1 (fcells [x]) rfl hW.one5 (oneCell_f _) (by show _ ≤ 2 ^ 63 - 1; omega) (by omega) hW.base_le ?_
              intro B6 s6 v6 hown hc1 hc2 hgr hob
              replace hG : Grew w2 v6 := Below.grown hG.b hgr hW.base_le (fun q hq => ((hW.rowOf rfl).lt q hq).1)
              replace hW := hW.app hown hgr hob
              clear hown hc1 hc2 hgr hob
              (try dsimp only)
              (with_reducible refine hK _ _ hG ?_)
              clear hK K
              (repeat ((first | (with_reducible refine tree_q1 ?_) | (with_reducible refine tree_q0 ?_)); intro K hK; first | (refine Or.inr ⟨?_, ?_⟩; (focus (go_simp; first | done | (simp [undef]; done))); go_simp; (with_reducible refine hK _ ?_); clear hK K) | (refine Or.inl ⟨?_, ?_⟩; (focus (go_simp; done)); apply Exists.intro; refine And.intro ?_ ?_; (focus (first | (intro wq hq; obtain ⟨hcq, hfq⟩ := G.old hq; go_simp; (first | done | exact rfl); done) | (intro wq; go_simp; (first | done | exact rfl); done))); go_simp; (with_reducible refine hK _ ?_); clear hK K) | fail))
              (with_reducible refine tree_nil ?_)
              have hrow6 := hW.rowOf rfl
              have hb6 := hG.b
              clear hW hG hG0
              replace k3 := G.cell k3 hb6
              replace ltM := cell_lt k3
              dsimp only at ltM
              have hbs := hb1.out.size
              have hbx6 := (HR.out.grow (G.trans hb1.out hb6)).box
              obtain ⟨u3, f3⟩ := hbx6.2 3 _ rfl
              replace hbx6 := Lib.hid hbx6
              go_wp2_with (first | (at_builtin; refine wpList_app _ rfl (.tmp 26) (.tmp 32) _ rfl w2.heap.size 88 iF _ 3 40 Try.underlying59 hi0 hz0 hz1 hz2 rfl (by decide) (.slice B6 (i + 1) s6) (i + 1) _ rfl hrow6 (some ⟨g, i * 3, none⟩) (n - i) (c - i) (fcells (m.fs.drop i)) rfl ((hsl2.grow (G.trans hb1.out hb6))) (oneCell_f _) (by show _ ≤ 2 ^ 63 - 1; omega) (by omega) hb6.size ?_; intro B7 s7 v7 hown7 hc7 hc8 hgr7; have hb7 : Below w2.heap.size w2 v7 := Below.grown hb6 hgr7 hb6.size (fun q hq => (hrow6.lt q hq).1); have hbx7 := (HR.out.grow (G.trans hb1.out hb7)).box; obtain ⟨u7, f7⟩ := hbx7.2 3 _ rfl; have lt7 := hbx7.lt; replace hbx7 := Lib.hid hbx7) | fail)
              have hll : (insM m.fs x).length = i + 1 + (n - i) := by rw [hins.out, List.length_append, List.length_take, List.length_cons, List.length_drop, hn.out]; omega
              have hown8 : v7.ownsRow w2.heap.size 88 3 (.slice B7 (insM m.fs x).length s7) (insM m.fs x).length (fcells (insM m.fs x)) := by
                    rw [hll, hins.out]
                    rw [← fcells_append, ← fcells_append] at hown7
                    rw [List.append_cons]
                    exact hown7
              have hfin : RetM M T { m with fs := insM m.fs x } w (v7.setCell ⟨M, 3, none⟩ (.slice B7 (i + 1 + (n - i)) s7)) := by
                    have hgM7 : ∀ g5, (Value.slice B7 (insM m.fs x).length s7).ownBlock = some g5 → w.heap.size ≤ g5 := fun g5 e => Nat.le_trans hbs (hown8.lt g5 e).1
                    refine HR.out.set HT.out (B := B7) (k := s7) ?_ ?_ ?_ hgM7
                    · exact (DChg.of_below (G.trans hb1.out hb7)).setCell ((HT.out M).2 (.inl rfl)) _ _
                    · rw [hll]; exact hbx7.out.put rfl
                    · exact own_blk (own_mono hown8 (Nat.zero_le _)) fun g5 e => Below.heap_setCell _ _ _ g5 fun e2 => by have := hgM7 g5 e; have := HR.out.box.lt; have : g5 = M := e2; omega
              replace hfin := Lib.hid hfin
              go_end0
              exact ⟨rfl, hfin.out⟩
            exact tree_stop
          exact tree_stop
        (with_reducible refine tree_run hG ?_ ?_)
        · intro K hK
          go_simp
          replace hG := Grew.alloc hG (.cells #[.string (BA x.name), .string (BA x.data), .int .i64 x.dur] 88)
          (first | (replace hW := Wf.alloc5 hW) | (have hW := Wf.alloc5 (Wf.start x hG0.size)))
          (try simp only [World.size_alloc] at hW)
          (with_reducible refine hK _ _ hG ?_)
          clear hK K
          (with_reducible refine tree_run hG ?_ ?_)
          · intro K hK
            refine step_appB rfl (.tmp 14) (.tmp 20) _ rfl w2.heap.size 88 iF _ 3 40 Try.underlying59 hi0 hz0 hz1 hz2 rfl (by decide) (.slice (some ⟨_, 0, none⟩) 0 0) 0 [] rfl (hW.rowOf rfl) (some ⟨g, 0, none⟩) i c (fcells (m.fs.take i)) rfl (hsl1.grow (G.trans hb1.out hG.b)) (oneCell_f _) (by show _ ≤ 2 ^ 63 - 1; omega) (by omega) hW.base_le ?_
            intro B4 s4 v4 hown hc1 hc2 hgr hob
            rw [Nat.zero_add] at hown hob ⊢
            rw [List.nil_append] at hown
            replace hG : Grew w2 v4 := Below.grown hG.b hgr hW.base_le (fun q hq => ((hW.rowOf rfl).lt q hq).1)
            replace hW := hW.app hown hgr hob
            clear hown hc1 hc2 hgr hob
            (try dsimp only)
            (with_reducible refine hK _ _ hG ?_)
            clear hK K
            (with_reducible refine tree_run hG ?_ ?_)
            · intro K hK
              refine step_appB rfl (.tmp 21) (.tmp 23) _ rfl w2.heap.size 88 iF _ 3 40 Try.underlying59 hi0 hz0 hz1 hz2 rfl (by decide) (.slice B4 i s4) i _ rfl (hW.rowOf rfl) (some ⟨_, 0, none⟩) 1 1 (fcells [x]) rfl hW.one5 (oneCell_f _) (by show _ ≤ 2 ^ 63 - 1; omega) (by omega) hW.base_le ?_
              intro B6 s6 v6 hown hc1 hc2 hgr hob
              replace hG : Grew w2 v6 := Below.grown hG.b hgr hW.base_le (fun q hq => ((hW.rowOf rfl).lt q hq).1)
              replace hW := hW.app hown hgr hob
              clear hown hc1 hc2 hgr hob
              (try dsimp only)
              (with_reducible refine hK _ _ hG ?_)
              clear hK K
              (repeat ((first | (with_reducible refine tree_q1 ?_) | (with_reducible refine tree_q0 ?_)); intro K hK; first | (refine Or.inr ⟨?_, ?_⟩; (focus (go_simp; first | done | (simp [undef]; done))); go_simp; (with_reducible refine hK _ ?_); clear hK K) | (refine Or.inl ⟨?_, ?_⟩; (focus (go_simp; done)); apply Exists.intro; refine And.intro ?_ ?_; (focus (first | (intro wq hq; obtain ⟨hcq, hfq⟩ := G.old hq; go_simp; (first | done | exact rfl); done) | (intro wq; go_simp; (first | done | exact rfl); done))); go_simp; (with_reducible refine hK _ ?_); clear hK K) | fail))
              (with_reducible refine tree_nil ?_)
              have hrow6 := hW.rowOf rfl
              have hb6 := hG.b
              clear hW hG hG0
              replace k3 := G.cell k3 hb6
              replace ltM := cell_lt k3
              dsimp only at ltM
              have hbs := hb1.out.size
              have hbx6 := (HR.out.grow (G.trans hb1.out hb6)).box
              obtain ⟨u3, f3⟩ := hbx6.2 3 _ rfl
              replace hbx6 := Lib.hid hbx6
              go_wp2_with (first | (at_builtin; refine wpList_app _ rfl (.tmp 26) (.tmp 32) _ rfl w2.heap.size 88 iF _ 3 40 Try.underlying59 hi0 hz0 hz1 hz2 rfl (by decide) (.slice B6 (i + 1) s6) (i + 1) _ rfl hrow6 (some ⟨g, i * 3, none⟩) (n - i) (c - i) (fcells (m.fs.drop i)) rfl ((hsl2.grow (G.trans hb1.out hb6))) (oneCell_f _) (by show _ ≤ 2 ^ 63 - 1; omega) (by omega) hb6.size ?_; intro B7 s7 v7 hown7 hc7 hc8 hgr7; have hb7 : Below w2.heap.size w2 v7 := Below.grown hb6 hgr7 hb6.size (fun q hq => (hrow6.lt q hq).1); have hbx7 := (HR.out.grow (G.trans hb1.out hb7)).box; obtain ⟨u7, f7⟩ := hbx7.2 3 _ rfl; have lt7 := hbx7.lt; replace hbx7 := Lib.hid hbx7) | fail)
              have hll : (insM m.fs x).length = i + 1 + (n - i) := by rw [hins.out, List.length_append, List.length_take, List.length_cons, List.length_drop, hn.out]; omega
              have hown8 : v7.ownsRow w2.heap.size 88 3 (.slice B7 (insM m.fs x).length s7) (insM m.fs x).length (fcells (insM m.fs x)) := by
                    rw [hll, hins.out]
                    rw [← fcells_append, ← fcells_append] at hown7
                    rw [List.append_cons]
                    exact hown7
              have hfin : RetM M T { m with fs := insM m.fs x } w (v7.setCell ⟨M, 3, none⟩ (.slice B7 (i + 1 + (n - i)) s7)) := by
                    have hgM7 : ∀ g5, (Value.slice B7 (insM m.fs x).length s7).ownBlock = some g5 → w.heap.size ≤ g5 := fun g5 e => Nat.le_trans hbs (hown8.lt g5 e).1
                    refine HR.out.set HT.out (B := B7) (k := s7) ?_ ?_ ?_ hgM7
                    · exact (DChg.of_below (G.trans hb1.out hb7)).setCell ((HT.out M).2 (.inl rfl)) _ _
                    · rw [hll]; exact hbx7.out.put rfl
                    · exact own_blk (own_mono hown8 (Nat.zero_le _)) fun g5 e => Below.heap_setCell _ _ _ g5 fun e2 => by have := hgM7 g5 e; have := HR.out.box.lt; have : g5 = M := e2; omega
              replace hfin := Lib.hid hfin
              go_end0
              exact ⟨rfl, hfin.out⟩
            exact tree_stop
          exact tree_stop
        exact tree_stop
      (with_reducible refine tree_run hG ?_ ?_)
      · intro K hK
        go_simp
        replace hG := Grew.alloc hG (.cells #[.string (BA x.name), .string (BA x.data), .int .i64 x.dur] 88)
        (first | (replace hW := Wf.alloc5 hW) | (have hW := Wf.alloc5 (Wf.start x hG0.size)))
        (try simp only [World.size_alloc] at hW)
        (with_reducible refine hK _ _ hG ?_)
        clear hK K
        (with_reducible refine tree_run hG ?_ ?_)
        · intro K hK
          go_simp
          replace hG := Grew.alloc hG (.cells #[] 88)
          (first | (replace hW := Wf.alloc0 hW) | (have hW := Wf.alloc0 (Wf.start x hG0.size)))
          (try simp only [World.size_alloc] at hW)
          (with_reducible refine hK _ _ hG ?_)
          clear hK K
          (with_reducible refine tree_run hG ?_ ?_)
          · intro K hK
            refine step_appB rfl (.tmp 14) (.tmp 20) _ rfl w2.heap.size 88 iF _ 3 40 Try.underlying59 hi0 hz0 hz1 hz2 rfl (by decide) (.slice (some ⟨_, 0, none⟩) 0 0) 0 [] rfl (hW.rowOf rfl) (some ⟨g, 0, none⟩) i c (fcells (m.fs.take i)) rfl (hsl1.grow (G.trans hb1.out hG.b)) (oneCell_f _) (by show _ ≤ 2 ^ 63 - 1; omega) (by omega) hW.base_le ?_
            intro B4 s4 v4 hown hc1 hc2 hgr hob
            rw [Nat.zero_add] at hown hob ⊢
            rw [List.nil_append] at hown
            replace hG : Grew w2 v4 := Below.grown hG.b hgr hW.base_le (fun q hq => ((hW.rowOf rfl).lt q hq).1)
            replace hW := hW.app hown hgr hob
            clear hown hc1 hc2 hgr hob
            (try dsimp only)
            (with_reducible refine hK _ _ hG ?_)
            clear hK K
            (with_reducible refine tree_run hG ?_ ?_)
            · intro K hK
              refine step_appB rfl (.tmp 21) (.tmp 23) _ rfl w2.heap.size 88 iF _ 3 40 Try.underlying59 hi0 hz0 hz1 hz2 rfl (by decide) (.slice B4 i s4) i _ rfl (hW.rowOf rfl) (some ⟨_, 0, none⟩) 1 1 (fcells [x]) rfl hW.one5 (oneCell_f _) (by show _ ≤ 2 ^ 63 - 1; omega) (by omega) hW.base_le ?_
              intro B6 s6 v6 hown hc1 hc2 hgr hob
              replace hG : Grew w2 v6 := Below.grown hG.b hgr hW.base_le (fun q hq => ((hW.rowOf rfl).lt q hq).1)
              replace hW := hW.app hown hgr hob
              clear hown hc1 hc2 hgr hob
              (try dsimp only)
              (with_reducible refine hK _ _ hG ?_)
              clear hK K
              (repeat ((first | (with_reducible refine tree_q1 ?_) | (with_reducible refine tree_q0 ?_)); intro K hK; first | (refine Or.inr ⟨?_, ?_⟩; (focus (go_simp; first | done | (simp [undef]; done))); go_simp; (with_reducible refine hK _ ?_); clear hK K) | (refine Or.inl ⟨?_, ?_⟩; (focus (go_simp; done)); apply Exists.intro; refine And.intro ?_ ?_; (focus (first | (intro wq hq; obtain ⟨hcq, hfq⟩ := G.old hq; go_simp; (first | done | exact rfl); done) | (intro wq; go_simp; (first | done | exact rfl); done))); go_simp; (with_reducible refine hK _ ?_); clear hK K) | fail))
              (with_reducible refine tree_nil ?_)
              have hrow6 := hW.rowOf rfl
              have hb6 := hG.b
              clear hW hG hG0
              replace k3 := G.cell k3 hb6
              replace ltM := cell_lt k3
              dsimp only at ltM
              have hbs := hb1.out.size
              have hbx6 := (HR.out.grow (G.trans hb1.out hb6)).box
              obtain ⟨u3, f3⟩ := hbx6.2 3 _ rfl
              replace hbx6 := Lib.hid hbx6
              go_wp2_with (first | (at_builtin; refine wpList_app _ rfl (.tmp 26) (.tmp 32) _ rfl w2.heap.size 88 iF _ 3 40 Try.underlying59 hi0 hz0 hz1 hz2 rfl (by decide) (.slice B6 (i + 1) s6) (i + 1) _ rfl hrow6 (some ⟨g, i * 3, none⟩) (n - i) (c - i) (fcells (m.fs.drop i)) rfl ((hsl2.grow (G.trans hb1.out hb6))) (oneCell_f _) (by show _ ≤ 2 ^ 63 - 1; omega) (by omega) hb6.size ?_; intro B7 s7 v7 hown7 hc7 hc8 hgr7; have hb7 : Below w2.heap.size w2 v7 := Below.grown hb6 hgr7 hb6.size (fun q hq => (hrow6.lt q hq).1); have hbx7 := (HR.out.grow (G.trans hb1.out hb7)).box; obtain ⟨u7, f7⟩ := hbx7.2 3 _ rfl; have lt7 := hbx7.lt; replace hbx7 := Lib.hid hbx7) | fail)
              have hll : (insM m.fs x).length = i + 1 + (n - i) := by rw [hins.out, List.length_append, List.length_take, List.length_cons, List.length_drop, hn.out]; omega
              have hown8 : v7.ownsRow w2.heap.size 88 3 (.slice B7 (insM m.fs x).length s7) (insM m.fs x).length (fcells (insM m.fs x)) := by
                    rw [hll, hins.out]
                    rw [← fcells_append, ← fcells_append] at hown7
                    rw [List.append_cons]
                    exact hown7
              have hfin : RetM M T { m with fs := insM m.fs x } w (v7.setCell ⟨M, 3, none⟩ (.slice B7 (i + 1 + (n - i)) s7)) := by
                    have hgM7 : ∀ g5, (Value.slice B7 (insM m.fs x).length s7).ownBlock = some g5 → w.heap.size ≤ g5 := fun g5 e => Nat.le_trans hbs (hown8.lt g5 e).1
                    refine HR.out.set HT.out (B := B7) (k := s7) ?_ ?_ ?_ hgM7
                    · exact (DChg.of_below (G.trans hb1.out hb7)).setCell ((HT.out M).2 (.inl rfl)) _ _
                    · rw [hll]; exact hbx7.out.put rfl
                    · exact own_blk (own_mono hown8 (Nat.zero_le _)) fun g5 e => Below.heap_setCell _ _ _ g5 fun e2 => by have := hgM7 g5 e; have := HR.out.box.lt; have : g5 = M := e2; omega
              replace hfin := Lib.hid hfin
              go_end0
              exact ⟨rfl, hfin.out⟩
            exact tree_stop
          exact tree_stop
        exact tree_stop
      exact tree_stop
end
end Go.Proofs.Ytphjgembpcikdaa

namespace Go.Proofs.Ytphjgembpcikdaa
open Go.RowKit

theorem own_updN {w : World} {e : TypeId} {g n c j size : Nat} {xs : List Value} (h : w.ownsRow 0 e size (.slice (some ⟨g, 0, none⟩) n c) n xs) (hj : j < n * size) (v : Value) : (w.setCell ⟨g, j, none⟩ v).ownsRow 0 e size (.slice (some ⟨g, 0, none⟩) n c) n (xs.set j v) := by
  refine ⟨by rw [List.length_set]; exact h.1, ?_⟩
  rcases h.2 with ⟨h0, h1⟩ | ⟨g', cap, cur, hv, hg, hh, hnc, hcm, hcs, ht⟩
  · subst h1; omega
  · cases hv
    refine .inr ⟨g, c, _, rfl, hg, heap_setCell_same w g j cur e v hh, hnc, hcm, by rw [Array.size_setIfInBounds]; exact hcs, ?_⟩
    rw [← ht, Array.toList_setIfInBounds, List.take_set]
theorem fcells_set1 : ∀ {l : List Fl} {i : Nat} {f : Fl} (d : List UInt8), l[i]? = some f → (fcells l).set (i * 3 + 1) (.string (BA d)) = fcells (l.set i { f with data := d })
  | [], i, f, d, h => by simp at h
  | a :: l, 0, f, d, h => by
    obtain rfl : a = f := by simpa using h
    rfl
  | a :: l, i + 1, f, d, h => by
    have h' : l[i]? = some f := by simpa using h
    have e1 : (i + 1) * 3 + 1 = (i * 3 + 1) + 1 + 1 + 1 := by omega
    rw [e1, fcells_cons, List.set_cons_succ, List.set_cons_succ, List.set_cons_succ, fcells_set1 d h', List.set_cons_succ, fcells_cons]
theorem fcells_set2 : ∀ {l : List Fl} {i : Nat} {f : Fl} (d : Nat), l[i]? = some f → (fcells l).set (i * 3 + 2) (.int .i64 d) = fcells (l.set i { f with dur := d })
  | [], i, f, d, h => by simp at h
  | a :: l, 0, f, d, h => by
    obtain rfl : a = f := by simpa using h
    rfl
  | a :: l, i + 1, f, d, h => by
    have h' : l[i]? = some f := by simpa using h
    have e1 : (i + 1) * 3 + 2 = (i * 3 + 2) + 1 + 1 + 1 := by omega
    rw [e1, fcells_cons, List.set_cons_succ, List.set_cons_succ, List.set_cons_succ, fcells_set2 d h', List.set_cons_succ, fcells_cons]
section
variable {w w' w1 wc : World} {M : Nat} {m m' : Md} {T : Nat → Prop} {A : Option Addr} {c : Nat} {f : Fl}
theorem RetM.refl (h : MdW w M T m) : RetM M T m w w := ⟨T, h, fun x hx => .inl hx, DChg.refl _ _⟩
theorem RetM.grow (h : RetM M T m w wc) (hb : Below wc.heap.size wc w') : RetM M T m w w' := by
  obtain ⟨T', h1, h2, h3⟩ := h
  exact ⟨T', h1.grow hb, h2, h3.trans (DChg.of_below (S := T) hb) fun x hx => .inl hx⟩
theorem RetM.trans {m2 : Md} {w2 : World} (h : RetM M T m w w1) (hk : ∀ T', MdW w1 M T' m → RetM M T' m2 w1 w2) : RetM M T m2 w w2 := by
  obtain ⟨T', h1, h2, h3⟩ := h
  obtain ⟨T2, k1, k2, k3⟩ := hk T' h1
  have hs := h3.size
  exact ⟨T2, k1, fun x hx => by rcases k2 x hx with h4 | h4; exact h2 x h4; exact .inr (by omega), h3.trans k3 h2⟩
theorem RetM.step {n : Nat} {a : Array Value} {e0 : Ending} (h : RetM M T m w wc) (hc : ∀ T', MdW wc M T' m → Calls Try.prog n a wc fun e w' => e = e0 ∧ RetM M T' m' wc w') : Calls Try.prog n a wc fun e w' => e = e0 ∧ RetM M T m' w w' := by
  obtain ⟨T', h1, h2, h3⟩ := h
  refine (hc T' h1).mono fun e w' hh => ⟨hh.1, ?_⟩
  obtain ⟨T2, k1, k2, k3⟩ := hh.2
  have hs := h3.size
  exact ⟨T2, k1, fun x hx => by rcases k2 x hx with h4 | h4; exact h2 x h4; exact .inr (by omega), h3.trans k3 h2⟩
theorem RetM.get (h : RetM M T m w wc) : ∃ A c, MdR wc M m A c := by
  obtain ⟨T', ⟨A, c, h1, _⟩, _⟩ := h
  exact ⟨A, c, h1⟩
theorem RetM.read {n : Nat} {a : Array Value} {P : Ending → Prop} (h : RetM M T m w wc) (hc : ∀ T', MdW wc M T' m → Calls Try.prog n a wc fun e w' => P e ∧ Below wc.heap.size wc w') : Calls Try.prog n a wc fun e w' => P e ∧ RetM M T m w w' := by
  obtain ⟨T', h1, h2, h3⟩ := h
  exact (hc T' h1).mono fun e w' hh => ⟨hh.1, RetM.grow ⟨T', h1, h2, h3⟩ hh.2⟩
theorem MdR.cell (hR : MdR wc M m A c) {i : Nat} {v : Value} (he : ∀ A k, [.int .i64 m.room, .int .i64 m.limit, .bool m.down, .slice A m.fs.length k].set i v = [.int .i64 m'.room, .int .i64 m'.limit, .bool m'.down, .slice A m.fs.length k]) (hfs : m'.fs = m.fs) :
    MdR (wc.setCell ⟨M, i, none⟩ v) M m' A c := by
  refine ⟨by rw [hfs]; exact hR.box.put (he A c), ?_, by rw [hfs]; exact hR.ne⟩
  rw [hfs]
  exact own_blk hR.row fun g hg => Below.heap_setCell _ _ _ g fun e => hR.ne (by rw [← (show g = M from e)]; exact hg)
/-- A cell of the struct is written. -/
theorem RetM.cell (h : RetM M T m w wc) {i : Nat} {v : Value} (he : ∀ A k, [.int .i64 m.room, .int .i64 m.limit, .bool m.down, .slice A m.fs.length k].set i v = [.int .i64 m'.room, .int .i64 m'.limit, .bool m'.down, .slice A m.fs.length k]) (hfs : m'.fs = m.fs) :
    RetM M T m' w (wc.setCell ⟨M, i, none⟩ v) := by
  refine h.trans fun T' hM => ?_
  obtain ⟨A, c, hR, hT⟩ := hM
  refine ⟨T', ⟨A, c, ⟨by rw [hfs]; exact hR.box.put (he A c), ?_, by rw [hfs]; exact hR.ne⟩, hT⟩, fun x hx => .inl hx, (DChg.refl _ _).setCell ((hT M).2 (.inl rfl)) _ _⟩
  rw [hfs]
  exact own_blk hR.row fun g hg => Below.heap_setCell _ _ _ g fun e => hR.ne (by rw [← (show g = M from e)]; exact hg)
/-- A cell of a file is written. -/
theorem RetM.file (h : RetM M T m w wc) {A : Option Addr} {c g i idx : Nat} {v : Value} {f' : Fl} (hR : MdR wc M m A c) (hA : A = some ⟨g, 0, none⟩) (hi : idx < m.fs.length * 3) (hset : (fcells m.fs).set idx v = fcells (m.fs.set i f')) :
    RetM M T { m with fs := m.fs.set i f' } w (wc.setCell ⟨g, idx, none⟩ v) ∧ MdR (wc.setCell ⟨g, idx, none⟩ v) M { m with fs := m.fs.set i f' } A c := by
  have hgM : g ≠ M := fun e => hR.ne (by rw [hA, e]; rfl)
  have hR' : MdR (wc.setCell ⟨g, idx, none⟩ v) M { m with fs := m.fs.set i f' } A c := by
    have hl : (m.fs.set i f').length = m.fs.length := List.length_set
    refine ⟨?_, ?_, ?_⟩
    · show Bx _ M [.int .i64 m.room, .int .i64 m.limit, .bool m.down, .slice A (m.fs.set i f').length c]
      rw [hl]
      exact hR.box.other (fun e => hgM e.symm) _
    · show (wc.setCell ⟨g, idx, none⟩ v).ownsRow 0 88 3 (.slice A (m.fs.set i f').length c) (m.fs.set i f').length (fcells (m.fs.set i f'))
      rw [hl, ← hset]
      subst hA
      exact own_updN hR.row hi v
    · show (Value.slice A (m.fs.set i f').length c).ownBlock ≠ some M
      rw [hl]
      exact hR.ne
  refine ⟨h.trans fun T' hM => ?_, hR'⟩
  obtain ⟨A2, c2, hR2, hT⟩ := hM
  have e3 := (hR.box.2 3 _ rfl).1.symm.trans (hR2.box.2 3 _ rfl).1
  obtain ⟨rfl, rfl⟩ : A = A2 ∧ c = c2 := by cases e3; exact ⟨rfl, rfl⟩
  refine ⟨T', ⟨A, c, hR', hT⟩, fun x hx => .inl hx, (DChg.refl _ _).setCell ((hT g).2 (.inr (by rw [hA]; rfl))) _ _⟩
/-- .. beside a box of the call's own. -/
def RetX (M : Nat) (T : Nat → Prop) (m : Md) (w wc : World) (B : Nat) (l : List Value) : Prop := w.heap.size ≤ B ∧ ∃ T', MdW wc M T' m ∧ (∀ x, T' x → T x ∨ w.heap.size ≤ x) ∧ DChg T w wc ∧ ¬ T' B ∧ Bx wc B l
variable {B : Nat} {l l' : List Value}
theorem RetX.ret (h : RetX M T m w wc B l) : RetM M T m w wc := by
  obtain ⟨_, T', h1, h2, h3, _⟩ := h
  exact ⟨T', h1, h2, h3⟩
theorem RetX.new {t : TypeId} {a : Array Value} (h : RetM M T m w wc) (hB : B = wc.heap.size) (ha : a = l.toArray) : RetX M T m w (wc.alloc (.cells a t)) B l := by
  obtain ⟨T', h1, h2, h3⟩ := h
  have hs := h3.size
  subst hB
  exact ⟨hs, T', h1.grow (G.alloc (G.refl _) _), h2, h3.alloc _, fun hx => absurd (h1.lt hx) (Nat.lt_irrefl _), Bx.new rfl ha⟩
theorem RetX.box (h : RetX M T m w wc B l) : Bx wc B l := by
  obtain ⟨_, T', h1, h2, h3, _, h4⟩ := h
  exact h4
theorem RetX.step {n : Nat} {a : Array Value} {e0 : Ending} (h : RetX M T m w wc B l) (hc : ∀ T', MdW wc M T' m → Calls Try.prog n a wc fun e w' => e = e0 ∧ RetM M T' m' wc w') : Calls Try.prog n a wc fun e w' => e = e0 ∧ RetX M T m' w w' B l := by
  obtain ⟨hB, T', h1, h2, h3, h4, h5⟩ := h
  refine (hc T' h1).mono fun e w' hh => ⟨hh.1, hB, ?_⟩
  obtain ⟨T2, k1, k2, k3⟩ := hh.2
  have hs := h3.size
  have hl := h5.lt
  refine ⟨T2, k1, fun x hx => by rcases k2 x hx with h4 | h4; exact h2 x h4; exact .inr (by omega), h3.trans k3 h2, fun hx => ?_, h5.block k3.size (k3.2.2 B h4 hl)⟩
  rcases k2 B hx with h6 | h6
  · exact h4 h6
  · omega
theorem RetX.read {n : Nat} {a : Array Value} {P : Ending → Prop} (h : RetX M T m w wc B l) (hc : ∀ T', MdW wc M T' m → Calls Try.prog n a wc fun e w' => P e ∧ Below wc.heap.size wc w') : Calls Try.prog n a wc fun e w' => P e ∧ RetX M T m w w' B l := by
  obtain ⟨hB, T', h1, h2, h3, h4, h5⟩ := h
  exact (hc T' h1).mono fun e w' hh => ⟨hh.1, hB, T', h1.grow hh.2, h2, h3.trans (DChg.of_below (S := T) hh.2) fun x hx => .inl hx, h4, h5.grow hh.2⟩
theorem RetX.put (h : RetX M T m w wc B l) {i : Nat} {v : Value} (e : l.set i v = l') : RetX M T m w (wc.setCell ⟨B, i, none⟩ v) B l' := by
  obtain ⟨hB, T', h1, h2, h3, h4, h5⟩ := h
  have hk : ∀ x, x ≠ B → (wc.setCell ⟨B, i, none⟩ v).heap[x]? = wc.heap[x]? := fun x hx => Below.heap_setCell _ _ _ x hx
  have hs : wc.heap.size ≤ (wc.setCell ⟨B, i, none⟩ v).heap.size := ((Below.refl 0 wc).setCell (p := ⟨B, i, none⟩) (Nat.zero_le _) v).size
  refine ⟨hB, T', h1.keep hs fun x hx => hk x fun e => h4 (e ▸ hx), h2, ⟨h3.1.setCell (Nat.zero_le _) _, Nat.le_trans h3.2.1 hs, fun x hx hl => (hk x (by omega)).trans (h3.2.2 x hx hl)⟩, h4, h5.put e⟩
end
theorem used_rm (l : List Fl) (i : Nat) : usedC (l.take i ++ l.drop (i + 1)) ≤ usedC l := by
  have e : usedC (l.take i ++ l.drop (i + 1)) = usedC (l.take i) + usedC (l.drop (i + 1)) := by unfold usedC; rw [List.map_append, List.sum_append]
  have h1 := congrArg usedC (List.take_append_drop (i + 1) l)
  have e2 : usedC (l.take (i + 1) ++ l.drop (i + 1)) = usedC (l.take (i + 1)) + usedC (l.drop (i + 1)) := by unfold usedC; rw [List.map_append, List.sum_append]
  have h2 : usedC (l.take i) ≤ usedC (l.take (i + 1)) := by
    rcases h : l[i]? with _ | f
    · rw [List.take_of_length_le (by rw [List.getElem?_eq_none_iff] at h; omega), List.take_of_length_le (by rw [List.getElem?_eq_none_iff] at h; omega)]
      exact Nat.le_refl _
    · rw [used_take h]; omega
  omega
theorem Md.Fine.rm {m : Md} (h : m.Fine) (i : Nat) : ({ m with fs := m.fs.take i ++ m.fs.drop (i + 1) } : Md).Fine := by
  have h1 := used_rm m.fs i
  have h2 := h.used
  have h3 := h.len
  refine ⟨?_, h.room, ?_⟩
  · show (m.fs.take i ++ m.fs.drop (i + 1)).length ≤ 1000
    rw [List.length_append, List.length_take, List.length_drop]
    omega
  · show ((usedC (m.fs.take i ++ m.fs.drop (i + 1)) : Nat) : Int) ≤ _
    omega
end Go.Proofs.Ytphjgembpcikdaa
