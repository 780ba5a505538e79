/- What stamp.Text computes for a valid stamp, and its error for any other. -/
import Derived.Test.YtjldpodehffbnaaDoorStamp8
import Derived.Test.YtjldpodehffbnaaDoorShelf
import Derived.WalkSmall
import Derived.Lib.AppendIntMem
namespace Go.Proofs.YtjldpodehffbnaaDoor
set_option linter.unusedVariables false
set_option linter.unnecessarySimpa false
set_option linter.unusedSimpArgs false
open Go.RowKit

def itoaB (n : Int) : ByteArray := ⟨(Lib.itoa n).toArray⟩
/-- The table of powers of ten, that strconv.Itoa reads. -/
abbrev Pow10 (w : World) : Prop := Lib.TabIs Tryd.prog w "internal/strconv.uint64pow10" .u64 Lib.pow10Tab
theorem gPow : Tryd.prog.globalNamed "internal/strconv.uint64pow10" = some 1 := by kernel_rfl
theorem Pow10.lt {w : World} (h : Pow10 w) : 1 < w.heap.size := by
  unfold Pow10 Lib.TabIs World.var? at h
  rw [gPow] at h
  simp only [Option.bind_some] at h
  rcases Nat.lt_or_ge 1 w.heap.size with h' | h'
  · exact h'
  · rw [Array.getElem?_eq_none h'] at h; cases h
theorem Pow10.grow {w w' : World} (h : Pow10 w) (hb : Below w.heap.size w w') : Pow10 w' := var?_below hb gPow h.lt h

theorem itoa_any (n : Int) (w : World) (h0 : -9223372036854775808 ≤ n) (h1 : n ≤ 9223372036854775807) (ht : Pow10 w) :
    Calls Tryd.prog 47 #[.int .i64 n] w fun e w' => e = .returned (.string (itoaB n)) ∧ Below w.heap.size w w' :=
  (Tryd.strconv_Itoa n h0 h1 w ht).mono fun e w' h => ⟨h.1, by obtain ⟨k, os, rfl⟩ := h.2; exact Lib.below_grow _ _ (Nat.le_refl _) _ _⟩

theorem dd_len : ∀ (k u : Nat), u < 10 ^ (k + 1) → (Lib.decDigits u).length ≤ k + 1
  | 0, u, h => by rw [Lib.decDigits]; simp at h; simp [h]
  | k + 1, u, h => by
    rw [Lib.decDigits]
    split
    · simp
    · have := dd_len k (u / 10) (by rw [Nat.pow_succ] at h; omega)
      simp; omega
theorem itoa_len {n : Int} (h0 : 0 ≤ n) (h1 : n ≤ 9999999) : (Lib.itoa n).length ≤ 7 := by
  unfold Lib.itoa
  rw [if_neg (by omega)]
  exact dd_len 6 _ (by omega)
theorem joinTail_len (sep : List UInt8) : ∀ (l : List (List UInt8)) (b : Nat), (∀ x ∈ l, x.length ≤ b) → (Lib.joinTail sep l).length ≤ l.length * (b + sep.length)
  | [], b, _ => by simp [Lib.joinTail]
  | x :: l, b, h => by
    have h1 := h x (by simp)
    have h2 := joinTail_len sep l b (fun z hz => h z (by simp [hz]))
    simp only [Lib.joinTail, List.map_cons, List.flatten_cons, List.length_append, List.length_cons, Nat.add_mul] at h2 ⊢
    omega
theorem join_len (sep : List UInt8) (l : List (List UInt8)) (b : Nat) (h : ∀ x ∈ l, x.length ≤ b) : (Lib.join l sep).length ≤ l.length * (b + sep.length) := by
  cases l with
  | nil => simp [Lib.join_nil]
  | cons x l =>
    rw [Lib.join_cons]
    have h1 := h x (by simp)
    have h2 := joinTail_len sep l b (fun z hz => h z (by simp [hz]))
    simp only [List.length_append, List.length_cons, Nat.add_mul] at h2 ⊢
    omega

/-- The text of a stamp. -/
def textL (e : Int) (xs : List Int) : List UInt8 := Lib.itoa e ++ 47 :: Lib.join (xs.map Lib.itoa) [46]
theorem itoaB_size {n : Int} (h0 : 0 ≤ n) (h1 : n ≤ 9999999) : (itoaB n).size ≤ 7 := by
  have := itoa_len h0 h1
  simpa [itoaB, ByteArray.size] using this
def joinB (xs : List Int) : ByteArray := ⟨(Lib.join (xs.map Lib.itoa) [46]).toArray⟩
def textB (e : Int) (xs : List Int) : ByteArray := itoaB e ++ ⟨#[47]⟩ ++ joinB xs
theorem textB_list (e : Int) (xs : List Int) : (textB e xs).data.toList = textL e xs := by
  simp [textB, textL, itoaB, joinB]
abbrev strs (l : List Int) : List Value := l.map fun x => .string (itoaB x)
theorem Tryd.infoS : (Tryd.prog.info? 9).map (fun i => (i.zero, i.size, i.bytes)) = some (some (.string ⟨#[]⟩), 1, 16) := by kernel_rfl
theorem strs_succ {xs : List Int} {k : Nat} {x : Int} (h : xs[k]? = some x) : strs (xs.take k) ++ [.string (itoaB x)] = strs (xs.take (k + 1)) := by
  rw [List.take_add_one, h]; simp
theorem strs_at {xs : List Int} {k : Nat} {x : Int} (h : xs[k]? = some x) : (strs xs)[k]? = some (.string (itoaB x)) := by simp [h]

set_option maxRecDepth 20000 in set_option maxHeartbeats 400000 in
theorem text_bad (e : Int) (A : Option Addr) (n c : Nat) (xs : List Int) (w : World) (hx : Sl w A n (i64s xs)) (hn : n ≤ maxLen) (h : checkS e xs ≠ 0) :
    Calls Tryd.prog 32 #[.agg #[.int .i64 e, .slice A n c]] w fun e' w' => e' = .returned (.tuple #[.string ⟨#[]⟩, .int .i64 (checkS e xs)]) ∧ Below w.heap.size w w' := by
  have C1 := fun w hx => check_any e A n c xs w hx hn
  have hz : (checkS e xs != 0) = true := by simp [h]
  have C1' := Lib.hid C1
  clear C1 h
  generalize checkS e xs = z at *
  go_enter Tryd.func32, Tryd.ntmps32
  go_wp2_with fail
  refine (C1'.out _ ?_).mono ?_
  · repeat (first | with_reducible assumption | with_reducible exact Sl.new' (by simp; done) (by simp; done) (by simp; done) | with_reducible refine Sl.drew ?_ | with_reducible refine Sl.drewN ?_ _ | with_reducible refine Sl.alloc ?_ _ | with_reducible refine Sl.grow ?_ hb12 | with_reducible refine Sl.grow ?_ hb11 | with_reducible refine Sl.grow ?_ hb10 | with_reducible refine Sl.grow ?_ hb9 | with_reducible refine Sl.grow ?_ hb8 | with_reducible refine Sl.grow ?_ hb7 | with_reducible refine Sl.grow ?_ hb6 | with_reducible refine Sl.grow ?_ hb5 | with_reducible refine Sl.grow ?_ hb4 | with_reducible refine Sl.grow ?_ hb3 | with_reducible refine Sl.grow ?_ hb2 | with_reducible refine Sl.grow ?_ hb1 | with_reducible refine Sl.grow ?_ hb | assumption)
  rintro e' w1 ⟨rfl, hb⟩
  go_wp2
  go_ret2
  exact ⟨rfl, by repeat (first | with_reducible assumption | with_reducible exact G.refl _ | with_reducible refine G.drew ?_ | with_reducible refine G.drewN ?_ _ | with_reducible refine G.alloc ?_ _ | with_reducible refine Below.setCell ?_ (by first | (simp; done) | (simp; omega)) _ | with_reducible refine G.trans ?_ hb12 | with_reducible refine G.trans ?_ hb11 | with_reducible refine G.trans ?_ hb10 | with_reducible refine G.trans ?_ hb9 | with_reducible refine G.trans ?_ hb8 | with_reducible refine G.trans ?_ hb7 | with_reducible refine G.trans ?_ hb6 | with_reducible refine G.trans ?_ hb5 | with_reducible refine G.trans ?_ hb4 | with_reducible refine G.trans ?_ hb3 | with_reducible refine G.trans ?_ hb2 | with_reducible refine G.trans ?_ hb1 | with_reducible refine G.trans ?_ hb | assumption)⟩

set_option maxRecDepth 20000 in set_option maxHeartbeats 400000 in
theorem text_ok (e : Int) (A : Option Addr) (n c : Nat) (xs : List Int) (w : World) (hx : Sl w A n (i64s xs)) (hnc : n ≤ c) (hcm : c ≤ maxLen) (h : checkS e xs = 0) (ht : Pow10 w) :
    Calls Tryd.prog 32 #[.agg #[.int .i64 e, .slice A n c]] w fun e' w' => e' = .returned (.tuple #[.string (textB e xs), .int .i64 0]) ∧ Below w.heap.size w w' := by
  obtain ⟨i0, hi0, hz0, hz1, hz2⟩ := info_parts Tryd.infoS
  have hl := Lib.hid hx.len
  have C1 := fun w hx => check_any e A n c xs w hx (Nat.le_trans hnc hcm)
  rw [h] at C1
  have C1' := Lib.hid C1
  obtain ⟨he0, he1, hl0, hl5, hbad⟩ := checkS_ok h
  rw [hl.out] at hl0 hl5
  have hr : ∀ x ∈ xs, 0 ≤ x ∧ x ≤ 65535 := by
    intro x hm
    have := List.any_eq_false.1 hbad x hm
    unfold badI at this
    simp at this
    omega
  have hr' := Lib.hid hr
  have htt := Lib.hid ht
  clear C1 h hr hbad ht
  go_enter Tryd.func32, Tryd.ntmps32
  go_wp2_with fail
  refine (C1'.out _ ?_).mono ?_
  · repeat (first | with_reducible assumption | with_reducible exact Sl.new' (by simp; done) (by simp; done) (by simp; done) | with_reducible refine Sl.drew ?_ | with_reducible refine Sl.drewN ?_ _ | with_reducible refine Sl.alloc ?_ _ | with_reducible refine Sl.grow ?_ hb12 | with_reducible refine Sl.grow ?_ hb11 | with_reducible refine Sl.grow ?_ hb10 | with_reducible refine Sl.grow ?_ hb9 | with_reducible refine Sl.grow ?_ hb8 | with_reducible refine Sl.grow ?_ hb7 | with_reducible refine Sl.grow ?_ hb6 | with_reducible refine Sl.grow ?_ hb5 | with_reducible refine Sl.grow ?_ hb4 | with_reducible refine Sl.grow ?_ hb3 | with_reducible refine Sl.grow ?_ hb2 | with_reducible refine Sl.grow ?_ hb1 | with_reducible refine Sl.grow ?_ hb | assumption)
  rintro e' w1 ⟨rfl, hb⟩
  have k0 := G.cell (a := ⟨w.heap.size, 0, none⟩) (v := .int .i64 e) (by go_simp) hb
  have k1 := G.cell (a := ⟨w.heap.size, 1, none⟩) (v := .slice A n c) (by go_simp) hb
  have hlt : w.heap.size < w1.heap.size := by have := hb.size; simp at this; omega
  have hx1 : Sl w1 A n (i64s xs) := by repeat (first | with_reducible assumption | with_reducible exact Sl.new' (by simp; done) (by simp; done) (by simp; done) | with_reducible refine Sl.drew ?_ | with_reducible refine Sl.drewN ?_ _ | with_reducible refine Sl.alloc ?_ _ | with_reducible refine Sl.grow ?_ hb12 | with_reducible refine Sl.grow ?_ hb11 | with_reducible refine Sl.grow ?_ hb10 | with_reducible refine Sl.grow ?_ hb9 | with_reducible refine Sl.grow ?_ hb8 | with_reducible refine Sl.grow ?_ hb7 | with_reducible refine Sl.grow ?_ hb6 | with_reducible refine Sl.grow ?_ hb5 | with_reducible refine Sl.grow ?_ hb4 | with_reducible refine Sl.grow ?_ hb3 | with_reducible refine Sl.grow ?_ hb2 | with_reducible refine Sl.grow ?_ hb1 | with_reducible refine Sl.grow ?_ hb | assumption)
  have hb0 : Below w.heap.size w w1 := G.trans (by repeat (first | with_reducible assumption | with_reducible exact G.refl _ | with_reducible refine G.drew ?_ | with_reducible refine G.drewN ?_ _ | with_reducible refine G.alloc ?_ _ | with_reducible refine Below.setCell ?_ (by first | (simp; done) | (simp; omega)) _ | with_reducible refine G.trans ?_ hb12 | with_reducible refine G.trans ?_ hb11 | with_reducible refine G.trans ?_ hb10 | with_reducible refine G.trans ?_ hb9 | with_reducible refine G.trans ?_ hb8 | with_reducible refine G.trans ?_ hb7 | with_reducible refine G.trans ?_ hb6 | with_reducible refine G.trans ?_ hb5 | with_reducible refine G.trans ?_ hb4 | with_reducible refine G.trans ?_ hb3 | with_reducible refine G.trans ?_ hb2 | with_reducible refine G.trans ?_ hb1 | with_reducible refine G.trans ?_ hb | assumption)) hb
  have ht1 := Lib.hid (htt.out.grow hb0)
  clear hb hx htt
  go_wp2_with fail
  go_loopw [5, 16] (fun v i wr => ∃ (k : Nat) (A' : Option Addr) (c' : Nat), k ≤ n ∧ i = .int .i64 k ∧ v = .slice A' k c' ∧ wr.ownsRow w1.heap.size 9 1 (.slice A' k c') k (strs (xs.take k)) ∧ Below w1.heap.size w1 wr) (fun _ i _ => n - (intOf i).toNat)
  case atStart => exact ⟨0, none, 0, Nat.zero_le _, rfl, rfl, World.ownsRow_nil _ _ _ _, G.refl _⟩
  case round =>
    obtain ⟨k, A', c', hk, rfl, rfl, hown, hbr⟩ := hrel
    by_cases hltk : k < n
    · have hxr := hx1.grow hbr
      obtain ⟨bx, ox, x, rfl, hbx, hxk, hcx⟩ := hxr.at_ hltk
      have hss : Hid (strs (xs.take k) ++ [.string (itoaB x)] = strs (xs.take (k + 1))) := strs_succ hxk
      have hxb := Lib.hid (hr'.out x (List.mem_of_getElem? hxk))
      clear hxk
      go_wp2_with (first
        | (go_at_call 47; refine (itoa_any x _ (by have := hxb.out; omega) (by have := hxb.out; omega) (ht1.out.grow hbr)).mono ?_; rintro e' w2 ⟨rfl, hb2⟩; have hown2 := own_grow hown hb2; have hbr2 : Below w1.heap.size w1 w2 := G.trans hbr hb2)
        | (at_builtin; refine wpList_app _ rfl (.tmp 20) (.tmp 23) _ rfl w1.heap.size 9 i0 _ 1 16 Tryd.underlying62 hi0 hz0 hz1 hz2 rfl Nat.zero_lt_one (.slice A' k c') k (strs (xs.take k)) rfl (hown2.alloc _) (some ⟨w2.heap.size, 0, none⟩) 1 1 [.string (itoaB x)] rfl (by repeat (first | with_reducible assumption | with_reducible exact Sl.new' (by simp; done) (by simp; done) (by simp; done) | with_reducible refine Sl.drew ?_ | with_reducible refine Sl.drewN ?_ _ | with_reducible refine Sl.alloc ?_ _ | with_reducible refine Sl.grow ?_ hb12 | with_reducible refine Sl.grow ?_ hb11 | with_reducible refine Sl.grow ?_ hb10 | with_reducible refine Sl.grow ?_ hb9 | with_reducible refine Sl.grow ?_ hb8 | with_reducible refine Sl.grow ?_ hb7 | with_reducible refine Sl.grow ?_ hb6 | with_reducible refine Sl.grow ?_ hb5 | with_reducible refine Sl.grow ?_ hb4 | with_reducible refine Sl.grow ?_ hb3 | with_reducible refine Sl.grow ?_ hb2 | with_reducible refine Sl.grow ?_ hb1 | with_reducible refine Sl.grow ?_ hb | assumption)) (by simp [Value.oneCell']) (by show _ ≤ 2 ^ 63 - 1; omega) (by omega) (by have := hbr2.size; simp; omega) ?_; intro A3 c3 w3 hown3 hc3 hm3 hg3; have hbr3 : Below w1.heap.size w1 w3 := G.grown (hbr2.alloc hbr2.size _) (hown2.alloc _) (Nat.le_refl _) hg3)
        | fail)
      go_roundw
      case rel => exact ⟨k + 1, A3, c3, by omega, by go_num, rfl, by rw [← hss.out]; exact hown3, hbr3⟩
      case measure => simp [intOf]; omega
    · have hkn : k = n := by omega
      subst hkn
      obtain ⟨g, cap, hv, hg, hglt⟩ := hown.form (by omega)
      injection hv with hA _ hcc
      subst hA hcc
      have hcells := (Sl.of_own1 hown)
      have hcap := own_cap hown
      rw [List.take_of_length_le (by have := hl.out; omega)] at hcells
      have m0 := (hbr.cell (p := ⟨w.heap.size, 0, none⟩) hlt).trans k0
      have m1 := (hbr.cell (p := ⟨w.heap.size, 1, none⟩) hlt).trans k1
      have hss : Hid (((xs.map itoaB).map (·.data.toList)) = xs.map Lib.itoa) := by unfold Hid; rw [List.map_map]; rfl
      have hjl : (Lib.join ((xs.map itoaB).map (·.data.toList)) (ByteArray.mk #[46]).data.toList).length ≤ 140737488355328 := by
        rw [hss.out]
        have := join_len (ByteArray.mk #[46]).data.toList (xs.map Lib.itoa) 7 (fun y hy => by
          simp only [List.mem_map] at hy
          obtain ⟨z, hz, rfl⟩ := hy
          have := hr'.out z hz
          exact itoa_len this.1 (by omega))
        rw [List.length_map, hl.out] at this
        refine Nat.le_trans this ?_
        simp
        omega
      have hjl' := Lib.hid hjl
      have hjs : (joinB xs).size ≤ 140737488355328 := by rw [hss.out] at hjl; simpa [joinB, ByteArray.size] using hjl
      have hes := itoaB_size (n := e) (by omega) (by omega)
      have hcat1 := fun (wx : World) => run_string_add_sum (P := Tryd.prog) wx (itoaB e) ⟨#[47]⟩ (by have h1 : (ByteArray.mk #[47]).size = 1 := rfl; omega)
      have hcat2 := fun (wx : World) => run_string_add_sum (P := Tryd.prog) wx (itoaB e ++ ⟨#[47]⟩) (joinB xs) (by have h1 : (ByteArray.mk #[47]).size = 1 := rfl; rw [ByteArray.size_append]; omega)
      clear hjs hes
      have hxl : Hid ((xs.map itoaB).length = k) := by unfold Hid; rw [List.length_map]; exact hl.out
      clear hjl
      go_wp2_with fail
      refine (itoa_any e _ (by omega) (by omega) (ht1.out.grow hbr)).mono ?_
      rintro e' w2 ⟨rfl, hb2⟩
      have hcells2 := hcells.grow hb2
      go_wp2_with fail
      have J := Tryd.strings_Join g 0 c' (xs.map itoaB) ⟨#[46]⟩ w2 (by
        intro j x hj
        rw [List.getElem?_map] at hj
        obtain ⟨z, hz, rfl⟩ := Option.map_eq_some_iff.1 hj
        obtain ⟨b', o', hA, _, hc'⟩ := hcells2.2 (by omega)
        simp only [Option.some.injEq, Addr.mk.injEq, and_true] at hA
        obtain ⟨rfl, rfl⟩ := hA
        exact hc' j _ (strs_at hz)) (Nat.lt_of_lt_of_le hglt hb2.size) (by rw [hxl.out]; omega) (by rw [hxl.out]; exact hcap.1) hjl'.out
      rw [hxl.out, hss.out] at J
      have J' : Calls Tryd.prog 48 #[.slice (some ⟨g, 0, none⟩) k c', .string ⟨#[46]⟩] w2 fun e w' => e = .returned (.string (joinB xs)) ∧ Below w2.heap.size w2 w' := J
      clear J
      refine J'.mono ?_
      rintro e' w3 ⟨rfl, hb3⟩
      clear J'
      go_wp2
      go_ret2
      refine ⟨rfl, (hb0.trans (hbr.mono (by omega))).trans ((hb2.mono (by have := hbr.size; omega)).trans (hb3.mono (by have := hbr.size; have := hb2.size; omega)))⟩
end Go.Proofs.YtjldpodehffbnaaDoor
