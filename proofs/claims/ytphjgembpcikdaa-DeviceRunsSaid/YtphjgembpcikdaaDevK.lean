/- device laws: known. -/
import Derived.Test.YtphjgembpcikdaaDevF
namespace Go.Proofs.Ytphjgembpcikdaa
set_option linter.unusedVariables false
set_option linter.unnecessarySimpa false
set_option linter.unusedSimpArgs false
open Go.RowKit

/-- A device that was made since w0. -/
structure FD (w0 w : World) (d : Nat) (s : Ds) : Prop where
  dev : ∃ S, DevW w d S s ∧ ∀ x, S x → w0.heap.size ≤ x
  below : Below w0.heap.size w0 w
section
variable {w0 w w' : World} {d : Nat} {s s' : Ds}
theorem FD.grow (h : FD w0 w d s) (hb : Below w.heap.size w w') : FD w0 w' d s := by
  obtain ⟨S, h1, h2⟩ := h.dev
  exact ⟨⟨S, h1.grow hb, h2⟩, G.trans h.below hb⟩
theorem below_chg {S : Nat → Prop} (h : Below w0.heap.size w0 w) (hS : ∀ x, S x → w0.heap.size ≤ x) (hc : DChg S w w') : Below w0.heap.size w0 w' :=
  ⟨hc.1.os.trans h.os, hc.1.tape.trans h.tape, hc.1.output.trans h.output, Nat.le_trans h.size hc.size, fun k hk => (hc.2.2 k (fun hk' => absurd (hS k hk') (by omega)) (Nat.lt_of_lt_of_le hk h.size)).trans (h.block k hk)⟩
theorem FD.of_ret {S : Nat → Prop} (hb : Below w0.heap.size w0 w) (hS : ∀ x, S x → w0.heap.size ≤ x) (h : RetD d S s' w w') : FD w0 w' d s' := by
  obtain ⟨S', h1, h2, h3⟩ := h
  have := hb.size
  exact ⟨⟨S', h1, fun x hx => by rcases h2 x hx with h4 | h4; exact hS x h4; omega⟩, below_chg hb hS h3⟩
theorem FD.new {w1 : World} {n : Int} {e : Ending} (hb : Below w0.heap.size w0 w) (h : RetNew n w e w1) : ∃ d, e = .returned (.tuple #[.pointer (some ⟨d, 0, none⟩), .int .i64 0]) ∧ FD w0 w1 d (newD n) := by
  obtain ⟨d, S, h1, h2, h3, h4⟩ := h
  have := hb.size
  exact ⟨d, h1, ⟨S, h2, fun x hx => Nat.le_trans this (h3 x hx)⟩, G.trans hb h4⟩
theorem FD.runE {n : Nat} {a : Array Value} {r : Int × Ds} (h : FD w0 w d s) (hc : ∀ S, DevW w d S s → Calls Try.prog n a w (RetE d S r w)) : Calls Try.prog n a w fun e w' => e = .returned (.int .i64 r.1) ∧ FD w0 w' d r.2 := by
  obtain ⟨S, h1, h2⟩ := h.dev
  exact (hc S h1).mono fun e w' hh => ⟨hh.1, FD.of_ret h.below h2 hh.2⟩
theorem FD.runV {n : Nat} {a : Array Value} (h : FD w0 w d s) (hc : ∀ S, DevW w d S s → Calls Try.prog n a w fun e w' => e = .returned (.tuple #[]) ∧ RetD d S s' w w') : Calls Try.prog n a w fun e w' => e = .returned (.tuple #[]) ∧ FD w0 w' d s' := by
  obtain ⟨S, h1, h2⟩ := h.dev
  exact (hc S h1).mono fun e w' hh => ⟨hh.1, FD.of_ret h.below h2 hh.2⟩
theorem FD.below2 (h : FD w0 w d s) : Below w0.heap.size w0 w := h.below
end
def k1 : Ds := ⟨100, false, false, -1, [⟨[102], [], 0⟩]⟩
def k2 : Ds := ⟨100, false, false, -2, [⟨[102], [97, 98, 99], 0⟩]⟩
def k3 : Ds := ⟨100, false, false, -3, [⟨[102], [97, 98, 99], 3⟩]⟩
def k4 : Ds := ⟨100, false, false, -4, [⟨[102], [97, 98, 99, 100, 101, 102, 103], 3⟩]⟩
def k5 : Ds := ⟨100, true, false, -4, [⟨[102], [97, 98, 99, 100, 101, 102, 103], 3⟩]⟩
def k6 : Ds := ⟨100, false, false, 0, [⟨[102], [97, 98, 99, 100, 101], 5⟩]⟩
theorem kc1 : createD (newD 100) [102] = (0, k1) := by kernel_rfl
theorem kc2 : appendD k1 [102] [97, 98, 99] = (0, k2) := by kernel_rfl
theorem kc3 : syncD k2 [102] = (0, k3) := by kernel_rfl
theorem kc4 : appendD k3 [102] [100, 101, 102, 103] = (0, k4) := by kernel_rfl
theorem kc6 : startD k5 [128] = k6 := by kernel_rfl
theorem kr : readD k6 [102] 0 5 = ([97, 98, 99, 100, 101], 0) := by kernel_rfl
theorem ks : sizeD k6 [102] = (5, 0) := by kernel_rfl
theorem ko1 : k1.Ok := ⟨by decide, by decide, by decide, by decide, by decide, by decide⟩
theorem ko3 : k3.Ok := ⟨by decide, by decide, by decide, by decide, by decide, by decide⟩
theorem ko5 : k5.Ok := ⟨by decide, by decide, by decide, by decide, by decide, by decide⟩
theorem ko6 : k6.Ok := ⟨by decide, by decide, by decide, by decide, by decide, by decide⟩
/-- A literal name's bytes. -/
abbrev bs (l : List UInt8) : ByteArray := ⟨l.toArray⟩
set_option maxRecDepth 20000 in set_option maxHeartbeats 2000000 in
theorem known_any (w : World) : Calls Try.prog 14 #[] w fun e w' => e = .returned (.bool true) ∧ Below w.heap.size w w' := by
  go_enter Try.func14, Try.ntmps14
  go_wp2_with fail
  refine (new_any 100 (by decide) (by decide)).mono ?_
  intro e w1 hr
  obtain ⟨d, rfl, F0⟩ := FD.new (w0 := w) (by repeat (first | with_reducible assumption | with_reducible exact G.refl _ | with_reducible refine G.drew ?_ | with_reducible refine G.drewN ?_ _ | with_reducible refine G.alloc ?_ _ | with_reducible refine Below.setCell ?_ (by first | (simp; done) | (simp; omega)) _ | with_reducible refine G.trans ?_ hb12 | with_reducible refine G.trans ?_ hb11 | with_reducible refine G.trans ?_ hb10 | with_reducible refine G.trans ?_ hb9 | with_reducible refine G.trans ?_ hb8 | with_reducible refine G.trans ?_ hb7 | with_reducible refine G.trans ?_ hb6 | with_reducible refine G.trans ?_ hb5 | with_reducible refine G.trans ?_ hb4 | with_reducible refine G.trans ?_ hb3 | with_reducible refine G.trans ?_ hb2 | with_reducible refine G.trans ?_ hb1 | with_reducible refine G.trans ?_ hb | assumption)) hr
  replace F0 := Lib.hid F0
  clear hr
  go_wp2_with fail
  refine (FD.runE (r := (0, k1)) F0.out fun S h => kc1 ▸ create_any h (bs [102]) (by decide)).mono ?_
  rintro e w2 ⟨rfl, F1⟩
  replace F1 := Lib.hid F1
  clear F0
  go_wp2_with fail
  refine (FD.runE (r := (0, k2)) F1.out fun S h => kc2 ▸ append_any h ko1 (bs [102]) (bs [97, 98, 99]) (by decide) (by decide)).mono ?_
  rintro e w3 ⟨rfl, F2⟩
  replace F2 := Lib.hid F2
  clear F1
  go_wp2_with fail
  refine (FD.runE (r := (0, k3)) F2.out fun S h => kc3 ▸ sync_any h (bs [102]) (by decide)).mono ?_
  rintro e w4 ⟨rfl, F3⟩
  replace F3 := Lib.hid F3
  clear F2
  go_wp2_with fail
  refine (FD.runE (r := (0, k4)) F3.out fun S h => kc4 ▸ append_any h ko3 (bs [102]) (bs [100, 101, 102, 103]) (by decide) (by decide)).mono ?_
  rintro e w5 ⟨rfl, F4⟩
  replace F4 := Lib.hid F4
  clear F3
  go_wp2_with fail
  refine (FD.runV (s' := k5) F4.out fun S h => crash_any h).mono ?_
  rintro e w6 ⟨rfl, F5⟩
  replace F5 := Lib.hid F5
  clear F4
  go_wp2_with fail
  obtain ⟨S5, D5, h5⟩ := F5.out.dev
  refine (down_any D5).mono ?_
  rintro e w7 ⟨he, hw⟩
  subst hw
  replace he : e = .returned (.bool true) := he
  subst he
  replace D5 := Lib.hid D5
  replace h5 := Lib.hid h5
  go_wp2_with fail
  refine (start_any (D5.out.grow (by repeat (first | with_reducible assumption | with_reducible exact G.refl _ | with_reducible refine G.drew ?_ | with_reducible refine G.drewN ?_ _ | with_reducible refine G.alloc ?_ _ | with_reducible refine Below.setCell ?_ (by first | (simp; done) | (simp; omega)) _ | with_reducible refine G.trans ?_ hb12 | with_reducible refine G.trans ?_ hb11 | with_reducible refine G.trans ?_ hb10 | with_reducible refine G.trans ?_ hb9 | with_reducible refine G.trans ?_ hb8 | with_reducible refine G.trans ?_ hb7 | with_reducible refine G.trans ?_ hb6 | with_reducible refine G.trans ?_ hb5 | with_reducible refine G.trans ?_ hb4 | with_reducible refine G.trans ?_ hb3 | with_reducible refine G.trans ?_ hb2 | with_reducible refine G.trans ?_ hb1 | with_reducible refine G.trans ?_ hb | assumption))) ko5 (ch := [128]) (Sl.new' rfl rfl rfl) (Nat.le_refl _) (by decide) (fun ad e hs => by cases e; exact absurd (D5.out.lt hs) (Nat.lt_irrefl _))).mono ?_
  rintro e w8 ⟨rfl, hr⟩
  rw [kc6] at hr
  have F6 := Lib.hid (FD.of_ret (F5.out.grow (w' := w7.alloc (.cells #[.int .u8 128] 5)) (by repeat (first | with_reducible assumption | with_reducible exact G.refl _ | with_reducible refine G.drew ?_ | with_reducible refine G.drewN ?_ _ | with_reducible refine G.alloc ?_ _ | with_reducible refine Below.setCell ?_ (by first | (simp; done) | (simp; omega)) _ | with_reducible refine G.trans ?_ hb12 | with_reducible refine G.trans ?_ hb11 | with_reducible refine G.trans ?_ hb10 | with_reducible refine G.trans ?_ hb9 | with_reducible refine G.trans ?_ hb8 | with_reducible refine G.trans ?_ hb7 | with_reducible refine G.trans ?_ hb6 | with_reducible refine G.trans ?_ hb5 | with_reducible refine G.trans ?_ hb4 | with_reducible refine G.trans ?_ hb3 | with_reducible refine G.trans ?_ hb2 | with_reducible refine G.trans ?_ hb1 | with_reducible refine G.trans ?_ hb | assumption))).below h5.out hr)
  clear hr D5 h5 F5
  go_wp2_with fail
  obtain ⟨S6, D6, h6⟩ := F6.out.dev
  have hrd := read_any D6 ko6 (bs [102]) (by decide) 0 5 (by decide)
  rw [show readD k6 (bs [102]).data.toList 0 5 = ([97, 98, 99, 100, 101], 0) from kr] at hrd
  refine hrd.mono ?_
  clear hrd
  rintro e w9 ⟨he, hb9⟩
  replace he : e = .returned (.tuple #[.string ⟨#[97, 98, 99, 100, 101]⟩, .int .i64 0]) := he
  subst he
  have D7 := D6.grow hb9
  have F7 := Lib.hid (F6.out.grow hb9)
  replace D7 := Lib.hid D7
  clear D6 h6 F6 hb9
  go_wp2_with fail
  have hsz := size_any D7.out (bs [102]) (by decide)
  rw [show sizeD k6 (bs [102]).data.toList = (5, 0) from ks] at hsz
  refine hsz.mono ?_
  clear hsz
  rintro e wA ⟨he, hw⟩
  subst hw
  replace he : e = .returned (.tuple #[.int .i64 5, .int .i64 0]) := he
  subst he
  go_wp2_with fail
  refine (down_any D7.out).mono ?_
  rintro e wB ⟨he, hw⟩
  subst hw
  replace he : e = .returned (.bool false) := he
  subst he
  go_wp2_with fail
  go_ret
  exact ⟨rfl, F7.out.below⟩
end Go.Proofs.Ytphjgembpcikdaa
