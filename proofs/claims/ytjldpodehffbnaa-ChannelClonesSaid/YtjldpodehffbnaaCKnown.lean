/- The example of the chapter: known returns true. -/
import Derived.Test.YtjldpodehffbnaaChan6
namespace Go.Proofs.Ytjldpodehffbnaa
set_option linter.unusedVariables false
set_option linter.unnecessarySimpa false
set_option linter.unusedSimpArgs false
open Go.RowKit

/-- The law's item: a stamp, the mass 1. -/
abbrev itemC (e : Int) (A : Option Addr) (n c : Nat) : List Value := [.int .i64 e, .slice A n c, .int .i64 1, .slice none 0 0, .int .i64 0, .int .i64 0, .int .i64 0, .string ⟨#[]⟩, .slice none 0 0, .slice none 0 0, .slice none 0 0]
theorem itemC_v {ok : Nat → Prop} {w : World} {e : Int} {A : Option Addr} {n c : Nat} {p : List Int} (h : PathIs ok w A n c p) : ItemV ok w (itemC e A n c) ⟨e, p, 0, 1⟩ :=
  ⟨e, A, n, c, p, none, 0, 0, [], 0, 0, 0, ⟨#[]⟩, none, 0, 0, none, 0, 0, none, 0, [], 1, rfl, h, PathIs.nil _ _, Tree.zero _ _, by simp, Rw.nil _ _ _, fun j hj => absurd hj (Nat.not_lt_zero j), fun _ => ⟨rfl, rfl⟩⟩
set_option maxRecDepth 20000 in set_option maxHeartbeats 400000 in
theorem item_any (e : Int) (A : Option Addr) (n c : Nat) (w : World) : Calls Try.prog 37 #[.int .i64 e, .slice A n c] w fun e' w' => e' = .returned (.agg (itemC e A n c).toArray) ∧ Below w.heap.size w w' := by
  go_enter Try.func37, Try.ntmps37
  go_wp2_with fail
  exact bodyPost_ret (v := .agg (itemC e A n c).toArray) (by simp only [results, Try.results37]; go_simp) rfl ⟨rfl, by repeat (first | with_reducible assumption | with_reducible exact G.refl _ | with_reducible refine G.drew ?_ | with_reducible refine G.drewN ?_ _ | with_reducible refine G.alloc ?_ _ | with_reducible refine Below.setCell ?_ (by first | (simp; done) | (simp; omega)) _ | with_reducible refine G.trans ?_ hb12 | with_reducible refine G.trans ?_ hb11 | with_reducible refine G.trans ?_ hb10 | with_reducible refine G.trans ?_ hb9 | with_reducible refine G.trans ?_ hb8 | with_reducible refine G.trans ?_ hb7 | with_reducible refine G.trans ?_ hb6 | with_reducible refine G.trans ?_ hb5 | with_reducible refine G.trans ?_ hb4 | with_reducible refine G.trans ?_ hb3 | with_reducible refine G.trans ?_ hb2 | with_reducible refine G.trans ?_ hb1 | with_reducible refine G.trans ?_ hb | assumption)⟩
def kA : Ch := ⟨2, [⟨3, [1, 0], 0, 1⟩], 3, [1, 0], 3, [1, 0], true⟩
def kB1 : Ch := ⟨2, [], 2, [1], 0, [], false⟩
def kB2 : Ch := ⟨2, [], 4, [0, 0], 0, [], false⟩
theorem k_put (A : Option Addr) : putC (chkI (zeroC (itemC 3 A 2 2)) ⟨3, [1, 0], 0, 1⟩) (ch0 2) ⟨3, [1, 0], 0, 1⟩ = (0, kA) := by rfl
theorem k_adv1 : advC (ch0 2) 2 [1] = (0, kB1) := by rfl
theorem k_adv2 : advC kB1 4 [0, 0] = (0, kB2) := by rfl
theorem k_next1 (b r b' r' : Nat) : nextC [some (b, r, kA), some (b', r', kB1)] = (0, false) := by rfl
theorem k_next2 (b r b' r' : Nat) : nextC [some (b, r, kA), some (b', r', kB2)] = (0, true) := by rfl
theorem k_min (b r b' r' : Nat) : minL (b, r, kA) [some (b', r', kB2)] = (b, r, kA) := by rfl
theorem k_put2 (A : Option Addr) : putC (chkI (zeroC (itemC 3 A 1 1)) ⟨3, [1], 0, 1⟩) kA ⟨3, [1], 0, 1⟩ = (24, kA) := by rfl
/-- Other blocks than these. -/
abbrev Bar (l : List Nat) : Nat → Prop := fun x => x ∉ l
theorem PathIs.lit {ok : Nat → Prop} {w : World} {B : Nat} {l : List Int} {n : Nat} (hB : B = w.heap.size) (hn : n = l.length) (h8 : n * 8 ≤ 140737488355328) {t : TypeId} (ho : ok B) : PathIs ok (w.alloc (.cells (i64s l).toArray t)) (some ⟨B, 0, none⟩) n n l := by
  refine ⟨⟨Nat.le_refl _, by unfold maxLen; omega, ?_, fun _ ad e => by cases e; exact ho⟩, h8⟩
  rw [Nat.mul_one]
  exact Sl.new hB (by simpa using hn)
set_option maxRecDepth 20000 in set_option maxHeartbeats 2000000 in
theorem known_any (w : World) : Calls Try.prog 11 #[] w fun e w' => e = .returned (.bool true) ∧ Below w.heap.size w w' := by
  go_enter Try.func11, Try.ntmps11
  go_wp2_with fail
  refine (new_any 2 _ (by omega) (by omega)).mono ?_
  rintro e1 w1 ⟨b1, r1, rfl, hb1, hr1, C1, hw1⟩
  go_wp2_with fail
  refine (new_any 2 _ (by omega) (by omega)).mono ?_
  rintro e2 w2 ⟨b2, r2, rfl, hb2, hr2, C2, hw2⟩
  have hw12 : Below w.heap.size w w2 := G.trans hw1 hw2
  have A0 : ChanAt (Bar [b1, r1, b2, r2]) w2 b1 r1 (ch0 2) := (C1 _ (by simp) (by simp)).grow hw2
  have B0 : ChanAt (Bar [b1, r1, b2, r2]) w2 b2 r2 (ch0 2) := C2 _ (by simp) (by simp)
  have lA := (C1 (fun x => x ∉ [b1, r1]) (by simp) (by simp)).lt
  have lA0 := A0.lt
  have lB := B0.lt
  have hd : b1 ≠ r1 ∧ b2 ≠ r2 := by
    obtain ⟨_, _, _, _, _, _, _, _, h1⟩ := A0
    obtain ⟨_, _, _, _, _, _, _, _, h2⟩ := B0
    exact ⟨h1.2.2.2.2.2.2.2.2.1, h2.2.2.2.2.2.2.2.2.1⟩
  have hok : ∀ x, w2.heap.size ≤ x → Bar [b1, r1, b2, r2] x := fun x hx h => by
    simp at h; omega
  have hK := Lib.hid (And.intro hok (And.intro hd (And.intro lA (And.intro lA0 (And.intro lB (And.intro hb2 hr2))))))
  have hB := Lib.hid (And.intro hb1 (And.intro hr1 (And.intro hb2 hr2)))
  clear C1 C2 hok hd lA lB hb1 hr1 hb2 hr2
  replace A0 := Lib.hid A0
  replace B0 := Lib.hid B0
  go_wp2_with fail
  refine (item_any _ _ _ _ _).mono ?_
  rintro e3 w3 ⟨rfl, hw3⟩
  have hw23 : Below w2.heap.size w2 w3 := G.trans (by repeat (first | with_reducible assumption | with_reducible exact G.refl _ | with_reducible refine G.drew ?_ | with_reducible refine G.drewN ?_ _ | with_reducible refine G.alloc ?_ _ | with_reducible refine Below.setCell ?_ (by first | (simp; done) | (simp; omega)) _ | with_reducible refine G.trans ?_ hb12 | with_reducible refine G.trans ?_ hb11 | with_reducible refine G.trans ?_ hb10 | with_reducible refine G.trans ?_ hb9 | with_reducible refine G.trans ?_ hb8 | with_reducible refine G.trans ?_ hb7 | with_reducible refine G.trans ?_ hb6 | with_reducible refine G.trans ?_ hb5 | with_reducible refine G.trans ?_ hb4 | with_reducible refine G.trans ?_ hb3 | with_reducible refine G.trans ?_ hb2 | with_reducible refine G.trans ?_ hb1 | with_reducible refine G.trans ?_ hb | assumption)) hw3
  have p3 : PathIs (Bar [b1, r1, b2, r2]) w3 (some ⟨w2.heap.size, 0, none⟩) 2 2 [1, 0] := (PathIs.lit (l := [1, 0]) rfl rfl (by decide) (hK.out.1 _ (Nat.le_refl _))).grow hw3
  replace p3 := Lib.hid p3
  have hok3 := Lib.hid fun x (hx : w3.heap.size ≤ x) => hK.out.1 x (Nat.le_trans hw23.size hx)
  go_wp2_with fail
  refine (put_any (A0.out.grow hw23) (itemC_v p3.out) hok3.out).mono ?_
  rintro e4 w4 ⟨he, A4, hc4⟩
  rw [k_put] at he A4
  subst he
  have B4 := (B0.out.grow hw23).other hc4 (by simp) (by simp) (by have := hK.out; omega) (by have := hK.out; omega)
  replace A4 := Lib.hid A4
  replace B4 := Lib.hid B4
  replace hc4 := Lib.hid hc4
  go_wp2_with fail
  have hs4 : w2.heap.size ≤ w4.heap.size := Nat.le_trans hw23.size hc4.out.size
  have p4 : PathIs (Bar [b1, r1, b2, r2]) (w4.alloc (.cells #[.int .i64 1] 3)) (some ⟨w4.heap.size, 0, none⟩) 1 1 [1] := PathIs.lit (l := [1]) rfl rfl (by decide) (hK.out.1 _ hs4)
  refine (advance_any (B4.out.grow (G.alloc (G.refl _) _)) p4 fun x hx => hK.out.1 x (by simp at hx; omega)).mono ?_
  rintro e5 w5 ⟨he, B5, hc5⟩
  rw [k_adv1] at he B5
  subst he
  have A5 := (A4.out.grow (G.alloc (G.refl _) _)).other hc5 (by simp) (by simp) (by have := hK.out; omega) (by have := hK.out; omega)
  replace A5 := Lib.hid A5
  replace B5 := Lib.hid B5
  have hs5 : w2.heap.size ≤ w5.heap.size := by have := hc5.size; simp at this; omega
  replace hc5 := Lib.hid hc5
  clear p4
  go_wp2_with fail
  have sl5 : Sl (w5.alloc (.cells #[.pointer (some ⟨b1, 0, none⟩), .pointer (some ⟨b2, 0, none⟩)] 45)) (some ⟨w5.heap.size, 0, none⟩) 2 (chs [some (b1, r1, kA), some (b2, r2, kB1)]) := Sl.new' rfl rfl rfl
  have N5 : ChansAt (Bar [b1, r1, b2, r2]) w5 [some (b1, r1, kA), some (b2, r2, kB1)] := (fun b r c hm => by
    simp only [List.mem_cons, List.not_mem_nil, or_false, Option.some.injEq, Prod.mk.injEq] at hm
    rcases hm with ⟨rfl, rfl, rfl⟩ | ⟨rfl, rfl, rfl⟩
    · exact A5.out
    · exact B5.out)
  refine (next_any sl5 (by decide) (N5.grow (G.alloc (G.refl _) _))).mono ?_
  rintro e6 w6 ⟨he, hb6⟩
  rw [k_next1] at he
  subst he
  have hb56 : Below w5.heap.size w5 w6 := G.trans (by repeat (first | with_reducible assumption | with_reducible exact G.refl _ | with_reducible refine G.drew ?_ | with_reducible refine G.drewN ?_ _ | with_reducible refine G.alloc ?_ _ | with_reducible refine Below.setCell ?_ (by first | (simp; done) | (simp; omega)) _ | with_reducible refine G.trans ?_ hb12 | with_reducible refine G.trans ?_ hb11 | with_reducible refine G.trans ?_ hb10 | with_reducible refine G.trans ?_ hb9 | with_reducible refine G.trans ?_ hb8 | with_reducible refine G.trans ?_ hb7 | with_reducible refine G.trans ?_ hb6 | with_reducible refine G.trans ?_ hb5 | with_reducible refine G.trans ?_ hb4 | with_reducible refine G.trans ?_ hb3 | with_reducible refine G.trans ?_ hb2 | with_reducible refine G.trans ?_ hb1 | with_reducible refine G.trans ?_ hb | assumption)) hb6
  have A6 := Lib.hid (A5.out.grow hb56)
  have B6 := Lib.hid (B5.out.grow hb56)
  have hs6 : w2.heap.size ≤ w6.heap.size := Nat.le_trans hs5 hb56.size
  clear sl5 N5 hb6
  go_wp2_with fail
  have p6 : PathIs (Bar [b1, r1, b2, r2]) (w6.alloc (.cells #[.int .i64 0, .int .i64 0] 3)) (some ⟨w6.heap.size, 0, none⟩) 2 2 [0, 0] := PathIs.lit (l := [0, 0]) rfl rfl (by decide) (hK.out.1 _ hs6)
  refine (advance_any (B6.out.grow (G.alloc (G.refl _) _)) p6 fun x hx => hK.out.1 x (by simp at hx; omega)).mono ?_
  rintro e7 w7 ⟨he, B7, hc7⟩
  rw [k_adv2] at he B7
  subst he
  have A7 := (A6.out.grow (G.alloc (G.refl _) _)).other hc7 (by simp) (by simp) (by have := hK.out; omega) (by have := hK.out; omega)
  replace A7 := Lib.hid A7
  replace B7 := Lib.hid B7
  have hs7 : w2.heap.size ≤ w7.heap.size := by have := hc7.size; simp at this; omega
  replace hc7 := Lib.hid hc7
  clear p6
  go_wp2_with fail
  have sl7 : Sl (w7.alloc (.cells #[.pointer (some ⟨b1, 0, none⟩), .pointer (some ⟨b2, 0, none⟩)] 45)) (some ⟨w7.heap.size, 0, none⟩) 2 (chs [some (b1, r1, kA), some (b2, r2, kB2)]) := Sl.new' rfl rfl rfl
  have N7 : ChansAt (Bar [b1, r1, b2, r2]) w7 [some (b1, r1, kA), some (b2, r2, kB2)] := (fun b r c hm => by
    simp only [List.mem_cons, List.not_mem_nil, or_false, Option.some.injEq, Prod.mk.injEq] at hm
    rcases hm with ⟨rfl, rfl, rfl⟩ | ⟨rfl, rfl, rfl⟩
    · exact A7.out
    · exact B7.out)
  refine (next_any sl7 (by decide) (N7.grow (G.alloc (G.refl _) _))).mono ?_
  rintro e8 w8 ⟨he, hb8⟩
  rw [k_next2] at he
  subst he
  have hb78 : Below w7.heap.size w7 w8 := G.trans (by repeat (first | with_reducible assumption | with_reducible exact G.refl _ | with_reducible refine G.drew ?_ | with_reducible refine G.drewN ?_ _ | with_reducible refine G.alloc ?_ _ | with_reducible refine Below.setCell ?_ (by first | (simp; done) | (simp; omega)) _ | with_reducible refine G.trans ?_ hb12 | with_reducible refine G.trans ?_ hb11 | with_reducible refine G.trans ?_ hb10 | with_reducible refine G.trans ?_ hb9 | with_reducible refine G.trans ?_ hb8 | with_reducible refine G.trans ?_ hb7 | with_reducible refine G.trans ?_ hb6 | with_reducible refine G.trans ?_ hb5 | with_reducible refine G.trans ?_ hb4 | with_reducible refine G.trans ?_ hb3 | with_reducible refine G.trans ?_ hb2 | with_reducible refine G.trans ?_ hb1 | with_reducible refine G.trans ?_ hb | assumption)) hb8
  have N8 := N7.grow hb78
  have A8 := Lib.hid (A7.out.grow hb78)
  have hs8 : w2.heap.size ≤ w8.heap.size := Nat.le_trans hs7 hb78.size
  clear sl7 N7 hb8
  replace N8 := Lib.hid N8
  go_wp2_with fail
  have sl8 : Sl (w8.alloc (.cells #[.pointer (some ⟨b1, 0, none⟩), .pointer (some ⟨b2, 0, none⟩)] 45)) (some ⟨w8.heap.size, 0, none⟩) 2 (chs [some (b1, r1, kA), some (b2, r2, kB2)]) := Sl.new' rfl rfl rfl
  refine (frontier_any sl8 (by decide) (by decide) (by decide) (N8.out.grow (G.alloc (G.refl _) _)) (fun x hx => by simp at hx; rw [hx]; simp)).mono ?_
  rw [k_min]
  rintro e9 w9 ⟨A9, c9, rfl, hp9, hb9⟩
  have hb89 : Below w8.heap.size w8 w9 := G.trans (by repeat (first | with_reducible assumption | with_reducible exact G.refl _ | with_reducible refine G.drew ?_ | with_reducible refine G.drewN ?_ _ | with_reducible refine G.alloc ?_ _ | with_reducible refine Below.setCell ?_ (by first | (simp; done) | (simp; omega)) _ | with_reducible refine G.trans ?_ hb12 | with_reducible refine G.trans ?_ hb11 | with_reducible refine G.trans ?_ hb10 | with_reducible refine G.trans ?_ hb9 | with_reducible refine G.trans ?_ hb8 | with_reducible refine G.trans ?_ hb7 | with_reducible refine G.trans ?_ hb6 | with_reducible refine G.trans ?_ hb5 | with_reducible refine G.trans ?_ hb4 | with_reducible refine G.trans ?_ hb3 | with_reducible refine G.trans ?_ hb2 | with_reducible refine G.trans ?_ hb1 | with_reducible refine G.trans ?_ hb | assumption)) hb9
  replace A8 := Lib.hid (A8.out.grow hb89)
  have hs9 : w2.heap.size ≤ w9.heap.size := Nat.le_trans hs8 hb89.size
  have le3 : leE kA = 3 := rfl
  have lp3 : leP kA = [1, 0] := rfl
  rw [le3, lp3]
  clear sl8 N8 hb9 hp9 le3 lp3
  go_wp2_with fail
  refine (item_any _ _ _ _ _).mono ?_
  rintro e10 w10 ⟨rfl, hb10⟩
  have hb910 : Below w9.heap.size w9 w10 := G.trans (by repeat (first | with_reducible assumption | with_reducible exact G.refl _ | with_reducible refine G.drew ?_ | with_reducible refine G.drewN ?_ _ | with_reducible refine G.alloc ?_ _ | with_reducible refine Below.setCell ?_ (by first | (simp; done) | (simp; omega)) _ | with_reducible refine G.trans ?_ hb12 | with_reducible refine G.trans ?_ hb11 | with_reducible refine G.trans ?_ hb10 | with_reducible refine G.trans ?_ hb9 | with_reducible refine G.trans ?_ hb8 | with_reducible refine G.trans ?_ hb7 | with_reducible refine G.trans ?_ hb6 | with_reducible refine G.trans ?_ hb5 | with_reducible refine G.trans ?_ hb4 | with_reducible refine G.trans ?_ hb3 | with_reducible refine G.trans ?_ hb2 | with_reducible refine G.trans ?_ hb1 | with_reducible refine G.trans ?_ hb | assumption)) hb10
  have p10 : PathIs (Bar [b1, r1, b2, r2]) w10 (some ⟨w9.heap.size + 1, 0, none⟩) 1 1 [1] := (PathIs.lit (l := [1]) (by simp) rfl (by decide) (hK.out.1 _ (by omega))).grow hb10
  replace p10 := Lib.hid p10
  go_wp2_with fail
  refine (put_any (A8.out.grow hb910) (itemC_v p10.out) fun x hx => hK.out.1 x (by have := hb910.size; omega)).mono ?_
  rintro e11 w11 ⟨he, _, hc11⟩
  rw [k_put2] at he
  subst he
  have q1 : Below w.heap.size w w3 := G.trans hw12 hw23
  have q2 : Below w.heap.size w w4 := q1.trans (hc4.out.below hB.out.1 hB.out.2.1 q1.size)
  have q2' : Below w.heap.size w w5 := (q2.alloc q2.size _).trans (hc5.out.below (Nat.le_trans hw1.size hB.out.2.2.1) (Nat.le_trans hw1.size hB.out.2.2.2) (by have := q2.size; simp; omega))
  have q3 : Below w.heap.size w w6 := G.trans q2' hb56
  have q4 : Below w.heap.size w w7 := (q3.alloc q3.size _).trans (hc7.out.below (Nat.le_trans hw1.size hB.out.2.2.1) (Nat.le_trans hw1.size hB.out.2.2.2) (by have := q3.size; simp; omega))
  have q5 : Below w.heap.size w w10 := G.trans (G.trans (G.trans q4 hb78) hb89) hb910
  have q6 : Below w.heap.size w w11 := q5.trans (hc11.below hB.out.1 hB.out.2.1 q5.size)
  clear hc11 hb910 hb10 p10 q1 q2 q2' q3 q4 q5
  go_wp2_with fail
  go_ret
  exact ⟨rfl, q6⟩
end Go.Proofs.Ytjldpodehffbnaa
