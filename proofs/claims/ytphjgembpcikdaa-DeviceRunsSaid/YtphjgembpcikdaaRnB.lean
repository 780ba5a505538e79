/- The law DeviceRuns returns true: the walk. -/
import Derived.Test.YtphjgembpcikdaaRnA
namespace Go.Proofs.Ytphjgembpcikdaa
set_option linter.unusedVariables false
set_option linter.unnecessarySimpa false
set_option linter.unusedSimpArgs false
open Go.RowKit

section
variable {w : World}
theorem Rn.start {w0 wx : World} {d : Nat} {n : Int} (h : FD w0 wx d (newD n)) : Rn w0 (wx.alloc (.cells #[.int .i64 n, .int .i64 (-1), .bool false, .slice none 0 0] 61)) d wx.heap.size (newD n) ⟨n, -1, false, []⟩ := by
  obtain ⟨S, h1, h2⟩ := h.dev
  have hs := h.below.size
  have hb : Below wx.heap.size wx (wx.alloc (.cells #[.int .i64 n, .int .i64 (-1), .bool false, .slice none 0 0] 61)) := G.alloc (G.refl _) _
  refine ⟨⟨S, hasM wx.heap.size none, h1.grow hb, ⟨none, 0, ⟨Bx.new rfl rfl, World.ownsRow_nil _ _ _ _, by simp [Value.ownBlock]⟩, fun x => Iff.rfl⟩, fun x hx hxt => ?_, h2, fun x hx => ?_⟩, G.trans h.below hb⟩
  · rcases hxt with rfl | hxt
    · exact absurd (h1.lt hx) (Nat.lt_irrefl _)
    · cases hxt
  · rcases hx with rfl | hx
    · exact hs
    · cases hx
set_option maxRecDepth 20000 in set_option maxHeartbeats 4000000 in
theorem deviceRuns_any (r : Int) (hr : (Lit.int .i64 r).wf = true) {A : Option Addr} {n c : Nat} {l : List LOp} (hl : OpsW w A n c l) :
    Calls Try.prog 11 #[.int .i64 r, .slice A n c] w fun e w' => e = .returned (.bool true) ∧ Below w.heap.size w w' := by
  obtain ⟨m, hm⟩ : ∃ m : Nat, min n 60 = m := ⟨_, rfl⟩
  have hmn : m ≤ n := by omega
  have hm40 : m ≤ 60 := by omega
  obtain ⟨hln, hnc, hcm⟩ := hl.len
  have hmi : min (n : Int) 60 = (m : Int) := by omega
  have hmc : m ≤ c := by omega
  unfold maxLen at hcm
  have HL := Lib.hid (hl.take hmn)
  obtain ⟨q, hq⟩ : ∃ q, l.take m = q := ⟨_, rfl⟩
  rw [hq] at HL
  have hql : Hid (q.length = m) := HL.out.len.1
  clear hr hl hq hm hln
  go_enter Try.func11, Try.ntmps11
  go_wp2_with fail
  by_cases hbad : r < 0 ∨ 1099511627776 < r
  · refine (new_bad r hbad).mono ?_
    rintro e w1 ⟨rfl, hb1⟩
    go_wp2_with fail
    refine (known_any _).mono ?_
    rintro e w2 ⟨rfl, hb2⟩
    have hb := Lib.hid (G.trans hb1 hb2)
    clear hb1 hb2
    by_cases h0 : r < 0
    · go_wp2_with fail
      go_ret
      exact ⟨rfl, hb.out⟩
    · have h1 : 1099511627776 < r := by omega
      go_wp2_with fail
      go_ret
      exact ⟨rfl, hb.out⟩
  · have h0 : ¬ r < 0 := by omega
    have h1 : ¬ 1099511627776 < r := by omega
    refine (new_any r (by omega) (by omega)).mono ?_
    intro e w1 hr
    obtain ⟨d, rfl, F0⟩ := FD.new (w0 := w) (by repeat (first | with_reducible assumption | with_reducible exact G.refl _ | with_reducible refine G.drew ?_ | with_reducible refine G.drewN ?_ _ | with_reducible refine G.alloc ?_ _ | with_reducible refine Below.setCell ?_ (by first | (simp; done) | (simp; omega)) _ | with_reducible refine G.trans ?_ hb12 | with_reducible refine G.trans ?_ hb11 | with_reducible refine G.trans ?_ hb10 | with_reducible refine G.trans ?_ hb9 | with_reducible refine G.trans ?_ hb8 | with_reducible refine G.trans ?_ hb7 | with_reducible refine G.trans ?_ hb6 | with_reducible refine G.trans ?_ hb5 | with_reducible refine G.trans ?_ hb4 | with_reducible refine G.trans ?_ hb3 | with_reducible refine G.trans ?_ hb2 | with_reducible refine G.trans ?_ hb1 | with_reducible refine G.trans ?_ hb | assumption)) hr
    replace F0 := Lib.hid F0
    clear hr
    go_wp2_with fail
    refine (known_any _).mono ?_
    rintro e w2 ⟨rfl, hb2⟩
    replace F0 := Lib.hid (F0.out.grow hb2)
    clear hb2 hbad
    have hG0 := Lib.hid (new_good (n := r) (by omega) (by omega))
    have hN0 := Lib.hid (Rn.start F0.out)
    go_wp2_with fail
    go_loopw [8] (fun iv wr => ∃ (i : Nat) (s : Ds) (md : Md), i ≤ m ∧ iv = .int .i64 i ∧ Hid (Rn w wr d w2.heap.size s md) ∧ Hid s.Good ∧ Hid (Sim s md) ∧ Hid (Small s i)) (fun iv _ => m - (intOf iv).toNat)
    case atStart => exact ⟨0, newD r, ⟨r, -1, false, []⟩, Nat.zero_le _, rfl, hN0, hG0, ⟨rfl, rfl, rfl, .inl ⟨rfl, rfl⟩⟩, ⟨Nat.le_refl _, fun f hf => (List.not_mem_nil hf).elim⟩⟩
    case round =>
      obtain ⟨i, s, md, hi, rfl, hN, hG, hS, hK⟩ := hrel
      by_cases hlt : i < m
      · obtain ⟨o, ho⟩ : ∃ o, q[i]? = some o := ⟨_, List.getElem?_eq_getElem (by rw [hql.out]; exact hlt)⟩
        obtain ⟨b, off, rfl, hbl, e0, e1, e2, e3, e4, hfit⟩ := (HL.out.grow hN.out.below).at_ ho
        replace ho := Lib.hid ho
        go_wp2_with fail
        refine (agree_any hN.out hG.out hS.out hK.out (by omega) o hfit).mono ?_
        rintro e w3 ⟨rfl, s', md', hN', hG', hS', hK'⟩
        replace hN' := Lib.hid hN'
        replace hG' := Lib.hid hG'
        replace hS' := Lib.hid hS'
        replace hK' := Lib.hid hK'
        go_wp2_with fail
        go_roundw
        case rel => exact ⟨i + 1, s', md', by omega, by go_num, hN', hG', hS', hK'⟩
        case measure => simp [intOf]; omega
      · obtain rfl : i = m := by omega
        go_wp2_with fail
        obtain ⟨S, T, g1, g2, _⟩ := hN.out.dev
        refine (looks_any g1 hG.out g2 hS.out.fs hS.out.down hS.out.room (by rw [hS.out.fs]; have := hK.out.len; omega)).mono ?_
        rintro e w4 ⟨rfl, hb4⟩
        have hbf := Lib.hid (G.trans hN.out.below hb4)
        clear g1 g2
        go_wp2_with fail
        go_ret
        exact ⟨rfl, hbf.out⟩
end
end Go.Proofs.Ytphjgembpcikdaa
