/- segment.Log: Segments, Durable; Read. -/
import Derived.Test.YtbafnlccpbonmaaGreatDoorRd1
namespace Go.Proofs.YtbafnlccpbonmaaGreatDoor
set_option linter.unusedVariables false
set_option linter.unnecessarySimpa false
set_option linter.unusedSimpArgs false
open Go.RowKit

section
variable {w w' w0 : World} {L d : Nat} {l : Lg} {s : Ds} {P : Option Addr} {c : Nat} {rs : List PR} {S0 T0 : Nat → Prop} {R : List (List UInt8)} {n : Nat} {g : List (List (List UInt8))}
set_option maxRecDepth 20000 in set_option maxHeartbeats 1000000 in
theorem LogR.Durable (h : LogR w L d l P c rs) : Calls Tryz.prog 41 #[.pointer (some ⟨L, 0, none⟩)] w fun e w' => e = .returned (.int .i64 l.dur) ∧ w' = w := by
  obtain ⟨c0, c1, c2, c3, c4⟩ := h.box.c5
  have lt := h.box.lt
  clear h
  go_enter Tryz.func41, Tryz.ntmps41
  go_wp2_with fail
  go_ret
  exact ⟨rfl, rfl⟩
theorem below_grown {w2 w3 : World} {A : Option Addr} (hb : Below w.heap.size w w2) (hg : w2.grownBy w3 (A.map (·.block))) (hA : ∀ ad, A = some ad → w.heap.size ≤ ad.block) : Below w.heap.size w w3 :=
  ⟨hg.os.trans hb.os, hg.tape.trans hb.tape, hg.output.trans hb.output, Nat.le_trans hb.size hg.size, fun k hk => (hg.block k (Nat.lt_of_lt_of_le hk hb.size) (fun e => by
    rcases A with _ | ad
    · cases e
    · simp at e
      have := hA ad rfl
      omega)).trans (hb.block k hk)⟩
/-- A row of numbers. -/
def RetNs (l : List Nat) (w : World) (e : Ending) (w' : World) : Prop := ∃ A c, e = .returned (.slice A l.length c) ∧ OwnO w' w.heap.size 1 A l.length c (natsC l) ∧ Below w.heap.size w w'
set_option maxRecDepth 20000 in set_option maxHeartbeats 4000000 in
theorem LogR.Segments (h : LogR w L d l P c rs) (hl : rs.length ≤ 1000000) : Calls Tryz.prog 42 #[.pointer (some ⟨L, 0, none⟩)] w (RetNs (rs.map PR.first) w) := by
  obtain ⟨c0, c1, c2, c3, c4⟩ := h.box.c5
  have lt := h.box.lt
  have H := Lib.hid h
  obtain ⟨N, hN⟩ : ∃ N, rs.length = N := ⟨_, rfl⟩
  rw [hN] at c3 hl
  obtain ⟨i0, hi, hz0, hz1, hz2⟩ := info_parts infoIntG
  clear h
  go_enter Tryz.func42, Tryz.ntmps42
  go_wp2_with fail
  go_loopw [3, 13] (fun ov iv wr => ∃ (k : Nat) (A : Option Addr) (cc : Nat), k ≤ N ∧ iv = .int .i64 (k : Int) ∧ ov = .slice A k cc ∧ Hid (OwnO wr w.heap.size 1 A k cc (natsC ((rs.map PR.first).take k))) ∧ Hid (Below w.heap.size w wr)) (fun _ iv _ => N - (intOf iv).toNat)
  case atStart => exact ⟨0, none, 0, by omega, rfl, rfl, Lib.hid (OwnO.nil w _ 1), Lib.hid (G.refl w)⟩
  case round =>
    obtain ⟨k, A, cc, hk, rfl, rfl, HO, HG⟩ := hrel
    clear c0 c1 c2 c3 c4 lt
    by_cases hlt : k < N
    · have hlt' : (k : Int) < (N : Int) := by omega
      obtain ⟨r, hr⟩ : ∃ r, rs[k]? = some r := ⟨_, List.getElem?_eq_getElem (by omega)⟩
      obtain ⟨g, off, rfl, hgl, k0, k1⟩ := H.out.cells hr
      replace k0 := G.cell k0 HG.out
      replace k1 := G.cell k1 HG.out
      have lt0 := cell_lt k0
      have hw9 : IntKind.i64.wrap ((k : Int) + 1) = ((k + 1 : Nat) : Int) := by rw [IntWalk.i64_in _ (by omega)]; omega
      obtain ⟨f, hf⟩ : ∃ f, r.first = f := ⟨_, rfl⟩
      rw [show r.val = .slice r.A r.offs.length r.cap from rfl] at k1
      obtain ⟨rA, hv⟩ : ∃ f, r.A = f := ⟨_, rfl⟩
      obtain ⟨rn, hv2⟩ : ∃ f, r.offs.length = f := ⟨_, rfl⟩
      obtain ⟨rc, hv3⟩ : ∃ f, r.cap = f := ⟨_, rfl⟩
      rw [hf] at k0
      rw [hv, hv2, hv3] at k1
      have htk : Hid (natsC ((rs.map PR.first).take k) ++ [.int .i64 (f : Int)] = natsC ((rs.map PR.first).take (k + 1))) := by
        unfold Hid natsC
        rw [List.take_add_one, List.getElem?_map, hr, List.map_append]
        simp [hf]
      clear hr hf hv hv2 hv3
      obtain ⟨w1, hw1⟩ : ∃ w1, wr.alloc (.cells #[.int .i64 (f : Int), .slice rA rn rc] 105) = w1 := ⟨_, rfl⟩
      have hb1 : Below w.heap.size w w1 := by rw [← hw1]; exact G.alloc HG.out _
      have hb2 : Below w.heap.size w (w1.alloc (.cells #[.int .i64 (f : Int)] 3)) := G.alloc hb1 _
      have hbs := Lib.hid hb1.size
      have HO1 := Lib.hid (HO.out.block (w' := w1.alloc (.cells #[.int .i64 (f : Int)] 3)) (by rw [← hw1]; simp; omega) fun ad ha => by
        have h1 : Below wr.heap.size wr (w1.alloc (.cells #[.int .i64 (f : Int)] 3)) := by rw [← hw1]; exact G.alloc (G.alloc (G.refl wr) _) _
        exact h1.block _ (HO.out.lt ha).1)
      replace hb2 := Lib.hid hb2
      replace hb1 := Lib.hid hb1
      have x1 : Bx w1 wr.heap.size [.int .i64 (f : Int), .slice rA rn rc] := by rw [← hw1]; exact Bx.new rfl rfl
      have d0 := (x1.2 0 _ rfl).1
      have ltd := x1.lt
      clear x1
      go_wp2_with (at_builtin; refine wpList_appO rfl (.tmp 17) (.tmp 20) _ rfl w.heap.size 3 i0 _ 1 8 Tryz.underlying48 hi hz0 hz1 hz2 rfl A k cc _ rfl HO1.out w1.heap.size 1 [.int .i64 (f : Int)] rfl rfl (fun j u hu => ((Bx.new (w := w1) (l := [.int .i64 (f : Int)]) (t := 3) rfl rfl).2 j u hu).1) (by simp [Value.oneCell']) (by unfold maxLen; omega) (by omega) (by have := hbs.out; simp; omega) ?_)
      intro A7 cc7 w7 ho7 hg7 hp7
      rw [htk.out] at ho7
      have hb7 := Lib.hid (below_grown hb2.out hg7 fun ad ha => (HO.out.lt ha).2)
      replace ho7 := Lib.hid ho7
      clear HO1 hg7 hp7 k0 k1 d0 ltd
      go_wp2_with fail
      refine ⟨⟨k + 1, A7, cc7, by omega, rfl, rfl, ho7, hb7⟩, by simp [intOf]; omega⟩
    · obtain rfl : k = N := by omega
      have hlt' : ¬ (k : Int) < (k : Int) := by omega
      have hml : (rs.map PR.first).length = k := by rw [List.length_map]; exact hN
      have hte : (rs.map PR.first).take k = rs.map PR.first := List.take_of_length_le (by omega)
      rw [hte] at HO
      replace hml := Lib.hid hml
      clear hN hte
      go_wp2_with fail
      refine bodyPost_ret (v := .slice A k cc) (by simp only [results, Tryz.results42]; go_simp) rfl ?_
      unfold RetNs
      rw [hml.out]
      exact ⟨A, cc, rfl, HO.out, HG.out⟩
end
end Go.Proofs.YtbafnlccpbonmaaGreatDoor
