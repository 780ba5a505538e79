/- strings.SplitSeq's iterator. -/
import Derived.Test.YtjldpodehffbnaaDoorRng
import Derived.Test.YtjldpodehffbnaaDoorSPar1
import Derived.OwnWalkIn
import Derived.TacticsInMore
import Derived.LoopNIn
import Derived.LoopIn
namespace Go.Proofs.YtjldpodehffbnaaDoor
set_option linter.unusedVariables false
set_option linter.unnecessarySimpa false
set_option linter.unusedSimpArgs false
open Go.RowKit
attribute [local go_sem] Oper.semAt_some

def StepH (H : Nat) (A B : World) : Prop := ∃ v, B = A.setCell ⟨H, 0, none⟩ v
def KpH (H : Nat) (A B : World) : Prop := ∀ k, H ≤ k → k < H + 3 → B.heap[k]? = A.heap[k]?
theorem KpH.cell {H : Nat} {A B : World} (h : KpH H A B) {k i : Nat} {u : Value} (h1 : H ≤ k) (h2 : k < H + 3) (hc : A.cell? ⟨k, i, none⟩ = some u) : B.cell? ⟨k, i, none⟩ = some u := by
  unfold World.cell? at hc ⊢
  rw [show B.heap[(⟨k, i, none⟩ : Addr).block]? = A.heap[(⟨k, i, none⟩ : Addr).block]? from h k h1 h2]
  exact hc
theorem KpH.frozen {H : Nat} {A B : World} (h : KpH H A B) {k i : Nat} (h1 : H ≤ k) (h2 : k < H + 3) : B.frozen? ⟨k, i, none⟩ = A.frozen? ⟨k, i, none⟩ := by
  unfold World.frozen?
  rw [show B.heap[(⟨k, i, none⟩ : Addr).block]? = A.heap[(⟨k, i, none⟩ : Addr).block]? from h k h1 h2]
/-- The iterator's three variables: the rest of the text, the point, how much of the point stays. -/
structure SplitAt (H : Nat) (u : List UInt8) (w : World) : Prop where
  c0 : w.cell? ⟨H, 0, none⟩ = some (.string (B u))
  c1 : w.cell? ⟨H + 1, 0, none⟩ = some (.string ⟨#[46]⟩)
  c2 : w.cell? ⟨H + 2, 0, none⟩ = some (.int .i64 0)
  fz : w.frozen? ⟨H, 0, none⟩ = false
theorem SplitAt.kp {H : Nat} {u : List UInt8} {w w' : World} (h : SplitAt H u w) (hk : KpH H w w') : SplitAt H u w' :=
  ⟨hk.cell (by omega) (by omega) h.c0, hk.cell (by omega) (by omega) h.c1, hk.cell (by omega) (by omega) h.c2, (hk.frozen (by omega) (by omega)).trans h.fz⟩
theorem SplitAt.put {H : Nat} {u v : List UInt8} {w : World} (h : SplitAt H u w) : SplitAt H v (w.setCell ⟨H, 0, none⟩ (.string (B v))) :=
  ⟨World.cell?_setCell_same' _ _ _ (by rw [h.c0]; rfl), (World.cell?_setCell_other _ _ _ _ (by simp)).trans h.c1, (World.cell?_setCell_other _ _ _ _ (by simp)).trans h.c2, by rw [World.frozen?_setCell]; exact h.fz⟩
/-- How long the rest is. -/
def restLen (H : Nat) (w : World) : Nat := match w.cell? ⟨H, 0, none⟩ with
  | some (.string b) => b.size
  | _ => 0
theorem SplitAt.len {H : Nat} {u : List UInt8} {w : World} (h : SplitAt H u w) : restLen H w = u.length := by
  unfold restLen
  rw [h.c0]
  exact B_size u

theorem wr_nat {m : Nat} (h : m ≤ 100000) : wrap64 (m : Int) = (m : Int) ∧ wrap64 ((m : Int) + 1) = (m : Int) + 1 :=
  ⟨IntWalk.wrap64_in _ (by omega), IntWalk.wrap64_in _ (by omega)⟩
set_option maxRecDepth 20000 in set_option maxHeartbeats 1000000 in
theorem split_any {n H : Nat} {w0 : World} {t : List UInt8} (ht : t.length ≤ 100000) (hS : SplitAt H t w0) :
    SeqL n Tryd.prog 71 #[.pointer (some ⟨H + 1, 0, none⟩), .pointer (some ⟨H, 0, none⟩), .pointer (some ⟨H + 2, 0, none⟩)] (fun x => #[.string (B x)]) (StepH H) (KpH H) (pieces t) w0 := by
  intro l J Jx W hW hJ hJx hY h0
  have hSW := hS.kp hW
  obtain ⟨c0, c1, c2, fz⟩ := hSW
  have lt0 := cell_lt c0
  have lt1 := cell_lt c1
  have lt2 := cell_lt c2
  dsimp only at lt0 lt1 lt2
  have h1s : (ByteArray.mk #[46]).size = 1 := rfl
  refine callsIn_of_wp Tryd.func71 rfl trivial ?_ rfl
  simp only [Tryd.ntmps71, List.size_toArray, List.length_cons, List.length_nil, Nat.reduceAdd, Nat.reduceSub, Array.replicate_succ, Array.replicate_zero, List.push_toArray, List.append_toArray, List.nil_append, List.cons_append]
  gi_wp2_with fail
  gi_loopw [7, 8] (fun p q wr => ∃ pre u, pieces t = pre ++ pieces u ∧ u.length ≤ t.length ∧ SplitAt H u wr ∧ J pre wr) (fun _ _ wr => restLen H wr)
  case atStart => exact ⟨[], t, rfl, Nat.le_refl _, ⟨c0, c1, c2, fz⟩, h0⟩
  case round =>
    clear c0 c1 c2 fz lt0 lt1 lt2
    obtain ⟨pre, u, hpu, hul, hSr, hj⟩ := hrel
    have hSr' := hSr
    obtain ⟨c0, c1, c2, fz⟩ := hSr
    have lt0 := cell_lt c0
    have lt1 := cell_lt c1
    have lt2 := cell_lt c2
    dsimp only at lt0 lt1 lt2
    rcases cut_or 46 u with hno | ⟨a, r, rfl, hno⟩
    · have hix : Lib.indexByte (B u).data.toList 46 = -1 := by rw [B_list, ← Lib.index_one]; exact index_no hno
      rw [pieces_no hno] at hpu
      obtain ⟨f1, t1, a1, b1, hy1, hR1⟩ := hY pre u [] wr hpu hj
      gi_wp2_with fail
      refine ⟨trivial, fun h => (by cases h), (callsIn_wide.2 (Tryd.strings_Index_one (B u) 46 _)).mono ?_⟩
      rintro e w' ⟨rfl, rfl⟩
      rw [hix]
      gi_wp2_with fail
      refine ⟨fun h => (by cases h), hR1.mono ?_⟩
      rintro e W2 (⟨rfl, hJ2, _⟩ | ⟨rfl, hx2⟩)
      all_goals gi_wp2_with fail
      · go_end0
        exact ⟨⟨_, rfl⟩, .inl (by rw [hpu]; exact hJ2)⟩
      · go_end0
        exact ⟨⟨_, rfl⟩, .inr ⟨_, _, _, hpu, hx2⟩⟩
    · have hix : Lib.indexByte (B (a ++ 46 :: r)).data.toList 46 = (a.length : Int) := by rw [B_list, ← Lib.index_one]; exact index_app hno
      rw [pieces_app hno] at hpu
      obtain ⟨f1, t1, a1, b1, hy1, hR1⟩ := hY pre a (pieces r) wr hpu hj
      have hx1 : (B (a ++ 46 :: r)).extract 0 a.length = B a := by apply ByteArray.ext; rw [ByteArray.data_extract]; simp [B]
      have hx2 : (B (a ++ 46 :: r)).extract (a.length + 1) (B (a ++ 46 :: r)).size = B r := by apply ByteArray.ext; rw [ByteArray.data_extract, B_size]; simp [B]; exact List.take_of_length_le (by omega)
      have hsz : (B (a ++ 46 :: r)).size = a.length + 1 + r.length := by rw [B_size]; simp; omega
      have hrl : r.length < (a ++ 46 :: r).length := by simp; omega
      have hS2 := Lib.hid hSr'
      clear hSr'
      obtain ⟨S, hSe⟩ : ∃ S, B (a ++ 46 :: r) = S := ⟨_, rfl⟩
      obtain ⟨m, hm⟩ : ∃ m, a.length = m := ⟨_, rfl⟩
      rw [hm, hSe] at hx2
      rw [hm, hSe] at hx1 hsz
      rw [hSe, hm] at hix
      rw [hSe] at c0
      have hmS : (m : Int) ≤ (S.size : Int) := by omega
      have hm1S : (m : Int) + 1 ≤ (S.size : Int) := by omega
      have h0m : (0 : Int) ≤ (m : Int) := by omega
      have h0m1 : (0 : Int) ≤ (m : Int) + 1 := by omega
      have hSz : S.size ≤ 100000 := by rw [← hSe, B_size]; omega
      have hmn : ¬ (m : Int) < 0 := by omega
      have hmm : m ≤ 100000 := by omega
      obtain ⟨f2, f3⟩ := wr_nat hmm
      replace hsz := Lib.hid hsz
      replace hSz := Lib.hid hSz
      replace hm := Lib.hid hm
      replace hSe := Lib.hid hSe
      replace hrl := Lib.hid hrl
      gi_wp2_with fail
      refine ⟨trivial, fun h => (by cases h), (callsIn_wide.2 (Tryd.strings_Index_one S 46 _)).mono ?_⟩
      rintro e w' ⟨rfl, rfl⟩
      rw [hix]
      gi_wp2_with fail
      refine ⟨fun h => (by cases h), hR1.mono ?_⟩
      rintro e W2 (⟨rfl, hJ2, hk2⟩ | ⟨rfl, hxx⟩)
      · have hS3 := hS2.out.kp hk2
        have hS4 := Lib.hid (hS3.put (v := r))
        obtain ⟨c0, c1, c2, fz⟩ := hS3
        rw [hSe.out] at c0
        have lt0 := cell_lt c0
        have lt1 := cell_lt c1
        have lt2 := cell_lt c2
        dsimp only at lt0 lt1 lt2
        gi_wp2_with fail
        go_roundw
        case rel => exact ⟨pre ++ [a], r, by rw [hpu]; simp, by have := hrl.out; omega, hS4.out, hJ _ _ _ hJ2 ⟨_, rfl⟩⟩
        case measure => rw [hS4.out.len, hS2.out.len]; exact hrl.out
      · gi_wp2_with fail
        refine bodyPost_ret (results_none rfl _ _ _) rfl ?_
        exact ⟨⟨_, rfl⟩, .inr ⟨_, _, _, hpu, hxx⟩⟩
end Go.Proofs.YtjldpodehffbnaaDoor
