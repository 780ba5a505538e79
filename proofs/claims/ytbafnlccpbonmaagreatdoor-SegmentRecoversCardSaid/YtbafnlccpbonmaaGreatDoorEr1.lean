/- Nil logs; a device beside a log. -/
import Derived.Test.YtbafnlccpbonmaaGreatDoorGMl
import Derived.Test.YtbafnlccpbonmaaGreatDoorPl6
import Derived.Test.YtbafnlccpbonmaaGreatDoorSl1
namespace Go.Proofs.YtbafnlccpbonmaaGreatDoor
set_option linter.unusedVariables false
set_option linter.unnecessarySimpa false
set_option linter.unusedSimpArgs false
open Go.RowKit

set_option maxRecDepth 20000 in set_option maxHeartbeats 400000 in
theorem nil_append (t : ByteArray) (w : World) : Calls Tryz.prog 28 #[.pointer none, .string t] w fun e w' => e = .returned (.tuple #[.int .i64 0, .int .i64 1]) ∧ w' = w := by
  go_enter Tryz.func28, Tryz.ntmps28
  go_wp2_with fail
  refine bodyPost_ret (v := .tuple #[.int .i64 0, .int .i64 1]) (by simp only [results, Tryz.results28]; go_simp) rfl ⟨rfl, rfl⟩
set_option maxRecDepth 20000 in set_option maxHeartbeats 400000 in
theorem nil_read (k : Int) (w : World) : Calls Tryz.prog 32 #[.pointer none, .int .i64 k] w fun e w' => e = .returned (.tuple #[.string ⟨#[]⟩, .int .i64 1]) ∧ w' = w := by
  go_enter Tryz.func32, Tryz.ntmps32
  go_wp2_with fail
  refine bodyPost_ret (v := .tuple #[.string ⟨#[]⟩, .int .i64 1]) (by simp only [results, Tryz.results32]; go_simp) rfl ⟨rfl, rfl⟩
set_option maxRecDepth 20000 in set_option maxHeartbeats 400000 in
theorem nil_drop (k : Int) (w : World) : Calls Tryz.prog 35 #[.pointer none, .int .i64 k] w fun e w' => e = .returned (.tuple #[.int .i64 0, .int .i64 1]) ∧ w' = w := by
  go_enter Tryz.func35, Tryz.ntmps35
  go_wp2_with fail
  refine bodyPost_ret (v := .tuple #[.int .i64 0, .int .i64 1]) (by simp only [results, Tryz.results35]; go_simp) rfl ⟨rfl, rfl⟩
set_option maxRecDepth 20000 in set_option maxHeartbeats 400000 in
theorem nil_sync (w : World) : Calls Tryz.prog 34 #[.pointer none] w fun e w' => e = .returned (.int .i64 1) ∧ w' = w := by
  go_enter Tryz.func34, Tryz.ntmps34
  go_wp2_with fail
  go_ret
  exact ⟨rfl, rfl⟩
set_option maxRecDepth 20000 in set_option maxHeartbeats 400000 in
theorem nil_first (w : World) : Calls Tryz.prog 40 #[.pointer none] w fun e w' => e = .returned (.int .i64 0) ∧ w' = w := by
  go_enter Tryz.func40, Tryz.ntmps40
  go_wp2_with fail
  go_ret
  exact ⟨rfl, rfl⟩
set_option maxRecDepth 20000 in set_option maxHeartbeats 400000 in
theorem nil_last (w : World) : Calls Tryz.prog 33 #[.pointer none] w fun e w' => e = .returned (.int .i64 0) ∧ w' = w := by
  go_enter Tryz.func33, Tryz.ntmps33
  go_wp2_with fail
  go_ret
  exact ⟨rfl, rfl⟩
set_option maxRecDepth 20000 in set_option maxHeartbeats 400000 in
theorem nil_durable (w : World) : Calls Tryz.prog 41 #[.pointer none] w fun e w' => e = .returned (.int .i64 0) ∧ w' = w := by
  go_enter Tryz.func41, Tryz.ntmps41
  go_wp2_with fail
  go_ret
  exact ⟨rfl, rfl⟩
set_option maxRecDepth 20000 in set_option maxHeartbeats 400000 in
theorem nil_segments (w : World) : Calls Tryz.prog 42 #[.pointer none] w fun e w' => e = .returned (.slice none 0 0) ∧ w' = w := by
  go_enter Tryz.func42, Tryz.ntmps42
  go_wp2_with fail
  go_ret
  exact ⟨rfl, rfl⟩
section
variable {w0 w w' : World} {S0 T0 : Nat → Prop} {L d : Nat} {l l' : Lg} {s s' : Ds} {nm : List UInt8} {R : List (List UInt8)} {n : Nat} {g : List (List (List UInt8))} {dt : List UInt8}
theorem LX.runD {n : Nat} {a : Array Value} {Q : Ending → Prop} (h : LX w0 S0 T0 w d L s l) (hc : ∀ S, DevW w d S s → Calls Tryz.prog n a w fun e w' => Q e ∧ RetD d S s' w w') : Calls Tryz.prog n a w fun e w' => Q e ∧ LX w0 S0 T0 w' d L s' l := by
  obtain ⟨⟨S, T, h1, h2, h3, h4, h5⟩, hg⟩ := h
  refine (hc S h1).mono fun e w' hh => ⟨hh.1, ?_⟩
  obtain ⟨S', k1, k2, k3⟩ := hh.2
  have hsz := hg.size
  refine ⟨⟨S', T, k1, h2.other k3 fun x hx hs => h3 x hs hx, fun x hx ht => ?_, fun x hx => ?_, h5⟩, hg.trans (k3.mono fun x hx => hx) fun x hx => ?_⟩
  · rcases k2 x hx with h6 | h6
    · exact h3 x h6 ht
    · have := h2.lt ht
      omega
  · rcases k2 x hx with h6 | h6
    · exact h4 x h6
    · exact .inr (by omega)
  · rcases h4 x hx with h6 | h6
    · exact .inl (.inl h6)
    · exact .inr h6
theorem LI.NoRoom (hp : Pow10 w0) (h : LI w0 w d L nm s l R n g) (h1 : R.length < 1000) (h2 : dt.length ≤ 1000) (hc : s.fs.length < 4096) (hr : s.room < ((usedC s.fs + (16 + dt.length) : Nat) : Int)) :
    Calls Tryz.prog 28 #[.pointer (some ⟨L, 0, none⟩), .string (B dt)] w fun e w' => e = .returned (.tuple #[.int .i64 0, .int .i64 32]) ∧ ∃ t l' g', LI w0 w' d L nm t l' R n g' ∧ g' ≠ [] := by
  refine (h.lx.Append (EnvL.no hp) h.inv.ok h.good dt (by omega)).mono fun e w' hh => ?_
  obtain ⟨t, l', g', e1, k1, k2, k3, k4⟩ := h.inv.noroom h.good h.up h.free h1 h2 hc hr
  rw [e1] at hh
  exact ⟨hh.1, t, l', g', h.step k2 k1 hh.2 k3, k4⟩
/-- .. with the bytes that are used. -/
theorem LI.AppendU (hp : Pow10 w0) (h : LI w0 w d L nm s l R n g) (h1 : R.length < 1000) (h2 : dt.length ≤ 1000) (hc : s.fs.length < 4096) (hr : ((usedC s.fs + (16 + dt.length) : Nat) : Int) ≤ s.room) :
    Calls Tryz.prog 28 #[.pointer (some ⟨L, 0, none⟩), .string (B dt)] w fun e w' => e = .returned (.tuple #[.int .i64 ((R.length + 1 : Nat) : Int), .int .i64 0]) ∧
      ∃ t l' g', Stp (OwnF nm) (16 + dt.length) 1 3 s t ∧ usedC t.fs = usedC s.fs + (16 + dt.length) ∧ LI w0 w' d L nm t l' (R ++ [dt]) n g' := by
  refine (h.lx.Append (EnvL.no hp) h.inv.ok h.good dt (by omega)).mono fun e w' hh => ?_
  rcases h.inv.app h.good h.up h1 h2 hc hr with ⟨t, e1, k1, k2, k3⟩ | ⟨e1, _⟩
  · have hu := lapp_used h.good l dt (by rw [e1])
    rw [e1] at hh hu
    exact ⟨hh.1, t, _, _, k2, hu, h.step k2 k1 hh.2 k3⟩
  · rw [h.free] at e1
    cases e1
end
end Go.Proofs.YtbafnlccpbonmaaGreatDoor
