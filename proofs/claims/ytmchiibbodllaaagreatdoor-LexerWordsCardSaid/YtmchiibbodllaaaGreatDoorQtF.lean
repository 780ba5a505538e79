/- strconv.FormatInt with base 16 of a number below 128. -/
import Derived.Test.YtmchiibbodllaaaGreatDoorQtV
import Derived.Test.YtmchiibbodllaaaGreatDoorRel3
import Derived.Test.YtmchiibbodllaaaGreatDoorData
namespace Go.Proofs.YtmchiibbodllaaaGreatDoor
set_option linter.unusedVariables false
set_option linter.unnecessarySimpa false
set_option linter.unusedSimpArgs false
open Go.RowKit

/-- The table of math/bits, as far as it is read. -/
def Tab4 (w : World) : Prop := w.cell? ⟨8, 15, none⟩ = some (.int .u8 4)
theorem Tab4.grow {w w' : World} (h : Tab4 w) (hb : Below w.heap.size w w') : Tab4 w' := G.cell h hb
theorem dig36 (w : World) (n : Nat) (h : n < 16) : (Instr.index 9 (.string ⟨#[48, 49, 50, 51, 52, 53, 54, 55, 56, 57, 97, 98, 99, 100, 101, 102, 103, 104, 105, 106, 107, 108, 109, 110, 111, 112, 113, 114, 115, 116, 117, 118, 119, 120, 121, 122]⟩) (.int .u64 (n : Int))).run Tryz.prog w = .ok (.int .u8 ((hexD n).toNat : Int)) w := by
  have h0 : ∀ w : World, (Instr.index 9 (.string ⟨#[48, 49, 50, 51, 52, 53, 54, 55, 56, 57, 97, 98, 99, 100, 101, 102, 103, 104, 105, 106, 107, 108, 109, 110, 111, 112, 113, 114, 115, 116, 117, 118, 119, 120, 121, 122]⟩) (.int .u64 0)).run Tryz.prog w = .ok (.int .u8 48) w := fun w => by kernel_rfl
  have h1 : ∀ w : World, (Instr.index 9 (.string ⟨#[48, 49, 50, 51, 52, 53, 54, 55, 56, 57, 97, 98, 99, 100, 101, 102, 103, 104, 105, 106, 107, 108, 109, 110, 111, 112, 113, 114, 115, 116, 117, 118, 119, 120, 121, 122]⟩) (.int .u64 1)).run Tryz.prog w = .ok (.int .u8 49) w := fun w => by kernel_rfl
  have h2 : ∀ w : World, (Instr.index 9 (.string ⟨#[48, 49, 50, 51, 52, 53, 54, 55, 56, 57, 97, 98, 99, 100, 101, 102, 103, 104, 105, 106, 107, 108, 109, 110, 111, 112, 113, 114, 115, 116, 117, 118, 119, 120, 121, 122]⟩) (.int .u64 2)).run Tryz.prog w = .ok (.int .u8 50) w := fun w => by kernel_rfl
  have h3 : ∀ w : World, (Instr.index 9 (.string ⟨#[48, 49, 50, 51, 52, 53, 54, 55, 56, 57, 97, 98, 99, 100, 101, 102, 103, 104, 105, 106, 107, 108, 109, 110, 111, 112, 113, 114, 115, 116, 117, 118, 119, 120, 121, 122]⟩) (.int .u64 3)).run Tryz.prog w = .ok (.int .u8 51) w := fun w => by kernel_rfl
  have h4 : ∀ w : World, (Instr.index 9 (.string ⟨#[48, 49, 50, 51, 52, 53, 54, 55, 56, 57, 97, 98, 99, 100, 101, 102, 103, 104, 105, 106, 107, 108, 109, 110, 111, 112, 113, 114, 115, 116, 117, 118, 119, 120, 121, 122]⟩) (.int .u64 4)).run Tryz.prog w = .ok (.int .u8 52) w := fun w => by kernel_rfl
  have h5 : ∀ w : World, (Instr.index 9 (.string ⟨#[48, 49, 50, 51, 52, 53, 54, 55, 56, 57, 97, 98, 99, 100, 101, 102, 103, 104, 105, 106, 107, 108, 109, 110, 111, 112, 113, 114, 115, 116, 117, 118, 119, 120, 121, 122]⟩) (.int .u64 5)).run Tryz.prog w = .ok (.int .u8 53) w := fun w => by kernel_rfl
  have h6 : ∀ w : World, (Instr.index 9 (.string ⟨#[48, 49, 50, 51, 52, 53, 54, 55, 56, 57, 97, 98, 99, 100, 101, 102, 103, 104, 105, 106, 107, 108, 109, 110, 111, 112, 113, 114, 115, 116, 117, 118, 119, 120, 121, 122]⟩) (.int .u64 6)).run Tryz.prog w = .ok (.int .u8 54) w := fun w => by kernel_rfl
  have h7 : ∀ w : World, (Instr.index 9 (.string ⟨#[48, 49, 50, 51, 52, 53, 54, 55, 56, 57, 97, 98, 99, 100, 101, 102, 103, 104, 105, 106, 107, 108, 109, 110, 111, 112, 113, 114, 115, 116, 117, 118, 119, 120, 121, 122]⟩) (.int .u64 7)).run Tryz.prog w = .ok (.int .u8 55) w := fun w => by kernel_rfl
  have h8 : ∀ w : World, (Instr.index 9 (.string ⟨#[48, 49, 50, 51, 52, 53, 54, 55, 56, 57, 97, 98, 99, 100, 101, 102, 103, 104, 105, 106, 107, 108, 109, 110, 111, 112, 113, 114, 115, 116, 117, 118, 119, 120, 121, 122]⟩) (.int .u64 8)).run Tryz.prog w = .ok (.int .u8 56) w := fun w => by kernel_rfl
  have h9 : ∀ w : World, (Instr.index 9 (.string ⟨#[48, 49, 50, 51, 52, 53, 54, 55, 56, 57, 97, 98, 99, 100, 101, 102, 103, 104, 105, 106, 107, 108, 109, 110, 111, 112, 113, 114, 115, 116, 117, 118, 119, 120, 121, 122]⟩) (.int .u64 9)).run Tryz.prog w = .ok (.int .u8 57) w := fun w => by kernel_rfl
  have h10 : ∀ w : World, (Instr.index 9 (.string ⟨#[48, 49, 50, 51, 52, 53, 54, 55, 56, 57, 97, 98, 99, 100, 101, 102, 103, 104, 105, 106, 107, 108, 109, 110, 111, 112, 113, 114, 115, 116, 117, 118, 119, 120, 121, 122]⟩) (.int .u64 10)).run Tryz.prog w = .ok (.int .u8 97) w := fun w => by kernel_rfl
  have h11 : ∀ w : World, (Instr.index 9 (.string ⟨#[48, 49, 50, 51, 52, 53, 54, 55, 56, 57, 97, 98, 99, 100, 101, 102, 103, 104, 105, 106, 107, 108, 109, 110, 111, 112, 113, 114, 115, 116, 117, 118, 119, 120, 121, 122]⟩) (.int .u64 11)).run Tryz.prog w = .ok (.int .u8 98) w := fun w => by kernel_rfl
  have h12 : ∀ w : World, (Instr.index 9 (.string ⟨#[48, 49, 50, 51, 52, 53, 54, 55, 56, 57, 97, 98, 99, 100, 101, 102, 103, 104, 105, 106, 107, 108, 109, 110, 111, 112, 113, 114, 115, 116, 117, 118, 119, 120, 121, 122]⟩) (.int .u64 12)).run Tryz.prog w = .ok (.int .u8 99) w := fun w => by kernel_rfl
  have h13 : ∀ w : World, (Instr.index 9 (.string ⟨#[48, 49, 50, 51, 52, 53, 54, 55, 56, 57, 97, 98, 99, 100, 101, 102, 103, 104, 105, 106, 107, 108, 109, 110, 111, 112, 113, 114, 115, 116, 117, 118, 119, 120, 121, 122]⟩) (.int .u64 13)).run Tryz.prog w = .ok (.int .u8 100) w := fun w => by kernel_rfl
  have h14 : ∀ w : World, (Instr.index 9 (.string ⟨#[48, 49, 50, 51, 52, 53, 54, 55, 56, 57, 97, 98, 99, 100, 101, 102, 103, 104, 105, 106, 107, 108, 109, 110, 111, 112, 113, 114, 115, 116, 117, 118, 119, 120, 121, 122]⟩) (.int .u64 14)).run Tryz.prog w = .ok (.int .u8 101) w := fun w => by kernel_rfl
  have h15 : ∀ w : World, (Instr.index 9 (.string ⟨#[48, 49, 50, 51, 52, 53, 54, 55, 56, 57, 97, 98, 99, 100, 101, 102, 103, 104, 105, 106, 107, 108, 109, 110, 111, 112, 113, 114, 115, 116, 117, 118, 119, 120, 121, 122]⟩) (.int .u64 15)).run Tryz.prog w = .ok (.int .u8 102) w := fun w => by kernel_rfl
  have hn : n = 0 ∨ n = 1 ∨ n = 2 ∨ n = 3 ∨ n = 4 ∨ n = 5 ∨ n = 6 ∨ n = 7 ∨ n = 8 ∨ n = 9 ∨ n = 10 ∨ n = 11 ∨ n = 12 ∨ n = 13 ∨ n = 14 ∨ n = 15 := by omega
  clear h
  rcases hn with rfl | rfl | rfl | rfl | rfl | rfl | rfl | rfl | rfl | rfl | rfl | rfl | rfl | rfl | rfl | rfl
  · exact h0 w
  · exact h1 w
  · exact h2 w
  · exact h3 w
  · exact h4 w
  · exact h5 w
  · exact h6 w
  · exact h7 w
  · exact h8 w
  · exact h9 w
  · exact h10 w
  · exact h11 w
  · exact h12 w
  · exact h13 w
  · exact h14 w
  · exact h15 w
theorem and15' : ∀ n : Fin 256, bits .and .u64 (n.val : Int) 15 = ((n.val % 16 : Nat) : Int) := by decide +kernel
theorem conv65 {w : World} {g o n : Nat} {l : List UInt8} (hl : l.length = n) (h : ∀ j (hj : j < n), w.cell? ⟨g, o + j, none⟩ = some (.int .u8 ((l[j]'(hl ▸ hj)).toNat : Int))) :
    (convert 63 9 (.slice (some ⟨g, o, none⟩) n n)).run Tryz.prog w = .ok (.string (B l)) w := by
  subst hl
  exact run_convert_bytes_back (P := Tryz.prog) w 63 9 5 ⟨g, o, none⟩ _ l Tryz.underlying63 Tryz.underlying5 Tryz.underlying9 (fun j hj => by
    rw [Addr.add_lit]
    exact h j hj)
section
variable {w : World}
set_option maxRecDepth 20000 in set_option maxHeartbeats 400000 in
theorem tz64_16 (h : Tab4 w) : Calls Tryz.prog 166 #[.int .u64 16] w fun e w' => e = .returned (.int .i64 4) ∧ w' = w := by
  unfold Tab4 at h
  have hb := cell_lt h
  have n1 : IntKind.u64.wrap (-16) = 18446744073709551600 := by decide +kernel
  have n2 : bits .and .u64 16 18446744073709551600 = 16 := by decide +kernel
  have n3 : IntKind.u64.wrap (16 * 285870213051353865) = 4573923408821661840 := by decide +kernel
  have n4 : (4573923408821661840 : Int) / 288230376151711744 = 15 := by decide
  go_enter Tryz.func166, Tryz.ntmps166
  go_wp2_with fail
  go_ret
  exact ⟨rfl, rfl⟩
set_option maxRecDepth 20000 in set_option maxHeartbeats 400000 in
theorem tz_16 (h : Tab4 w) : Calls Tryz.prog 146 #[.int .u64 16] w fun e w' => e = .returned (.int .i64 4) ∧ w' = w := by
  go_enter Tryz.func146, Tryz.ntmps146
  go_wp2_with fail
  go_at_call 166
  (with_reducible refine (tz64_16 h).mono ?_)
  rintro e1 w1 ⟨rfl, rfl⟩
  go_wp2_with fail
  go_ret
  exact ⟨rfl, rfl⟩
set_option maxRecDepth 20000 in set_option maxHeartbeats 400000 in
theorem pow2_16 : Calls Tryz.prog 145 #[.int .i64 16] w fun e w' => e = .returned (.bool true) ∧ w' = w := by
  go_enter Tryz.func145, Tryz.ntmps145
  go_wp2_with fail
  go_ret
  exact ⟨rfl, rfl⟩
set_option maxRecDepth 20000 in set_option maxHeartbeats 4000000 in
theorem fbits_lo (h : Tab4 w) (d : Nat) (hd : d < 16) : Calls Tryz.prog 119 #[.slice none 0 0, .int .u64 (d : Int), .int .i64 16, .bool false, .bool false] w fun e w' => e = .returned (.tuple #[.slice none 0 0, .string (B [hexD d])]) ∧ Below w.heap.size w w' := by
  have HW := Lib.hid (show (Tryz.zeroCells154 : Array Value).toList = List.replicate 65 (.int .u8 0) by kernel_rfl)
  have n5 : IntKind.u64.wrap 4 = 4 := by decide
  have n6 : IntKind.u64.wrap 16 = 16 := by decide
  have n7 : IntKind.u64.wrap (16 - 1) = 15 := by decide
  have n8 : IntKind.u64.wrap 15 = 15 := by decide
  have D1 := dig36 (n := d) (h := hd)
  have l0 : ¬ (16 : Int) ≤ (d : Int) := by omega
  have l0' : (d : Int) < 16 := by omega
  have HD := Lib.hid hd
  clear hd
  go_enter Tryz.func119, Tryz.ntmps119
  go_wp2_with fail
  go_at_call 145
  obtain ⟨g, hg⟩ : ∃ g, w.heap.size = g := ⟨_, rfl⟩
  rw [hg]
  refine calls_name (fun wx => Hid (Bx wx g (List.replicate 65 (.int .u8 0))) ∧ Hid (Below g w wx) ∧ Tab4 wx) ⟨Bx.new hg.symm (Array.toList_inj.1 HW.out), by rw [← hg]; exact G.alloc (G.refl w) _, h.grow (G.alloc (G.refl w) _)⟩ ?_
  rintro w1 ⟨HB, HG, h1⟩
  have HS := Lib.hid hg
  clear h hg HW
  (with_reducible refine (pow2_16).mono ?_)
  rintro e1 w2 ⟨rfl, rfl⟩
  go_wp2_with fail
  go_at_call 146
  (with_reducible refine (tz_16 h1).mono ?_)
  rintro e1 w3 ⟨rfl, rfl⟩
  have c64 := (HB.out.2 64 _ rfl).1
  have f64 := (HB.out.2 64 _ rfl).2
  have c63 := (HB.out.2 63 _ rfl).1
  have f63 := (HB.out.2 63 _ rfl).2
  have lt := HB.out.lt
  have B2 : Bx (w3.setCell ⟨g, 64, none⟩ (.int .u8 ((hexD d).toNat : Int))) g ((List.replicate 65 (Value.int .u8 0)).set 64 (.int .u8 ((hexD d).toNat : Int))) := HB.out.put rfl
  have CV := conv65 (l := [hexD d]) (o := 64) (n := 1) rfl (fun j hj => by
    match j, hj with
    | 0, _ => exact (B2.2 64 _ rfl).1)
  clear B2
  have HE := Lib.hid (HG.out.setCell (Nat.le_refl g) (p := ⟨g, 64, none⟩) (.int .u8 ((hexD d).toNat : Int)))
  clear h1 HG HB
  go_wp2_with fail
  refine wp_loop_rounds 1 ?_
  rw [rounds_succ]
  go_wp2_with fail
  refine bodyPost_ret (v := .tuple #[.slice none 0 0, .string (B [hexD d])]) (by simp only [results, Tryz.results119]; go_simp) rfl ⟨rfl, ?_⟩
  rw [HS.out]
  exact HE.out
set_option maxRecDepth 20000 in set_option maxHeartbeats 4000000 in
theorem fbits_hi (h : Tab4 w) (d q r : Nat) (hd : d = 16 * q + r) (hr : r < 16) (hq0 : 1 ≤ q) (hq : q < 16) : Calls Tryz.prog 119 #[.slice none 0 0, .int .u64 (d : Int), .int .i64 16, .bool false, .bool false] w fun e w' => e = .returned (.tuple #[.slice none 0 0, .string (B [hexD q, hexD r])]) ∧ Below w.heap.size w w' := by
  have HW := Lib.hid (show (Tryz.zeroCells154 : Array Value).toList = List.replicate 65 (.int .u8 0) by kernel_rfl)
  have n5 : IntKind.u64.wrap 4 = 4 := by decide
  have n6 : IntKind.u64.wrap 16 = 16 := by decide
  have n7 : IntKind.u64.wrap (16 - 1) = 15 := by decide
  have n8 : IntKind.u64.wrap 15 = 15 := by decide
  have D1 := dig36 (n := r) (h := hr)
  have D2 := dig36 (n := q) (h := hq)
  have l0 : (16 : Int) ≤ (d : Int) := by omega
  have l1 : ¬ (16 : Int) ≤ (q : Int) := by omega
  have l0' : ¬ (d : Int) < 16 := by omega
  have l1' : (q : Int) < 16 := by omega
  have a1 : bits .and .u64 (d : Int) 15 = (r : Int) := by
    have := and15' ⟨d, by omega⟩
    simp only at this
    rw [this]
    omega
  have a2 : (d : Int) / 16 = (q : Int) := by omega
  have a3 : (d : Int).tdiv 16 = (q : Int) := by rw [Int.tdiv_eq_ediv_of_nonneg (by omega)]; omega
  have HD := Lib.hid hd
  have HR := Lib.hid hr
  have HQ := Lib.hid hq
  clear hd hr hq0 hq
  go_enter Tryz.func119, Tryz.ntmps119
  go_wp2_with fail
  go_at_call 145
  obtain ⟨g, hg⟩ : ∃ g, w.heap.size = g := ⟨_, rfl⟩
  rw [hg]
  refine calls_name (fun wx => Hid (Bx wx g (List.replicate 65 (.int .u8 0))) ∧ Hid (Below g w wx) ∧ Tab4 wx) ⟨Bx.new hg.symm (Array.toList_inj.1 HW.out), by rw [← hg]; exact G.alloc (G.refl w) _, h.grow (G.alloc (G.refl w) _)⟩ ?_
  rintro w1 ⟨HB, HG, h1⟩
  have HS := Lib.hid hg
  clear h hg HW
  (with_reducible refine (pow2_16).mono ?_)
  rintro e1 w2 ⟨rfl, rfl⟩
  go_wp2_with fail
  go_at_call 146
  (with_reducible refine (tz_16 h1).mono ?_)
  rintro e1 w3 ⟨rfl, rfl⟩
  have c64 := (HB.out.2 64 _ rfl).1
  have f64 := (HB.out.2 64 _ rfl).2
  have c63 := (HB.out.2 63 _ rfl).1
  have f63 := (HB.out.2 63 _ rfl).2
  have lt := HB.out.lt
  have B2 : Bx ((w3.setCell ⟨g, 64, none⟩ (.int .u8 ((hexD r).toNat : Int))).setCell ⟨g, 63, none⟩ (.int .u8 ((hexD q).toNat : Int))) g (((List.replicate 65 (Value.int .u8 0)).set 64 (.int .u8 ((hexD r).toNat : Int))).set 63 (.int .u8 ((hexD q).toNat : Int))) := (HB.out.put rfl).put rfl
  have CV := conv65 (l := [hexD q, hexD r]) (o := 63) (n := 2) rfl (fun j hj => by
    match j, hj with
    | 0, _ => exact (B2.2 63 _ rfl).1
    | 1, _ => exact (B2.2 64 _ rfl).1)
  clear B2
  have HE := Lib.hid ((HG.out.setCell (Nat.le_refl g) (p := ⟨g, 64, none⟩) (.int .u8 ((hexD r).toNat : Int))).setCell (Nat.le_refl g) (p := ⟨g, 63, none⟩) (.int .u8 ((hexD q).toNat : Int)))
  clear h1 HG HB
  go_wp2_with fail
  refine wp_loop_rounds 2 ?_
  rw [rounds_succ]
  go_wp2_with fail
  rw [rounds_succ]
  go_wp2_with fail
  refine bodyPost_ret (v := .tuple #[.slice none 0 0, .string (B [hexD q, hexD r])]) (by simp only [results, Tryz.results119]; go_simp) rfl ⟨rfl, ?_⟩
  rw [HS.out]
  exact HE.out
set_option maxRecDepth 20000 in set_option maxHeartbeats 400000 in
theorem fbits_any (h : Tab4 w) (c : UInt8) (hc : c.toNat < 128) : Calls Tryz.prog 119 #[.slice none 0 0, .int .u64 (c.toNat : Int), .int .i64 16, .bool false, .bool false] w fun e w' => e = .returned (.tuple #[.slice none 0 0, .string (B (hexs c))]) ∧ Below w.heap.size w w' := by
  unfold hexs
  split
  · rename_i h16
    exact fbits_lo h c.toNat h16
  · rename_i h16
    exact fbits_hi h c.toNat (c.toNat / 16) (c.toNat % 16) (by omega) (by omega) (by omega) (by omega)
set_option maxRecDepth 20000 in set_option maxHeartbeats 400000 in
theorem fint_in (h : Tab4 w) (c : UInt8) (hc : c.toNat < 128) : Calls Tryz.prog 96 #[.int .i64 (c.toNat : Int), .int .i64 16] w fun e w' => e = .returned (.string (B (hexs c))) ∧ Below w.heap.size w w' := by
  have u1 : IntKind.u64.wrap (c.toNat : Int) = (c.toNat : Int) := IntWalk.u64_in _ (by omega)
  have l1 : ¬ (c.toNat : Int) < 0 := by omega
  have F := Lib.hid (fbits_any h c hc)
  clear h hc
  go_enter Tryz.func96, Tryz.ntmps96
  go_wp2_with fail
  go_at_call 119
  (with_reducible refine F.out.mono ?_)
  rintro e1 w1 ⟨rfl, hb1⟩
  go_wp2_with fail
  go_ret
  exact ⟨rfl, hb1⟩
set_option maxRecDepth 20000 in set_option maxHeartbeats 400000 in
theorem fint_any (h : Tab4 w) (c : UInt8) (hc : c.toNat < 128) : Calls Tryz.prog 59 #[.int .i64 (c.toNat : Int), .int .i64 16] w fun e w' => e = .returned (.string (B (hexs c))) ∧ Below w.heap.size w w' := by
  have F := Lib.hid (fint_in h c hc)
  clear h hc
  go_enter Tryz.func59, Tryz.ntmps59
  go_wp2_with fail
  go_at_call 96
  (with_reducible refine F.out.mono ?_)
  rintro e1 w1 ⟨rfl, hb1⟩
  go_wp2_with fail
  go_ret
  exact ⟨rfl, hb1⟩
end
end Go.Proofs.YtmchiibbodllaaaGreatDoor
