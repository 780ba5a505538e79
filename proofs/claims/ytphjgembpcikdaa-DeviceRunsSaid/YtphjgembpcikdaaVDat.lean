/- device laws: dataOf. -/
import Derived.Test.YtphjgembpcikdaaVNam2
namespace Go.Proofs.Ytphjgembpcikdaa
set_option linter.unusedVariables false
set_option linter.unnecessarySimpa false
set_option linter.unusedSimpArgs false
open Go.RowKit

def byteAt (k i : Nat) : UInt8 := UInt8.ofNat (65 + (i + k) % 50)
def dataL (k : Nat) : Nat → List UInt8
  | 0 => []
  | i + 1 => dataL k i ++ [byteAt k i]
theorem dataL_len (k : Nat) : ∀ i, (dataL k i).length = i
  | 0 => rfl
  | i + 1 => by unfold dataL; rw [List.length_append, dataL_len k i]; rfl
theorem byteAt_nat (k i : Nat) : (byteAt k i).toNat = 65 + (i + k) % 50 := by
  unfold byteAt
  rw [UInt8.toNat_ofNat_of_lt']
  show _ < 256
  omega
set_option maxRecDepth 20000 in set_option maxHeartbeats 1000000 in
theorem dataOf_any (n k : Nat) (hn : n ≤ 255) (hk : k ≤ 1000) (w : World) : Calls Try.prog 47 #[.int .u8 n, .int .i64 k] w fun e w' => e = .returned (.string (BA (dataL k (n % 64)))) ∧ Below w.heap.size w w' := by
  obtain ⟨m, hm⟩ : ∃ m, n % 64 = m := ⟨_, rfl⟩
  rw [hm]
  have hm1 : m < 64 := by omega
  have hmi : (n : Int) % 64 = (m : Int) := by omega
  have hwm : IntKind.i64.wrap (m : Int) = (m : Int) := by rw [IntWalk.i64_in _ (by omega)]
  go_enter Try.func47, Try.ntmps47
  go_wp2_with fail
  go_loopw [5, 6] (fun sv iv wr => ∃ i : Nat, i ≤ m ∧ iv = .int .i64 i ∧ sv = .string (BA (dataL k i)) ∧ Below w.heap.size w wr) (fun _ iv _ => m - (intOf iv).toNat)
  case atStart => exact ⟨0, Nat.zero_le _, rfl, rfl, G.refl _⟩
  case round =>
    obtain ⟨i, hi, rfl, rfl, hbr⟩ := hrel
    by_cases hlt : i < m
    · have hlt' : (i : Int) < (m : Int) := by omega
      have hbv : (65 : Int) + ((i : Int) + (k : Int)) % 50 = ((byteAt k i).toNat : Int) := by rw [byteAt_nat]; omega
      have hcv := run_convert_bytes_back (P := Try.prog) (wr.alloc (.cells #[.int .u8 (65 + ((i : Int) + (k : Int)) % 50)] 5)) 39 9 5 ⟨wr.heap.size, 0, none⟩ 1 [byteAt k i] Try.underlying39 Try.underlying5 Try.underlying9 (fun j hj => by
        obtain rfl : j = 0 := by simpa using hj
        rw [hbv]
        show World.cell? _ (Addr.add ⟨wr.heap.size, 0, none⟩ 0) = _
        rw [addr_add]
        simp only [World.cell?, heap_alloc_new]
        rfl)
      rw [show ([byteAt k i] : List UInt8).length = 1 from rfl] at hcv
      replace hbv := Lib.hid hbv
      have hsz : (BA (dataL k i)).size = i := by
        show (dataL k i).toArray.size = i
        rw [List.size_toArray, dataL_len]
      have hsz2 : (BA (dataL k i)).size + 1 ≤ maxLen := by unfold maxLen; omega
      have hsz3 : i + 1 ≤ maxLen := by unfold maxLen; omega
      unfold maxLen at hsz2 hsz3
      have hcat : Hid (BA (dataL k i) ++ (⟨#[byteAt k i]⟩ : ByteArray) = BA (dataL k (i + 1))) := by
        unfold Hid
        apply ByteArray.ext
        rw [ByteArray.data_append]
        show (dataL k i).toArray ++ #[byteAt k i] = (dataL k i ++ [byteAt k i]).toArray
        simp
      go_wp2_with fail
      go_roundw
      case rel => exact ⟨i + 1, by omega, by go_num, by rw [hcat.out], by repeat (first | with_reducible assumption | with_reducible exact G.refl _ | with_reducible refine G.drew ?_ | with_reducible refine G.drewN ?_ _ | with_reducible refine G.alloc ?_ _ | with_reducible refine Below.setCell ?_ (by first | (simp; done) | (simp; omega)) _ | with_reducible refine G.trans ?_ hb12 | with_reducible refine G.trans ?_ hb11 | with_reducible refine G.trans ?_ hb10 | with_reducible refine G.trans ?_ hb9 | with_reducible refine G.trans ?_ hb8 | with_reducible refine G.trans ?_ hb7 | with_reducible refine G.trans ?_ hb6 | with_reducible refine G.trans ?_ hb5 | with_reducible refine G.trans ?_ hb4 | with_reducible refine G.trans ?_ hb3 | with_reducible refine G.trans ?_ hb2 | with_reducible refine G.trans ?_ hb1 | with_reducible refine G.trans ?_ hb | assumption)⟩
      case measure => simp [intOf]; omega
    · obtain rfl : i = m := by omega
      go_wp2_with fail
      go_ret
      exact ⟨rfl, hbr⟩
end Go.Proofs.Ytphjgembpcikdaa
