/- device: Size, Durable, Read. -/
import Derived.Test.YtphjgembpcikdaaDevB
import Derived.Laws.IdiomStrings
namespace Go.Proofs.Ytphjgembpcikdaa
set_option linter.unusedVariables false
set_option linter.unnecessarySimpa false
set_option linter.unusedSimpArgs false
open Go.RowKit

def sizeD (s : Ds) (nm : List UInt8) : Int × Int := if s.down = true then (0, 31) else match lkC s.fs nm with
  | none => (0, 8)
  | some f => (f.data.length, 0)
def durD (s : Ds) (nm : List UInt8) : Int × Int := if s.down = true then (0, 31) else match lkC s.fs nm with
  | none => (0, 8)
  | some f => (f.dur, 0)
section
variable {w w' w1 : World} {d mb : Nat} {s s' : Ds} {fs : List FR} {r q x : FR} {S : Nat → Prop} {n : List UInt8}
set_option maxRecDepth 20000 in set_option maxHeartbeats 1000000 in
theorem size_any (h : DevW w d S s) (nm : ByteArray) (hm : nm.size ≤ maxLen) : Calls Try.prog 21 #[.pointer (some ⟨d, 0, none⟩), .string nm] w fun e w' => e = .returned (.tuple #[.int .i64 (sizeD s nm.data.toList).1, .int .i64 (sizeD s nm.data.toList).2]) ∧ w' = w := by
  have CK := Lib.hid (check_any h)
  unfold chkD at CK
  unfold sizeD
  obtain ⟨mb, fs, hR, hS⟩ := h
  have k1 := (hR.box.2 1 _ rfl).1
  have lt := hR.box.lt
  have hlc : lkC s.fs nm.data.toList = (lk fs nm.data.toList).map FR.fl := by rw [hR.eq, lk_fl]
  rw [hlc]
  have LK := look_fs hR.map Try.underlying9 Try.underlying67 (zeroP _) hm
  rcases hd : s.down with _ | _
  · rw [hd] at CK
    rw [if_neg (by simp)]
    replace hd := Lib.hid hd
    rcases hl : lk fs nm.data.toList with _ | r
    · rw [hl] at LK
      have hpv : ptrV none = .pointer none := rfl
      rw [hpv] at LK
      rw [Option.map_none]
      dsimp only
      clear hR hlc
      replace hl := Lib.hid hl
      go_enter Try.func21, Try.ntmps21
      go_wp2_with fail
      refine CK.out.mono ?_
      rintro e w3 ⟨rfl, hw⟩
      subst hw
      go_wp2_with fail
      exact bodyPost_ret (v := .tuple #[.int .i64 0, .int .i64 8]) (by simp only [results, Try.results21]; go_simp) rfl ⟨rfl, rfl⟩
    · rw [hl] at LK
      have hpv : ptrV (some r) = .pointer (some ⟨r.fb, 0, none⟩) := rfl
      rw [hpv] at LK
      rw [Option.map_some]
      dsimp only
      obtain ⟨hF, hrm, hrn⟩ := lk_rec hR hl
      have k0 := (hF.box.2 0 _ rfl).1
      have hv : r.val = .slice r.A r.data.length r.cap := rfl
      rw [hv] at k0
      have ltf := hF.box.lt
      replace hl := Lib.hid hl
      have hdat : r.fl.data.length = r.data.length := rfl
      rw [hdat]
      clear hR hlc hF hv hdat
      go_enter Try.func21, Try.ntmps21
      go_wp2_with fail
      refine CK.out.mono ?_
      rintro e w3 ⟨rfl, hw⟩
      subst hw
      go_wp2_with fail
      exact bodyPost_ret (v := .tuple #[.int .i64 r.data.length, .int .i64 0]) (by simp only [results, Try.results21]; go_simp) rfl ⟨rfl, rfl⟩
  · rw [hd] at CK
    rw [if_pos rfl]
    replace hd := Lib.hid hd
    clear hR hlc
    go_enter Try.func21, Try.ntmps21
    go_wp2_with fail
    refine CK.out.mono ?_
    rintro e w3 ⟨rfl, hw⟩
    subst hw
    go_wp2_with fail
    exact bodyPost_ret (v := .tuple #[.int .i64 0, .int .i64 31]) (by simp only [results, Try.results21]; go_simp) rfl ⟨rfl, rfl⟩
set_option maxRecDepth 20000 in set_option maxHeartbeats 1000000 in
theorem dur_any (h : DevW w d S s) (nm : ByteArray) (hm : nm.size ≤ maxLen) : Calls Try.prog 31 #[.pointer (some ⟨d, 0, none⟩), .string nm] w fun e w' => e = .returned (.tuple #[.int .i64 (durD s nm.data.toList).1, .int .i64 (durD s nm.data.toList).2]) ∧ w' = w := by
  have CK := Lib.hid (check_any h)
  unfold chkD at CK
  unfold durD
  obtain ⟨mb, fs, hR, hS⟩ := h
  have k1 := (hR.box.2 1 _ rfl).1
  have lt := hR.box.lt
  have hlc : lkC s.fs nm.data.toList = (lk fs nm.data.toList).map FR.fl := by rw [hR.eq, lk_fl]
  rw [hlc]
  have LK := look_fs hR.map Try.underlying9 Try.underlying67 (zeroP _) hm
  rcases hd : s.down with _ | _
  · rw [hd] at CK
    rw [if_neg (by simp)]
    replace hd := Lib.hid hd
    rcases hl : lk fs nm.data.toList with _ | r
    · rw [hl] at LK
      have hpv : ptrV none = .pointer none := rfl
      rw [hpv] at LK
      rw [Option.map_none]
      dsimp only
      clear hR hlc
      replace hl := Lib.hid hl
      go_enter Try.func31, Try.ntmps31
      go_wp2_with fail
      refine CK.out.mono ?_
      rintro e w3 ⟨rfl, hw⟩
      subst hw
      go_wp2_with fail
      exact bodyPost_ret (v := .tuple #[.int .i64 0, .int .i64 8]) (by simp only [results, Try.results31]; go_simp) rfl ⟨rfl, rfl⟩
    · rw [hl] at LK
      have hpv : ptrV (some r) = .pointer (some ⟨r.fb, 0, none⟩) := rfl
      rw [hpv] at LK
      rw [Option.map_some]
      dsimp only
      obtain ⟨hF, hrm, hrn⟩ := lk_rec hR hl
      have k0 := (hF.box.2 1 _ rfl).1
      have ltf := hF.box.lt
      replace hl := Lib.hid hl
      have hdat : r.fl.dur = r.dur := rfl
      rw [hdat]
      clear hR hlc hF hdat
      go_enter Try.func31, Try.ntmps31
      go_wp2_with fail
      refine CK.out.mono ?_
      rintro e w3 ⟨rfl, hw⟩
      subst hw
      go_wp2_with fail
      exact bodyPost_ret (v := .tuple #[.int .i64 r.dur, .int .i64 0]) (by simp only [results, Try.results31]; go_simp) rfl ⟨rfl, rfl⟩
  · rw [hd] at CK
    rw [if_pos rfl]
    replace hd := Lib.hid hd
    clear hR hlc
    go_enter Try.func31, Try.ntmps31
    go_wp2_with fail
    refine CK.out.mono ?_
    rintro e w3 ⟨rfl, hw⟩
    subst hw
    go_wp2_with fail
    exact bodyPost_ret (v := .tuple #[.int .i64 0, .int .i64 31]) (by simp only [results, Try.results31]; go_simp) rfl ⟨rfl, rfl⟩
end
end Go.Proofs.Ytphjgembpcikdaa
