/- device: Read. -/
import Derived.Test.YtphjgembpcikdaaDevC
namespace Go.Proofs.Ytphjgembpcikdaa
set_option linter.unusedVariables false
set_option linter.unnecessarySimpa false
set_option linter.unusedSimpArgs false
open Go.RowKit

def readD (s : Ds) (nm : List UInt8) (a c : Int) : List UInt8 × Int := if s.down = true then ([], 31) else match lkC s.fs nm with
  | none => ([], 8)
  | some f => if a < 0 ∨ c < 0 ∨ (f.data.length : Int) < a ∨ (f.data.length : Int) - a < c then ([], 2) else ((f.data.drop a.toNat).take c.toNat, 0)
def BA (l : List UInt8) : ByteArray := ⟨l.toArray⟩
def RetR (r : List UInt8 × Int) (w : World) (e : Ending) (w' : World) : Prop := e = .returned (.tuple #[.string (BA r.1), .int .i64 r.2]) ∧ Below w.heap.size w w'
theorem RetR.mk {w w' : World} {R : List UInt8 × Int} {l : List UInt8} {v : Int} {e : Ending} (hR : R = (l, v)) (he : e = .returned (.tuple #[.string (BA l), .int .i64 v])) (h : Below w.heap.size w w') : RetR R w e w' := by
  subst hR
  exact ⟨he, h⟩
theorem conv_none (w : World) : (convert 39 9 (.slice none 0 0)).run Try.prog w = .ok (.string ⟨#[]⟩) w := by kernel_rfl
section
variable {w w' w1 : World} {d mb : Nat} {s s' : Ds} {fs : List FR} {r q x : FR} {S : Nat → Prop} {n : List UInt8}
set_option maxRecDepth 20000 in set_option maxHeartbeats 2000000 in
theorem read_any (h : DevW w d S s) (ho : s.Ok) (nm : ByteArray) (hm : nm.size ≤ maxLen) (a c : Int) (ha : a ≤ 9223372036854775807) : Calls Try.prog 17 #[.pointer (some ⟨d, 0, none⟩), .string nm, .int .i64 a, .int .i64 c] w (RetR (readD s nm.data.toList a c) w) := by
  have CK := Lib.hid (check_any h)
  unfold chkD at CK
  obtain ⟨R, hr⟩ : ∃ R, readD s nm.data.toList a c = R := ⟨_, rfl⟩
  rw [hr]
  unfold readD at hr
  obtain ⟨mb, fs, hR, hS⟩ := h
  have k1 := (hR.box.2 1 _ rfl).1
  have lt := hR.box.lt
  have hlc : lkC s.fs nm.data.toList = (lk fs nm.data.toList).map FR.fl := by rw [hR.eq, lk_fl]
  rw [hlc] at hr
  have LK := look_fs hR.map Try.underlying9 Try.underlying67 (zeroP _) hm
  rcases hd : s.down with _ | _
  · rw [hd] at CK hr
    rw [if_neg (by simp)] at hr
    replace hd := Lib.hid hd
    rcases hl : lk fs nm.data.toList with _ | r
    · rw [hl] at LK hr
      have hpv : ptrV none = .pointer none := rfl
      rw [hpv] at LK
      rw [Option.map_none] at hr
      dsimp only at hr
      clear hR hlc
      replace hl := Lib.hid hl
      replace hr := Lib.hid hr
      go_enter Try.func17, Try.ntmps17
      go_wp2_with fail
      refine CK.out.mono ?_
      rintro e w3 ⟨rfl, hw⟩
      subst hw
      go_wp2_with fail
      exact bodyPost_ret (v := .tuple #[.string ⟨#[]⟩, .int .i64 8]) (by simp only [results, Try.results17]; go_simp) rfl (RetR.mk hr.out.symm rfl (G.refl _))
    · rw [hl] at LK hr
      have hpv : ptrV (some r) = .pointer (some ⟨r.fb, 0, none⟩) := rfl
      rw [hpv] at LK
      rw [Option.map_some] at hr
      dsimp only at hr
      obtain ⟨hF, hrm, hrn⟩ := lk_rec hR hl
      have hrfl : r.fl ∈ s.fs := by rw [hR.eq]; exact List.mem_map_of_mem hrm
      have hs1 : r.data.length ≤ 16777216 := ho.sz _ hrfl
      have k0 := (hF.box.2 0 _ rfl).1
      have hv : r.val = .slice r.A r.data.length r.cap := rfl
      rw [hv] at k0
      have ltf := hF.box.lt
      have hrow := hF.row
      rw [hv] at hrow
      have hcap := own_cap hrow
      replace hl := Lib.hid hl
      have hdat : r.fl.data = r.data := rfl
      rw [hdat] at hr
      clear hR hlc hF hv hdat
      by_cases h1 : a < 0
      · rw [if_pos (.inl h1)] at hr
        replace hr := Lib.hid hr
        go_enter Try.func17, Try.ntmps17
        go_wp2_with fail
        refine CK.out.mono ?_
        rintro e w3 ⟨rfl, hw⟩
        subst hw
        go_wp2_with fail
        exact bodyPost_ret (v := .tuple #[.string ⟨#[]⟩, .int .i64 2]) (by simp only [results, Try.results17]; go_simp) rfl (RetR.mk hr.out.symm rfl (G.refl _))
      by_cases h2 : c < 0
      · rw [if_pos (.inr (.inl h2))] at hr
        replace hr := Lib.hid hr
        go_enter Try.func17, Try.ntmps17
        go_wp2_with fail
        refine CK.out.mono ?_
        rintro e w3 ⟨rfl, hw⟩
        subst hw
        go_wp2_with fail
        exact bodyPost_ret (v := .tuple #[.string ⟨#[]⟩, .int .i64 2]) (by simp only [results, Try.results17]; go_simp) rfl (RetR.mk hr.out.symm rfl (G.refl _))
      by_cases h3 : (r.data.length : Int) < a
      · rw [if_pos (.inr (.inr (.inl h3)))] at hr
        replace hr := Lib.hid hr
        go_enter Try.func17, Try.ntmps17
        go_wp2_with fail
        refine CK.out.mono ?_
        rintro e w3 ⟨rfl, hw⟩
        subst hw
        go_wp2_with fail
        exact bodyPost_ret (v := .tuple #[.string ⟨#[]⟩, .int .i64 2]) (by simp only [results, Try.results17]; go_simp) rfl (RetR.mk hr.out.symm rfl (G.refl _))
      have hw1 : IntKind.i64.wrap ((r.data.length : Int) - a) = (r.data.length : Int) - a := IntWalk.i64_in _ (by omega)
      by_cases h4 : (r.data.length : Int) - a < c
      · rw [if_pos (.inr (.inr (.inr h4)))] at hr
        replace hr := Lib.hid hr
        go_enter Try.func17, Try.ntmps17
        go_wp2_with fail
        refine CK.out.mono ?_
        rintro e w3 ⟨rfl, hw⟩
        subst hw
        go_wp2_with fail
        exact bodyPost_ret (v := .tuple #[.string ⟨#[]⟩, .int .i64 2]) (by simp only [results, Try.results17]; go_simp) rfl (RetR.mk hr.out.symm rfl (G.refl _))
      rw [if_neg (fun hh => by rcases hh with hh | hh | hh | hh; exact h1 hh; exact h2 hh; exact h3 hh; exact h4 hh)] at hr
      obtain ⟨i, rfl⟩ : ∃ i : Nat, a = (i : Int) := ⟨a.toNat, by omega⟩
      obtain ⟨k, rfl⟩ : ∃ k : Nat, c = (k : Int) := ⟨c.toNat, by omega⟩
      have hw2 : IntKind.i64.wrap ((i : Int) + (k : Int)) = (i : Int) + (k : Int) := IntWalk.i64_in _ (by omega)
      obtain ⟨hc1, hc2⟩ := hcap
      unfold maxLen at hc2
      have g1 : (i : Int) + (k : Int) ≤ (r.cap : Int) := by omega
      have g2 : (0 : Int) ≤ (i : Int) + (k : Int) := by omega
      have g3 : (i : Int) ≤ (i : Int) + (k : Int) := by omega
      have g4 : i + k ≤ r.cap := by omega
      rcases hrow.2 with ⟨hnil, h0⟩ | ⟨g, cap, cur, hval, _, hgh, _, _, _, _⟩
      · obtain ⟨hA, hcp⟩ : r.A = none ∧ r.cap = 0 := by
          injection hnil with e1 e2 e3
          exact ⟨e1, e3⟩
        rw [hA, hcp, h0] at k0
        obtain rfl : i = 0 := by omega
        obtain rfl : k = 0 := by omega
        have hcv := conv_none w
        have hz : (r.data.drop ((0 : Nat) : Int).toNat).take ((0 : Nat) : Int).toNat = [] := by simp
        rw [hz] at hr
        replace hr := Lib.hid hr
        rw [h0] at h3 h4
        clear hnil hrow hs1 hc1 hc2 g1 g2 g3 g4 hw1 hw2
        go_enter Try.func17, Try.ntmps17
        go_wp2_with fail
        refine CK.out.mono ?_
        rintro e w3 ⟨rfl, hw⟩
        subst hw
        go_wp2_with fail
        exact bodyPost_ret (v := .tuple #[.string ⟨#[]⟩, .int .i64 0]) (by simp only [results, Try.results17]; go_simp) rfl (RetR.mk hr.out.symm rfl (G.refl _))
      · obtain ⟨hA, -, hcp⟩ : r.A = some ⟨g, 0, none⟩ ∧ r.data.length = r.data.length ∧ r.cap = cap := by
          injection hval with e1 e2 e3
          exact ⟨e1, e2, e3⟩
        subst hcp
        rw [hA] at k0 hrow
        have hsl := Sl.of_own hrow
        rw [Nat.mul_one] at hsl
        clear hval hgh
        have hll : ((r.data.drop i).take k).length = k := by rw [List.length_take, List.length_drop]; omega
        have hcell : ∀ j (hj : j < ((r.data.drop i).take k).length), w.cell? (Addr.add ⟨g, i, none⟩ j) = some (.int .u8 ((((r.data.drop i).take k)[j]).toNat : Int)) := by
          intro j hj
          obtain ⟨b', off', e', _, hcs⟩ := hsl.2 (by omega)
          cases e'
          have hb : r.data[i + j]? = some (((r.data.drop i).take k)[j]) := by
            rw [List.getElem_take, List.getElem_drop]
            exact List.getElem?_eq_getElem _
          have := hcs _ _ (u8s_get hb)
          rw [Nat.zero_add] at this
          have e : Addr.add ⟨g, i, none⟩ j = ⟨g, i + j, none⟩ := by unfold Addr.add; split <;> simp_all
          rw [e]
          exact this
        have hcv := fun cp => run_convert_bytes_back (P := Try.prog) w 39 9 5 ⟨g, i, none⟩ cp ((r.data.drop i).take k) Try.underlying39 Try.underlying5 Try.underlying9 hcell
        rw [hll] at hcv
        have htn : (r.data.drop (i : Int).toNat).take (k : Int).toNat = (r.data.drop i).take k := by rw [Int.toNat_natCast, Int.toNat_natCast]
        rw [htn] at hr
        replace hr := Lib.hid hr
        generalize (r.data.drop i).take k = l at *
        clear hcell hsl htn hrow
        by_cases hci : r.cap = i
        · obtain rfl : k = 0 := by omega
          obtain rfl : l = [] := List.eq_nil_of_length_eq_zero hll
          have hcv0 := run_convert_bytes_back (P := Try.prog) w 39 9 5 ⟨g, 0, none⟩ 0 [] Try.underlying39 Try.underlying5 Try.underlying9 (fun j hj => absurd hj (by simp))
          rw [List.length_nil] at hcv0
          clear hcv hll
          go_enter Try.func17, Try.ntmps17
          go_wp2_with fail
          refine CK.out.mono ?_
          rintro e w3 ⟨rfl, hw⟩
          subst hw
          go_wp2_with fail
          exact bodyPost_ret (v := .tuple #[.string ⟨#[]⟩, .int .i64 0]) (by simp only [results, Try.results17]; go_simp) rfl (RetR.mk hr.out.symm rfl (G.refl _))
        · clear hll
          go_enter Try.func17, Try.ntmps17
          go_wp2_with fail
          refine CK.out.mono ?_
          rintro e w3 ⟨rfl, hw⟩
          subst hw
          go_wp2_with fail
          exact bodyPost_ret (v := .tuple #[.string ⟨l.toArray⟩, .int .i64 0]) (by simp only [results, Try.results17]; go_simp) rfl (RetR.mk hr.out.symm rfl (G.refl _))
  · rw [hd] at CK hr
    rw [if_pos rfl] at hr
    replace hd := Lib.hid hd
    replace hr := Lib.hid hr
    clear hR hlc
    go_enter Try.func17, Try.ntmps17
    go_wp2_with fail
    refine CK.out.mono ?_
    rintro e w3 ⟨rfl, hw⟩
    subst hw
    go_wp2_with fail
    exact bodyPost_ret (v := .tuple #[.string ⟨#[]⟩, .int .i64 31]) (by simp only [results, Try.results17]; go_simp) rfl (RetR.mk hr.out.symm rfl (G.refl _))
end
end Go.Proofs.Ytphjgembpcikdaa
