/- segment.Log: Read, Segments, Durable. -/
import Derived.Test.YtbafnlccpbonmaaGreatDoorGMl
import Derived.Test.YtbafnlccpbonmaaGreatDoorGMe
import Derived.Test.YtbafnlccpbonmaaGreatDoorGMg
namespace Go.Proofs.YtbafnlccpbonmaaGreatDoor
set_option linter.unusedVariables false
set_option linter.unnecessarySimpa false
set_option linter.unusedSimpArgs false
open Go.RowKit

set_option maxRecDepth 20000 in set_option maxHeartbeats 4000000 in
theorem readcmp_any (a : Nat) (v : Value) (k : Int) (ha : a ≤ 1000000000) (hk : 0 ≤ k ∧ k ≤ 1000000000) (w : World) : Calls Tryz.prog 74 #[.agg #[.int .i64 (a : Int), v], .int .i64 k] w fun e w' => e = .returned (.int .i64 ((a : Int) - k)) ∧ Below w.heap.size w w' := by
  have h1 : IntKind.i64.wrap ((a : Int) - k) = (a : Int) - k := IntWalk.i64_in _ (by omega)
  go_enter Tryz.func74, Tryz.ntmps74
  go_wp2_with fail
  go_ret
  exact ⟨rfl, (G.refl w).alloc (Nat.le_refl _) _⟩
section
variable {w : World} {P : Option Addr} {c N : Nat} {rs : List PR} {k : Int}
set_option maxRecDepth 20000 in set_option maxHeartbeats 4000000 in
theorem bsearch_any (h : OwnO w 0 2 P rs.length c (rowP rs)) (hN : rs.length = N) (hNm : N ≤ 1000000) (hf : ∀ r ∈ rs, r.first ≤ 1000000000) (hk : 0 ≤ k ∧ k ≤ 1000000000) :
    Calls Tryz.prog 73 #[.slice P N c, .int .i64 k, .func (.func 74) #[] #[]] w fun e w' => Below w.heap.size w w' ∧ ∃ i : Nat, i ≤ N ∧ (∀ j r, j + 1 = i → rs[j]? = some r → (r.first : Int) < k) ∧ (∀ r, rs[i]? = some r → k ≤ (r.first : Int)) ∧
      e = .returned (.tuple #[.int .i64 (i : Int), .bool (match rs[i]? with | some r => decide ((r.first : Int) = k) | none => false)]) := by
  have HR := Lib.hid h
  have HF := Lib.hid hf
  clear h hf
  go_enter Tryz.func73, Tryz.ntmps73
  go_wp2_with fail
  go_loopw [9, 10] (fun iv jv wr => ∃ i j : Nat, i ≤ j ∧ j ≤ N ∧ iv = .int .i64 (i : Int) ∧ jv = .int .i64 (j : Int) ∧ Hid (∀ q r, q + 1 = i → rs[q]? = some r → (r.first : Int) < k) ∧ Hid (∀ r, rs[j]? = some r → k ≤ (r.first : Int)) ∧ Hid (Below w.heap.size w wr)) (fun iv jv _ => (intOf jv - intOf iv).toNat)
  case atStart => exact ⟨0, N, by omega, by omega, rfl, rfl, Lib.hid (fun q r h => by omega), Lib.hid (fun r h => by
    rw [List.getElem?_eq_none (by omega)] at h
    cases h), Lib.hid (G.refl w)⟩
  case round =>
    obtain ⟨i, j, hij, hjN, rfl, rfl, HI, HJ, HG⟩ := hrel
    by_cases hlt : i < j
    · have hlt' : (i : Int) < (j : Int) := by omega
      obtain ⟨s, hs⟩ : ∃ s, i + j = s := ⟨_, rfl⟩
      obtain ⟨m, hm⟩ : ∃ m, s / 2 = m := ⟨_, rfl⟩
      have q1 : IntKind.i64.wrap ((i : Int) + (j : Int)) = (s : Int) := by rw [IntWalk.i64_in _ (by omega)]; omega
      have q2 : IntKind.u64.wrap (s : Int) = (s : Int) := IntWalk.u64_in _ (by omega)
      have q3 : (s : Int) / 2 = (m : Int) := by rw [← hm]; rfl
      have q4 : IntKind.u64.wrap (m : Int) = (m : Int) := IntWalk.u64_in _ (by omega)
      have q5 : IntKind.i64.wrap (m : Int) = (m : Int) := IntWalk.i64_in _ (by omega)
      have q6 : IntKind.i64.wrap ((m : Int) + 1) = ((m + 1 : Nat) : Int) := by rw [IntWalk.i64_in _ (by omega)]; omega
      have hmN : m < N := by omega
      have hmN' : (m : Int) < (N : Int) := by omega
      obtain ⟨r, hr⟩ : ∃ r, rs[m]? = some r := ⟨_, List.getElem?_eq_getElem (by omega)⟩
      obtain ⟨g, off, rfl, hgl, hgc⟩ := (HR.out.block HG.out.size fun ad ha => HG.out.block _ (HR.out.lt ha).1).ptr (by omega)
      have k0 := hgc (m * 2 + 0) (.int .i64 (r.first : Int)) (by rw [rowP_get rs m 0 r hr (by decide)]; rfl)
      have k1 := hgc (m * 2 + 1) r.val (by rw [rowP_get rs m 1 r hr (by decide)]; rfl)
      rw [Nat.add_zero] at k0
      rw [← Nat.add_assoc] at k1
      have hfr := HF.out r (List.mem_of_getElem? hr)
      have RC := Lib.hid (fun (wx : World) => readcmp_any r.first r.val k hfr hk wx)
      obtain ⟨fr, hfr2⟩ : ∃ f, r.first = f := ⟨_, rfl⟩
      obtain ⟨rv, hrv⟩ : ∃ f, r.val = f := ⟨_, rfl⟩
      rw [hfr2] at k0 RC hfr
      rw [hrv] at k1 RC
      have him : i ≤ m ∧ m < j := by omega
      clear hgc hs hm hrv
      have lt0 := cell_lt k0
      by_cases hc : (fr : Int) < k
      · have hc' : (fr : Int) - k < 0 := by omega
        have HI2 : Hid (∀ q r, q + 1 = m + 1 → rs[q]? = some r → (r.first : Int) < k) := Lib.hid (fun q r' e h9 => by
          obtain rfl : q = m := by omega
          rw [hr] at h9
          cases h9
          rw [hfr2]
          exact hc)
        clear hr hfr2
        go_wp2_with fail
        (with_reducible refine (RC.out _).mono ?_)
        rintro e w2 ⟨rfl, hb2⟩
        clear k0 k1 lt0 RC
        go_wp2_with fail
        refine ⟨⟨m + 1, j, by omega, hjN, rfl, rfl, HI2, HJ, Lib.hid (G.trans HG.out hb2)⟩, by simp [intOf]; omega⟩
      · have hc' : ¬ (fr : Int) - k < 0 := by omega
        have HJ2 : Hid (∀ r, rs[m]? = some r → k ≤ (r.first : Int)) := Lib.hid (fun r' h9 => by
          rw [hr] at h9
          cases h9
          rw [hfr2]
          omega)
        clear hr hfr2
        go_wp2_with fail
        (with_reducible refine (RC.out _).mono ?_)
        rintro e w2 ⟨rfl, hb2⟩
        clear k0 k1 lt0 RC
        go_wp2_with fail
        refine ⟨⟨i, m, by omega, by omega, rfl, rfl, HI, HJ2, Lib.hid (G.trans HG.out hb2)⟩, by simp [intOf]; omega⟩
    · obtain rfl : i = j := by omega
      have hlt' : ¬ (i : Int) < (i : Int) := by omega
      by_cases hn : i < N
      · have hn' : (i : Int) < (N : Int) := by omega
        obtain ⟨r, hr⟩ : ∃ r, rs[i]? = some r := ⟨_, List.getElem?_eq_getElem (by omega)⟩
        obtain ⟨g, off, rfl, hgl, hgc⟩ := (HR.out.block HG.out.size fun ad ha => HG.out.block _ (HR.out.lt ha).1).ptr (by omega)
        have k0 := hgc (i * 2 + 0) (.int .i64 (r.first : Int)) (by rw [rowP_get rs i 0 r hr (by decide)]; rfl)
        have k1 := hgc (i * 2 + 1) r.val (by rw [rowP_get rs i 1 r hr (by decide)]; rfl)
        rw [Nat.add_zero] at k0
        rw [← Nat.add_assoc] at k1
        have hfr := HF.out r (List.mem_of_getElem? hr)
        have RC := Lib.hid (fun (wx : World) => readcmp_any r.first r.val k hfr hk wx)
        have hres : Hid ((match rs[i]? with | some r => decide ((r.first : Int) = k) | none => false) = decide ((r.first : Int) - k = 0)) := by
          unfold Hid
          rw [hr]
          exact decide_eq_decide.2 (by omega)
        obtain ⟨fr, hfr2⟩ : ∃ f, r.first = f := ⟨_, rfl⟩
        obtain ⟨rv, hrv⟩ : ∃ f, r.val = f := ⟨_, rfl⟩
        rw [hfr2] at k0 RC hfr hres
        rw [hrv] at k1 RC
        have lt0 := cell_lt k0
        clear hgc hr hfr2 hrv
        go_wp2_with fail
        (with_reducible refine (RC.out _).mono ?_)
        rintro e w2 ⟨rfl, hb2⟩
        clear k0 k1 lt0 RC
        go_wp2_with fail
        refine bodyPost_ret (v := .tuple #[.int .i64 (i : Int), .bool ((fr : Int) - k == 0)]) (by simp only [results, Tryz.results73]; go_simp) rfl ⟨G.trans HG.out hb2, i, hjN, HI.out, HJ.out, ?_⟩
        rw [hres.out]
        rfl
      · have hn' : ¬ (i : Int) < (N : Int) := by omega
        have hres : Hid ((match rs[i]? with | some r => decide ((r.first : Int) = k) | none => false) = false) := by
          unfold Hid
          rw [List.getElem?_eq_none (by omega)]
        go_wp2_with fail
        refine bodyPost_ret (v := .tuple #[.int .i64 (i : Int), .bool false]) (by simp only [results, Tryz.results73]; go_simp) rfl ⟨HG.out, i, hjN, HI.out, HJ.out, ?_⟩
        rw [hres.out]
end
end Go.Proofs.YtbafnlccpbonmaaGreatDoor
