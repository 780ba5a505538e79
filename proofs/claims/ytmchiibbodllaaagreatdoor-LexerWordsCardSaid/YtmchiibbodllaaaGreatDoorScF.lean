/- charset: Decode, Encode; lexer: symbol. -/
import Derived.Test.YtmchiibbodllaaaGreatDoorScC
import Derived.Test.YtmchiibbodllaaaGreatDoorLEnv
namespace Go.Proofs.YtmchiibbodllaaaGreatDoor
set_option linter.unusedVariables false
set_option linter.unnecessarySimpa false
set_option linter.unusedSimpArgs false
open Go.RowKit

theorem ext_drop (s : ByteArray) (i : Nat) : s.extract i s.size = B (s.data.toList.drop i) := B_of (drop_ext s i)
section
variable {w : World}
set_option maxRecDepth 20000 in set_option maxHeartbeats 1000000 in
theorem decode_any (hE : Env w) (s : ByteArray) (i : Nat) (hi : i < s.size) :
    Calls Tryz.prog 81 #[.string s, .int .i64 i] w fun e w' => ((decBad (s.data.toList.drop i) → e = .returned (.tuple #[.int .i64 0, .int .i64 0, .int .i64 16])) ∧ (¬ decBad (s.data.toList.drop i) → e = .returned (.tuple #[.int .i64 (dec (s.data.toList.drop i)).1, .int .i64 (dec (s.data.toList.drop i)).2, .int .i64 0]))) ∧ Below w.heap.size w w' := by
  have DR := Lib.hid (fun wx hT => Tryz.utf8_DecodeRuneInString (B (s.data.toList.drop i)) wx hT)
  rw [← ext_drop] at DR
  have HE := Lib.hid hE
  have hd : dec (s.data.toList.drop i) = Lib.decodeGo (s.extract i s.size) := by rw [ext_drop]; rfl
  have hbd : (dec (s.data.toList.drop i)).1 ≤ 1114111 := by
    have hne : s.data.toList.drop i ≠ [] := fun e => by have := congrArg List.length e; rw [List.length_drop] at this; simp at this; have : s.data.toList.length = s.size := rfl; omega
    have hs : (B (s.data.toList.drop i)).size ≠ 0 := by rw [B_size]; exact fun e => hne (List.eq_nil_of_length_eq_zero e)
    unfold dec Lib.decodeGo
    rw [if_neg hs, Lib.decode_at]
    have k0 := ((B (s.data.toList.drop i)).get! 0).toNat_lt
    unfold Lib.decodeN
    repeat' split
    all_goals (simp only; omega)
  unfold decBad
  rw [hd] at hbd ⊢
  obtain ⟨⟨p, n⟩, hpn⟩ : ∃ q, Lib.decodeGo (s.extract i s.size) = q := ⟨_, rfl⟩
  rw [hpn] at DR hbd ⊢
  dsimp only at DR hbd ⊢
  have hi1 : (i : Int) < (s.size : Int) := by omega
  have hi2 : (i : Int) ≤ (s.size : Int) := by omega
  have hw1 : IntKind.i64.wrap (p : Int) = (p : Int) := IntWalk.i64_in _ (by omega)
  have hw2 : IntKind.i32.wrap (p : Int) = (p : Int) := IntWalk.i32_in _ (by omega)
  obtain ⟨kp, hkp⟩ : ∃ k, ((p : Int) == 65533) = k := ⟨_, rfl⟩
  have ep : p = 65533 ↔ kp = true := by rw [← hkp]; simp; omega
  rw [ep]
  clear ep hpn hd
  cases kp
  · go_enter Tryz.func81, Tryz.ntmps81
    go_wp2_with fail
    go_at_call 108
    (with_reducible refine (DR.out _ (Env.tabs HE.out)).mono ?_)
    rintro e1 w1 ⟨rfl, hb1⟩
    go_wp2_with fail
    exact bodyPost_ret (v := .tuple #[.int .i64 p, .int .i64 n, .int .i64 0]) (by simp only [results, Tryz.results81]; go_simp) rfl ⟨⟨fun h => absurd h.1 (by simp), fun _ => rfl⟩, hb1⟩
  · by_cases hn : n ≤ 1
    · have hn' : (n : Int) ≤ 1 := by omega
      go_enter Tryz.func81, Tryz.ntmps81
      go_wp2_with fail
      go_at_call 108
      (with_reducible refine (DR.out _ (Env.tabs HE.out)).mono ?_)
      rintro e1 w1 ⟨rfl, hb1⟩
      go_wp2_with fail
      exact bodyPost_ret (v := .tuple #[.int .i64 0, .int .i64 0, .int .i64 16]) (by simp only [results, Tryz.results81]; go_simp) rfl ⟨⟨fun _ => rfl, fun h => absurd ⟨by simp, hn⟩ h⟩, hb1⟩
    · have hn' : ¬ (n : Int) ≤ 1 := by omega
      go_enter Tryz.func81, Tryz.ntmps81
      go_wp2_with fail
      go_at_call 108
      (with_reducible refine (DR.out _ (Env.tabs HE.out)).mono ?_)
      rintro e1 w1 ⟨rfl, hb1⟩
      go_wp2_with fail
      exact bodyPost_ret (v := .tuple #[.int .i64 p, .int .i64 n, .int .i64 0]) (by simp only [results, Tryz.results81]; go_simp) rfl ⟨⟨fun h => absurd h.2 hn, fun _ => rfl⟩, hb1⟩
set_option maxRecDepth 20000 in set_option maxHeartbeats 400000 in
theorem isPoint_any (p : Int) (w : World) : Calls Tryz.prog 141 #[.int .i64 p] w fun e w' => e = .returned (.bool (isPt p)) ∧ w' = w := by
  have key : ∀ v, isPt p = v → Calls Tryz.prog 141 #[.int .i64 p] w fun e w' => e = .returned (.bool v) ∧ w' = w := by
    intro v hv
    unfold isPt at hv
    go_enter Tryz.func141, Tryz.ntmps141
    by_cases h1 : 0 ≤ p <;> by_cases h2 : p ≤ 1114111 <;> by_cases h3 : p < 55296 <;> by_cases h4 : 57343 < p <;> simp only [h1, h2, h3, h4, decide_true, decide_false, Bool.and_self, Bool.or_false, Bool.and_true, Bool.and_false, Bool.or_true, Bool.false_or, Bool.or_self, Bool.false_and, Bool.true_and] at hv <;> subst hv <;> (go_wp2_with fail) <;> go_ret <;> exact ⟨rfl, rfl⟩
  exact key _ rfl
set_option maxRecDepth 20000 in set_option maxHeartbeats 400000 in
theorem encode_any (p : Int) (w : World) (hp : 0 ≤ p ∧ p < 2147483648) : Calls Tryz.prog 107 #[.int .i64 p] w fun e w' => e = .returned (.tuple (if isPt p = true then #[.string (Utf8.encode p), .int .i64 0] else #[.string ⟨#[]⟩, .int .i64 2])) ∧ w' = w := by
  have IP := Lib.hid (fun wx => isPoint_any p wx)
  obtain ⟨v, hv⟩ : ∃ v, isPt p = v := ⟨_, rfl⟩
  rw [hv] at IP ⊢
  have hw : IntKind.i32.wrap p = p := IntWalk.i32_in _ (by omega)
  clear hv
  cases v
  · go_enter Tryz.func107, Tryz.ntmps107
    go_wp2_with fail
    go_at_call 141
    (with_reducible refine (IP.out _).mono ?_)
    rintro e1 w1 ⟨rfl, rfl⟩
    go_wp2_with fail
    exact bodyPost_ret (v := .tuple #[.string ⟨#[]⟩, .int .i64 2]) (by simp only [results, Tryz.results107]; go_simp) rfl ⟨rfl, rfl⟩
  · go_enter Tryz.func107, Tryz.ntmps107
    go_wp2_with fail
    go_at_call 141
    (with_reducible refine (IP.out _).mono ?_)
    rintro e1 w1 ⟨rfl, rfl⟩
    go_wp2_with fail
    exact bodyPost_ret (v := .tuple #[.string (Utf8.encode p), .int .i64 0]) (by simp only [results, Tryz.results107]; go_simp) rfl ⟨rfl, rfl⟩
end
end Go.Proofs.YtmchiibbodllaaaGreatDoor
