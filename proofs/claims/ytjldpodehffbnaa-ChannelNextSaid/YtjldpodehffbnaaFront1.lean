/- Frontier of a list of channels with one nil, and of a list with nothing else. -/
import Derived.Test.YtjldpodehffbnaaChan6
import Derived.Test.YtjldpodehffbnaaItem2
import Derived.Lib.SliceRun
namespace Go.Proofs.Ytjldpodehffbnaa
set_option linter.unusedVariables false
set_option linter.unnecessarySimpa false
set_option linter.unusedSimpArgs false
open Go.RowKit

/-- A row that the call owns, to be written. -/
theorem Bx.of_own {w : World} {base : Nat} {e : TypeId} {A : Option Addr} {n c : Nat} {xs : List Value} (h : w.ownsRow base e 1 (.slice A n c) n xs) (hn : 0 < n) : ∃ g, A = some ⟨g, 0, none⟩ ∧ base ≤ g ∧ Bx w g xs := by
  have hl := h.1
  rcases h.2 with ⟨_, h0⟩ | ⟨g, cap, cur, hv, hg, hh, hr⟩
  · omega
  · have hs := Sl.of_own1 h
    cases hv
    refine ⟨g, rfl, hg, ?_, fun i u hu => ⟨?_, ?_⟩⟩
    · rcases Nat.lt_or_ge g w.heap.size with h' | h'
      · exact h'
      · rw [Array.getElem?_eq_none h'] at hh; cases hh
    · obtain ⟨b, off, e, _, hc⟩ := hs.2 hn
      simp only [Option.some.injEq, Addr.mk.injEq, and_true] at e
      obtain ⟨rfl, rfl⟩ := e
      have := hc i u hu
      rwa [Nat.zero_add] at this
    · simp [World.frozen?, hh]
/-- An own copy of a list of channels. -/
def RetLW (l : List CP) (w : World) (e : Ending) (w' : World) : Prop :=
  ∃ A c, e = .returned (.slice A l.length c) ∧ Sl w' A l.length (chs l) ∧ l.length ≤ c ∧ c ≤ maxLen ∧ Below w.heap.size w w' ∧ (0 < l.length → ∃ g, A = some ⟨g, 0, none⟩ ∧ w.heap.size ≤ g ∧ Bx w' g (chs l))
set_option maxRecDepth 20000 in set_option maxHeartbeats 400000 in
theorem cloneW_any {w : World} {A : Option Addr} {n c : Nat} {l : List CP} (hx : Sl w A n (chs l)) (hnc : n ≤ c) (hc : c ≤ maxLen) (hn : n * 8 ≤ 140737488355328) :
    Calls Try.prog 57 #[.slice A n c] w (RetLW l w) := by
  obtain ⟨i0, hi0, hz0, hz1, hz2⟩ := info_parts Try.infoP
  obtain rfl := hx.lenC
  have hm : l.length ≤ maxLen := Nat.le_trans hnc hc
  have Hm : Hid (l.length ≤ maxLen ∧ l.length * 8 ≤ 140737488355328) := ⟨hm, hn⟩
  clear hm hn
  rcases A with _ | ad
  · have he := fun wx => Lib.run_eql_slice_nil (P := Try.prog) wx 64 45 none 0 c 0 0 Try.underlying64
    have h0 : l = [] := by
      rcases l with _ | ⟨x, l⟩
      · rfl
      · obtain ⟨b, off, hA, _⟩ := hx.2 (by simp)
        cases hA
    subst h0
    go_enter Try.func57, Try.ntmps57
    go_wp2
    go_ret
    exact ⟨none, 0, rfl, Sl.nil _ _, Nat.le_refl _, Nat.zero_le _, G.refl _, fun h => absurd h (by simp)⟩
  · have he := fun wx => Lib.run_eql_slice_nil (P := Try.prog) wx 64 45 (some ad) l.length c 0 0 Try.underlying64
    go_enter Try.func57, Try.ntmps57
    go_wp2_with (at_builtin; refine wpList_app _ rfl (.tmp 5) (.tmp 6) _ rfl w.heap.size 45 i0 _ 1 8 Try.underlying64 hi0 hz0 hz1 hz2 rfl (by omega) (.slice (some ⟨w.heap.size, 0, none⟩) 0 0) 0 [] rfl (World.ownsRow_made w #[] 0 (Nat.le_refl _) (Nat.zero_le _) rfl) (some ad) l.length c (chs l) rfl (by rw [Nat.mul_one]; exact hx.alloc _) (oneCell_chs _) (by have := Hm.out.1; omega) (by have := Hm.out.2; omega) (by simp) ?_; intro A' c' w' hown hc1 hc2 hg)
    go_ret
    have ho : w'.ownsRow w.heap.size 45 1 (.slice A' l.length c') l.length (chs l) := by simpa using hown
    exact ⟨A', c', by simp, Sl.of_own1 ho, by simpa using hc1, hc2, (G.alloc (G.refl w) _).grown hg (by simp) (by simp [Value.ownBlock]), fun hp => Bx.of_own ho hp⟩
set_option maxRecDepth 20000 in set_option maxHeartbeats 400000 in
theorem isnil0_any (w : World) : Calls Try.prog 58 #[.pointer none] w fun e w' => e = .returned (.bool true) ∧ w' = w := by
  go_enter Try.func58, Try.ntmps58
  go_wp2
  go_ret
  exact ⟨rfl, rfl⟩
set_option maxRecDepth 20000 in set_option maxHeartbeats 400000 in
theorem idx1_any {w : World} {P : Option Addr} {n c : Nat} {a b : List CP} (hl : Sl w P n (chs (a ++ none :: b))) (hn : n ≤ maxLen) (hs : ∀ x ∈ a, x ≠ none) :
    Calls Try.prog 72 #[.slice P n c, .func (.func 58) #[] #[]] w fun e' w' => e' = .returned (.int .i64 a.length) ∧ w' = w := by
  unfold maxLen at hn
  have hlen := hl.lenC
  have hlen' : a.length < n := by simp at hlen; omega
  clear hlen
  go_enter Try.func72, Try.ntmps72
  go_wp2
  go_loop [8] (fun i => ∃ k : Nat, k ≤ a.length ∧ i = .int .i64 k) (fun i => n - (intOf i).toNat)
  case atStart => exact ⟨0, Nat.zero_le _, rfl⟩
  case round =>
    obtain ⟨k, hk, rfl⟩ := hrel
    by_cases hlt : k < a.length
    · obtain ⟨bx, ox, x, rfl, hbx, hxk, hcx⟩ := hl.atC (show k < n by omega)
      rw [List.getElem?_append_left hlt] at hxk
      obtain ⟨⟨b, r, c⟩, rfl⟩ : ∃ y, x = some y := by
        rcases x with _ | y
        · exact absurd rfl (hs none (List.mem_of_getElem? hxk))
        · exact ⟨y, rfl⟩
      replace hcx : w.cell? ⟨bx, ox + k, none⟩ = some (.pointer (some ⟨b, 0, none⟩)) := hcx
      have hkn : k < n := by omega
      clear hxk
      go_wp2_with (go_at_call 58; (with_reducible refine (isnil_any _ b).mono ?_); rintro e' w2 ⟨rfl, rfl⟩)
      go_round
      case rel => exact ⟨k+1, by omega, by go_num⟩
      case measure => simp [intOf]; omega
    · obtain rfl : k = a.length := by omega
      obtain ⟨bx, ox, x, rfl, hbx, hxk, hcx⟩ := hl.atC hlen'
      rw [List.getElem?_append_right (Nat.le_refl _), Nat.sub_self] at hxk
      cases hxk
      replace hcx : w.cell? ⟨bx, ox + a.length, none⟩ = some (.pointer none) := hcx
      go_wp2_with (go_at_call 58; (with_reducible refine (isnil0_any _).mono ?_); rintro e' w2 ⟨rfl, rfl⟩)
      go_ret
      exact ⟨rfl, rfl⟩
end Go.Proofs.Ytjldpodehffbnaa
