/- slices.stableCmpFunc and SortStableFunc: a row of stamps in order. -/
import Derived.Test.YtjldpodehffbnaaSo6
namespace Go.Proofs.Ytjldpodehffbnaa
set_option linter.unusedVariables false
set_option linter.unnecessarySimpa false
set_option linter.unusedSimpArgs false
open Go.RowKit

/-- Blocks of bs places, each in order, from block lo on, below place hi. -/
def Bk (F : Sq) (bs lo hi : Nat) : Prop := ∀ i, lo ≤ i → i * bs < hi → Srt F (i * bs) (min (i * bs + bs) hi)
theorem Bk.none_ (F : Sq) (bs lo : Nat) : Bk F bs lo 0 := fun i _ h => by omega
theorem mul_step {i k b : Nat} (h : i < k) : i * b + b ≤ k * b := by
  have := Nat.mul_le_mul_right b (show i + 1 ≤ k from h)
  rwa [Nat.add_mul, Nat.one_mul] at this
theorem lt_of_mul {i k b : Nat} (h : i * b < k * b) : i < k := by
  rcases Nat.lt_or_ge i k with h' | h'
  · exact h'
  · have := Nat.mul_le_mul_right b h'; omega
theorem Bk.grow {F G : Sq} {bs k a hi : Nat} (h : Bk F bs 0 a) (ha : a = k * bs) (hhi : hi ≤ a + bs) (hlo : a ≤ hi) (r : Re a hi F G) (s : Srt G a hi) : Bk G bs 0 hi := fun i _ hi' => by
  rcases Nat.lt_or_ge i k with hik | hik
  · have h1 := mul_step (b := bs) hik
    have h2 := h i (Nat.zero_le _) (by
      rcases Nat.eq_zero_or_pos bs with h0 | h0
      · subst h0; simp at hi' ha; omega
      · omega)
    rw [Nat.min_eq_left (by omega)] at h2
    rw [Nat.min_eq_left (by omega)]
    exact h2.congr fun x _ hx => r.out (.inl (by omega))
  · rcases Nat.lt_or_ge k i with hki | hki
    · have h1 := mul_step (b := bs) hki
      omega
    · obtain rfl : i = k := by omega
      rw [← ha, Nat.min_eq_right (by omega)]
      exact s
theorem Bk.rest {F G : Sq} {bs lo lo' n hi : Nat} (h : Bk F bs lo n) (hl : lo ≤ lo') (r : ∀ x, lo' * bs ≤ x → G x = F x) : Bk G bs lo' n := fun i hi hin => by
  have := Nat.mul_le_mul_right bs hi
  exact (h i (by omega) hin).congr fun x hx _ => r x (by omega)

set_option maxRecDepth 20000 in set_option maxHeartbeats 2000000 in
theorem stable_any {w : World} {P : Option Addr} {B n c : Nat} {f : Sq} (h : RowS w P B n f) (hn : n ≤ 100000) (hc : n ≤ c) :
    Calls Try.prog 73 #[.slice P n c, .int .i64 (n : Nat), cmpF] w (Merged w P B n 0 n f) := by
  replace h := Lib.hid h
  go_enter Try.func73, Try.ntmps73
  go_wp2_with fail
  go_loopw [7, 8] (fun av bv wr => ∃ (k a : Nat) (F : Sq), a = k * 20 ∧ a ≤ n ∧ av = .int .i64 a ∧ bv = .int .i64 (a + 20 : Nat) ∧ RowS wr P B n F ∧ Kp B w wr ∧ Re 0 n f F ∧ Bk F 20 0 a) (fun _ bv _ => n + 21 - (intOf bv).toNat)
  case atStart => exact ⟨0, 0, f, rfl, Nat.zero_le _, rfl, rfl, h.out, Kp.refl _ _, Re.refl _ _ _, Bk.none_ _ _ _⟩
  case round =>
    obtain ⟨k, a, F, hak, han, rfl, rfl, hr, hk, hre, hbk⟩ := hrel
    clear h
    obtain ⟨b, hb⟩ : ∃ b, a + 20 = b := ⟨_, rfl⟩
    rw [hb]
    replace hak := Lib.hid hak
    by_cases hbn : b ≤ n
    · have hc1 := insertion_any (c := c) hr (show a ≤ b by omega) hbn hn hc
      replace hk := Lib.hid hk
      replace hre := Lib.hid hre
      replace hbk := Lib.hid hbk
      replace hb := Lib.hid hb
      have hbz : (b : Int) ≤ n := by omega
      go_wp2_with fail
      refine hc1.mono ?_
      rintro e1 w1 ⟨rfl, g, hr1, hk1, hre1, hs1⟩
      go_wp2_with fail
      go_roundw
      case rel => exact ⟨k + 1, b, g, by have := hb.out; have := hak.out; omega, hbn, rfl, by go_num, hr1, hk.out.trans hk1, hre.out.trans (hre1.wide (Nat.zero_le _) hbn), hbk.out.grow hak.out (by have := hb.out; omega) (by have := hb.out; omega) hre1 hs1⟩
      case measure => simp [intOf]; omega
    · have hc1 := insertion_any (c := c) hr han (Nat.le_refl n) hn hc
      have hbz : ¬ (b : Int) ≤ n := by omega
      replace hk := Lib.hid hk
      replace hre := Lib.hid hre
      replace hbk := Lib.hid hbk
      have hna : n ≤ a + 20 := by omega
      replace hb := Lib.hid hb
      go_wp2_with fail
      refine hc1.mono ?_
      rintro e1 w1 ⟨rfl, g, hr1, hk1, hre1, hs1⟩
      have hbk1 := hbk.out.grow hak.out hna han hre1 hs1
      replace hre1 := hre.out.trans (hre1.wide (Nat.zero_le _) (Nat.le_refl _))
      replace hk1 := hk.out.trans hk1
      replace hr := Lib.hid hr1
      replace hk := Lib.hid hk1
      replace hre := Lib.hid hre1
      replace hbk := Lib.hid hbk1
      clear hc1 hr1 hk1 hre1 hbk1 hs1 hak hb
      go_wp2_with fail
      go_loopw [6] (fun sv wr => ∃ (bs : Nat) (F : Sq), 20 ≤ bs ∧ bs ≤ 200000 ∧ sv = .int .i64 bs ∧ RowS wr P B n F ∧ Kp B w wr ∧ Re 0 n f F ∧ Bk F bs 0 n) (fun sv _ => n - (intOf sv).toNat)
      case atStart => exact ⟨20, g, by omega, by omega, rfl, hr.out, hk.out, hre.out, hbk.out⟩
      case round =>
        clear hr hk hre hbk
        obtain ⟨bs, F1, hbs1, hbs2, rfl, hr, hk, hre, hbk⟩ := hrel
        by_cases hlt : bs < n
        · have hltz : (bs : Int) < n := by omega
          obtain ⟨d, hd⟩ : ∃ d, 2 * bs = d := ⟨_, rfl⟩
          have hdz : 2 * (bs : Int) = d := by omega
          have f1 : IntKind.i64.wrap (2 * (bs : Int)) = (d : Int) := by rw [IntWalk.i64_in _ (by omega)]; omega
          have f2 : IntKind.i64.wrap ((bs : Int) * 2) = (d : Int) := by rw [IntWalk.i64_in _ (by omega)]; omega
          replace hr := Lib.hid hr
          replace hk := Lib.hid hk
          replace hre := Lib.hid hre
          replace hbk := Lib.hid hbk
          go_wp2_with fail
          go_loopw [7, 8] (fun av bv wr => ∃ (k a : Nat) (G : Sq), a = k * d ∧ a ≤ n ∧ av = .int .i64 a ∧ bv = .int .i64 (a + d : Nat) ∧ RowS wr P B n G ∧ Kp B w wr ∧ Re 0 n f G ∧ Bk G d 0 a ∧ Bk G bs (2 * k) n) (fun _ bv _ => n + d + 1 - (intOf bv).toNat)
          case atStart => exact ⟨0, 0, F1, by omega, Nat.zero_le _, rfl, by rw [Nat.zero_add], hr.out, hk.out, hre.out, Bk.none_ _ _ _, hbk.out⟩
          case round =>
            clear hr hk hre hbk
            obtain ⟨k1, a1, G1, hak, han1, rfl, rfl, hr, hk, hre, hbk, hbk2⟩ := hrel
            obtain ⟨b1, hb1⟩ : ∃ b1, a1 + d = b1 := ⟨_, rfl⟩
            obtain ⟨m1, hm1⟩ : ∃ m1, a1 + bs = m1 := ⟨_, rfl⟩
            rw [hb1]
            have e1 : 2 * k1 * bs = a1 := by rw [hak, ← hd, Nat.mul_comm 2 k1, Nat.mul_assoc]
            have e2 : (2 * k1 + 1) * bs = m1 := by rw [Nat.add_mul, Nat.one_mul, e1, hm1]
            have e3 : 2 * (k1 + 1) * bs = b1 := by rw [show 2 * (k1 + 1) = 2 * k1 + 1 + 1 by omega, Nat.add_mul, Nat.one_mul, e2]; omega
            have f3 : IntKind.i64.wrap ((a1 : Int) + (bs : Int)) = (m1 : Int) := by rw [IntWalk.i64_in _ (by omega)]; omega
            have f4 : IntKind.i64.wrap ((b1 : Int) + (d : Int)) = ((b1 + d : Nat) : Int) := by rw [IntWalk.i64_in _ (by omega)]; omega
            replace hak := Lib.hid hak
            replace e3 := Lib.hid e3
            by_cases hbn1 : b1 ≤ n
            · have s1 := hbk2 (2 * k1) (Nat.le_refl _) (by omega)
              have s2 := hbk2 (2 * k1 + 1) (by omega) (by omega)
              rw [e1, Nat.min_eq_left (by omega), hm1] at s1
              rw [e2, Nat.min_eq_left (by omega), show m1 + bs = b1 by omega] at s2
              have hc1 := symMerge_any hn hc _ _ G1 a1 m1 b1 (Nat.lt_succ_self _) hr (by omega) (by omega) hbn1 s1 s2
              have hbz1 : (b1 : Int) ≤ n := by omega
              replace hk := Lib.hid hk
              replace hre := Lib.hid hre
              replace hbk := Lib.hid hbk
              replace hbk2 := Lib.hid hbk2
              replace e1 := Lib.hid e1
              replace e2 := Lib.hid e2
              replace hb1 := Lib.hid hb1
              replace hm1 := Lib.hid hm1
              replace hd := Lib.hid hd
              clear s1 s2 hr
              go_wp2_with fail
              refine hc1.mono ?_
              rintro e4 w1 ⟨rfl, g2, hr1, hk1, hre1, hs1⟩
              go_wp2_with fail
              go_roundw
              case rel => exact ⟨k1 + 1, b1, g2, by rw [← e3.out, ← hd.out, Nat.mul_comm 2 (k1 + 1), Nat.mul_assoc], hbn1, rfl, by go_num, hr1, hk.out.trans hk1, hre.out.trans (hre1.wide (Nat.zero_le _) hbn1), hbk.out.grow hak.out (by have := hb1.out; omega) (by have := hb1.out; omega) hre1 hs1, hbk2.out.rest (hi := 0) (by omega) fun x hx => hre1.out (.inr (by rw [e3.out] at hx; exact hx))⟩
              case measure => have := hb1.out; have := hd.out; simp [intOf]; omega
            · have hbz1 : ¬ (b1 : Int) ≤ n := by omega
              by_cases hmn : m1 < n
              · have s1 := hbk2 (2 * k1) (Nat.le_refl _) (by omega)
                have s2 := hbk2 (2 * k1 + 1) (by omega) (by omega)
                rw [e1, Nat.min_eq_left (by omega), hm1] at s1
                rw [e2, Nat.min_eq_right (by omega)] at s2
                have hc1 := symMerge_any hn hc _ _ G1 a1 m1 n (Nat.lt_succ_self _) hr (by omega) hmn (Nat.le_refl n) s1 s2
                have hmz : (m1 : Int) < n := by omega
                replace hk := Lib.hid hk
                replace hre := Lib.hid hre
                replace hbk := Lib.hid hbk
                replace e1 := Lib.hid e1
                replace e2 := Lib.hid e2
                have hnb : n ≤ a1 + d := by omega
                replace hb1 := Lib.hid hb1
                replace hm1 := Lib.hid hm1
                have hd2 : d ≤ 200000 := by omega
                have hd3 : 20 ≤ d ∧ bs < d := by omega
                replace hd := Lib.hid hd
                clear s1 s2 hr hbk2
                go_wp2_with fail
                refine hc1.mono ?_
                rintro e4 w1 ⟨rfl, g2, hr1, hk1, hre1, hs1⟩
                go_wp2_with fail
                go_roundw
                case rel => exact ⟨d, g2, hd3.1, hd2, by go_num, hr1, hk.out.trans hk1, hre.out.trans (hre1.wide (Nat.zero_le _) (Nat.le_refl _)), hbk.out.grow hak.out hnb han1 hre1 hs1⟩
                case measure => simp [intOf]; omega
              · have hs1 : Srt G1 a1 n := by
                  rcases Nat.lt_or_ge a1 n with h1 | h1
                  · have s1 := hbk2 (2 * k1) (Nat.le_refl _) (by omega)
                    rw [e1, Nat.min_eq_right (by omega)] at s1
                    exact s1
                  · exact Srt.short _ (by omega)
                have hmz : ¬ (m1 : Int) < n := by omega
                replace hr := Lib.hid hr
                replace hk := Lib.hid hk
                replace hre := Lib.hid hre
                replace hbk := Lib.hid hbk
                replace hs1 := Lib.hid hs1
                replace e1 := Lib.hid e1
                replace e2 := Lib.hid e2
                have hnb : n ≤ a1 + d := by omega
                replace hb1 := Lib.hid hb1
                replace hm1 := Lib.hid hm1
                have hd2 : d ≤ 200000 := by omega
                have hd3 : 20 ≤ d ∧ bs < d := by omega
                replace hd := Lib.hid hd
                clear hbk2
                go_wp2_with fail
                go_roundw
                case rel => exact ⟨d, G1, hd3.1, hd2, by go_num, hr.out, hk.out, hre.out, hbk.out.grow hak.out hnb han1 (Re.refl _ _ _) hs1.out⟩
                case measure => simp [intOf]; omega
        · have hltz : ¬ (bs : Int) < n := by omega
          have hfin : Srt F1 0 n := by
            rcases Nat.eq_zero_or_pos n with h0 | h0
            · exact Srt.short _ (by omega)
            · have := hbk 0 (Nat.le_refl _) (by omega)
              rwa [Nat.zero_mul, Nat.min_eq_right (by omega)] at this
          replace hr := Lib.hid hr
          replace hk := Lib.hid hk
          replace hre := Lib.hid hre
          replace hfin := Lib.hid hfin
          clear hbk
          go_wp2_with fail
          go_end0
          exact ⟨rfl, F1, hr.out, hk.out, hre.out, hfin.out⟩

set_option maxRecDepth 20000 in set_option maxHeartbeats 1000000 in
theorem sortStable_any {w : World} {P : Option Addr} {B n c : Nat} {f : Sq} (h : RowS w P B n f) (hn : n ≤ 100000) (hc : n ≤ c) :
    Calls Try.prog 64 #[.slice P n c, cmpF] w (Merged w P B n 0 n f) := by
  have hc1 := stable_any h hn hc
  replace h := Lib.hid h
  go_enter Try.func64, Try.ntmps64
  go_wp2_with fail
  refine hc1.mono ?_
  rintro e1 w1 ⟨rfl, hm⟩
  go_wp2_with fail
  go_end0
  exact ⟨rfl, hm⟩
end Go.Proofs.Ytjldpodehffbnaa
