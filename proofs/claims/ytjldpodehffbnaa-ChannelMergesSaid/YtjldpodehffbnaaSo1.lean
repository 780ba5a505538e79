/- Plain facts of sorting in place: rearrangements, rotations, and what a merge by rotations does. Nothing here walks a program. -/
import Derived.Test.YtjldpodehffbnaaBase
namespace Go.Proofs.Ytjldpodehffbnaa
set_option linter.unusedVariables false
set_option linter.unnecessarySimpa false
set_option linter.unusedSimpArgs false

/-- A stamp's two cells and its path. -/
structure El where
  e : Int
  A : Option Addr
  m : Nat
  c : Nat
  p : List Int
def cmpX (x y : El) : Int := cmpS x.e x.p y.e y.p
theorem cmpX_neg (x y : El) : cmpX y x = - cmpX x y := cmpS_neg _ _ _ _
theorem cmpX_self (x : El) : cmpX x x = 0 := cmpS_zero.2 ⟨rfl, rfl⟩
theorem cmpX_trans {x y z : El} (h1 : cmpX x y ≤ 0) (h2 : cmpX y z ≤ 0) : cmpX x z ≤ 0 := by
  have := (cmpS_tri x.e y.e z.e x.p y.p z.p).1 h1 h2
  unfold cmpX at *
  omega
theorem cmpX_le_of {x y : El} (h : 0 ≤ cmpX y x) : cmpX x y ≤ 0 := by rw [cmpX_neg y x]; omega
theorem cmpX_le_of_lt {x y : El} (h : cmpX x y < 0) : cmpX x y ≤ 0 := by omega

abbrev Sq := Nat → El
/-- In order from place a to place b. -/
def Srt (f : Sq) (a b : Nat) : Prop := ∀ x y, a ≤ x → x ≤ y → y < b → cmpX (f x) (f y) ≤ 0
theorem Srt.short (f : Sq) {a b : Nat} (h : b ≤ a + 1) : Srt f a b := fun x y h1 h2 h3 => by
  obtain rfl : x = y := by omega
  rw [cmpX_self]; exact Int.le_refl _
theorem Srt.part {f : Sq} {a b a' b' : Nat} (h : Srt f a b) (h1 : a ≤ a') (h2 : b' ≤ b) : Srt f a' b' := fun x y hx hxy hy => h x y (by omega) hxy (by omega)
theorem Srt.congr {f g : Sq} {a b : Nat} (h : Srt f a b) (e : ∀ x, a ≤ x → x < b → g x = f x) : Srt g a b := fun x y hx hxy hy => by
  rw [e x hx (by omega), e y (by omega) hy]; exact h x y hx hxy hy
/-- g is f moved by d places. -/
theorem Srt.move {f g : Sq} {a b d e : Nat} (h : Srt f d e) (hl : b - a ≤ e - d) (hg : ∀ x, a ≤ x → x < b → g x = f (d + (x - a))) : Srt g a b := fun x y hx hxy hy => by
  rw [hg x hx (by omega), hg y (by omega) hy]; exact h _ _ (by omega) (by omega) (by omega)
theorem Srt.join {f : Sq} {a m b : Nat} (h1 : Srt f a m) (h2 : Srt f m b) (h : ∀ x y, a ≤ x → x < m → m ≤ y → y < b → cmpX (f x) (f y) ≤ 0) : Srt f a b := fun x y hx hxy hy => by
  rcases Nat.lt_or_ge y m with h' | h'
  · exact h1 x y hx hxy h'
  · rcases Nat.lt_or_ge x m with h'' | h''
    · exact h x y hx h'' h' hy
    · exact h2 x y h'' hxy hy

/-- g is f, its places from a to b rearranged. -/
def Re (a b : Nat) (f g : Sq) : Prop := ∃ s t : Nat → Nat, (∀ x, s (t x) = x) ∧ (∀ x, t (s x) = x) ∧ (∀ x, x < a ∨ b ≤ x → s x = x) ∧ ∀ x, g x = f (s x)
theorem Re.refl (a b : Nat) (f : Sq) : Re a b f f := ⟨id, id, fun _ => rfl, fun _ => rfl, fun _ _ => rfl, fun _ => rfl⟩
theorem Re.trans {a b : Nat} {f g h : Sq} (r : Re a b f g) (q : Re a b g h) : Re a b f h := by
  obtain ⟨s, t, h1, h2, h3, h4⟩ := r
  obtain ⟨u, v, k1, k2, k3, k4⟩ := q
  exact ⟨fun x => s (u x), fun x => v (t x), fun x => by simp only [k1, h1], fun x => by simp only [h2, k2], fun x hx => by simp only [k3 x hx, h3 x hx], fun x => by rw [k4, h4]⟩
theorem Re.wide {a b a' b' : Nat} {f g : Sq} (r : Re a b f g) (h1 : a' ≤ a) (h2 : b ≤ b') : Re a' b' f g := by
  obtain ⟨s, t, k1, k2, k3, k4⟩ := r
  exact ⟨s, t, k1, k2, fun x hx => k3 x (by omega), k4⟩
theorem Re.out {a b : Nat} {f g : Sq} (r : Re a b f g) {x : Nat} (hx : x < a ∨ b ≤ x) : g x = f x := by
  obtain ⟨s, t, k1, k2, k3, k4⟩ := r
  rw [k4, k3 x hx]
theorem Re.in_ {a b : Nat} {f g : Sq} (r : Re a b f g) {x : Nat} (h1 : a ≤ x) (h2 : x < b) : ∃ y, a ≤ y ∧ y < b ∧ g x = f y := by
  obtain ⟨s, t, k1, k2, k3, k4⟩ := r
  refine ⟨s x, ?_⟩
  by_cases h : s x < a ∨ b ≤ s x
  · have e1 := k3 (s x) h
    have e2 := k2 (s x)
    rw [e1, k2] at e2
    omega
  · exact ⟨by omega, by omega, k4 x⟩
theorem Re.of_inv {a b : Nat} {f g : Sq} (s t : Nat → Nat) (h1 : ∀ x, s (t x) = x) (h2 : ∀ x, t (s x) = x) (h3 : ∀ x, x < a ∨ b ≤ x → s x = x) (h4 : ∀ x, g x = f (s x)) : Re a b f g := ⟨s, t, h1, h2, h3, h4⟩

def updS (f : Sq) (i : Nat) (x : El) : Sq := fun k => if k = i then x else f k
def swp (f : Sq) (i j : Nat) : Sq := fun x => if x = i then f j else if x = j then f i else f x
theorem upd_swp (f : Sq) (i j : Nat) : updS (updS f i (f j)) j (f i) = swp f i j := by
  funext x
  unfold updS swp
  by_cases h1 : x = j
  · by_cases h2 : x = i
    · rw [if_pos h1, if_pos h2, ← h2, ← h1]
    · rw [if_pos h1, if_neg h2, if_pos h1]
  · rw [if_neg h1, if_neg h1]
theorem swp_re {f : Sq} {i j a b : Nat} (hi : a ≤ i ∧ i < b) (hj : a ≤ j ∧ j < b) : Re a b f (swp f i j) := by
  refine Re.of_inv (fun x => if x = i then j else if x = j then i else x) (fun x => if x = i then j else if x = j then i else x) ?_ ?_ ?_ ?_
  · intro x; (try dsimp only); (repeat' split) <;> omega
  · intro x; (try dsimp only); (repeat' split) <;> omega
  · intro x hx; rw [if_neg (by omega), if_neg (by omega)]
  · intro x; unfold swp; (try dsimp only); (repeat' split) <;> rfl

/-- Two ranges of k places change places. -/
def swapR (f : Sq) (a b k : Nat) : Sq := fun x => if a ≤ x ∧ x < a + k then f (b + (x - a)) else if b ≤ x ∧ x < b + k then f (a + (x - b)) else f x
theorem swapR_zero (f : Sq) (a b : Nat) : swapR f a b 0 = f := by
  funext x; unfold swapR; rw [if_neg (by omega), if_neg (by omega)]
theorem swapR_succ {f : Sq} {a b k : Nat} (h : a + k < b) : swp (swapR f a b k) (a + k) (b + k) = swapR f a b (k + 1) := by
  funext x
  unfold swp swapR
  (try dsimp only)
  (repeat' split) <;> (first | rfl | (exfalso; omega) | (congr 1; omega))
/-- The places from a to m and those from m to b change places. -/
def rotf (f : Sq) (a m b : Nat) : Sq := fun x => if a ≤ x ∧ x < a + (b - m) then f (m + (x - a)) else if a + (b - m) ≤ x ∧ x < b then f (a + (x - (a + (b - m)))) else f x
theorem rotf_re {f : Sq} {a m b : Nat} (h1 : a ≤ m) (h2 : m ≤ b) : Re a b f (rotf f a m b) := by
  refine Re.of_inv (fun x => if a ≤ x ∧ x < a + (b - m) then m + (x - a) else if a + (b - m) ≤ x ∧ x < b then a + (x - (a + (b - m))) else x) (fun x => if a ≤ x ∧ x < m then a + (b - m) + (x - a) else if m ≤ x ∧ x < b then a + (x - m) else x) ?_ ?_ ?_ ?_
  · intro x; (try dsimp only); (repeat' split) <;> omega
  · intro x; (try dsimp only); (repeat' split) <;> omega
  · intro x hx; (try dsimp only); rw [if_neg (by omega), if_neg (by omega)]
  · intro x; unfold rotf; (try dsimp only); (repeat' split) <;> rfl
theorem rotf_left (f : Sq) (a b : Nat) : rotf f a a b = f := by
  funext x; unfold rotf; (repeat' split) <;> (first | rfl | (congr 1; omega))
theorem rotf_right {f : Sq} {a b : Nat} (h : a ≤ b) : rotf f a b b = f := by
  funext x; unfold rotf; (repeat' split) <;> (first | rfl | (congr 1; omega))
theorem rot_gt {f : Sq} {m i j : Nat} (h : j < i) (hm : i ≤ m) : rotf (swapR f (m - i) m j) (m - i + j) m (m + j) = rotf f (m - i) m (m + j) := by
  funext x
  unfold rotf swapR
  (try dsimp only)
  (repeat' split) <;> (first | rfl | (exfalso; omega) | (congr 1; omega))
theorem rot_lt {f : Sq} {m i j : Nat} (h : i < j) (hm : i ≤ m) : rotf (swapR f (m - i) (m + j - i) i) (m - i) m (m + j - i) = rotf f (m - i) m (m + j) := by
  funext x
  unfold rotf swapR
  (try dsimp only)
  (repeat' split) <;> (first | rfl | (exfalso; omega) | (congr 1; omega))
theorem rot_eq {f : Sq} {m i : Nat} (hm : i ≤ m) : swapR f (m - i) m i = rotf f (m - i) m (m + i) := by
  funext x
  unfold rotf swapR
  (try dsimp only)
  (repeat' split) <;> (first | rfl | (exfalso; omega) | (congr 1; omega))
/-- One element moves up by a place more. -/
theorem rot_up {f : Sq} {a k : Nat} (h : a ≤ k) : swp (rotf f a (a + 1) (k + 1)) k (k + 1) = rotf f a (a + 1) (k + 2) := by
  funext x
  unfold swp rotf
  (try dsimp only)
  (repeat' split) <;> (first | rfl | (exfalso; omega) | (congr 1; omega))
/-- One element moves down by a place more. -/
theorem rot_down {f : Sq} {k m : Nat} (h0 : 0 < k) (h : k ≤ m) : swp (rotf f k m (m + 1)) k (k - 1) = rotf f (k - 1) m (m + 1) := by
  funext x
  unfold swp rotf
  (try dsimp only)
  (repeat' split) <;> (first | rfl | (exfalso; omega) | (congr 1; omega))
/-- In order from a to i, but for place j, which goes before all behind it. -/
def Ins (f : Sq) (a i j : Nat) : Prop := (∀ x y, a ≤ x → x ≤ y → y ≤ i → x ≠ j → y ≠ j → cmpX (f x) (f y) ≤ 0) ∧ ∀ y, j < y → y ≤ i → cmpX (f j) (f y) ≤ 0
theorem Ins.start {f : Sq} {a i : Nat} (h : Srt f a i) : Ins f a i i := ⟨fun x y h1 h2 h3 h4 h5 => h x y h1 h2 (by omega), fun y h1 h2 => by omega⟩
theorem Ins.stop {f : Sq} {a i j : Nat} (h : Ins f a i j) (hj : a ≤ j ∧ j ≤ i) (hx : j = a ∨ 0 ≤ cmpX (f j) (f (j - 1))) : Srt f a (i + 1) := fun x y h1 h2 h3 => by
  by_cases e1 : x = j
  · subst e1
    by_cases e2 : y = x
    · subst e2; rw [cmpX_self]; exact Int.le_refl _
    · exact h.2 y (by omega) (by omega)
  · by_cases e2 : y = j
    · subst e2
      rcases hx with hx | hx
      · omega
      · have h4 : cmpX (f (y - 1)) (f y) ≤ 0 := cmpX_le_of hx
        by_cases e3 : x = y - 1
        · subst e3; exact h4
        · exact cmpX_trans (h.1 x (y - 1) h1 (by omega) (by omega) e1 (by omega)) h4
    · exact h.1 x y h1 h2 (by omega) e1 e2
theorem Ins.step {f : Sq} {a i j : Nat} (h : Ins f a i j) (hj : a < j ∧ j ≤ i) (hx : cmpX (f j) (f (j - 1)) < 0) : Ins (swp f j (j - 1)) a i (j - 1) := by
  have hle : cmpX (f j) (f (j - 1)) ≤ 0 := by omega
  refine ⟨fun x y h1 h2 h3 h4 h5 => ?_, fun y h1 h2 => ?_⟩
  · unfold swp
    by_cases e1 : x = j
    · subst e1
      rw [if_pos rfl]
      by_cases e2 : y = x
      · subst e2; rw [if_pos rfl, cmpX_self]; exact Int.le_refl _
      · rw [if_neg e2, if_neg h5]
        exact h.1 _ _ (by omega) (by omega) h3 (by omega) e2
    · rw [if_neg e1, if_neg h4]
      by_cases e2 : y = j
      · subst e2
        rw [if_pos rfl]
        exact h.1 _ _ h1 (by omega) (by omega) e1 (by omega)
      · rw [if_neg e2, if_neg h5]
        exact h.1 _ _ h1 h2 h3 e1 e2
  · unfold swp
    rw [if_neg (by omega), if_pos rfl]
    by_cases e2 : y = j
    · rw [if_pos e2]; exact hle
    · rw [if_neg e2, if_neg (by omega)]
      exact h.2 y (by omega) h2

/-- What a merge by one rotation leaves: two halves, each of two parts in order, and nothing of the first above anything of the second. -/
theorem merge_rot {f : Sq} {a s m e b : Nat} (h1 : Srt f a m) (h2 : Srt f m b) (hs : a ≤ s ∧ s ≤ m) (he : m ≤ e ∧ e ≤ b)
    (hA : ∀ x y, a ≤ x → x < s → e ≤ y → y < b → cmpX (f x) (f y) ≤ 0) (hB : ∀ x y, m ≤ x → x < e → s ≤ y → y < m → cmpX (f x) (f y) ≤ 0) :
    let g := rotf f s m e
    let d := s + (e - m)
    Srt g a s ∧ Srt g s d ∧ Srt g d e ∧ Srt g e b ∧ ∀ x y, a ≤ x → x < d → d ≤ y → y < b → cmpX (g x) (g y) ≤ 0 := by
  intro g d
  have g1 : ∀ x, x < s → g x = f x := fun x hx => by show rotf f s m e x = _; unfold rotf; rw [if_neg (by omega), if_neg (by omega)]
  have g2 : ∀ x, s ≤ x → x < d → g x = f (m + (x - s)) := fun x hx hx' => by show rotf f s m e x = _; unfold rotf; rw [if_pos (by omega)]
  have g3 : ∀ x, d ≤ x → x < e → g x = f (s + (x - d)) := fun x hx hx' => by show rotf f s m e x = _; unfold rotf; rw [if_neg (by omega), if_pos (by omega)]
  have g4 : ∀ x, e ≤ x → g x = f x := fun x hx => by show rotf f s m e x = _; unfold rotf; rw [if_neg (by omega), if_neg (by omega)]
  refine ⟨(h1.part (Nat.le_refl _) hs.2).congr fun x _ hx => g1 x hx, (h2.part (Nat.le_refl _) he.2).move (b := d) (by omega) g2, (h1.part hs.1 (Nat.le_refl _)).move (a := d) (by omega) g3, (h2.part he.1 (Nat.le_refl _)).congr fun x hx _ => g4 x hx, ?_⟩
  intro x y hx hxd hy hyb
  rcases Nat.lt_or_ge x s with c | c
  · rw [g1 x c]
    rcases Nat.lt_or_ge y e with c' | c'
    · rw [g3 y hy c']; exact h1 _ _ hx (by omega) (by omega)
    · rw [g4 y c']; exact hA _ _ hx c c' hyb
  · rw [g2 x c hxd]
    rcases Nat.lt_or_ge y e with c' | c'
    · rw [g3 y hy c']; exact hB _ _ (by omega) (by omega) (by omega) (by omega)
    · rw [g4 y c']; exact h2 _ _ (by omega) (by omega) hyb
/-- Two halves that are put in order, each by itself. -/
theorem halves {g u v : Sq} {a d b : Nat} (had : a ≤ d ∧ d ≤ b) (h : ∀ x y, a ≤ x → x < d → d ≤ y → y < b → cmpX (g x) (g y) ≤ 0) (r1 : Re a d g u) (s1 : Srt u a d) (r2 : Re d b u v) (s2 : Srt v d b) : Srt v a b := by
  refine Srt.join (s1.congr fun x _ hx => r2.out (.inl hx)) s2 fun x y hx hxd hy hyb => ?_
  rw [r2.out (.inl hxd)]
  obtain ⟨x', k1, k2, e1⟩ := r1.in_ hx hxd
  obtain ⟨y', k3, k4, e2⟩ := r2.in_ hy hyb
  rw [e1, e2, r1.out (.inr k3)]
  exact h _ _ k1 k2 k3 k4

/-! ### The search for where to rotate -/
/-- The middle of the search: below s no element is above its mirror image, from r on each is. -/
structure Srch (f : Sq) (S R p s r : Nat) : Prop where
  s1 : S ≤ s
  s2 : s ≤ r
  s3 : r ≤ R
  low : ∀ c, S ≤ c → c < s → cmpX (f c) (f (p - c)) ≤ 0
  up : ∀ c, r ≤ c → c < R → cmpX (f (p - c)) (f c) < 0
theorem Srch.start (f : Sq) {S R p : Nat} (h : S ≤ R) : Srch f S R p S R := ⟨Nat.le_refl _, h, Nat.le_refl _, fun c h1 h2 => by omega, fun c h1 h2 => by omega⟩
theorem cmpX_lt_trans {x y z : El} (h1 : cmpX x y ≤ 0) (h2 : cmpX y z < 0) : cmpX x z < 0 := by
  have := (cmpS_tri x.e y.e z.e x.p y.p z.p).1 h1 (by unfold cmpX at h2; omega)
  unfold cmpX at *
  omega
theorem cmpX_lt_trans' {x y z : El} (h1 : cmpX x y < 0) (h2 : cmpX y z ≤ 0) : cmpX x z < 0 := by
  have := (cmpS_tri x.e y.e z.e x.p y.p z.p).1 (by unfold cmpX at h1; omega) h2
  unfold cmpX at *
  omega
/-- The parts that are searched are in order: [S, R) forwards, its mirror image backwards. -/
structure Mir (f : Sq) (S R p : Nat) : Prop where
  p1 : R ≤ p + 1
  up : Srt f S R
  down : ∀ x y, S ≤ x → x ≤ y → y < R → cmpX (f (p - y)) (f (p - x)) ≤ 0
theorem Srch.high {f : Sq} {S R p s r : Nat} (h : Srch f S R p s r) (hm : Mir f S R p) {c : Nat} (hc : s ≤ c ∧ c < r) (hx : 0 ≤ cmpX (f (p - c)) (f c)) : Srch f S R p (c + 1) r := by
  have h1 := h.s1
  have h3 := h.s3
  refine ⟨by omega, by omega, h3, fun d hd hd' => ?_, h.up⟩
  exact cmpX_trans (hm.up d c hd (by omega) (by omega)) (cmpX_trans (cmpX_le_of hx) (hm.down d c hd (by omega) (by omega)))
theorem Srch.down {f : Sq} {S R p s r : Nat} (h : Srch f S R p s r) (hm : Mir f S R p) {c : Nat} (hc : s ≤ c ∧ c < r) (hx : cmpX (f (p - c)) (f c) < 0) : Srch f S R p s c := by
  have h1 := h.s1
  have h3 := h.s3
  refine ⟨h1, hc.1, by omega, h.low, fun d hd hd' => ?_⟩
  rcases Nat.lt_or_ge d r with h' | h'
  · exact cmpX_lt_trans (hm.down c d (by omega) hd hd') (cmpX_lt_trans' hx (hm.up c d (by omega) hd hd'))
  · exact h.up d h' hd'
/-- What the general case of the merge searches: its limits. -/
def loS (a m b : Nat) : Nat := if m > (a + b) / 2 then (a + b) / 2 + m - b else a
def hiS (a m b : Nat) : Nat := if m > (a + b) / 2 then (a + b) / 2 else m
theorem mir_of {f : Sq} {a m b : Nat} (h : a < m ∧ m < b) (h1 : Srt f a m) (h2 : Srt f m b) : Mir f (loS a m b) (hiS a m b) ((a + b) / 2 + m - 1) := by
  unfold loS hiS
  by_cases c : m > (a + b) / 2
  · rw [if_pos c, if_pos c]
    exact ⟨by omega, h1.part (by omega) (by omega), fun x y hx hxy hy => h2 _ _ (by omega) (by omega) (by omega)⟩
  · rw [if_neg c, if_neg c]
    exact ⟨by omega, h1, fun x y hx hxy hy => h2 _ _ (by omega) (by omega) (by omega)⟩
theorem lohi {a m b : Nat} (h : a < m ∧ m < b) : loS a m b ≤ hiS a m b := by
  unfold loS hiS
  by_cases c : m > (a + b) / 2
  · rw [if_pos c, if_pos c]; omega
  · rw [if_neg c, if_neg c]; omega
/-- The search has ended at s: what the rotation then leaves. -/
theorem srch_end {f : Sq} {a m b s : Nat} (h : a < m ∧ m < b) (h1 : Srt f a m) (h2 : Srt f m b) (hs : Srch f (loS a m b) (hiS a m b) ((a + b) / 2 + m - 1) s s) :
    let e := (a + b) / 2 + m - s
    (a ≤ s ∧ s ≤ m ∧ s ≤ (a + b) / 2) ∧ (m ≤ e ∧ e ≤ b ∧ (a + b) / 2 ≤ e) ∧ s + (e - m) = (a + b) / 2 ∧
    (∀ x y, a ≤ x → x < s → e ≤ y → y < b → cmpX (f x) (f y) ≤ 0) ∧ (∀ x y, m ≤ x → x < e → s ≤ y → y < m → cmpX (f x) (f y) ≤ 0) := by
  intro e
  obtain ⟨k1, _, k3, low, up⟩ := hs
  unfold loS at k1 low
  unfold hiS at k3 up
  by_cases c : m > (a + b) / 2
  · rw [if_pos c] at k1 low k3 up
    refine ⟨by omega, by omega, by omega, fun x y hx hx' hy hy' => ?_, fun x y hx hx' hy hy' => ?_⟩
    · have := low (s - 1) (by omega) (by omega)
      exact cmpX_trans (h1 x (s - 1) hx (by omega) (by omega)) (cmpX_trans this (h2 _ _ (by omega) (by omega) hy'))
    · have := up s (Nat.le_refl _) (by omega)
      exact cmpX_trans (h2 x ((a + b) / 2 + m - 1 - s) hx (by omega) (by omega)) (cmpX_trans (cmpX_le_of_lt this) (h1 _ _ (by omega) hy hy'))
  · rw [if_neg c] at k1 low k3 up
    refine ⟨by omega, by omega, by omega, fun x y hx hx' hy hy' => ?_, fun x y hx hx' hy hy' => ?_⟩
    · have := low (s - 1) (by omega) (by omega)
      exact cmpX_trans (h1 x (s - 1) hx (by omega) (by omega)) (cmpX_trans this (h2 _ _ (by omega) (by omega) hy'))
    · have := up s (Nat.le_refl _) (by omega)
      exact cmpX_trans (h2 x ((a + b) / 2 + m - 1 - s) hx (by omega) (by omega)) (cmpX_trans (cmpX_le_of_lt this) (h1 _ _ (by omega) hy hy'))

/-- One element ahead of a row in order: where it goes. -/
structure Fst (f : Sq) (a b i j : Nat) : Prop where
  i1 : a + 1 ≤ i
  i2 : i ≤ j
  i3 : j ≤ b
  low : ∀ x, a + 1 ≤ x → x < i → cmpX (f x) (f a) < 0
  up : ∀ x, j ≤ x → x < b → cmpX (f a) (f x) ≤ 0
theorem Fst.start (f : Sq) {a b : Nat} (h : a + 1 ≤ b) : Fst f a b (a + 1) b := ⟨Nat.le_refl _, h, Nat.le_refl _, fun x h1 h2 => by omega, fun x h1 h2 => by omega⟩
theorem Fst.high {f : Sq} {a b i j : Nat} (h : Fst f a b i j) (hs : Srt f (a + 1) b) {c : Nat} (hc : i ≤ c ∧ c < j) (hx : cmpX (f c) (f a) < 0) : Fst f a b (c + 1) j := by
  have h1 := h.i1
  have h3 := h.i3
  exact ⟨by omega, by omega, h3, fun x hx1 hx2 => cmpX_lt_trans (hs x c hx1 (by omega) (by omega)) hx, h.up⟩
theorem Fst.down {f : Sq} {a b i j : Nat} (h : Fst f a b i j) (hs : Srt f (a + 1) b) {c : Nat} (hc : i ≤ c ∧ c < j) (hx : 0 ≤ cmpX (f c) (f a)) : Fst f a b i c := by
  have h1 := h.i1
  have h3 := h.i3
  exact ⟨h1, hc.1, by omega, h.low, fun x hx1 hx2 => cmpX_trans (cmpX_le_of hx) (hs c x (by omega) hx1 hx2)⟩
theorem Fst.stop {f : Sq} {a b i : Nat} (h : Fst f a b i i) (hs : Srt f (a + 1) b) : Srt (rotf f a (a + 1) i) a b := by
  obtain ⟨k1, _, k3, low, up⟩ := h
  obtain ⟨m1, m2, m3, m4, m5⟩ := merge_rot (s := a) (e := i) (Srt.short f (Nat.le_refl _)) hs ⟨Nat.le_refl _, Nat.le_succ _⟩ ⟨k1, k3⟩ (fun x y h1 h2 => by omega) (fun x y h1 h2 h3 h4 => by
    obtain rfl : y = a := by omega
    exact cmpX_le_of_lt (low x h1 h2))
  refine Srt.join m2 ?_ m5
  refine Srt.join m3 m4 fun x y h1 h2 h3 h4 => ?_
  have e1 : rotf f a (a + 1) i x = f a := by
    unfold rotf
    rw [if_neg (by omega), if_pos (by omega)]
    congr 1; omega
  have e2 : rotf f a (a + 1) i y = f y := by
    unfold rotf
    rw [if_neg (by omega), if_neg (by omega)]
  rw [e1, e2]
  exact up y h3 h4
/-- One element behind a row in order: where it goes. -/
structure Lst (f : Sq) (a m i j : Nat) : Prop where
  i1 : a ≤ i
  i2 : i ≤ j
  i3 : j ≤ m
  low : ∀ x, a ≤ x → x < i → cmpX (f x) (f m) ≤ 0
  up : ∀ x, j ≤ x → x < m → cmpX (f m) (f x) < 0
theorem Lst.start (f : Sq) {a m : Nat} (h : a ≤ m) : Lst f a m a m := ⟨Nat.le_refl _, h, Nat.le_refl _, fun x h1 h2 => by omega, fun x h1 h2 => by omega⟩
theorem Lst.high {f : Sq} {a m i j : Nat} (h : Lst f a m i j) (hs : Srt f a m) {c : Nat} (hc : i ≤ c ∧ c < j) (hx : 0 ≤ cmpX (f m) (f c)) : Lst f a m (c + 1) j := by
  have h1 := h.i1
  have h3 := h.i3
  exact ⟨by omega, by omega, h3, fun x hx1 hx2 => cmpX_trans (hs x c hx1 (by omega) (by omega)) (cmpX_le_of hx), h.up⟩
theorem Lst.down {f : Sq} {a m i j : Nat} (h : Lst f a m i j) (hs : Srt f a m) {c : Nat} (hc : i ≤ c ∧ c < j) (hx : cmpX (f m) (f c) < 0) : Lst f a m i c := by
  have h1 := h.i1
  have h3 := h.i3
  exact ⟨h1, hc.1, by omega, h.low, fun x hx1 hx2 => cmpX_lt_trans' hx (hs c x (by omega) hx1 hx2)⟩
theorem Lst.stop {f : Sq} {a m i : Nat} (h : Lst f a m i i) (hs : Srt f a m) : Srt (rotf f i m (m + 1)) a (m + 1) := by
  obtain ⟨k1, _, k3, low, up⟩ := h
  obtain ⟨m1, m2, m3, m4, m5⟩ := merge_rot (s := i) (e := m + 1) (b := m + 1) hs (Srt.short f (Nat.le_refl _)) ⟨k1, k3⟩ ⟨Nat.le_succ _, Nat.le_refl _⟩ (fun x y h1 h2 => by omega) (fun x y h1 h2 h3 h4 => by
    obtain rfl : x = m := by omega
    exact cmpX_le_of_lt (up y h3 h4))
  refine Srt.join ?_ m3 m5
  refine Srt.join m1 m2 fun x y h1 h2 h3 h4 => ?_
  have e1 : rotf f i m (m + 1) y = f m := by
    unfold rotf
    rw [if_pos (by omega)]
    congr 1; omega
  have e2 : rotf f i m (m + 1) x = f x := by
    unfold rotf
    rw [if_neg (by omega), if_neg (by omega)]
  rw [e1, e2]
  exact low x h1 h2
end Go.Proofs.Ytjldpodehffbnaa
