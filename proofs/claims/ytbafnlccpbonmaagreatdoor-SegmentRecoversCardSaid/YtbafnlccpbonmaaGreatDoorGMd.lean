/- frames, names, a log (plain) -/
import Derived.Test.YtbafnlccpbonmaaGreatDoorBase
import Derived.Test.YtbafnlccpbonmaaGreatDoorGMj
import Derived.Test.YtbafnlccpbonmaaGreatDoorGMc
namespace Go.Proofs.YtbafnlccpbonmaaGreatDoor
set_option linter.unusedVariables false
set_option linter.unnecessarySimpa false
set_option linter.unusedSimpArgs false

/-- One bit. -/
def stp (x : Nat) : Nat := if x % 2 = 1 then (x / 2) ^^^ 3988292384 else x / 2
def stps : Nat → Nat → Nat
  | 0, x => x
  | n + 1, x => stps n (stp x)
theorem xor_half (a b : Nat) : (a ^^^ b) / 2 = (a / 2) ^^^ (b / 2) := by
  have := Nat.shiftRight_xor_distrib (a := a) (b := b) (i := 1)
  simpa [Nat.shiftRight_succ] using this
theorem xor_bit (a b : Nat) : (a ^^^ b) % 2 = (a % 2 + b % 2) % 2 := by
  have h : ((a ^^^ b).testBit 0) = ((a.testBit 0) ^^ (b.testBit 0)) := Nat.testBit_xor ..
  simp only [Nat.testBit_zero] at h
  rcases Nat.mod_two_eq_zero_or_one a with ha | ha <;> rcases Nat.mod_two_eq_zero_or_one b with hb | hb <;> rcases Nat.mod_two_eq_zero_or_one (a ^^^ b) with hc | hc <;> simp_all
theorem stp_xor (a b : Nat) : stp (a ^^^ b) = stp a ^^^ stp b := by
  unfold stp
  rw [xor_half, xor_bit]
  rcases Nat.mod_two_eq_zero_or_one a with ha | ha <;> rcases Nat.mod_two_eq_zero_or_one b with hb | hb <;> simp only [ha, hb]
  · simp
  · simp [Nat.xor_assoc]
  · simp only [Nat.reduceAdd, Nat.reduceMod, if_true]
    rw [if_neg (by decide)]
    rw [Nat.xor_assoc (a / 2) (b / 2), Nat.xor_assoc (a / 2) 3988292384, Nat.xor_comm 3988292384 (b / 2)]
  · simp only [Nat.reduceAdd, Nat.reduceMod, if_true]
    rw [if_neg (by decide)]
    rw [Nat.xor_assoc, Nat.xor_comm 3988292384, Nat.xor_assoc, Nat.xor_self, Nat.xor_zero]
theorem stps_xor : ∀ (n a b : Nat), stps n (a ^^^ b) = stps n a ^^^ stps n b
  | 0, a, b => rfl
  | n + 1, a, b => by rw [stps, stp_xor, stps_xor n]; rfl
theorem stps_shift : ∀ (n y : Nat), stps n (y * 2 ^ n) = y
  | 0, y => by simp [stps]
  | n + 1, y => by
    have : stp (y * 2 ^ (n + 1)) = y * 2 ^ n := by
      unfold stp
      rw [if_neg (by rw [Nat.pow_succ, ← Nat.mul_assoc]; omega), Nat.pow_succ, ← Nat.mul_assoc]
      omega
    rw [stps, this, stps_shift n y]
theorem stp_lt {x : Nat} (h : x < 4294967296) : stp x < 4294967296 := by
  unfold stp
  split
  · exact Nat.xor_lt_two_pow (n := 32) (by omega) (by decide)
  · omega
theorem stps_lt : ∀ (n : Nat) {x : Nat}, x < 4294967296 → stps n x < 4294967296
  | 0, x, h => h
  | n + 1, x, h => stps_lt n (stp_lt h)
theorem xor_split (x : Nat) (b : Nat) (hb : b < 256) : x ^^^ b = (x / 256 * 256) ^^^ ((x % 256) ^^^ b) := by
  have h : x = (x / 256 * 256) ^^^ (x % 256) := by
    have h1 : x / 256 * 256 + x % 256 = x := by omega
    have h2 : (x / 256 * 2 ^ 8) ||| (x % 256) = x / 256 * 2 ^ 8 + x % 256 := by
      rw [Nat.mul_comm]
      exact (Nat.two_pow_add_eq_or_of_lt (i := 8) (show x % 256 < 2 ^ 8 by omega) (x / 256)).symm
    apply Nat.eq_of_testBit_eq
    intro i
    rw [Nat.testBit_xor]
    have h3 : x.testBit i = ((x / 256 * 2 ^ 8) ||| (x % 256)).testBit i := by rw [h2]; congr 1; omega
    rw [h3, Nat.testBit_or]
    by_cases hi : i < 8
    · have : (x / 256 * 2 ^ 8).testBit i = false := by
        rw [Nat.testBit_mul_two_pow]
        simp [show ¬ 8 ≤ i by omega]
      rw [show x / 256 * 256 = x / 256 * 2 ^ 8 from rfl, this]
      simp
    · have : (x % 256).testBit i = false := Nat.testBit_lt_two_pow (Nat.lt_of_lt_of_le (show x % 256 < 2 ^ 8 by omega) (Nat.pow_le_pow_right (by decide) (by omega)))
      rw [this, show x / 256 * 256 = x / 256 * 2 ^ 8 from rfl]
      simp
  rw [← Nat.xor_assoc, ← h]
/-- What a byte adds to the register. -/
def tabN (i : Nat) : Nat := stps 8 i
theorem crc_byte (x b : Nat) (hb : b < 256) : (x / 256) ^^^ tabN ((x % 256) ^^^ b) = stps 8 (x ^^^ b) := by
  rw [xor_split x b hb, stps_xor, show x / 256 * 256 = x / 256 * 2 ^ 8 from rfl, stps_shift]
  rfl
theorem xor256 {a b : Nat} (ha : a < 256) (hb : b < 256) : a ^^^ b < 256 := Nat.xor_lt_two_pow (n := 8) ha hb
theorem xor32 {a b : Nat} (ha : a < 4294967296) (hb : b < 4294967296) : a ^^^ b < 4294967296 := Nat.xor_lt_two_pow (n := 32) ha hb
/-- The register behind some bytes. -/
def regL (l : List UInt8) : Nat := l.foldl (fun r b => stps 8 (r ^^^ b.toNat)) 4294967295
theorem regL_app (l : List UInt8) (c : UInt8) : regL (l ++ [c]) = stps 8 (regL l ^^^ c.toNat) := by unfold regL; rw [List.foldl_append]; rfl
theorem fold_lt : ∀ (l : List UInt8) (r : Nat), r < 4294967296 → l.foldl (fun r b => stps 8 (r ^^^ b.toNat)) r < 4294967296
  | [], r, h => h
  | c :: l, r, h => by
    rw [List.foldl_cons]
    exact fold_lt l _ (stps_lt 8 (xor32 h (by have := c.toNat_lt; omega)))
theorem regL_lt (l : List UInt8) : regL l < 4294967296 := fold_lt l _ (by decide)
/-- CRC-32. -/
def crcL (l : List UInt8) : Nat := regL l ^^^ 4294967295
theorem crcL_lt (l : List UInt8) : crcL l < 4294967296 := xor32 (regL_lt l) (by decide)
/-! ### A changed byte -/
theorem stp_zero {x : Nat} (hx : x < 4294967296) (h : stp x = 0) : x = 0 := by
  unfold stp at h
  split at h
  · have h1 : x / 2 = 3988292384 := by
      have h2 : (x / 2 ^^^ 3988292384) ^^^ 3988292384 = 0 ^^^ 3988292384 := by rw [h]
      rw [Nat.xor_assoc, Nat.xor_self, Nat.xor_zero, Nat.zero_xor] at h2
      exact h2
    omega
  · omega
theorem xor_eq {a b : Nat} (h : a ^^^ b = 0) : a = b := by
  have h2 : (a ^^^ b) ^^^ b = 0 ^^^ b := by rw [h]
  rw [Nat.xor_assoc, Nat.xor_self, Nat.xor_zero, Nat.zero_xor] at h2
  exact h2
theorem stp_inj {a b : Nat} (ha : a < 4294967296) (hb : b < 4294967296) (h : stp a = stp b) : a = b := by
  have h0 : stp (a ^^^ b) = 0 := by rw [stp_xor, h, Nat.xor_self]
  exact xor_eq (stp_zero (xor32 ha hb) h0)
theorem stps_inj : ∀ (n : Nat) {a b : Nat}, a < 4294967296 → b < 4294967296 → stps n a = stps n b → a = b
  | 0, a, b, ha, hb, h => h
  | n + 1, a, b, ha, hb, h => stp_inj ha hb (stps_inj n (stp_lt ha) (stp_lt hb) h)
theorem fold_inj : ∀ (l : List UInt8) {r q : Nat}, r < 4294967296 → q < 4294967296 → l.foldl (fun r b => stps 8 (r ^^^ b.toNat)) r = l.foldl (fun r b => stps 8 (r ^^^ b.toNat)) q → r = q
  | [], r, q, hr, hq, h => h
  | c :: l, r, q, hr, hq, h => by
    have hc : c.toNat < 4294967296 := by have := c.toNat_lt; omega
    rw [List.foldl_cons, List.foldl_cons] at h
    have h1 := fold_inj l (stps_lt 8 (xor32 hr hc)) (stps_lt 8 (xor32 hq hc)) h
    have h2 := stps_inj 8 (xor32 hr hc) (xor32 hq hc) h1
    have h3 : (r ^^^ c.toNat) ^^^ c.toNat = (q ^^^ c.toNat) ^^^ c.toNat := by rw [h2]
    rw [Nat.xor_assoc, Nat.xor_assoc, Nat.xor_self, Nat.xor_zero, Nat.xor_zero] at h3
    exact h3
/-- A changed byte changes the checksum. -/
theorem crc_ne (a b : List UInt8) {c d : UInt8} (h : c ≠ d) : crcL (a ++ c :: b) ≠ crcL (a ++ d :: b) := by
  intro he
  unfold crcL regL at he
  have h1 : ∀ x y : Nat, x ^^^ 4294967295 = y ^^^ 4294967295 → x = y := fun x y h => by
    have h2 : (x ^^^ 4294967295) ^^^ 4294967295 = (y ^^^ 4294967295) ^^^ 4294967295 := by rw [h]
    rw [Nat.xor_assoc, Nat.xor_assoc, Nat.xor_self, Nat.xor_zero, Nat.xor_zero] at h2
    exact h2
  replace he := h1 _ _ he
  rw [List.foldl_append, List.foldl_append, List.foldl_cons, List.foldl_cons] at he
  have hr := fold_lt a 4294967295 (by decide)
  obtain ⟨r, hr'⟩ : ∃ r, a.foldl (fun r b => stps 8 (r ^^^ b.toNat)) 4294967295 = r := ⟨_, rfl⟩
  rw [hr'] at he hr
  have hc : c.toNat < 4294967296 := by have := c.toNat_lt; omega
  have hd : d.toNat < 4294967296 := by have := d.toNat_lt; omega
  have h2 := fold_inj b (stps_lt 8 (xor32 hr hc)) (stps_lt 8 (xor32 hr hd)) he
  have h3 := stps_inj 8 (xor32 hr hc) (xor32 hr hd) h2
  have h4 : r ^^^ (r ^^^ c.toNat) = r ^^^ (r ^^^ d.toNat) := by rw [h3]
  rw [← Nat.xor_assoc, ← Nat.xor_assoc, Nat.xor_self, Nat.zero_xor, Nat.zero_xor] at h4
  exact h (UInt8.toNat_inj.1 h4)
end Go.Proofs.YtbafnlccpbonmaaGreatDoor

namespace Go.Proofs.YtbafnlccpbonmaaGreatDoor
set_option linter.unusedVariables false
set_option linter.unnecessarySimpa false
set_option linter.unusedSimpArgs false

/-- A number's last k bytes, the highest one first. -/
def bigL (n : Nat) : Nat → List UInt8
  | 0 => []
  | k + 1 => bigL (n / 256) k ++ [UInt8.ofNat (n % 256)]
def smallN (l : List UInt8) : Nat := l.foldl (fun n b => n * 256 + b.toNat) 0
theorem bigL_len (n : Nat) : ∀ k, (bigL n k).length = k := by
  intro k
  induction k generalizing n with
  | zero => rfl
  | succ k ih => rw [bigL, List.length_append, ih]; rfl
theorem smallN_app (l : List UInt8) (c : UInt8) : smallN (l ++ [c]) = smallN l * 256 + c.toNat := by unfold smallN; rw [List.foldl_append]; rfl
theorem small_big : ∀ (k n : Nat), n < 256 ^ k → smallN (bigL n k) = n
  | 0, n, h => by simp at h; subst h; rfl
  | k + 1, n, h => by
    rw [bigL, smallN_app, small_big k (n / 256) (by rw [Nat.pow_succ] at h; omega)]
    rw [UInt8.toNat_ofNat_of_lt' (by omega : n % 256 < 256)]
    omega
theorem smallN_from : ∀ (l : List UInt8) (n : Nat), l.foldl (fun n b => n * 256 + b.toNat) n < (n + 1) * 256 ^ l.length
  | [], n => by simp
  | c :: l, n => by
    rw [List.foldl_cons, List.length_cons, Nat.pow_succ]
    have h := smallN_from l (n * 256 + c.toNat)
    have hc := c.toNat_lt
    have h2 : (n * 256 + c.toNat + 1) * 256 ^ l.length ≤ ((n + 1) * 256) * 256 ^ l.length := Nat.mul_le_mul_right _ (by omega)
    have h3 : (n + 1) * (256 ^ l.length * 256) = (n + 1) * 256 * 256 ^ l.length := by rw [Nat.mul_comm (256 ^ l.length) 256, Nat.mul_assoc]
    omega
theorem smallN_lt (l : List UInt8) : smallN l < 256 ^ l.length := by
  have := smallN_from l 0
  simpa [smallN] using this
/-- Different bytes of the same length denote different numbers. -/
theorem small_inj : ∀ (k : Nat) (a b : List UInt8), a.length = k → b.length = k → smallN a = smallN b → a = b := by
  intro k
  induction k with
  | zero => intro a b ha hb _; rw [List.eq_nil_of_length_eq_zero ha, List.eq_nil_of_length_eq_zero hb]
  | succ k ih =>
    intro a b ha hb h
    obtain ⟨a', x, rfl⟩ : ∃ a' x, a = a' ++ [x] := ⟨a.dropLast, a.getLast (by intro e; rw [e] at ha; cases ha), (List.dropLast_concat_getLast _).symm⟩
    obtain ⟨b', y, rfl⟩ : ∃ b' y, b = b' ++ [y] := ⟨b.dropLast, b.getLast (by intro e; rw [e] at hb; cases hb), (List.dropLast_concat_getLast _).symm⟩
    rw [smallN_app, smallN_app] at h
    have hx := x.toNat_lt
    have hy := y.toNat_lt
    have h1 : x.toNat = y.toNat := by omega
    have h2 := ih a' b' (by simpa using ha) (by simpa using hb) (by omega)
    rw [h2, UInt8.toNat_inj.1 h1]
def headL (n : Nat) (data : List UInt8) : List UInt8 := bigL data.length 4 ++ bigL n 8
def frameL (n : Nat) (data : List UInt8) : List UInt8 := headL n data ++ bigL (crcL (headL n data ++ data)) 4 ++ data
theorem headL_len (n : Nat) (d : List UInt8) : (headL n d).length = 12 := by unfold headL; rw [List.length_append, bigL_len, bigL_len]
theorem frameL_len (n : Nat) (d : List UInt8) : (frameL n d).length = 16 + d.length := by
  unfold frameL
  simp only [List.length_append, headL_len, bigL_len]
def inN (n : Int) : Prop := 1 ≤ n ∧ n ≤ 99999999
instance (n : Int) : Decidable (inN n) := by unfold inN; infer_instance
/-- Parse behind an offset: the data and their length, or an error. -/
inductive Ps where
  | ok (data : List UInt8)
  | bad (e : Int)
def parseR (r : List UInt8) (n : Int) : Ps :=
  if r.length < 16 then .bad 29
  else if 1048576 < smallN (r.take 4) then .bad 5
  else if r.length < 16 + smallN (r.take 4) then .bad 29
  else if smallN ((r.drop 12).take 4) ≠ crcL (r.take 12 ++ (r.drop 16).take (smallN (r.take 4))) then .bad 28
  else if (smallN ((r.drop 4).take 8) : Int) ≠ n then .bad 30
  else .ok ((r.drop 16).take (smallN (r.take 4)))
def parseP (s : List UInt8) (a n : Int) : Ps := if a < 0 ∨ (s.length : Int) < a ∨ ¬ inN n then .bad 2 else parseR (s.drop a.toNat) n
theorem frame_parts (n : Nat) (d z : List UInt8) : (frameL n d ++ z).take 4 = bigL d.length 4 ∧ ((frameL n d ++ z).drop 4).take 8 = bigL n 8 ∧ (frameL n d ++ z).take 12 = headL n d ∧
    ((frameL n d ++ z).drop 12).take 4 = bigL (crcL (headL n d ++ d)) 4 ∧ ((frameL n d ++ z).drop 16).take d.length = d := by
  have h4 := bigL_len d.length 4
  have h8 := bigL_len n 8
  have h12 := headL_len n d
  have hc := bigL_len (crcL (headL n d ++ d)) 4
  obtain ⟨C, hC⟩ : ∃ C, bigL (crcL (headL n d ++ d)) 4 = C := ⟨_, rfl⟩
  rw [hC] at hc ⊢
  have e : frameL n d ++ z = bigL d.length 4 ++ (bigL n 8 ++ (C ++ (d ++ z))) := by
    unfold frameL
    rw [hC]
    unfold headL
    simp only [List.append_assoc]
  have e2 : frameL n d ++ z = headL n d ++ (C ++ (d ++ z)) := by
    unfold frameL
    rw [hC]
    simp only [List.append_assoc]
  refine ⟨?_, ?_, ?_, ?_, ?_⟩
  · rw [e, List.take_left' h4]
  · rw [e, List.drop_left' h4, List.take_left' h8]
  · rw [e2, List.take_left' h12]
  · rw [e2, List.drop_left' h12, List.take_left' hc]
  · rw [e2, ← List.append_assoc, List.drop_left' (by rw [List.length_append]; omega), List.take_left' rfl]
/-- What was framed is read back. -/
theorem parse_frame {n : Nat} (hn : inN n) {d : List UInt8} (hd : d.length ≤ 1048576) (z : List UInt8) : parseR (frameL n d ++ z) n = .ok d := by
  obtain ⟨h1, h2, h3, h4, h5⟩ := frame_parts n d z
  have hl := frameL_len n d
  unfold inN at hn
  unfold parseR
  rw [h1, h2, h3, h4, small_big 4 d.length (by omega), small_big 8 n (by omega), small_big 4 _ (crcL_lt _), h5]
  rw [List.length_append]
  rw [if_neg (by omega), if_neg (by omega), if_neg (by omega), if_neg (by simp), if_neg (by simp)]
theorem parse_at {n : Nat} (hn : inN n) {d : List UInt8} (hd : d.length ≤ 1048576) (y z : List UInt8) : parseP (y ++ frameL n d ++ z) y.length n = .ok d := by
  unfold parseP
  rw [if_neg (by simp [hn]; omega), Int.toNat_natCast, List.append_assoc, List.drop_left' rfl, parse_frame hn hd]
/-- A frame whose checksum is not that of its bytes. -/
theorem parse_bad {A Nn C D : List UInt8} {n : Int} (hA : A.length = 4) (hN : Nn.length = 8) (hC : C.length = 4) (hs : smallN A = D.length) (hd : D.length ≤ 1048576) (hne : smallN C ≠ crcL (A ++ Nn ++ D)) : parseR (A ++ Nn ++ C ++ D) n = .bad 28 := by
  have e1 : (A ++ Nn ++ C ++ D).take 4 = A := by rw [List.append_assoc, List.append_assoc, List.take_left' hA]
  have e2 : (A ++ Nn ++ C ++ D).take 12 = A ++ Nn := by rw [List.append_assoc (A ++ Nn), List.take_left' (by rw [List.length_append]; omega)]
  have e3 : ((A ++ Nn ++ C ++ D).drop 12).take 4 = C := by rw [List.append_assoc (A ++ Nn), List.drop_left' (by rw [List.length_append]; omega), List.take_left' hC]
  have e4 : ((A ++ Nn ++ C ++ D).drop 16).take D.length = D := by rw [List.drop_left' (by rw [List.length_append, List.length_append]; omega), List.take_of_length_le (Nat.le_refl _)]
  have hl : (A ++ Nn ++ C ++ D).length = 16 + D.length := by simp only [List.length_append]; omega
  unfold parseR
  rw [e1, e2, e3, hs, e4, hl, if_neg (by omega), if_neg (by omega), if_neg (by omega), if_pos hne]
/-- One byte behind the first four was changed. -/
theorem parse_changed {n : Nat} {d : List UInt8} (hd : d.length ≤ 1048576) {i : Nat} (h4 : 4 ≤ i) (hi : i < (frameL n d).length) {c : UInt8} (hc : (frameL n d)[i]? ≠ some c) (m : Int) : parseR ((frameL n d).set i c) m = .bad 28 := by
  have hA := bigL_len d.length 4
  have hN := bigL_len n 8
  have hs := small_big 4 d.length (by omega)
  obtain ⟨A, eA⟩ : ∃ A, bigL d.length 4 = A := ⟨_, rfl⟩
  obtain ⟨Nn, eN⟩ : ∃ Nn, bigL n 8 = Nn := ⟨_, rfl⟩
  have hC := bigL_len (crcL (A ++ Nn ++ d)) 4
  have hcs := small_big 4 (crcL (A ++ Nn ++ d)) (crcL_lt _)
  obtain ⟨C, eC⟩ : ∃ C, bigL (crcL (A ++ Nn ++ d)) 4 = C := ⟨_, rfl⟩
  have e : frameL n d = A ++ Nn ++ C ++ d := by unfold frameL headL; rw [eA, eN, eC]
  rw [eA] at hA hs
  rw [eN] at hN
  rw [eC] at hC hcs
  rw [e] at hi hc ⊢
  clear e eA eN eC
  have hl : (A ++ Nn ++ C ++ d).length = 16 + d.length := by simp only [List.length_append]; omega
  rw [hl] at hi
  have split : ∀ (l : List UInt8) (k : Nat), k < l.length → l[k]? ≠ some c → ∃ a x b, l = a ++ x :: b ∧ a.length = k ∧ x ≠ c := fun l k hk hx => by
    refine ⟨l.take k, l[k], l.drop (k + 1), ?_, by rw [List.length_take]; omega, fun e => hx (by rw [List.getElem?_eq_getElem hk, e])⟩
    rw [List.getElem_cons_drop, List.take_append_drop]
  have sete : ∀ (a : List UInt8) (x : UInt8) (b : List UInt8), (a ++ x :: b).set a.length c = a ++ c :: b := fun a x b => by
    rw [List.set_append_right _ _ (Nat.le_refl _), Nat.sub_self]
    rfl
  by_cases h12 : i < 12
  · have h1 : (A ++ Nn ++ C ++ d)[i]? = Nn[i - 4]? := by
      rw [List.append_assoc, List.append_assoc, List.getElem?_append_right (by omega), hA, List.getElem?_append_left (by omega)]
    rw [h1] at hc
    obtain ⟨a, x, b, rfl, ha, hx⟩ := split Nn (i - 4) (by omega) hc
    have e2 : (A ++ (a ++ x :: b) ++ C ++ d).set i c = A ++ (a ++ c :: b) ++ C ++ d := by
      have := sete (A ++ a) x (b ++ C ++ d)
      rw [List.length_append, hA, ha, show 4 + (i - 4) = i by omega] at this
      simpa [List.append_assoc] using this
    rw [e2]
    refine parse_bad hA (by simpa using hN) hC hs hd ?_
    rw [hcs]
    have := crc_ne (A ++ a) (b ++ d) hx
    simpa [List.append_assoc] using this
  · by_cases h16 : i < 16
    · have h1 : (A ++ Nn ++ C ++ d)[i]? = C[i - 12]? := by
        rw [List.append_assoc (A ++ Nn), List.getElem?_append_right (by rw [List.length_append]; omega), List.length_append, hA, hN, List.getElem?_append_left (by omega)]
      rw [h1] at hc
      obtain ⟨a, x, b, hab, ha, hx⟩ := split C (i - 12) (by omega) hc
      have e2 : (A ++ Nn ++ C ++ d).set i c = A ++ Nn ++ (a ++ c :: b) ++ d := by
        have := sete (A ++ Nn ++ a) x (b ++ d)
        rw [List.length_append, List.length_append, hA, hN, ha, show 4 + 8 + (i - 12) = i by omega] at this
        rw [hab]
        simpa [List.append_assoc] using this
      rw [e2]
      have hC2 : (a ++ c :: b).length = 4 := by rw [hab] at hC; simpa using hC
      refine parse_bad hA hN hC2 hs hd ?_
      rw [← hcs]
      intro he
      have := small_inj 4 _ _ hC2 hC he
      rw [hab] at this
      have h2 := List.append_cancel_left this
      injection h2 with h3 _
      exact hx h3.symm
    · have h1 : (A ++ Nn ++ C ++ d)[i]? = d[i - 16]? := by
        rw [List.getElem?_append_right (by simp only [List.length_append]; omega)]
        congr 1
        simp only [List.length_append]
        omega
      rw [h1] at hc
      obtain ⟨a, x, b, rfl, ha, hx⟩ := split d (i - 16) (by omega) hc
      have e2 : (A ++ Nn ++ C ++ (a ++ x :: b)).set i c = A ++ Nn ++ C ++ (a ++ c :: b) := by
        have := sete (A ++ Nn ++ C ++ a) x b
        rw [show (A ++ Nn ++ C ++ a).length = i by simp only [List.length_append]; omega] at this
        simpa [List.append_assoc] using this
      rw [e2]
      refine parse_bad hA hN hC (by rw [hs]; simp) (by simpa using hd) ?_
      rw [hcs]
      have := crc_ne (A ++ Nn ++ a) b hx
      simpa [List.append_assoc] using this
end Go.Proofs.YtbafnlccpbonmaaGreatDoor

namespace Go.Proofs.YtbafnlccpbonmaaGreatDoor
set_option linter.unusedVariables false
set_option linter.unnecessarySimpa false
set_option linter.unusedSimpArgs false

/-! ### Names -/
def lowB (c : UInt8) : Bool := decide (97 ≤ c.toNat) && decide (c.toNat ≤ 122)
def nmB (c : UInt8) : Bool := lowB c || (decide (c.toNat = 95) || (decide (48 ≤ c.toNat) && decide (c.toNat ≤ 57)))
/-- charset.IsName. -/
def nameC (l : List UInt8) : Bool := match l with
  | [] => false
  | c :: r => decide (r.length + 1 ≤ 32) && (lowB c && r.all nmB)

/-! ### Eight digits -/
def digL (n : Nat) : Nat → List UInt8
  | 0 => []
  | k + 1 => digL (n / 10) k ++ [UInt8.ofNat (48 + n % 10)]
def undN (l : List UInt8) : Nat := l.foldl (fun n b => n * 10 + (b.toNat - 48)) 0
def isD (c : UInt8) : Bool := decide (48 ≤ c.toNat) && decide (c.toNat ≤ 57)
theorem digL_len : ∀ (k n : Nat), (digL n k).length = k
  | 0, n => rfl
  | k + 1, n => by rw [digL, List.length_append, digL_len k]; rfl
theorem dig_nat (n : Nat) : (UInt8.ofNat (48 + n % 10)).toNat = 48 + n % 10 := UInt8.toNat_ofNat_of_lt' (show 48 + n % 10 < 256 by omega)
theorem digL_all : ∀ (k n : Nat), (digL n k).all isD = true
  | 0, n => rfl
  | k + 1, n => by
    rw [digL, List.all_append, digL_all k]
    simp only [List.all_cons, List.all_nil, Bool.and_true, Bool.true_and, isD, dig_nat, Bool.and_eq_true, decide_eq_true_eq]
    omega
theorem undN_app (l : List UInt8) (c : UInt8) : undN (l ++ [c]) = undN l * 10 + (c.toNat - 48) := by unfold undN; rw [List.foldl_append]; rfl
theorem und_dig : ∀ (k n : Nat), n < 10 ^ k → undN (digL n k) = n
  | 0, n, h => by simp at h; subst h; rfl
  | k + 1, n, h => by
    rw [digL, undN_app, und_dig k (n / 10) (by rw [Nat.pow_succ] at h; omega), dig_nat]
    omega
theorem dig_und : ∀ (k : Nat) (l : List UInt8), l.length = k → l.all isD = true → digL (undN l) k = l ∧ undN l < 10 ^ k := by
  intro k
  induction k with
  | zero => intro l hl _; rw [List.eq_nil_of_length_eq_zero hl]; exact ⟨rfl, by decide⟩
  | succ k ih =>
    intro l hl ha
    obtain ⟨l', x, rfl⟩ : ∃ a' x, l = a' ++ [x] := ⟨l.dropLast, l.getLast (by intro e; rw [e] at hl; cases hl), (List.dropLast_concat_getLast _).symm⟩
    rw [List.all_append, Bool.and_eq_true] at ha
    obtain ⟨h1, h2⟩ := ih l' (by simpa using hl) ha.1
    have hx : 48 ≤ x.toNat ∧ x.toNat ≤ 57 := by
      have := ha.2
      simpa [isD] using this
    rw [undN_app]
    constructor
    · rw [digL, show (undN l' * 10 + (x.toNat - 48)) / 10 = undN l' by omega, h1, show (undN l' * 10 + (x.toNat - 48)) % 10 = x.toNat - 48 by omega, show 48 + (x.toNat - 48) = x.toNat by omega]
      congr 2
      exact UInt8.toNat_inj.1 (UInt8.toNat_ofNat_of_lt' x.toNat_lt)
    · rw [Nat.pow_succ]
      omega
theorem dg_zero (n : Nat) : dg (digs n) 0 = ((n % 10 : Nat) : Int) := by
  by_cases h : n = 0
  · subst h; rw [digs_zero]; rfl
  · rw [digs_pos h]; rfl
/-- The digits, as the decimal texts name them. -/
theorem low_dig : ∀ (k n : Nat), (lowN (digs n) k).reverse = digL n k
  | 0, n => rfl
  | k + 1, n => by
    have ih := low_dig k (n / 10)
    by_cases h : n = 0
    · subst h
      rw [digs_zero] at ih ⊢
      rw [lowN_nil] at ih ⊢
      rw [show (0 / 10 : Nat) = 0 from rfl] at ih
      rw [digL, show (0 / 10 : Nat) = 0 from rfl, ← low_dig k 0, digs_zero, lowN_nil, List.reverse_replicate, List.reverse_replicate]
      rw [show UInt8.ofNat (48 + 0 % 10) = 48 from rfl, ← List.replicate_succ']
    · rw [digs_pos h, lowN_cons, List.reverse_cons, ih, digL, asc_nat _ (by omega)]
/-- The number of a segment, padded. -/
theorem pad8 {n : Nat} (hn : n < 100000000) (h1 : 1 ≤ n) : List.replicate (8 - (Lib.itoa (n : Int)).length) 48 ++ Lib.itoa (n : Int) = digL n 8 ∧ (Lib.itoa (n : Int)).length ≤ 8 := by
  have hD := len_digs_le (n := n) (k := 8) (by omega)
  have e := itoa_low (n := (n : Int)) (by omega)
  rw [show ((n : Int)).natAbs = n by omega] at e
  have hl : (Lib.itoa (n : Int)).length = max (digs n).length 1 := by rw [e, List.length_reverse, lowN_len]
  refine ⟨?_, by rw [hl]; omega⟩
  rw [hl, e]
  have := pad_low (digs n) 7
  rw [← low_dig 8 n]
  have e2 : txtN (digs n) 7 = 8 := by unfold txtN; omega
  rw [e2] at this
  exact this
theorem atoi8 {n : Nat} (hn : n < 100000000) : Lib.atoiAll (digL n 8) = .ok (n : Int) := by
  have hL : Dig (lowL (digs n) 8) := lowL_dig (dig_digs n) 8
  have hne : lowL (digs n) 8 ≠ [] := fun e => by have := congrArg List.length e; rw [lowL_len] at this; cases this
  have hv : valD (lowL (digs n) 8) = (((n : Int)).natAbs : Int) := by
    rw [lowL_val, List.take_of_length_le (len_digs_le (by omega)), valD_digs]
    omega
  have h := atoi_num hL hne hv (by omega)
  rw [if_neg (by omega), List.nil_append] at h
  rw [← low_dig 8 n, lowN_map, ← List.map_reverse]
  unfold ascL at h
  rw [← List.map_reverse] at h
  exact h
def fileL (name : List UInt8) (n : Nat) : List UInt8 := name ++ 45 :: digL n 8
/-- File: the name, or the first error. -/
def fileR (name : List UInt8) (n : Int) : List UInt8 × Int := if nameC name = false then ([], 12) else if ¬ inN n then ([], 2) else (fileL name n.toNat, 0)
/-- The definition's number. -/
def numM (name f : List UInt8) : Option Nat :=
  if nameC name = true ∧ f.length = name.length + 9 ∧ f.take (name.length + 1) = name ++ [45] ∧ (f.drop (name.length + 1)).all isD = true ∧ 0 < undN (f.drop (name.length + 1)) then some (undN (f.drop (name.length + 1))) else none
theorem numM_iff (name f : List UInt8) (n : Nat) : numM name f = some n ↔ nameC name = true ∧ inN (n : Int) ∧ f = fileL name n := by
  unfold numM inN
  constructor
  · intro h
    split at h
    · rename_i hc
      obtain ⟨h1, h2, h3, h4, h5⟩ := hc
      cases h
      obtain ⟨e1, e2⟩ := dig_und 8 (f.drop (name.length + 1)) (by rw [List.length_drop]; omega) h4
      refine ⟨h1, by omega, ?_⟩
      unfold fileL
      rw [e1]
      conv => lhs; rw [← List.take_append_drop (name.length + 1) f, h3]
      rw [List.append_assoc]
      rfl
    · cases h
  · rintro ⟨h1, h2, rfl⟩
    have e1 : (fileL name n).drop (name.length + 1) = digL n 8 := by
      unfold fileL
      rw [show name ++ 45 :: digL n 8 = (name ++ [45]) ++ digL n 8 by simp, List.drop_left' (by simp)]
    have e2 : (fileL name n).take (name.length + 1) = name ++ [45] := by
      unfold fileL
      rw [show name ++ 45 :: digL n 8 = (name ++ [45]) ++ digL n 8 by simp, List.take_left' (by simp)]
    rw [e1, e2, und_dig 8 n (by omega)]
    rw [if_pos ⟨h1, by unfold fileL; simp [digL_len], rfl, digL_all 8 n, by omega⟩]
/-- The code's number: behind the last '-'. -/
def numP (name f : List UInt8) (i : Int) : Option Nat :=
  if i < 0 then none else match Lib.atoiAll (f.drop (i.toNat + 1)) with
  | .ok v => if nameC name = true ∧ inN v ∧ f = fileL name v.toNat then some v.toNat else none
  | _ => none
theorem num_eq {name f : List UInt8} {i : Int} (hi : ∀ n, f = fileL name n → i = (name.length : Int)) : numP name f i = numM name f := by
  have key : ∀ n, numP name f i = some n ↔ numM name f = some n := by
    intro n
    rw [numM_iff]
    unfold numP
    constructor
    · intro h
      split at h
      · cases h
      · split at h
        · rename_i v hv
          split at h
          · rename_i hc
            cases h
            obtain ⟨h1, h2, h3⟩ := hc
            have : ((v.toNat : Nat) : Int) = v := by unfold inN at h2; omega
            exact ⟨h1, by rw [this]; exact h2, h3⟩
          · cases h
        · cases h
    · rintro ⟨h1, h2, h3⟩
      have e := hi n h3
      have e1 : f.drop (i.toNat + 1) = digL n 8 := by
        rw [h3, e, Int.toNat_natCast]
        unfold fileL
        rw [show name ++ 45 :: digL n 8 = (name ++ [45]) ++ digL n 8 by simp, List.drop_left' (by simp)]
      rw [if_neg (by omega), e1, atoi8 (by unfold inN at h2; omega)]
      simp only
      rw [if_pos ⟨h1, h2, by rw [Int.toNat_natCast]; exact h3⟩, Int.toNat_natCast]
  rcases h : numM name f with _ | n
  · rcases h' : numP name f i with _ | n
    · rfl
    · rw [(key n).1 h'] at h
      cases h
  · exact (key n).2 h
end Go.Proofs.YtbafnlccpbonmaaGreatDoor

namespace Go.Proofs.YtbafnlccpbonmaaGreatDoor
set_option linter.unusedVariables false
set_option linter.unnecessarySimpa false
set_option linter.unusedSimpArgs false

/-- A segment: the number with which it begins, the offsets of its records and of its end. -/
structure Pt where
  first : Nat
  offs : List Nat
def Pt.size (p : Pt) : Nat := p.offs.getLastD 0
def Pt.behind (p : Pt) : Int := (p.first : Int) + p.offs.length - 1
/-- The frames of records from a number on. -/
def framesL : Nat → List (List UInt8) → List UInt8
  | _, [] => []
  | n, d :: r => frameL n d ++ framesL (n + 1) r
def offsF : Nat → List (List UInt8) → List Nat
  | a, [] => [a]
  | a, d :: r => a :: offsF (a + (16 + d.length)) r
theorem framesL_app : ∀ (a : List (List UInt8)) (n : Nat) (b : List (List UInt8)), framesL n (a ++ b) = framesL n a ++ framesL (n + a.length) b
  | [], n, b => rfl
  | d :: a, n, b => by
    rw [List.cons_append, framesL, framesL_app a (n + 1) b, framesL, List.append_assoc, List.length_cons, show n + 1 + a.length = n + (a.length + 1) by omega]
theorem framesL_len : ∀ (r : List (List UInt8)) (n m : Nat), (framesL n r).length = (framesL m r).length
  | [], n, m => rfl
  | d :: r, n, m => by rw [framesL, framesL, List.length_append, List.length_append, frameL_len, frameL_len, framesL_len r (n + 1) (m + 1)]
/-- The bytes of the frames. -/
def bytesF (r : List (List UInt8)) : Nat := (framesL 0 r).length
theorem bytesF_nil : bytesF [] = 0 := rfl
theorem bytesF_cons (d : List UInt8) (r : List (List UInt8)) : bytesF (d :: r) = 16 + d.length + bytesF r := by
  unfold bytesF
  rw [framesL, List.length_append, frameL_len, framesL_len r 1 0]
theorem bytesF_app (a b : List (List UInt8)) : bytesF (a ++ b) = bytesF a + bytesF b := by
  unfold bytesF
  rw [framesL_app, List.length_append, framesL_len b (0 + a.length) 0]
theorem len_frames (n : Nat) (r : List (List UInt8)) : (framesL n r).length = bytesF r := framesL_len r n 0
theorem offsF_ne (a : Nat) (r : List (List UInt8)) : offsF a r ≠ [] := by cases r <;> simp [offsF]
theorem offsF_len : ∀ (r : List (List UInt8)) (a : Nat), (offsF a r).length = r.length + 1
  | [], a => rfl
  | d :: r, a => by rw [offsF, List.length_cons, offsF_len r, List.length_cons]
theorem offsF_get : ∀ (r : List (List UInt8)) (a k : Nat), k ≤ r.length → (offsF a r)[k]? = some (a + bytesF (r.take k))
  | [], a, k, h => by
    have : k = 0 := by simpa using h
    subst this
    simp [offsF, bytesF_nil]
  | d :: r, a, 0, h => by simp [offsF, bytesF_nil]
  | d :: r, a, k + 1, h => by
    rw [offsF, List.getElem?_cons_succ, offsF_get r _ k (by simpa using h), List.take_succ_cons, bytesF_cons]
    congr 1
    omega
theorem offsF_last (r : List (List UInt8)) (a : Nat) : (offsF a r).getLastD 0 = a + bytesF r := by
  have h := offsF_get r a r.length (Nat.le_refl _)
  rw [List.take_length] at h
  rw [List.getLastD_eq_getLast?, List.getLast?_eq_getElem?, offsF_len, Nat.add_sub_cancel, h]
  rfl
theorem offsF_snoc : ∀ (r : List (List UInt8)) (a : Nat) (d : List UInt8), offsF a (r ++ [d]) = offsF a r ++ [a + bytesF r + (16 + d.length)]
  | [], a, d => by simp [offsF, bytesF_nil]
  | x :: r, a, d => by
    rw [List.cons_append, offsF, offsF_snoc r, offsF, List.cons_append, bytesF_cons]
    congr 3
    omega
theorem offsF_le : ∀ (r : List (List UInt8)) (a : Nat), ∀ o ∈ offsF a r, o ≤ a + bytesF r
  | [], a, o, h => by
    simp [offsF] at h
    omega
  | d :: r, a, o, h => by
    rw [offsF, List.mem_cons] at h
    rw [bytesF_cons]
    rcases h with rfl | h
    · omega
    · have := offsF_le r _ o h
      omega
/-- What a scan of a text finds behind what it has found; f: rounds at most. -/
def scanT : Nat → List UInt8 → Pt → Pt × Int
  | 0, _, p => (p, 0)
  | f + 1, t, p => if p.size < t.length then
      match parseP t p.size p.behind with
      | .bad e => (p, e)
      | .ok d => scanT f t ⟨p.first, p.offs ++ [p.size + 16 + d.length]⟩
    else (p, 0)
/-- Records that can be framed from a number on. -/
def FitR (n : Nat) (r : List (List UInt8)) : Prop := 1 ≤ n ∧ n + r.length ≤ 100000000 ∧ ∀ d ∈ r, d.length ≤ 1048576
theorem scan_frames (first : Nat) : ∀ (todo don : List (List UInt8)) (f : Nat) (z : List UInt8), FitR first (don ++ todo) → todo.length < f → (z = [] ∨ z ≠ [] ∧ ∃ e, parseR z (first + (don ++ todo).length : Nat) = .bad e ∧ inN (first + (don ++ todo).length : Nat)) →
    scanT f (framesL first (don ++ todo) ++ z) ⟨first, offsF 0 don⟩ = (⟨first, offsF 0 (don ++ todo)⟩, if z = [] then 0 else match parseR z (first + (don ++ todo).length : Nat) with | .bad e => e | .ok _ => 0)
  | [], don, f + 1, z, hf, hl, hz => by
    rw [List.append_nil] at *
    have hs : (⟨first, offsF 0 don⟩ : Pt).size = (framesL first don).length := by
      unfold Pt.size
      rw [offsF_last, len_frames]
      omega
    have hb : (⟨first, offsF 0 don⟩ : Pt).behind = ((first + don.length : Nat) : Int) := by
      unfold Pt.behind
      simp only
      rw [offsF_len]
      omega
    unfold scanT
    rw [hs, hb, List.length_append]
    rcases hz with rfl | ⟨hzn, e, he, hi⟩
    · rw [if_neg (by simp), if_pos rfl]
    · have hzl : 0 < z.length := by
        rcases z with _ | ⟨c, z⟩
        · exact absurd rfl hzn
        · simp
      rw [if_pos (by omega), if_neg hzn]
      have : parseP (framesL first don ++ z) ((framesL first don).length : Nat) ((first + don.length : Nat) : Int) = .bad e := by
        unfold parseP
        rw [if_neg (by rw [List.length_append]; simp only [hi, not_true, or_false]; omega), Int.toNat_natCast, List.drop_left' rfl, he]
      rw [this, he]
  | d :: todo, don, 0, z, hf, hl, hz => by simp at hl
  | d :: todo, don, f + 1, z, hf, hl, hz => by
    have hs : (⟨first, offsF 0 don⟩ : Pt).size = (framesL first don).length := by
      unfold Pt.size
      rw [offsF_last, len_frames]
      omega
    have hb : (⟨first, offsF 0 don⟩ : Pt).behind = ((first + don.length : Nat) : Int) := by
      unfold Pt.behind
      simp only
      rw [offsF_len]
      omega
    obtain ⟨h1, h2, h3⟩ := hf
    rw [List.length_append, List.length_cons] at h2
    have e0 : framesL first (don ++ d :: todo) ++ z = framesL first don ++ frameL (first + don.length) d ++ (framesL (first + don.length + 1) todo ++ z) := by
      rw [framesL_app, framesL]
      simp only [List.append_assoc]
    unfold scanT
    rw [hs, hb]
    have hp := parse_at (n := first + don.length) (by unfold inN; omega) (h3 d (by simp)) (framesL first don) (framesL (first + don.length + 1) todo ++ z)
    rw [← e0] at hp
    rw [if_pos (by rw [e0]; simp only [List.length_append, frameL_len]; omega), hp]
    have ih := scan_frames first todo (don ++ [d]) f z ⟨h1, by simp; omega, by simpa using h3⟩ (by simpa using hl) (by simpa using hz)
    have e1 : don ++ [d] ++ todo = don ++ d :: todo := by simp
    rw [e1] at ih
    have e2 : offsF 0 (don ++ [d]) = offsF 0 don ++ [(framesL first don).length + 16 + d.length] := by
      rw [offsF_snoc, len_frames]
      congr 2
      omega
    rw [e2] at ih
    exact ih
end Go.Proofs.YtbafnlccpbonmaaGreatDoor

namespace Go.Proofs.YtbafnlccpbonmaaGreatDoor
set_option linter.unusedVariables false
set_option linter.unnecessarySimpa false
set_option linter.unusedSimpArgs false

/-- The first bytes, the last one of them changed or not. -/
def cutB (l : List UInt8) (k : Nat) (c : Option UInt8) : List UInt8 := match c with
  | none => l.take k
  | some c => (l.take k).set (k - 1) c
theorem parse_cut {n : Nat} {d : List UInt8} (hd : d.length ≤ 1048576) {k : Nat} (hk : k < (frameL n d).length) (c : Option UInt8) (m : Int) :
    parseR (cutB (frameL n d) k c) m = .bad 29 := by
  obtain ⟨t, ht, hl, h4⟩ : ∃ t, cutB (frameL n d) k c = t ∧ t.length = k ∧ (16 ≤ k → t.take 4 = (frameL n d).take 4) := by
    refine ⟨_, rfl, ?_, fun h16 => ?_⟩
    · unfold cutB
      rcases c with _ | c
      · simp only [List.length_take]; omega
      · simp only [List.length_set, List.length_take]; omega
    · unfold cutB
      rcases c with _ | c
      · simp only [List.take_take]
        rw [Nat.min_eq_left (by omega)]
      · simp only
        rw [List.take_set_of_le (by omega), List.take_take, Nat.min_eq_left (by omega)]
  rw [ht]
  unfold parseR
  by_cases h16 : k < 16
  · rw [if_pos (by omega)]
  · have e := (frame_parts n d []).1
    rw [List.append_nil] at e
    rw [h4 (by omega), e, small_big 4 d.length (by omega), if_neg (by omega), if_neg (by omega), if_pos (by rw [frameL_len] at hk; omega)]
end Go.Proofs.YtbafnlccpbonmaaGreatDoor

namespace Go.Proofs.YtbafnlccpbonmaaGreatDoor
set_option linter.unusedVariables false
set_option linter.unnecessarySimpa false
set_option linter.unusedSimpArgs false

structure Lg where
  name : List UInt8
  limit : Int
  parts : List Pt
  dur : Int
def Lg.last (l : Lg) : Int := match l.parts.getLast? with
  | none => 0
  | some p => p.behind - 1
def Lg.frst (l : Lg) : Int := match l.parts.head? with
  | none => 1
  | some p => p.first
def Lg.file (l : Lg) (n : Int) : List UInt8 := (fileR l.name n).1
def lsync (s : Ds) (l : Lg) : Int × Ds × Lg := match l.parts.getLast? with
  | none => (0, s, l)
  | some p => if (syncD s (l.file p.first)).1 ≠ 0 then ((syncD s (l.file p.first)).1, (syncD s (l.file p.first)).2, l) else (0, (syncD s (l.file p.first)).2, { l with dur := l.last })
def lnew (s : Ds) (l : Lg) (n : Int) : Int × Ds × Lg :=
  if (createD s (l.file n)).1 ≠ 0 then ((createD s (l.file n)).1, (createD s (l.file n)).2, l) else (0, (createD s (l.file n)).2, { l with parts := l.parts ++ [⟨n.toNat, [0]⟩] })
def lrot (s : Ds) (l : Lg) (n : Int) (z : Int) : Int × Ds × Lg := match l.parts.getLast? with
  | none => lnew s l n
  | some p => if p.size = 0 ∨ (p.size : Int) + z ≤ l.limit then (0, s, l)
    else if (lsync s l).1 ≠ 0 then lsync s l else lnew (lsync s l).2.1 (lsync s l).2.2 n
/-- The last segment has one record more. -/
def Lg.more (l : Lg) (z : Nat) : Lg := match l.parts.getLast? with
  | none => l
  | some p => { l with parts := l.parts.dropLast ++ [⟨p.first, p.offs ++ [p.size + z]⟩] }
def ladd (s : Ds) (l : Lg) (n : Int) (t : List UInt8) : (Int × Int) × Ds × Lg := match l.parts.getLast? with
  | none => ((0, 0), s, l)
  | some p => if (appendD s (l.file p.first) t).1 ≠ 0 then ((0, (appendD s (l.file p.first) t).1), (appendD s (l.file p.first) t).2, l) else ((n, 0), (appendD s (l.file p.first) t).2, l.more t.length)
def lapp (s : Ds) (l : Lg) (data : List UInt8) : (Int × Int) × Ds × Lg :=
  if 1048576 < data.length then ((0, 5), s, l) else if 99999999 < l.last + 1 then ((0, 9), s, l)
  else if (lrot s l (l.last + 1) (16 + data.length)).1 ≠ 0 then ((0, (lrot s l (l.last + 1) (16 + data.length)).1), (lrot s l (l.last + 1) (16 + data.length)).2)
  else ladd (lrot s l (l.last + 1) (16 + data.length)).2.1 (lrot s l (l.last + 1) (16 + data.length)).2.2 (l.last + 1) (frameL (l.last + 1).toNat data)
/-- The segment in which a record lies. -/
def Lg.part (l : Lg) (n : Int) : Option Pt := (l.parts.filter fun p => decide ((p.first : Int) ≤ n)).getLast?
def lread (s : Ds) (l : Lg) (n : Int) : List UInt8 × Int := if n < l.frst ∨ l.last < n then ([], 8) else match l.part n with
  | none => ([], 0)
  | some p => let k := (n - p.first).toNat
    let r := readD s (l.file p.first) (p.offs.getD k 0) ((p.offs.getD (k + 1) 0 : Int) - p.offs.getD k 0)
    if r.2 ≠ 0 then ([], r.2) else match parseP r.1 0 n with
      | .ok d => (d, 0)
      | .bad e => ([], e)
def ldrop (nm : List UInt8) (b : Int) : Ds → List Pt → Nat → (Int × Int) × Ds × List Pt
  | s, p :: q :: r, n => if (q.first : Int) ≤ b then
      (if (removeD s (fileR nm p.first).1).1 ≠ 0 then ((0, (removeD s (fileR nm p.first).1).1), (removeD s (fileR nm p.first).1).2, p :: q :: r)
       else ldrop nm b (removeD s (fileR nm p.first).1).2 (q :: r) (n + 1)) else (((n : Int), 0), s, p :: q :: r)
  | s, ps, n => (((n : Int), 0), s, ps)
/-! ### Open -/
/-- The segments' files, one after another. -/
def openF (nm : List UInt8) : List Nat → Ds → List Pt → Int × Ds × List Pt
  | [], s, ps => (0, s, ps)
  | n :: r, s, ps =>
    if ps ≠ [] ∧ (n : Int) ≠ (match ps.getLast? with | some p => p.behind | none => 0) then (33, s, ps)
    else if (sizeD s (fileR nm n).1).2 ≠ 0 then ((sizeD s (fileR nm n).1).2, s, ps)
    else if (readD s (fileR nm n).1 0 (sizeD s (fileR nm n).1).1).2 ≠ 0 then ((readD s (fileR nm n).1 0 (sizeD s (fileR nm n).1).1).2, s, ps)
    else
      let t := (readD s (fileR nm n).1 0 (sizeD s (fileR nm n).1).1).1
      let p := scanT (t.length + 1) t ⟨n, [0]⟩
      if p.2 ≠ 0 ∧ r ≠ [] then (p.2, s, ps)
      else if p.2 ≠ 0 then
        (if (truncD s (fileR nm n).1 p.1.size).1 ≠ 0 then ((truncD s (fileR nm n).1 p.1.size).1, (truncD s (fileR nm n).1 p.1.size).2, ps) else openF nm r (truncD s (fileR nm n).1 p.1.size).2 (ps ++ [p.1]))
      else openF nm r s (ps ++ [p.1])
def firstsL (nm : List UInt8) (fs : List (List UInt8)) : List Nat := (fs.filterMap (numM nm)).mergeSort (fun a b => decide (a ≤ b))
def openL (s : Ds) (nm : List UInt8) (lim : Int) : Int × Ds × Option Lg :=
  if s.down = true then (31, s, none) else if nameC nm = false then (12, s, none) else if lim < 64 ∨ 4194304 < lim then (2, s, none)
  else
    let r := openF nm (firstsL nm (namesC s.fs)) s []
    if r.1 ≠ 0 then (r.1, r.2.1, none)
    else
      let q := lsync r.2.1 ⟨nm, lim, r.2.2, 0⟩
      if q.1 ≠ 0 then (q.1, q.2.1, none) else (0, q.2.1, some q.2.2)
end Go.Proofs.YtbafnlccpbonmaaGreatDoor
