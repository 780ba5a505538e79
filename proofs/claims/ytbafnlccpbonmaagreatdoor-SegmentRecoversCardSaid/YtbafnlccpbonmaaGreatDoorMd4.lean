/- The law's data and contents. -/
import Derived.Test.YtbafnlccpbonmaaGreatDoorMd3
import Derived.Test.YtbafnlccpbonmaaGreatDoorSl2
namespace Go.Proofs.YtbafnlccpbonmaaGreatDoor
set_option linter.unusedVariables false
set_option linter.unnecessarySimpa false
set_option linter.unusedSimpArgs false
open Go.RowKit

/-- The first j bytes that an operation appends, and zeros. -/
def dataF (b : UInt8) (i : Nat) : UInt8 := UInt8.ofNat ((b.toNat + i) % 256)
def dataP (b : UInt8) (j k : Nat) : List UInt8 := (List.range j).map (dataF b) ++ List.replicate (k - j) 0
def dataL (b : UInt8) (z : Nat) : List UInt8 := (List.range (z % 201)).map (dataF b)
theorem dataL_len (b : UInt8) (z : Nat) : (dataL b z).length ≤ 200 := by
  unfold dataL
  rw [List.length_map, List.length_range]
  have := Nat.mod_lt z (show 201 > 0 by decide)
  omega
theorem dataP_set {b : UInt8} {j k : Nat} (h : j < k) : (dataP b j k).set j (dataF b j) = dataP b (j + 1) k := by
  unfold dataP
  rw [List.range_succ, List.map_append, show k - j = (k - (j + 1)) + 1 by omega, List.replicate_succ, List.set_append_right _ _ (by simp), List.append_assoc]
  simp
theorem dataP_at {b : UInt8} {j k : Nat} (h : j < k) : (dataP b j k)[j]? = some 0 := by
  unfold dataP
  rw [List.getElem?_append_right (by simp)]
  simp [List.getElem?_replicate, show 0 < k - j by omega]
theorem dataP_zero (b : UInt8) (k : Nat) : u8s (dataP b 0 k) = List.replicate k (.int .u8 0) := by
  unfold dataP u8s
  simp
theorem dataP_len (b : UInt8) {j k : Nat} (h : j ≤ k) : (dataP b j k).length = k := by unfold dataP; simp; omega
set_option maxRecDepth 20000 in set_option maxHeartbeats 4000000 in
theorem opdata_any (v : Value) (b : UInt8) (Z : Nat) (hZ : Z < 65536) (w : World) : Calls Tryz.prog 27 #[.agg #[v, .int .u8 (b.toNat : Int), .int .u16 (Z : Int)]] w fun e w' => e = .returned (.string (B (dataL b Z))) ∧ Below w.heap.size w w' := by
  obtain ⟨k, hk⟩ : ∃ k, Z % 201 = k := ⟨_, rfl⟩
  have hk201 := Nat.mod_lt Z (show 201 > 0 by decide)
  have hk200 : k ≤ 200 := by omega
  have hD : Hid (dataL b Z = dataP b k k) := by
    unfold Hid dataL dataP
    rw [hk, Nat.sub_self, List.replicate_zero, List.append_nil]
  have w1 : IntKind.i64.wrap (Z : Int) = (Z : Int) := IntWalk.i64_in _ (by omega)
  have w2 : (Z : Int) % 201 = (k : Int) := by rw [← hk]; rfl
  have w3 : (Z : Int).tmod 201 = (k : Int) := by rw [Int.tmod_eq_emod_of_nonneg (by omega)]; exact w2
  have w4 : IntKind.i64.wrap (k : Int) = (k : Int) := IntWalk.i64_in _ (by omega)
  obtain ⟨iF, hi0, hz0, hz1, hz2⟩ := info_parts infoU8g
  have hmk := fun w => run_makeSlice (P := Tryz.prog) w 34 5 iF (.int .u8 0) Tryz.underlying34 hi0 hz0 .i64 .i64 k k (by omega) (Int.le_refl _) (by rw [hz1, Int.toNat_natCast]; omega) (by rw [hz2]; omega) (by omega)
  rw [hz1, Int.toNat_natCast, Nat.mul_one, made_u8g] at hmk
  go_enter Tryz.func27, Tryz.ntmps27
  go_upto_region 2 with fail
  obtain ⟨b1, hb1⟩ : ∃ b, w.heap.size = b := ⟨_, rfl⟩
  rw [hb1]
  obtain ⟨b2, hb2⟩ : ∃ b, b1 + 1 = b := ⟨_, rfl⟩
  rw [hb2]
  refine wp_name (fun wx => Hid (wx.cell? ⟨b1, 1, none⟩ = some (.int .u8 (b.toNat : Int)) ∧ b1 < wx.heap.size) ∧ Hid (Bx wx b2 (u8s (dataP b 0 k))) ∧ Hid (Below w.heap.size w wx)) ⟨Lib.hid ⟨?_, ?_⟩, Lib.hid (Bx.new (by rw [← hb2, ← hb1]; simp) (by rw [dataP_zero]; simp)), Lib.hid (G.alloc (G.alloc (G.refl w) _) _)⟩ ?_
  · have h1 := (Bx.new (w := w) (B := b1) (l := [v, .int .u8 (b.toNat : Int), .int .u16 (Z : Int)]) (t := 56) hb1.symm rfl)
    exact ((h1.grow (G.alloc (G.refl _) _)).2 1 _ rfl).1
  · simp
    omega
  rintro w5 ⟨HC, HX, HG⟩
  have HS := Lib.hid (show w.heap.size ≤ b1 ∧ b1 < b2 by omega)
  have hne : b1 ≠ b2 := by omega
  clear hb1 hb2 hmk hk w1 w2 w3 w4
  go_wp2_with fail
  go_loopw [4] (fun iv wx => ∃ j : Nat, j ≤ k ∧ iv = .int .i64 (j : Int) ∧ Hid (wx.cell? ⟨b1, 1, none⟩ = some (.int .u8 (b.toNat : Int)) ∧ b1 < wx.heap.size) ∧ Hid (Bx wx b2 (u8s (dataP b j k))) ∧ Hid (Below w.heap.size w wx)) (fun iv _ => k - (intOf iv).toNat)
  case atStart => exact ⟨0, Nat.zero_le _, rfl, HC, HX, HG⟩
  case round =>
    clear HX HG HC
    obtain ⟨j, hj, rfl, HC, HX, HG⟩ := hrel
    by_cases hlt : j < k
    · have hlt' : (j : Int) < (k : Int) := by omega
      obtain ⟨c, hc⟩ : ∃ c, dataF b j = c := ⟨_, rfl⟩
      have hcn : c.toNat = (b.toNat + j) % 256 := by rw [← hc]; exact UInt8.toNat_ofNat_of_lt' (show (b.toNat + j) % 256 < 256 by omega)
      have key : Hid (∀ (wy : World), Bx wy b2 (u8s (dataP b j k)) → Bx (wy.setCell ⟨b2, j, none⟩ (.int .u8 (c.toNat : Int))) b2 (u8s (dataP b (j + 1) k))) := Lib.hid (fun _ h => Bx.put h (by rw [u8s_set, ← hc, dataP_set hlt]))
      have hat := HX.out.2 j _ (u8s_get (dataP_at hlt))
      have q0 := hat.1
      have f0 := hat.2
      have ltb := HX.out.lt
      have c1 := HC.out.1
      have ltc := HC.out.2
      have bl := b.toNat_lt
      have e1 : IntKind.u8.wrap (j : Int) = (j : Int) := IntWalk.u8_in _ (by omega)
      have e2 : IntKind.u8.wrap ((b.toNat : Int) + (j : Int)) = (c.toNat : Int) := by
        rw [hcn]
        show ((b.toNat : Int) + (j : Int)) % 256 = _
        omega
      have e3 : IntKind.i64.wrap ((j : Int) + 1) = ((j + 1 : Nat) : Int) := by rw [IntWalk.i64_in _ (by omega)]; omega
      clear hat hc hcn
      go_wp2_with fail
      refine ⟨⟨j + 1, by omega, rfl, Lib.hid ⟨?_, ?_⟩, Lib.hid (key.out _ HX.out), Lib.hid (HG.out.setCell (p := ⟨b2, j, none⟩) (by have := HS.out; dsimp only; omega) _)⟩, by simp [intOf]; omega⟩
      · rw [World.cell?_setCell_other _ _ _ _ (by intro e; injection e with e _; exact hne e.symm)]
        exact HC.out.1
      · simp [World.setCell]
        exact HC.out.2
    · obtain rfl : j = k := by omega
      have hlt' : ¬ (j : Int) < (j : Int) := by omega
      have hcv := fun c => conv_back HX.out c
      rw [dataP_len b (Nat.le_refl j)] at hcv
      go_wp2_with fail
      go_ret
      exact ⟨by rw [hD.out]; rfl, HG.out⟩
set_option maxRecDepth 20000 in set_option maxHeartbeats 4000000 in
theorem contents_any {w : World} {d : Nat} {S : Nat → Prop} {s : Ds} (h : DevW w d S s) (ho : s.Ok) (nm : List UInt8) (hm : nm.length ≤ 1000) : Calls Tryz.prog 29 #[.pointer (some ⟨d, 0, none⟩), .string (B nm)] w fun e w' => e = .returned (.string (B (textD s nm).1)) ∧ Below w.heap.size w w' := by
  have SZ := Lib.hid (size_any h (B nm) (by rw [B_size]; unfold maxLen; omega))
  rw [B_list] at SZ
  have RD := Lib.hid (read_any h ho (B nm) (by rw [B_size]; unfold maxLen; omega) 0 ((textD s nm).1.length : Int) (by omega))
  rw [B_list] at RD
  obtain ⟨s1, s2⟩ := size_text s nm
  have hrd : (readD s nm 0 ((textD s nm).1.length : Int)).1 = (textD s nm).1 := by
    by_cases hx : (textD s nm).2 = 0
    · rw [read_text hx]
    · rw [text_bad hx]
      unfold textD at hx
      unfold readD
      split
      · rfl
      · rename_i hd
        rw [if_neg hd] at hx
        rcases hl : lkC s.fs nm with _ | f
        · rfl
        · rw [hl] at hx
          exact absurd rfl hx
  rw [s2] at SZ
  obtain ⟨X, hX⟩ : ∃ X, readD s nm 0 ((textD s nm).1.length : Int) = X := ⟨_, rfl⟩
  rw [hX] at RD hrd
  obtain ⟨t, e⟩ := X
  dsimp only at hrd
  subst hrd
  obtain ⟨y, hy⟩ : ∃ y, (sizeD s nm).2 = y := ⟨_, rfl⟩
  rw [hy] at SZ
  unfold RetR at RD
  dsimp only at RD
  obtain ⟨tt, htt⟩ : ∃ tt, (textD s nm).1 = tt := ⟨_, rfl⟩
  rw [htt] at SZ RD ⊢
  rw [show BA tt = B tt from rfl] at RD
  clear hX s1 s2 hy htt
  go_enter Tryz.func29, Tryz.ntmps29
  go_wp2_with fail
  go_at_call 65
  (with_reducible refine SZ.out.mono ?_)
  rintro e1 w1 ⟨rfl, hw⟩
  subst hw
  go_wp2_with fail
  go_at_call 66
  (with_reducible refine RD.out.mono ?_)
  rintro e1 w2 ⟨rfl, hb2⟩
  go_wp2_with fail
  go_ret
  exact ⟨rfl, hb2⟩
end Go.Proofs.YtbafnlccpbonmaaGreatDoor
