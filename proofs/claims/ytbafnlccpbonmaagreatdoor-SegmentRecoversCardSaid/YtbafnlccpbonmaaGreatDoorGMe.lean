/- segment: Checksum, Frame, Parse -/
import Derived.Test.YtbafnlccpbonmaaGreatDoorData
import Derived.Lib.Builder
import Derived.Test.YtbafnlccpbonmaaGreatDoorProg
import Derived.Test.YtbafnlccpbonmaaGreatDoorShelf4
import Derived.Test.YtbafnlccpbonmaaGreatDoorOrdD
import Derived.Test.YtbafnlccpbonmaaGreatDoorTree
import Derived.Deep.Cut
import Derived.Lib.AppendStr
import Derived.Lib.UnsafeStr
import Derived.Laws.Externs
import Derived.Test.YtbafnlccpbonmaaGreatDoorGMd
import Derived.Deep.WholeRow
import Derived.Deep.CutRange
import Derived.Deep.MidRow
import Derived.Laws.BitsAllLaws
import Derived.Test.YtbafnlccpbonmaaGreatDoorGLib
import Derived.Laws.IdiomStrings
import Derived.MakeChecks
namespace Go.Proofs.YtbafnlccpbonmaaGreatDoor
set_option linter.unusedVariables false
set_option linter.unnecessarySimpa false
set_option linter.unusedSimpArgs false
open Go.RowKit

abbrev tB : TypeId := 123
theorem sizeB : (Tryz.prog.info? 123).map (·.size) = some 2 := by kernel_rfl
theorem liesB : liesAt Tryz.prog Tryz.prog.depth 123 (2 / Tryz.prog.cellsOf 123) 0 123 1 = true := by kernel_rfl
theorem infoByte : (Tryz.prog.info? 5).map (fun i => (i.zero, i.size, i.bytes)) = some (some (.int .u8 0), 1, 1) := by kernel_rfl
section
variable {w : World} {B b : Nat} {bs : List Value}
set_option maxHeartbeats 1000000 in
set_option maxRecDepth 100000 in
theorem check_used (h0 : w.cell? ⟨b, 0, none⟩ = some (.pointer (some ⟨b, 0, none⟩))) : Calls Tryz.prog 102 #[.pointer (some ⟨b, 0, none⟩)] w fun e w' => e = .returned (.tuple #[]) ∧ w' = w := by
  obtain ⟨j, hj, _⟩ := Option.map_eq_some_iff.1 sizeB
  have q := fun (wx : World) => Lib.run_neq_ptr_same (P := Tryz.prog) wx (tp := 121) ⟨b, 0, none⟩ Tryz.underlying121 hj
  go_enter Tryz.func102, Tryz.ntmps102
  go_wp2_with fail
  go_end0
  exact ⟨rfl, rfl⟩
set_option maxHeartbeats 1000000 in
set_option maxRecDepth 100000 in
theorem check_fresh (h0 : w.cell? ⟨b, 0, none⟩ = some (.pointer none)) (hsh : w.shape? b = some (123, 2)) (hfz : w.frozen? ⟨b, 0, none⟩ = false) :
    Calls Tryz.prog 102 #[.pointer (some ⟨b, 0, none⟩)] w fun e w' => e = .returned (.tuple #[]) ∧ w' = w.setCell ⟨b, 0, none⟩ (.pointer (some ⟨b, 0, none⟩)) := by
  obtain ⟨j, hj, hjs⟩ := Option.map_eq_some_iff.1 sizeB
  have q1 := Lib.run_to_unsafe (P := Tryz.prog) w (src := 121) (dst := 159) ⟨b, 0, none⟩ Tryz.underlying121 Tryz.underlying159 hj (by rw [hjs]; decide) hsh (Nat.zero_lt_succ 1)
  have q2 : ∀ (x : Value) (wx : World), (callFunc 127 #[x]).run Tryz.prog wx = .ok (.value x) wx := fun x wx => by
    rw [run_callFunc_extern Tryz.func127 (by kernel_rfl) (by kernel_rfl) (by kernel_rfl) (e := Extern.AbiNoEscape.same) (by kernel_rfl), Lib.run_noEscape]
    rfl
  have q3 := Lib.run_from_unsafe (P := Tryz.prog) w (src := 159) (dst := 121) ⟨b, 0, none⟩ Tryz.underlying159 Tryz.underlying121 hj hsh liesB
  go_enter Tryz.func102, Tryz.ntmps102
  go_wp2_with fail
  go_end0
  exact ⟨rfl, rfl⟩
abbrev IsB (B b : Nat) (bs : List Value) (w : World) : Prop := Lib.IsBuilder 123 5 B b bs w
abbrev BAt (B b : Nat) (bs : List Value) (w : World) : Prop := Lib.BuilderAt 123 5 B b (.pointer (some ⟨b, 0, none⟩)) bs w
theorem bcheck_any (h : IsB B b bs w) : Calls Tryz.prog 102 #[.pointer (some ⟨b, 0, none⟩)] w fun e w' => e = .returned (.tuple #[]) ∧ BAt B b bs w' ∧ Below B w w' := by
  rcases h with h | h
  · refine (check_fresh h.cell0 h.shape h.frozen0).mono ?_
    rintro e w' ⟨rfl, rfl⟩
    exact ⟨rfl, h.used _, (Below.refl B w).setCell (p := ⟨b, 0, none⟩) h.1 _⟩
  · refine (check_used h.cell0).mono ?_
    rintro e w' ⟨rfl, rfl⟩
    exact ⟨rfl, h, Below.refl B _⟩
theorem own_slice {w : World} {B : Nat} {e : TypeId} {sz : Nat} {v : Value} {n : Nat} {xs : List Value} (h : w.ownsRow B e sz v n xs) : ∃ a c, v = .slice a n c := by
  rcases h.2 with ⟨hv, h0⟩ | ⟨g, cap, cur, hv, _⟩
  · exact ⟨_, _, by rw [hv, h0]⟩
  · exact ⟨_, _, hv⟩
set_option maxHeartbeats 2000000 in
set_option maxRecDepth 100000 in
theorem wbyte_any (h : IsB B b bs w) (c : Int) (hlen : bs.length + 1 ≤ 140737488355328) (hBw : B ≤ w.heap.size) :
    Calls Tryz.prog 81 #[.pointer (some ⟨b, 0, none⟩), .int .u8 c] w fun e w' => e = .returned .nilIface ∧ IsB B b (bs ++ [.int .u8 c]) w' ∧ Below B w w' := by
  obtain ⟨i0, hi, hz0, hz1, hz2⟩ := info_parts infoByte
  have CK := Lib.hid (fun wx hx => bcheck_any (w := wx) (B := B) (b := b) (bs := bs) hx)
  have H := Lib.hid h
  go_enter Tryz.func81, Tryz.ntmps81
  go_wp2_with fail
  go_at_call 102
  refine (CK.out _ H.out).mono ?_
  rintro e w1 ⟨rfl, ⟨hB, v, hbk, hown, hne⟩, hb1⟩
  have c0 : w1.cell? ⟨b, 0, none⟩ = some (.pointer (some ⟨b, 0, none⟩)) := by rw [Lib.cell_of_heap hbk]; rfl
  have c1 : w1.cell? ⟨b, 1, none⟩ = some v := by rw [Lib.cell_of_heap hbk]; rfl
  have hlt := cell_lt c0
  have hsz := hb1.size
  dsimp only at hlt
  go_wp2_with (at_builtin; refine wpList_append_own _ rfl _ _ 34 rfl B 5 i0 (.int .u8 0) 1 1 Tryz.underlying34 hi hz0 hz1 hz2 rfl (by decide) _ _ _ rfl (hown.alloc _) ⟨w1.heap.size, 0, none⟩ 1 1 [.int .u8 c] rfl rfl ?c1 ?c2 ?c3 ?c4 ?c5 ?_)
  case c1 =>
    intro j u hj
    match j, hj with
    | 0, hj => simp at hj; subst hj; simp [Addr.add]
  case c2 => intro u hu; simp at hu; subst hu; rfl
  case c3 => unfold maxLen; omega
  case c4 => omega
  case c5 => simp; omega
  intro v' w2 hown' hgrow _
  have hb2 : w2.heap[b]? = some (.cells #[.pointer (some ⟨b, 0, none⟩), v] 123 (0, 0)) := by
    rw [hgrow.block b (by simp; omega) (fun e => hne e.symm), Lib.alloc_old w1 _ b hlt]
    exact hbk
  have d0 : w2.cell? ⟨b, 0, none⟩ = some (.pointer (some ⟨b, 0, none⟩)) := by rw [Lib.cell_of_heap hb2]; rfl
  have d1 : w2.cell? ⟨b, 1, none⟩ = some v := by rw [Lib.cell_of_heap hb2]; rfl
  have f1 : w2.frozen? ⟨b, 1, none⟩ = false := Lib.frozen_of_heap hb2 1
  obtain ⟨a, cap, rfl⟩ := own_slice hown'
  go_wp2_with fail
  go_ret
  exact ⟨rfl, .inr (Lib.BuilderAt.put hB hb2 (bs' := bs ++ [.int .u8 c]) (by simpa using hown') (by decide)), ((hb1.alloc (by omega) _).grown hgrow (by simp; omega) (fun k hk => (hown.lt k hk).1)).setCell (p := ⟨b, 1, none⟩) hB _⟩
set_option maxHeartbeats 2000000 in
set_option maxRecDepth 100000 in
theorem wstring_any (h : IsB B b bs w) (s : ByteArray) (hlen : bs.length + s.size ≤ 140737488355328) (hBw : B ≤ w.heap.size) :
    Calls Tryz.prog 87 #[.pointer (some ⟨b, 0, none⟩), .string s] w fun e w' => e = .returned (.tuple #[.int .i64 s.size, .nilIface]) ∧ IsB B b (bs ++ Lib.byteCells s.data.toList) w' ∧ Below B w w' := by
  obtain ⟨i0, hi, hz0, hz1, hz2⟩ := info_parts infoByte
  have CK := Lib.hid (fun wx hx => bcheck_any (w := wx) (B := B) (b := b) (bs := bs) hx)
  have H := Lib.hid h
  go_enter Tryz.func87, Tryz.ntmps87
  go_wp2_with fail
  go_at_call 102
  refine (CK.out _ H.out).mono ?_
  rintro e w1 ⟨rfl, ⟨hB, v, hbk, hown, hne⟩, hb1⟩
  have c0 : w1.cell? ⟨b, 0, none⟩ = some (.pointer (some ⟨b, 0, none⟩)) := by rw [Lib.cell_of_heap hbk]; rfl
  have c1 : w1.cell? ⟨b, 1, none⟩ = some v := by rw [Lib.cell_of_heap hbk]; rfl
  have hlt := cell_lt c0
  have hsz := hb1.size
  dsimp only at hlt
  go_wp2_with (at_builtin; refine Lib.wpList_append_own_string _ rfl _ _ 34 9 rfl B 5 i0 Tryz.underlying34 Tryz.underlying9 hi hz0 hz1 hz2 _ _ _ rfl hown s rfl ?c3 ?c4 ?c5 ?_)
  case c3 => unfold maxLen; omega
  case c4 => omega
  case c5 => omega
  intro v' w2 hown' hgrow _
  have hb2 : w2.heap[b]? = some (.cells #[.pointer (some ⟨b, 0, none⟩), v] 123 (0, 0)) := by
    rw [hgrow.block b hlt (fun e => hne e.symm)]
    exact hbk
  have d0 : w2.cell? ⟨b, 0, none⟩ = some (.pointer (some ⟨b, 0, none⟩)) := by rw [Lib.cell_of_heap hb2]; rfl
  have d1 : w2.cell? ⟨b, 1, none⟩ = some v := by rw [Lib.cell_of_heap hb2]; rfl
  have f1 : w2.frozen? ⟨b, 1, none⟩ = false := Lib.frozen_of_heap hb2 1
  obtain ⟨a, cap, rfl⟩ := own_slice hown'
  go_wp2_with fail
  refine bodyPost_ret (v := .tuple #[.int .i64 s.size, .nilIface]) (by simp only [results, Tryz.results87]; go_simp) rfl ?_
  exact ⟨rfl, .inr (Lib.BuilderAt.put hB hb2 (bs' := bs ++ Lib.strCells s) (by simpa [Lib.strCells_length] using hown') (by decide)), (hb1.grown hgrow (by omega) (fun k hk => (hown.lt k hk).1)).setCell (p := ⟨b, 1, none⟩) hB _⟩
theorem bstring_any (l : List UInt8) (h : IsB B b (Lib.byteCells l) w) (hBw : B ≤ w.heap.size) :
    Calls Tryz.prog 82 #[.pointer (some ⟨b, 0, none⟩)] w fun e w' => e = .returned (.string ⟨l.toArray⟩) ∧ Below B w w' := Tryz.Builder_String_any B b l w h hBw
end
end Go.Proofs.YtbafnlccpbonmaaGreatDoor

namespace Go.Proofs.YtbafnlccpbonmaaGreatDoor
set_option linter.unusedVariables false
set_option linter.unnecessarySimpa false
set_option linter.unusedSimpArgs false
open Go.RowKit

/-- The table's cells, the first k of them filled. -/
def tabC (k : Nat) : List Value := (List.range 256).map fun i => if i < k then .int .u32 ((tabN i : Nat) : Int) else .int .u32 0
theorem tabC_len (k : Nat) : (tabC k).length = 256 := by simp [tabC]
theorem tabC_get {k i : Nat} (hi : i < 256) (hk : i < k) : (tabC k)[i]? = some (.int .u32 ((tabN i : Nat) : Int)) := by
  unfold tabC
  rw [List.getElem?_map, List.getElem?_range hi]
  simp [hk]
theorem tabC_set {k : Nat} (hk : k < 256) : (tabC k).set k (.int .u32 ((tabN k : Nat) : Int)) = tabC (k + 1) := by
  apply List.ext_getElem?
  intro i
  rw [List.getElem?_set]
  by_cases hi : i < 256
  · by_cases h : k = i
    · subst h
      rw [if_pos rfl, if_pos (by rw [tabC_len]; exact hk), tabC_get hk (by omega)]
    · rw [if_neg h]
      unfold tabC
      rw [List.getElem?_map, List.getElem?_map, List.getElem?_range hi]
      simp only [Option.map_some]
      congr 1
      by_cases h2 : i < k
      · rw [if_pos h2, if_pos (by omega)]
      · rw [if_neg h2, if_neg (by omega)]
  · rw [List.getElem?_eq_none (by rw [tabC_len]; omega), if_neg (by omega), List.getElem?_eq_none (by rw [tabC_len]; omega)]
theorem infoTab : (Tryz.prog.info? 83).map (fun i => (i.zero, i.size)) = some (some (.agg (tabC 0).toArray), 256) := by kernel_rfl
theorem and1 {x : Nat} (hx : x < 4294967296) : bits .and .u32 (x : Int) 1 = ((x % 2 : Nat) : Int) := by
  have := u32_and_nat x 1 hx (by decide)
  rw [nat_mask1] at this
  exact this
theorem stps_snoc : ∀ (k x : Nat), stps (k + 1) x = stp (stps k x)
  | 0, x => rfl
  | k + 1, x => by rw [stps, stps_snoc k]; rfl
theorem fillsB0 {B : Nat} : ∀ (vs : List Value) (w : World) (pre l : List Value), Bx w B (pre ++ l) → l.length = vs.length → Bx (w.setCells B pre.length vs) B (pre ++ vs)
  | [], w, pre, l, h, e => by
    have : l = [] := List.eq_nil_of_length_eq_zero e
    subst this
    exact h
  | v :: vs, w, pre, [], h, e => by cases e
  | v :: vs, w, pre, x :: l, h, e => by
    have h1 : Bx (w.setCell ⟨B, pre.length, none⟩ v) B ((pre ++ [v]) ++ l) := Bx.put h (by simp [List.set_append])
    have h2 := fillsB0 vs _ (pre ++ [v]) l h1 (by simpa using e)
    simpa [World.setCells] using h2
/-- A store of all the cells of a block. -/
theorem fillsB {B : Nat} {l vs : List Value} {w : World} (h : Bx w B l) (e : l.length = vs.length) : Bx (w.setCells B 0 vs) B vs := fillsB0 vs w [] l h e
theorem belowS {L B : Nat} {a : World} (hB : L ≤ B) : ∀ (vs : List Value) (o : Nat) {w : World}, Below L a w → Below L a (w.setCells B o vs)
  | [], _, _, h => h
  | v :: vs, o, w, h => belowS hB vs (o + 1) (h.setCell (p := ⟨B, o, none⟩) hB v)
theorem name_k2 {K : World → Prop} {W : World} (D : World → Prop) (h1 : D W) (h2 : ∀ wx, D wx → K wx) : K W := h2 W h1
set_option maxRecDepth 20000 in set_option maxHeartbeats 4000000 in
theorem table_any (w : World) : Calls Tryz.prog 49 #[] w fun e w' => e = .returned (.agg (tabC 256).toArray) ∧ Below w.heap.size w w' := by
  obtain ⟨hz, hi⟩ := zero_of_info infoTab
  obtain ⟨Z, hZ⟩ : ∃ Z, (tabC 0).toArray = Z := ⟨_, rfl⟩
  rw [hZ] at hz
  have HZ := Lib.hid hZ
  have HI := Lib.hid hi
  clear hZ hi
  go_enter Tryz.func49, Tryz.ntmps49
  go_upto_region 2 with fail
  obtain ⟨r0, hr0⟩ : ∃ r, w.heap.size = r := ⟨_, rfl⟩
  rw [hr0]
  refine wp_name (fun wx => Hid (Bx wx r0 (tabC 0)) ∧ Hid (Bx wx (r0 + 1) (tabC 0)) ∧ Hid (Below w.heap.size w wx)) ⟨Lib.hid (Bx.alloc (Bx.new hr0.symm HZ.out.symm) _), Lib.hid (Bx.new (by simp [hr0]) HZ.out.symm), Lib.hid (G.alloc (G.alloc (G.refl _) _) _)⟩ ?_
  rintro w1 ⟨H0, H1, HG⟩
  have hr := Lib.hid hr0
  clear hr0 hz HZ
  go_wp2_with fail
  go_loopw [4] (fun iv wx => ∃ i : Nat, i ≤ 256 ∧ iv = .int .i64 (i : Int) ∧ Hid (Bx wx r0 (tabC 0)) ∧ Hid (Bx wx (r0 + 1) (tabC i)) ∧ Hid (Below w.heap.size w wx)) (fun iv _ => 256 - (intOf iv).toNat)
  case atStart => exact ⟨0, Nat.zero_le _, rfl, H0, H1, HG⟩
  case round =>
    clear H0 H1 HG
    obtain ⟨i, hi, rfl, H0, H1, HG⟩ := hrel
    by_cases hlt : i < 256
    · have l1 : (i : Int) < 256 := by omega
      have hw2 : IntKind.i64.wrap ((i : Int) + 1) = ((i + 1 : Nat) : Int) := by rw [IntWalk.i64_in _ (by omega)]; omega
      have hw3 : IntKind.u32.wrap (i : Int) = (i : Int) := by rw [IntKind.wrap_u32']; omega
      go_wp2_with fail
      go_loopw [3, 9] (fun xv kv wx => ∃ k : Nat, k ≤ 8 ∧ xv = .int .u32 ((stps k i : Nat) : Int) ∧ kv = .int .i64 (k : Int) ∧ wx = wr) (fun _ kv _ => 8 - (intOf kv).toNat)
      case atStart => exact ⟨0, Nat.zero_le _, rfl, rfl, rfl⟩
      case round =>
        obtain ⟨k, hk, rfl, rfl, rfl⟩ := hrel
        have hw4 : IntKind.i64.wrap ((k : Int) + 1) = ((k + 1 : Nat) : Int) := by rw [IntWalk.i64_in _ (by omega)]; omega
        obtain ⟨X, hX⟩ : ∃ X, stps k i = X := ⟨_, rfl⟩
        have hXl : X < 4294967296 := by rw [← hX]; exact stps_lt k (by omega)
        have ha := and1 hXl
        by_cases hlk : k < 8
        · have l2 : (k : Int) < 8 := by omega
          have hst : stps (k + 1) i = stp X := by rw [← hX]; exact stps_snoc k i
          rw [hX]
          clear hX
          by_cases h1 : X % 2 = 1
          · have h1' : ((X % 2 : Nat) : Int) = 1 := by omega
            have hs2 : stp X = (X / 2) ^^^ 3988292384 := by unfold stp; rw [if_pos h1]
            have hxr := u32_xor_nat (X / 2) 3988292384 (by omega) (by decide)
            rw [← hs2, ← hst] at hxr
            have hxr2 : bits .xor .u32 ((X : Int) / 2) 3988292384 = ((stps (k + 1) i : Nat) : Int) := hxr
            replace hxr2 := Lib.hid hxr2
            clear h1 hs2 hxr hst
            go_wp2_with fail
            go_roundw
            case rel => exact ⟨k + 1, by omega, by rw [hxr2.out], by go_num, trivial⟩
            case measure => simp [intOf]; omega
          · have h1' : ¬ ((X % 2 : Nat) : Int) = 1 := by omega
            have hs2 : stp X = X / 2 := by unfold stp; rw [if_neg h1]
            have hxr : Hid (((X : Int) / 2) = ((stps (k + 1) i : Nat) : Int)) := by unfold Hid; rw [hst, hs2]; rfl
            clear h1 hs2 hst
            go_wp2_with fail
            go_roundw
            case rel => exact ⟨k + 1, by omega, by rw [hxr.out], by go_num, trivial⟩
            case measure => simp [intOf]; omega
        · have l2 : ¬ (k : Int) < 8 := by omega
          obtain rfl : k = 8 := by omega
          rw [hX]
          have hT : Hid (tabN i = X) := hX
          have key : ∀ (wy : World), Bx wy (r0 + 1) (tabC i) → Bx (wy.setCell ⟨r0 + 1, i, none⟩ (.int .u32 (X : Int))) (r0 + 1) (tabC (i + 1)) := fun _ h => Bx.put h (by rw [← hT.out]; exact tabC_set hlt)
          replace key := Lib.hid key
          have hg0 : (tabC i)[i]? = some (.int .u32 0) := by
            unfold tabC
            rw [List.getElem?_map, List.getElem?_range hlt]
            simp
          have q1 := (H1.out.2 i _ hg0).1
          have q2 := (H1.out.2 i _ hg0).2
          have lt1 := H1.out.lt
          clear hX hg0 ha
          go_wp2_with fail
          go_roundw
          case rel => exact ⟨i + 1, by omega, by go_num, Lib.hid (H0.out.other (show r0 ≠ r0 + 1 by omega) _), Lib.hid (key.out _ H1.out), Lib.hid (HG.out.setCell (show w.heap.size ≤ r0 + 1 by have := hr.out; omega) _)⟩
          case measure => simp [intOf]; omega
    · have l1 : ¬ (i : Int) < 256 := by omega
      obtain rfl : i = 256 := by omega
      go_upto_region 14 with fail
      refine wp_region_list ?_
      refine wpList_load_mid rfl _ (.tmp 1) rfl (r0 + 1) 0 rfl (tabC 256) _ (fun j v hj => by rw [Nat.zero_add]; exact (H1.out.2 j v hj).1) Tryz.underlying83 rfl (by rw [tabC_len]; exact HI.out) ?_
      refine wpList_store_mid rfl _ (.tmp 0) (.tmp 24) rfl r0 0 (tabC 256).toArray rfl rfl (fun j hj => ?_) (by rw [List.size_toArray, tabC_len]; exact HI.out) ?_ ?_
      · rw [List.size_toArray, tabC_len] at hj
        obtain ⟨u, hu⟩ : ∃ u, (tabC 0)[j]? = some u := ⟨_, List.getElem?_eq_getElem (by rw [tabC_len]; exact hj)⟩
        rw [Nat.zero_add, (H0.out.2 j u hu).1]
        exact ⟨rfl, (H0.out.2 j u hu).2⟩
      · exact all_oneCell_toArray (fun v hv => by
          unfold tabC at hv
          obtain ⟨k, _, rfl⟩ := List.mem_map.1 hv
          split <;> rfl)
      refine name_k2 (fun wx => Hid (Bx wx r0 (tabC 256)) ∧ Hid (Below w.heap.size w wx)) ⟨Lib.hid (fillsB H0.out (by rw [tabC_len, tabC_len])), Lib.hid (belowS (Nat.le_of_eq hr.out) _ _ HG.out)⟩ ?_
      rintro w2 ⟨H2, HG2⟩
      clear H0 H1 HG
      have hld := run_loadVar_mid (P := Tryz.prog) w2 r0 0 83 (tabC 256) _ (fun j v hj => by rw [Nat.zero_add]; exact (H2.out.2 j v hj).1) Tryz.underlying83 rfl (by rw [tabC_len]; exact HI.out)
      unfold wpList
      go_wp2_with fail
      refine bodyPost_ret (v := .agg (tabC 256).toArray) ?_ rfl ⟨rfl, HG2.out⟩
      simp only [results, Tryz.results49]
      simp [asAddr, Result.andThen, hld]
end Go.Proofs.YtbafnlccpbonmaaGreatDoor

namespace Go.Proofs.YtbafnlccpbonmaaGreatDoor
set_option linter.unusedVariables false
set_option linter.unnecessarySimpa false
set_option linter.unusedSimpArgs false
open Go.RowKit

theorem regL_take {l : List UInt8} {i : Nat} {c : UInt8} (h : l[i]? = some c) : regL (l.take (i + 1)) = stps 8 (regL (l.take i) ^^^ c.toNat) := by
  rw [List.take_add_one, h]
  exact regL_app _ c
/-- A byte's step, by the table. -/
theorem crc_step {x : Nat} (hx : x < 4294967296) (c : UInt8) : bits .xor .u32 ((x : Int) / 256) ((tabN ((x % 256) ^^^ c.toNat) : Nat) : Int) = ((stps 8 (x ^^^ c.toNat) : Nat) : Int) := by
  have hc := c.toNat_lt
  have h := u32_xor_nat (x / 256) (tabN ((x % 256) ^^^ c.toNat)) (by omega) (stps_lt 8 (by have := xor256 (show x % 256 < 256 by omega) (show c.toNat < 256 by omega); omega))
  rw [crc_byte x c.toNat (by omega)] at h
  exact h
theorem tab_one (k : Nat) : (tabC k).toArray.all (·.oneCell') = true := all_oneCell_toArray (fun v hv => by
  unfold tabC at hv
  obtain ⟨j, _, rfl⟩ := List.mem_map.1 hv
  split <;> rfl)
set_option maxRecDepth 20000 in set_option maxHeartbeats 4000000 in
theorem checksum_any (s : ByteArray) (hs : s.size ≤ 4611686018427387904) (w : World) : Calls Tryz.prog 14 #[.string s] w fun e w' => e = .returned (.int .u32 ((crcL s.data.toList : Nat) : Int)) ∧ Below w.heap.size w w' := by
  obtain ⟨l, hll⟩ : ∃ l, s.data.toList = l := ⟨_, rfl⟩
  have hl : l.length = s.size := by rw [← hll]; rfl
  have hat : ∀ i (h : i < s.size), l[i]? = some s[i] := fun i h => by
    have h1 : i < s.data.toList.length := h
    rw [← hll, List.getElem?_eq_getElem h1]
    rfl
  replace hat := Lib.hid hat
  replace hl := Lib.hid hl
  rw [hll]
  have TB := Lib.hid (table_any w)
  have HI := Lib.hid (zero_of_info infoTab).2
  have hz := (zero_of_info infoTab).1
  obtain ⟨Z, hZ⟩ : ∃ Z, (tabC 0).toArray = Z := ⟨_, rfl⟩
  rw [hZ] at hz
  have HZ := Lib.hid hZ
  obtain ⟨Y, hY⟩ : ∃ Y, (tabC 256).toArray = Y := ⟨_, rfl⟩
  rw [hY] at TB
  have HY := Lib.hid hY
  clear hll hZ hY
  go_enter Tryz.func14, Tryz.ntmps14
  go_upto_region 1 with fail
  refine wp_region_list ?_
  go_wp2_with fail
  (with_reducible refine TB.out.mono ?_)
  rintro e1 w1 ⟨rfl, hb1⟩
  have hY256 : Y.size = 256 := by rw [← HY.out, List.size_toArray, tabC_len]
  have hsc := run_storeCells_new (P := Tryz.prog) w1 83 Z Y (by rw [hY256]; exact HI.out) (by rw [hY256, ← HZ.out, List.size_toArray, tabC_len]) (by rw [← HY.out]; exact tab_one 256)
  go_upto_region 2 with fail
  obtain ⟨r, hr⟩ : ∃ r, w1.heap.size = r := ⟨_, rfl⟩
  rw [hr]
  refine wp_name (fun wx => Hid (Bx wx r (tabC 256)) ∧ Hid (Below w.heap.size w wx)) ⟨Lib.hid (Bx.new hr.symm HY.out.symm), Lib.hid (G.alloc hb1 _)⟩ ?_
  rintro w2 ⟨HT, HG⟩
  clear hsc hY256 hr hb1 hz HI HZ HY TB
  go_wp2_with fail
  go_loopw [4, 9] (fun xv iv wx => ∃ i : Nat, i ≤ s.size ∧ xv = .int .u32 ((regL (l.take i) : Nat) : Int) ∧ iv = .int .i64 (i : Int) ∧ wx = w2) (fun _ iv _ => s.size - (intOf iv).toNat)
  case atStart => exact ⟨0, Nat.zero_le _, rfl, rfl, rfl⟩
  case round =>
    obtain ⟨i, hi, rfl, rfl, rfl⟩ := hrel
    have hw2 : IntKind.i64.wrap ((i : Int) + 1) = ((i + 1 : Nat) : Int) := by rw [IntWalk.i64_in _ (by omega)]; omega
    obtain ⟨X, hX⟩ : ∃ X, regL (l.take i) = X := ⟨_, rfl⟩
    have hXl : X < 4294967296 := by rw [← hX]; exact regL_lt _
    by_cases hlt : i < s.size
    · have hlt' : (i : Int) < (s.size : Int) := by omega
      obtain ⟨c, hc⟩ : ∃ c, s[i] = c := ⟨_, rfl⟩
      have hlc := hat.out i hlt
      rw [hc] at hlc
      have hst : Hid (bits .xor .u32 ((X : Int) / 256) ((tabN ((X % 256) ^^^ c.toNat) : Nat) : Int) = ((regL (l.take (i + 1)) : Nat) : Int)) := by
        unfold Hid
        rw [regL_take hlc, hX]
        exact crc_step hXl c
      have hcl := c.toNat_lt
      have hJ := xor256 (show X % 256 < 256 by omega) (show c.toNat < 256 by omega)
      have hw8 : IntKind.u8.wrap (X : Int) = ((X % 256 : Nat) : Int) := by rw [IntKind.wrap_u8']; omega
      have hx8 := u8_xor_nat (X % 256) c.toNat (by omega) (by omega)
      obtain ⟨J, hJ2⟩ : ∃ J, (X % 256) ^^^ c.toNat = J := ⟨_, rfl⟩
      rw [hJ2] at hx8 hst hJ
      replace hx8 : bits .xor .u8 ((X : Int) % 256) (c.toNat : Int) = (J : Int) := hx8
      have hJi : (J : Int) < 256 := by omega
      have q1 := (HT.out.2 J _ (tabC_get hJ hJ)).1
      have ltr := HT.out.lt
      rw [hX]
      clear hX hlc hJ2
      go_wp2_with fail
      go_roundw
      case rel => exact ⟨i + 1, by omega, by rw [hst.out], by go_num, trivial⟩
      case measure => simp [intOf]; omega
    · obtain rfl : i = s.size := by omega
      have hfin : Hid (bits .xor .u32 4294967295 (X : Int) = ((crcL l : Nat) : Int)) := by
        unfold Hid crcL
        rw [List.take_of_length_le (by have := hl.out; omega)] at hX
        rw [hX, Nat.xor_comm]
        exact u32_xor_nat 4294967295 X (by decide) hXl
      have hsg : IntKind.u32.signed = false := rfl
      have hmx : IntKind.u32.max = 4294967295 := rfl
      have hG2 := HG
      rw [hX]
      clear hX
      go_wp2_with fail
      go_ret
      exact ⟨by rw [← hfin.out]; rfl, hG2.out⟩
end Go.Proofs.YtbafnlccpbonmaaGreatDoor

namespace Go.Proofs.YtbafnlccpbonmaaGreatDoor
set_option linter.unusedVariables false
set_option linter.unnecessarySimpa false
set_option linter.unusedSimpArgs false
open Go.RowKit

set_option maxRecDepth 20000 in set_option maxHeartbeats 400000 in
theorem in_any (n : Int) (w : World) : Calls Tryz.prog 47 #[.int .i64 n] w fun e w' => e = .returned (.bool (decide (inN n))) ∧ w' = w := by
  by_cases h1 : 1 ≤ n
  · by_cases h2 : n ≤ 99999999
    · rw [decide_eq_true (show inN n from ⟨h1, h2⟩)]
      go_enter Tryz.func47, Tryz.ntmps47
      go_wp2_with fail
      go_ret
      exact ⟨rfl, rfl⟩
    · rw [decide_eq_false (fun h : inN n => h2 h.2)]
      go_enter Tryz.func47, Tryz.ntmps47
      go_wp2_with fail
      go_ret
      exact ⟨rfl, rfl⟩
  · rw [decide_eq_false (fun h : inN n => h1 h.1)]
    go_enter Tryz.func47, Tryz.ntmps47
    go_wp2_with fail
    go_ret
    exact ⟨rfl, rfl⟩
set_option maxRecDepth 20000 in set_option maxHeartbeats 4000000 in
theorem lawsum_any (s : ByteArray) (hs : s.size ≤ 4611686018427387904) (w : World) : Calls Tryz.prog 15 #[.string s] w fun e w' => e = .returned (.int .u32 ((crcL s.data.toList : Nat) : Int)) ∧ w' = w := by
  obtain ⟨l, hll⟩ : ∃ l, s.data.toList = l := ⟨_, rfl⟩
  have hl : l.length = s.size := by rw [← hll]; rfl
  have hat : ∀ i (h : i < s.size), l[i]? = some s[i] := fun i h => by
    have h1 : i < s.data.toList.length := h
    rw [← hll, List.getElem?_eq_getElem h1]
    rfl
  replace hat := Lib.hid hat
  replace hl := Lib.hid hl
  rw [hll]
  clear hll
  go_enter Tryz.func15, Tryz.ntmps15
  go_wp2_with fail
  go_loopw [3, 4] (fun xv iv wx => ∃ i : Nat, i ≤ s.size ∧ xv = .int .u32 ((regL (l.take i) : Nat) : Int) ∧ iv = .int .i64 (i : Int) ∧ wx = w) (fun _ iv _ => s.size - (intOf iv).toNat)
  case atStart => exact ⟨0, Nat.zero_le _, rfl, rfl, rfl⟩
  case round =>
    obtain ⟨i, hi, rfl, rfl, rfl⟩ := hrel
    have hw2 : IntKind.i64.wrap ((i : Int) + 1) = ((i + 1 : Nat) : Int) := by rw [IntWalk.i64_in _ (by omega)]; omega
    obtain ⟨X, hX⟩ : ∃ X, regL (l.take i) = X := ⟨_, rfl⟩
    have hXl : X < 4294967296 := by rw [← hX]; exact regL_lt _
    by_cases hlt : i < s.size
    · have hlt' : (i : Int) < (s.size : Int) := by omega
      obtain ⟨c, hc⟩ : ∃ c, s[i] = c := ⟨_, rfl⟩
      have hlc := hat.out i hlt
      rw [hc] at hlc
      have hcl := c.toNat_lt
      have hcw : IntKind.u32.wrap (c.toNat : Int) = (c.toNat : Int) := by rw [IntKind.wrap_u32']; omega
      have hx8 := u32_xor_nat X c.toNat hXl (by omega)
      obtain ⟨Y, hY⟩ : ∃ Y, X ^^^ c.toNat = Y := ⟨_, rfl⟩
      have hYl : Y < 4294967296 := by rw [← hY]; exact xor32 hXl (by omega)
      have hst : Hid (regL (l.take (i + 1)) = stps 8 Y) := by
        unfold Hid
        rw [regL_take hlc, hX, hY]
      rw [hY] at hx8
      rw [hX]
      clear hX hlc hY
      go_wp2_with fail
      go_loopw [3, 5] (fun xv kv wx => ∃ k : Nat, k ≤ 8 ∧ xv = .int .u32 ((stps k Y : Nat) : Int) ∧ kv = .int .i64 (k : Int) ∧ wx = wr) (fun _ kv _ => 8 - (intOf kv).toNat)
      case atStart => exact ⟨0, Nat.zero_le _, rfl, rfl, rfl⟩
      case round =>
        obtain ⟨k, hk, rfl, rfl, rfl⟩ := hrel
        have hw4 : IntKind.i64.wrap ((k : Int) + 1) = ((k + 1 : Nat) : Int) := by rw [IntWalk.i64_in _ (by omega)]; omega
        obtain ⟨Z, hZ⟩ : ∃ Z, stps k Y = Z := ⟨_, rfl⟩
        have hZl : Z < 4294967296 := by rw [← hZ]; exact stps_lt k hYl
        have ha := and1 hZl
        by_cases hlk : k < 8
        · have l2 : (k : Int) < 8 := by omega
          have hst2 : stps (k + 1) Y = stp Z := by rw [← hZ]; exact stps_snoc k Y
          rw [hZ]
          clear hZ
          by_cases h1 : Z % 2 = 1
          · have h1' : ((Z % 2 : Nat) : Int) = 1 := by omega
            have hs2 : stp Z = (Z / 2) ^^^ 3988292384 := by unfold stp; rw [if_pos h1]
            have hxr := u32_xor_nat (Z / 2) 3988292384 (by omega) (by decide)
            rw [← hs2, ← hst2] at hxr
            have hxr2 : bits .xor .u32 ((Z : Int) / 2) 3988292384 = ((stps (k + 1) Y : Nat) : Int) := hxr
            replace hxr2 := Lib.hid hxr2
            clear h1 hs2 hxr hst2
            go_wp2_with fail
            go_roundw
            case rel => exact ⟨k + 1, by omega, by rw [hxr2.out], by go_num, trivial⟩
            case measure => simp [intOf]; omega
          · have h1' : ¬ ((Z % 2 : Nat) : Int) = 1 := by omega
            have hs2 : stp Z = Z / 2 := by unfold stp; rw [if_neg h1]
            have hxr : Hid (((Z : Int) / 2) = ((stps (k + 1) Y : Nat) : Int)) := by unfold Hid; rw [hst2, hs2]; rfl
            clear h1 hs2 hst2
            go_wp2_with fail
            go_roundw
            case rel => exact ⟨k + 1, by omega, by rw [hxr.out], by go_num, trivial⟩
            case measure => simp [intOf]; omega
        · have l2 : ¬ (k : Int) < 8 := by omega
          obtain rfl : k = 8 := by omega
          clear hZ hZl ha
          go_wp2_with fail
          go_roundw
          case rel => exact ⟨i + 1, by omega, by rw [hst.out], by go_num, trivial⟩
          case measure => simp [intOf]; omega
    · obtain rfl : i = s.size := by omega
      have hfin : Hid (bits .xor .u32 4294967295 (X : Int) = ((crcL l : Nat) : Int)) := by
        unfold Hid crcL
        rw [List.take_of_length_le (by have := hl.out; omega)] at hX
        rw [hX, Nat.xor_comm]
        exact u32_xor_nat 4294967295 X (by decide) hXl
      have hsg : IntKind.u32.signed = false := rfl
      have hmx : IntKind.u32.max = 4294967295 := rfl
      rw [hX]
      clear hX
      go_wp2_with fail
      go_ret
      exact ⟨by rw [← hfin.out]; rfl, rfl⟩
theorem smallN_take {l : List UInt8} {i : Nat} {c : UInt8} (h : l[i]? = some c) : smallN (l.take (i + 1)) = smallN (l.take i) * 256 + c.toNat := by
  rw [List.take_add_one, h]
  exact smallN_app _ c
theorem or_join {n c : Nat} (hn : n < 72057594037927936) (hc : c < 256) : bits .or .u64 ((n : Int) * 256) (c : Int) = ((n * 256 + c : Nat) : Int) := by
  have h := u64_or_nat (n * 256) c (by omega) (by omega)
  rw [nat_join 8 (n * 256) c (by omega) (by omega)] at h
  exact h
theorem small_lt56 {l : List UInt8} {i : Nat} (h : i < 8) : smallN (l.take i) < 72057594037927936 := by
  have h1 := smallN_lt (l.take i)
  have h2 : (l.take i).length ≤ 7 := by rw [List.length_take]; omega
  have h3 : 256 ^ (l.take i).length ≤ 256 ^ 7 := Nat.pow_le_pow_right (by decide) h2
  omega
set_option maxRecDepth 20000 in set_option maxHeartbeats 4000000 in
theorem small_any (s : ByteArray) (hs : s.size ≤ 8) (w : World) : Calls Tryz.prog 50 #[.string s] w fun e w' => e = .returned (.int .u64 ((smallN s.data.toList : Nat) : Int)) ∧ w' = w := by
  obtain ⟨l, hll⟩ : ∃ l, s.data.toList = l := ⟨_, rfl⟩
  have hl : l.length = s.size := by rw [← hll]; rfl
  have hat : ∀ i (h : i < s.size), l[i]? = some s[i] := fun i h => by
    have h1 : i < s.data.toList.length := h
    rw [← hll, List.getElem?_eq_getElem h1]
    rfl
  replace hat := Lib.hid hat
  replace hl := Lib.hid hl
  rw [hll]
  clear hll
  go_enter Tryz.func50, Tryz.ntmps50
  go_wp2_with fail
  go_loopw [3, 7] (fun xv iv wx => ∃ i : Nat, i ≤ s.size ∧ xv = .int .u64 ((smallN (l.take i) : Nat) : Int) ∧ iv = .int .i64 (i : Int) ∧ wx = w) (fun _ iv _ => s.size - (intOf iv).toNat)
  case atStart => exact ⟨0, Nat.zero_le _, rfl, rfl, rfl⟩
  case round =>
    obtain ⟨i, hi, rfl, rfl, rfl⟩ := hrel
    have hw2 : IntKind.i64.wrap ((i : Int) + 1) = ((i + 1 : Nat) : Int) := by rw [IntWalk.i64_in _ (by omega)]; omega
    by_cases hlt : i < s.size
    · have hlt' : (i : Int) < (s.size : Int) := by omega
      obtain ⟨c, hc⟩ : ∃ c, s[i] = c := ⟨_, rfl⟩
      have hlc := hat.out i hlt
      rw [hc] at hlc
      have hcl := c.toNat_lt
      have hX := small_lt56 (l := l) (show i < 8 by omega)
      have hst := smallN_take hlc
      obtain ⟨X, hXe⟩ : ∃ X, smallN (l.take i) = X := ⟨_, rfl⟩
      rw [hXe] at hX hst ⊢
      have hj := or_join hX (show c.toNat < 256 by omega)
      rw [← hst] at hj
      have hcw : IntKind.u64.wrap (c.toNat : Int) = (c.toNat : Int) := by simp [IntKind.wrap, IntKind.bits, IntKind.signed]; omega
      have hsw : IntKind.u64.wrap ((X : Int) * 256) = (X : Int) * 256 := by simp [IntKind.wrap, IntKind.bits, IntKind.signed]; omega
      replace hj := Lib.hid hj
      clear hXe hlc hst
      go_wp2_with fail
      go_roundw
      case rel => exact ⟨i + 1, by omega, by rw [hj.out], by go_num, trivial⟩
      case measure => simp [intOf]; omega
    · obtain rfl : i = s.size := by omega
      have hfin : Hid (smallN (l.take s.size) = smallN l) := by
        unfold Hid
        rw [List.take_of_length_le (by have := hl.out; omega)]
      rw [hfin.out]
      go_wp2_with fail
      go_ret
      exact ⟨rfl, rfl⟩
set_option maxRecDepth 20000 in set_option maxHeartbeats 4000000 in
theorem unbytes_any (s : ByteArray) (hs : s.size ≤ 8) (w : World) : Calls Tryz.prog 52 #[.string s] w fun e w' => e = .returned (.int .u64 ((smallN s.data.toList : Nat) : Int)) ∧ w' = w := by
  obtain ⟨l, hll⟩ : ∃ l, s.data.toList = l := ⟨_, rfl⟩
  have hl : l.length = s.size := by rw [← hll]; rfl
  have hat : ∀ i (h : i < s.size), l[i]? = some s[i] := fun i h => by
    have h1 : i < s.data.toList.length := h
    rw [← hll, List.getElem?_eq_getElem h1]
    rfl
  replace hat := Lib.hid hat
  replace hl := Lib.hid hl
  rw [hll]
  clear hll
  go_enter Tryz.func52, Tryz.ntmps52
  go_wp2_with fail
  go_loopw [3, 4] (fun xv iv wx => ∃ i : Nat, i ≤ s.size ∧ xv = .int .u64 ((smallN (l.take i) : Nat) : Int) ∧ iv = .int .i64 (i : Int) ∧ wx = w) (fun _ iv _ => s.size - (intOf iv).toNat)
  case atStart => exact ⟨0, Nat.zero_le _, rfl, rfl, rfl⟩
  case round =>
    obtain ⟨i, hi, rfl, rfl, rfl⟩ := hrel
    have hw2 : IntKind.i64.wrap ((i : Int) + 1) = ((i + 1 : Nat) : Int) := by rw [IntWalk.i64_in _ (by omega)]; omega
    by_cases hlt : i < s.size
    · have hlt' : (i : Int) < (s.size : Int) := by omega
      obtain ⟨c, hc⟩ : ∃ c, s[i] = c := ⟨_, rfl⟩
      have hlc := hat.out i hlt
      rw [hc] at hlc
      have hcl := c.toNat_lt
      have hX := small_lt56 (l := l) (show i < 8 by omega)
      have hst := smallN_take hlc
      obtain ⟨X, hXe⟩ : ∃ X, smallN (l.take i) = X := ⟨_, rfl⟩
      rw [hXe] at hX hst ⊢
      have hj := or_join hX (show c.toNat < 256 by omega)
      rw [← hst] at hj
      have hcw : IntKind.u64.wrap (c.toNat : Int) = (c.toNat : Int) := by simp [IntKind.wrap, IntKind.bits, IntKind.signed]; omega
      have hsw : IntKind.u64.wrap ((X : Int) * 256) = (X : Int) * 256 := by simp [IntKind.wrap, IntKind.bits, IntKind.signed]; omega
      replace hj := Lib.hid hj
      clear hXe hlc hst
      go_wp2_with fail
      go_roundw
      case rel => exact ⟨i + 1, by omega, by rw [hj.out], by go_num, trivial⟩
      case measure => simp [intOf]; omega
    · obtain rfl : i = s.size := by omega
      have hfin : Hid (smallN (l.take s.size) = smallN l) := by
        unfold Hid
        rw [List.take_of_length_le (by have := hl.out; omega)]
      rw [hfin.out]
      go_wp2_with fail
      go_ret
      exact ⟨rfl, rfl⟩
end Go.Proofs.YtbafnlccpbonmaaGreatDoor

namespace Go.Proofs.YtbafnlccpbonmaaGreatDoor
set_option linter.unusedVariables false
set_option linter.unnecessarySimpa false
set_option linter.unusedSimpArgs false
open Go.RowKit

theorem bigL_step (n k j : Nat) (h : j < k) : bigL (n / 256 ^ (k - j)) j ++ [UInt8.ofNat (n / 256 ^ (k - 1 - j) % 256)] = bigL (n / 256 ^ (k - 1 - j)) (j + 1) := by
  rw [bigL]
  congr 2
  rw [Nat.div_div_eq_div_mul, ← Nat.pow_succ]
  congr 2
  omega
theorem byteCells_one (c : UInt8) : Lib.byteCells [c] = [.int .u8 (c.toNat : Int)] := rfl
theorem byteCells_app (a b : List UInt8) : Lib.byteCells (a ++ b) = Lib.byteCells a ++ Lib.byteCells b := by unfold Lib.byteCells; rw [List.map_append]
theorem byteCells_len (a : List UInt8) : (Lib.byteCells a).length = a.length := by unfold Lib.byteCells; rw [List.length_map]
theorem isB_keepG {T e : TypeId} {B b : Nat} {bs : List Value} {w w' : World} (h : Lib.IsBuilder T e B b bs w) (hk : Keeps (From B) w w') : Lib.IsBuilder T e B b bs w' := by
  have key : ∀ p, Lib.BuilderAt T e B b p bs w → Lib.BuilderAt T e B b p bs w' := fun p h => by
    have hlt := h.lt
    obtain ⟨hB, v, hb, hown, hne⟩ := h
    exact ⟨hB, v, by rw [hk.2 b hB hlt]; exact hb, own_keep hown hk, hne⟩
  exact h.elim (fun x => .inl (key _ x)) (fun x => .inr (key _ x))
theorem byte_of (n i : Nat) : ((n : Int) / 2 ^ (8 * i) % 256) = ((UInt8.ofNat (n / 256 ^ i % 256)).toNat : Int) := by
  rw [UInt8.toNat_ofNat_of_lt' (show n / 256 ^ i % 256 < 256 by omega)]
  have h : (2 : Int) ^ (8 * i) = ((256 ^ i : Nat) : Int) := by
    rw [Int.pow_mul, Int.natCast_pow]
    rfl
  rw [h]
  rfl
set_option maxRecDepth 20000 in set_option maxHeartbeats 4000000 in
theorem big_any (n k : Nat) (hn : n < 9223372036854775808) (hk : k ≤ 8) (w : World) : Calls Tryz.prog 48 #[.int .i64 (n : Int), .int .i64 (k : Int)] w fun e w' => e = .returned (.string (B (bigL n k))) ∧ Below w.heap.size w w' := by
  obtain ⟨NB, hNB⟩ : ∃ b, w.heap.size = b := ⟨_, rfl⟩
  have hk1 : IntKind.i64.wrap ((k : Int) - 1) = (k : Int) - 1 := IntWalk.i64_in _ (by omega)
  go_enter Tryz.func48, Tryz.ntmps48
  go_upto_region 2 with fail
  refine wp_name (fun wx => Hid (IsB NB NB (Lib.byteCells []) wx) ∧ Hid (Below NB w wx)) ⟨by have := Lib.fresh_isBuilder 123 5 w; simp only [hNB] at this; exact this, by rw [← hNB]; exact G.alloc (G.refl w) _⟩ ?_
  rintro w1 ⟨HB, HG⟩
  have HS := Lib.hid hNB
  clear hNB
  go_wp2_with fail
  go_loopw [6] (fun iv wx => ∃ j : Nat, j ≤ k ∧ iv = .int .i64 ((k : Int) - 1 - (j : Int)) ∧ Hid (IsB NB NB (Lib.byteCells (bigL (n / 256 ^ (k - j)) j)) wx) ∧ Hid (Below NB w wx)) (fun iv _ => (intOf iv + 1).toNat)
  case atStart => exact ⟨0, Nat.zero_le _, by congr 1; omega, HB, HG⟩
  case round =>
    clear HB HG
    obtain ⟨j, hj, rfl, HB, HG⟩ := hrel
    by_cases hlt : j < k
    · obtain ⟨i, hi⟩ : ∃ i : Nat, k - 1 - j = i := ⟨_, rfl⟩
      have hii : (k : Int) - 1 - (j : Int) = (i : Int) := by omega
      have hi8 : i ≤ 7 := by omega
      have h0 : (0 : Int) ≤ (i : Int) := by omega
      have hw8 : IntKind.i64.wrap (8 * (i : Int)) = ((8 * i : Nat) : Int) := by rw [IntWalk.i64_in _ (by omega)]; omega
      have hwi : IntKind.i64.wrap ((i : Int) - 1) = (k : Int) - 1 - ((j + 1 : Nat) : Int) := by rw [IntWalk.i64_in _ (by omega)]; omega
      obtain ⟨c, hc⟩ : ∃ c, UInt8.ofNat (n / 256 ^ i % 256) = c := ⟨_, rfl⟩
      have hby : ((n : Int) / 2 ^ (8 * i) % 256) = (c.toNat : Int) := by rw [← hc]; exact byte_of n i
      have hst : Hid (Lib.byteCells (bigL (n / 256 ^ (k - j)) j) ++ [.int .u8 (c.toNat : Int)] = Lib.byteCells (bigL (n / 256 ^ (k - (j + 1))) (j + 1))) := by
        unfold Hid
        rw [← byteCells_one, ← byteCells_app, ← hc, ← hi, bigL_step n k j hlt, show k - (j + 1) = k - 1 - j by omega]
      have hlb : (Lib.byteCells (bigL (n / 256 ^ (k - j)) j)).length + 1 ≤ 140737488355328 := by rw [byteCells_len, bigL_len]; omega
      rw [hii]
      clear hc
      go_wp2_with fail
      go_at_call 81
      (with_reducible refine (wbyte_any HB.out (c.toNat : Int) hlb (by rw [← HS.out]; exact HG.out.size)).mono ?_)
      rintro e1 w2 ⟨rfl, hI, hb⟩
      rw [hst.out] at hI
      have HB2 := Lib.hid hI
      replace HG := Lib.hid (HG.out.trans hb)
      clear hI hb HB
      go_wp2_with fail
      go_roundw
      case rel => exact ⟨j + 1, by omega, by congr 1, HB2, HG⟩
      case measure => simp [intOf]; omega
    · obtain rfl : j = k := by omega
      have h0 : ¬ (0 : Int) ≤ (j : Int) - 1 - (j : Int) := by omega
      have hj0 : (j : Int) - 1 - (j : Int) = -1 := by omega
      have hfin : Hid (bigL (n / 256 ^ (j - j)) j = bigL n j) := by unfold Hid; rw [Nat.sub_self, Nat.pow_zero, Nat.div_one]
      rw [hfin.out] at HB
      rw [hj0]
      clear h0 hj0 hfin
      go_wp2_with fail
      go_at_call 82
      (with_reducible refine (bstring_any (bigL n j) HB.out (by rw [← HS.out]; exact HG.out.size)).mono ?_)
      rintro e1 w2 ⟨rfl, hx⟩
      go_wp2_with fail
      go_ret
      exact ⟨rfl, by rw [HS.out]; exact HG.out.trans hx⟩
end Go.Proofs.YtbafnlccpbonmaaGreatDoor

namespace Go.Proofs.YtbafnlccpbonmaaGreatDoor
set_option linter.unusedVariables false
set_option linter.unnecessarySimpa false
set_option linter.unusedSimpArgs false
open Go.RowKit

theorem infoU8g : (Tryz.prog.info? 5).map (fun i => (i.zero, i.size, i.bytes)) = some (some (.int .u8 0), 1, 1) := by kernel_rfl
theorem made_u8g (n : Nat) : madeCells (Value.int .u8 0).cells n = (List.replicate n (Value.int .u8 0)).toArray := by
  unfold madeCells
  apply Array.ext
  · simp
  · intro i h1 h2
    simp [Value.cells, Nat.mod_one]
theorem bigL_cons (n : Nat) : ∀ j, bigL n (j + 1) = UInt8.ofNat (n / 256 ^ j % 256) :: bigL n j := by
  intro j
  induction j generalizing n with
  | zero => simp [bigL]
  | succ j ih =>
    rw [bigL, ih (n / 256), List.cons_append, Nat.div_div_eq_div_mul, show 256 * 256 ^ j = 256 ^ (j + 1) by rw [Nat.pow_succ, Nat.mul_comm]]
    rfl
def bgC (n k j : Nat) : List Value := List.replicate (k - j) (.int .u8 0) ++ Lib.byteCells (bigL n j)
theorem bgC_set {n k j : Nat} (h : j < k) : (bgC n k j).set (k - 1 - j) (.int .u8 ((UInt8.ofNat (n / 256 ^ j % 256)).toNat : Int)) = bgC n k (j + 1) := by
  unfold bgC
  rw [bigL_cons, show k - j = (k - 1 - j) + 1 by omega, List.replicate_succ', List.append_assoc, List.set_append_right _ _ (by simp), List.length_replicate, Nat.sub_self, show k - (j + 1) = k - 1 - j by omega]
  rfl
theorem bgC_at {n k j : Nat} (h : j < k) : (bgC n k j)[k - 1 - j]? = some (.int .u8 0) := by
  unfold bgC
  rw [List.getElem?_append_left (by simp; omega)]
  simp [List.getElem?_replicate, show k - 1 - j < k - j by omega]
theorem conv_big {w : World} {b n k : Nat} (h : Bx w b (bgC n k k)) (c : Nat) : (convert 34 9 (.slice (some ⟨b, 0, none⟩) k c)).run Tryz.prog w = .ok (.string (B (bigL n k))) w := by
  have := run_convert_bytes_back (P := Tryz.prog) w 34 9 5 ⟨b, 0, none⟩ c (bigL n k) Tryz.underlying34 Tryz.underlying5 Tryz.underlying9 (fun j hj => by
    rw [addr_add]
    refine (h.2 j _ ?_).1
    unfold bgC
    rw [Nat.sub_self, List.replicate_zero, List.nil_append]
    unfold Lib.byteCells
    rw [List.getElem?_map, List.getElem?_eq_getElem hj]
    rfl)
  rw [bigL_len] at this
  exact this
set_option maxRecDepth 20000 in set_option maxHeartbeats 4000000 in
theorem bytes_any (n k : Nat) (hn : n < 18446744073709551616) (hk1 : 1 ≤ k) (hk : k ≤ 8) (w : World) : Calls Tryz.prog 51 #[.int .u64 (n : Int), .int .i64 (k : Int)] w fun e w' => e = .returned (.string (B (bigL n k))) ∧ Below w.heap.size w w' := by
  obtain ⟨iF, hi0, hz0, hz1, hz2⟩ := info_parts infoU8g
  have hmk := fun w => run_makeSlice (P := Tryz.prog) w 34 5 iF (.int .u8 0) Tryz.underlying34 hi0 hz0 .i64 .i64 k k (by omega) (Int.le_refl _) (by rw [hz1, Int.toNat_natCast]; omega) (by rw [hz2]; omega) (by omega)
  rw [hz1, Int.toNat_natCast, Nat.mul_one, made_u8g] at hmk
  have hwk : IntKind.i64.wrap ((k : Int) - 1) = (k : Int) - 1 := IntWalk.i64_in _ (by omega)
  go_enter Tryz.func51, Tryz.ntmps51
  go_upto_region 2 with fail
  obtain ⟨b, hb⟩ : ∃ b, w.heap.size = b := ⟨_, rfl⟩
  rw [hb]
  refine wp_name (fun wx => Hid (Bx wx b (bgC n k 0)) ∧ Hid (Below w.heap.size w wx)) ⟨Lib.hid (Bx.new hb.symm (by unfold bgC; simp [bigL, Lib.byteCells])), Lib.hid (G.alloc (G.refl w) _)⟩ ?_
  rintro w1 ⟨HX, HG⟩
  have HS := Lib.hid hb
  clear hb hmk
  go_wp2_with fail
  go_loopw [0, 6] (fun nv iv wx => ∃ j : Nat, j ≤ k ∧ nv = .int .u64 ((n / 256 ^ j : Nat) : Int) ∧ iv = .int .i64 ((k : Int) - 1 - (j : Int)) ∧ Hid (Bx wx b (bgC n k j)) ∧ Hid (Below w.heap.size w wx)) (fun _ iv _ => (intOf iv + 1).toNat)
  case atStart => exact ⟨0, Nat.zero_le _, by simp, by congr 1; omega, HX, HG⟩
  case round =>
    clear HX HG
    obtain ⟨j, hj, rfl, rfl, HX, HG⟩ := hrel
    by_cases hlt : j < k
    · obtain ⟨i, hi⟩ : ∃ i : Nat, k - 1 - j = i := ⟨_, rfl⟩
      have hii : (k : Int) - 1 - (j : Int) = (i : Int) := by omega
      have h0 : (0 : Int) ≤ (i : Int) := by omega
      have hik : (i : Int) < (k : Int) := by omega
      have hwi : IntKind.i64.wrap ((i : Int) - 1) = (k : Int) - 1 - ((j + 1 : Nat) : Int) := by rw [IntWalk.i64_in _ (by omega)]; omega
      obtain ⟨m, hm⟩ : ∃ m, n / 256 ^ j = m := ⟨_, rfl⟩
      have hm64 : m < 18446744073709551616 := by rw [← hm]; exact Nat.lt_of_le_of_lt (Nat.div_le_self _ _) hn
      obtain ⟨c, hc⟩ : ∃ c, UInt8.ofNat (m % 256) = c := ⟨_, rfl⟩
      have hby : (m : Int) % 256 = (c.toNat : Int) := by
        rw [← hc, UInt8.toNat_ofNat_of_lt' (show m % 256 < 256 by omega)]
        rfl
      have key : ∀ (wy : World), Bx wy b (bgC n k j) → Bx (wy.setCell ⟨b, i, none⟩ (.int .u8 (c.toNat : Int))) b (bgC n k (j + 1)) := fun _ h => Bx.put h (by rw [← hi, ← hc, ← hm]; exact bgC_set hlt)
      replace key := Lib.hid key
      have hnx : Hid ((m : Int) / 256 = ((n / 256 ^ (j + 1) : Nat) : Int)) := by
        unfold Hid
        rw [Nat.pow_succ, ← Nat.div_div_eq_div_mul, hm]
        rfl
      have hat := HX.out.2 i _ (by rw [← hi]; exact bgC_at hlt)
      have q0 := hat.1
      have f0 := hat.2
      have ltb := HX.out.lt
      rw [hii, hm]
      clear hat hc hm
      go_wp2_with fail
      go_roundw
      case rel => exact ⟨j + 1, by omega, by rw [hnx.out], by congr 1, Lib.hid (key.out _ HX.out), Lib.hid (HG.out.setCell (Nat.le_of_eq HS.out) _)⟩
      case measure => simp [intOf]; omega
    · obtain rfl : j = k := by omega
      have hj0 : (j : Int) - 1 - (j : Int) = -1 := by omega
      have hcv := fun c => conv_big HX.out c
      rw [hj0]
      go_wp2_with fail
      go_ret
      exact ⟨rfl, HG.out⟩
end Go.Proofs.YtbafnlccpbonmaaGreatDoor

namespace Go.Proofs.YtbafnlccpbonmaaGreatDoor
set_option linter.unusedVariables false
set_option linter.unnecessarySimpa false
set_option linter.unusedSimpArgs false
open Go.RowKit

def frameR (n : Int) (d : List UInt8) : List UInt8 × Int := if inN n then (if 1048576 < d.length then ([], 5) else (frameL n.toNat d, 0)) else ([], 2)
theorem frameR_ok {n : Int} {d : List UInt8} (hn : inN n) (hd : d.length ≤ 1048576) : frameR n d = (frameL n.toNat d, 0) := by unfold frameR; rw [if_pos hn, if_neg (by omega)]
theorem B_nil : (B [] : ByteArray) = ⟨#[]⟩ := rfl
/-- The sums of texts that a frame is made of. -/
theorem frame_sums (m : Nat) (d : List UInt8) {N : Nat} (hN : d.length = N) (hd : N ≤ 1000000000) :
    B (bigL N 4) ++ B (bigL m 8) = B (headL m d) ∧ (B (bigL N 4)).size = 4 ∧ (B (bigL m 8)).size = 8 ∧ (B (headL m d)).size = 12 ∧ (B d).size = N ∧ B (headL m d) ++ B d = B (headL m d ++ d) ∧
    (∀ C : List UInt8, C.length = 4 → B (headL m d) ++ B C = B (headL m d ++ C) ∧ (B (headL m d ++ C)).size = 16 ∧ B (headL m d ++ C) ++ B d = B (headL m d ++ C ++ d) ∧ (B C).size = 4) := by
  subst hN
  refine ⟨by rw [B_app]; rfl, by rw [B_size, bigL_len], by rw [B_size, bigL_len], by rw [B_size, headL_len], B_size d, B_app _ _, fun C hC => ⟨B_app _ _, by rw [B_size, List.length_append, headL_len, hC], B_app _ _, by rw [B_size, hC]⟩⟩
theorem big4 (n : Nat) (hn : n < 9223372036854775808) (w : World) : Calls Tryz.prog 48 #[.int .i64 (n : Int), .int .i64 4] w fun e w' => e = .returned (.string (B (bigL n 4))) ∧ Below w.heap.size w w' := big_any n 4 hn (by decide) w
theorem bytes4 (n : Nat) (hn : n < 18446744073709551616) (w : World) : Calls Tryz.prog 51 #[.int .u64 (n : Int), .int .i64 4] w fun e w' => e = .returned (.string (B (bigL n 4))) ∧ Below w.heap.size w w' := bytes_any n 4 hn (by decide) (by decide) w
theorem big8 (n : Nat) (hn : n < 9223372036854775808) (w : World) : Calls Tryz.prog 48 #[.int .i64 (n : Int), .int .i64 8] w fun e w' => e = .returned (.string (B (bigL n 8))) ∧ Below w.heap.size w w' := big_any n 8 hn (by decide) w
theorem bytes8 (n : Nat) (hn : n < 18446744073709551616) (w : World) : Calls Tryz.prog 51 #[.int .u64 (n : Int), .int .i64 8] w fun e w' => e = .returned (.string (B (bigL n 8))) ∧ Below w.heap.size w w' := bytes_any n 8 hn (by decide) (by decide) w
set_option maxRecDepth 20000 in set_option maxHeartbeats 4000000 in
theorem frame_any (n : Int) (d : List UInt8) (hd : d.length ≤ 1000000000) (w : World) : Calls Tryz.prog 12 #[.int .i64 n, .string (B d)] w fun e w' => e = .returned (.tuple #[.string (B (frameR n d).1), .int .i64 (frameR n d).2]) ∧ Below w.heap.size w w' := by
  have IN := Lib.hid (in_any n w)
  obtain ⟨N, hN⟩ : ∃ N, d.length = N := ⟨_, rfl⟩
  have hs := B_size d
  rw [hN] at hs hd
  by_cases hn : inN n
  · rw [decide_eq_true hn] at IN
    by_cases hl : 1048576 < N
    · rw [show frameR n d = ([], 5) by unfold frameR; rw [if_pos hn, if_pos (by omega)]]
      rw [show B ([], (5 : Int)).1 = (⟨#[]⟩ : ByteArray) from rfl]
      dsimp only
      have hl' : (1048576 : Int) < (N : Int) := by omega
      go_enter Tryz.func12, Tryz.ntmps12
      go_wp2_with fail
      go_at_call 47
      (with_reducible refine IN.out.mono ?_)
      rintro e1 w1 ⟨rfl, rfl⟩
      go_wp2_with fail
      refine bodyPost_ret (v := .tuple #[.string ⟨#[]⟩, .int .i64 5]) (by simp only [results, Tryz.results12]; go_simp) rfl ⟨rfl, G.refl _⟩
    · rw [frameR_ok hn (by omega)]
      dsimp only
      obtain ⟨m, rfl⟩ : ∃ m : Nat, n = (m : Int) := ⟨n.toNat, by unfold inN at hn; omega⟩
      have hm : m ≤ 99999999 := by unfold inN at hn; omega
      rw [Int.toNat_natCast]
      have hl' : ¬ (1048576 : Int) < (N : Int) := by omega
      obtain ⟨s1, z1, z2, z3, z4, s2, s3⟩ := frame_sums m d hN (by omega)
      obtain ⟨C, hC⟩ : ∃ C, bigL (crcL (headL m d ++ d)) 4 = C := ⟨_, rfl⟩
      obtain ⟨s4, z5, s5, z6⟩ := s3 C (by rw [← hC, bigL_len])
      have hF : Hid (frameL m d = headL m d ++ C ++ d) := by unfold Hid frameL; rw [hC]
      have B1 := Lib.hid (fun (wx : World) => big4 N (by omega) wx)
      have B2 := Lib.hid (fun (wx : World) => big8 m (by omega) wx)
      have B3 := Lib.hid (fun (wx : World) => checksum_any (B (headL m d ++ d)) (by rw [B_size, List.length_append, headL_len]; omega) wx)
      rw [B_list] at B3
      have hcl := crcL_lt (headL m d ++ d)
      have B4 := Lib.hid (fun (wx : World) => big4 (crcL (headL m d ++ d)) (by omega) wx)
      rw [hC] at B4
      obtain ⟨X, hX⟩ : ∃ X, crcL (headL m d ++ d) = X := ⟨_, rfl⟩
      rw [hX] at B3 B4 hcl
      have hwX : IntKind.i64.wrap (X : Int) = (X : Int) := IntWalk.i64_in _ (by omega)
      have g1 : ¬ 9223372036854775807 < 4 + 8 := by decide
      have g2 : ¬ 9223372036854775807 < 12 + N := by omega
      have g3 : ¬ 9223372036854775807 < 12 + 4 := by decide
      have g4 : ¬ 9223372036854775807 < 16 + N := by omega
      obtain ⟨H, hH⟩ : ∃ H, headL m d = H := ⟨_, rfl⟩
      rw [hH] at s1 z3 s2 s4 z5 s5 hF B3
      clear s3 hC hX hH hn hl
      go_enter Tryz.func12, Tryz.ntmps12
      go_wp2_with fail
      go_at_call 47
      (with_reducible refine IN.out.mono ?_)
      rintro e1 w1 ⟨rfl, hw⟩
      obtain rfl := hw.symm
      clear hw IN
      go_wp2_with fail
      go_at_call 48
      (with_reducible refine (B1.out _).mono ?_)
      rintro e1 w1 ⟨rfl, hb1⟩
      go_wp2_with fail
      go_at_call 48
      (with_reducible refine (B2.out _).mono ?_)
      rintro e1 w2 ⟨rfl, hb2⟩
      replace hb1 := Lib.hid (G.trans hb1 hb2)
      clear hb2
      go_wp2_with fail
      go_at_call 14
      (with_reducible refine (B3.out _).mono ?_)
      rintro e1 w3 ⟨rfl, hb2⟩
      replace hb1 := Lib.hid (G.trans hb1.out hb2)
      clear hb2
      go_wp2_with fail
      go_at_call 48
      (with_reducible refine (B4.out _).mono ?_)
      rintro e1 w4 ⟨rfl, hb2⟩
      replace hb1 := Lib.hid (G.trans hb1.out hb2)
      clear hb2
      go_wp2_with fail
      refine bodyPost_ret (v := .tuple #[.string (B (H ++ C ++ d)), .int .i64 0]) (by simp only [results, Tryz.results12]; go_simp) rfl ⟨by rw [hF.out], hb1.out⟩
  · rw [decide_eq_false hn] at IN
    rw [show frameR n d = ([], 2) by unfold frameR; rw [if_neg hn]]
    rw [show B ([], (2 : Int)).1 = (⟨#[]⟩ : ByteArray) from rfl]
    dsimp only
    go_enter Tryz.func12, Tryz.ntmps12
    go_wp2_with fail
    go_at_call 47
    (with_reducible refine IN.out.mono ?_)
    rintro e1 w1 ⟨rfl, rfl⟩
    go_wp2_with fail
    refine bodyPost_ret (v := .tuple #[.string ⟨#[]⟩, .int .i64 2]) (by simp only [results, Tryz.results12]; go_simp) rfl ⟨rfl, G.refl _⟩
set_option maxRecDepth 20000 in set_option maxHeartbeats 4000000 in
theorem lawframe_any (m : Nat) (hm : m < 9223372036854775808) (d : List UInt8) (hd : d.length ≤ 1000000000) (w : World) : Calls Tryz.prog 17 #[.int .i64 (m : Int), .string (B d)] w fun e w' => e = .returned (.string (B (frameL m d))) ∧ Below w.heap.size w w' := by
  obtain ⟨N, hN⟩ : ∃ N, d.length = N := ⟨_, rfl⟩
  have hs := B_size d
  rw [hN] at hs hd
  obtain ⟨s1, z1, z2, z3, z4, s2, s3⟩ := frame_sums m d hN (by omega)
  obtain ⟨C, hC⟩ : ∃ C, bigL (crcL (headL m d ++ d)) 4 = C := ⟨_, rfl⟩
  obtain ⟨s4, z5, s5, z6⟩ := s3 C (by rw [← hC, bigL_len])
  have hF : Hid (frameL m d = headL m d ++ C ++ d) := by unfold Hid frameL; rw [hC]
  have B1 := Lib.hid (fun (wx : World) => bytes4 N (by omega) wx)
  have B2 := Lib.hid (fun (wx : World) => bytes8 m (by omega) wx)
  have B3 := Lib.hid (fun (wx : World) => lawsum_any (B (headL m d ++ d)) (by rw [B_size, List.length_append, headL_len]; omega) wx)
  rw [B_list] at B3
  have hcl := crcL_lt (headL m d ++ d)
  have B4 := Lib.hid (fun (wx : World) => bytes4 (crcL (headL m d ++ d)) (by omega) wx)
  rw [hC] at B4
  obtain ⟨X, hX⟩ : ∃ X, crcL (headL m d ++ d) = X := ⟨_, rfl⟩
  rw [hX] at B3 B4 hcl
  have hwX : IntKind.u64.wrap (X : Int) = (X : Int) := by simp [IntKind.wrap, IntKind.bits, IntKind.signed]; omega
  have hwN : IntKind.u64.wrap (N : Int) = (N : Int) := by simp [IntKind.wrap, IntKind.bits, IntKind.signed]; omega
  have hwm : IntKind.u64.wrap (m : Int) = (m : Int) := by simp [IntKind.wrap, IntKind.bits, IntKind.signed]; omega
  have g1 : ¬ 9223372036854775807 < 4 + 8 := by decide
  have g2 : ¬ 9223372036854775807 < 12 + N := by omega
  have g3 : ¬ 9223372036854775807 < 12 + 4 := by decide
  have g4 : ¬ 9223372036854775807 < 16 + N := by omega
  obtain ⟨H, hH⟩ : ∃ H, headL m d = H := ⟨_, rfl⟩
  rw [hH] at s1 z3 s2 s4 z5 s5 hF B3
  clear s3 hC hX hH
  go_enter Tryz.func17, Tryz.ntmps17
  go_wp2_with fail
  go_at_call 51
  (with_reducible refine (B1.out _).mono ?_)
  rintro e1 w1 ⟨rfl, hb1⟩
  go_wp2_with fail
  go_at_call 51
  (with_reducible refine (B2.out _).mono ?_)
  rintro e1 w2 ⟨rfl, hb2⟩
  replace hb1 := Lib.hid (G.trans hb1 hb2)
  clear hb2
  go_wp2_with fail
  go_at_call 15
  (with_reducible refine (B3.out _).mono ?_)
  rintro e1 w3 ⟨rfl, hw⟩
  obtain rfl := hw.symm
  clear hw
  go_wp2_with fail
  go_at_call 51
  (with_reducible refine (B4.out _).mono ?_)
  rintro e1 w4 ⟨rfl, hb2⟩
  replace hb1 := Lib.hid (G.trans hb1.out hb2)
  clear hb2
  go_wp2_with fail
  go_ret
  exact ⟨by rw [hF.out, List.append_assoc]; rfl, hb1.out⟩
end Go.Proofs.YtbafnlccpbonmaaGreatDoor

namespace Go.Proofs.YtbafnlccpbonmaaGreatDoor
set_option linter.unusedVariables false
set_option linter.unnecessarySimpa false
set_option linter.unusedSimpArgs false
open Go.RowKit

def parseV (s : List UInt8) (a n : Int) : List UInt8 × Int × Int := match parseP s a n with
  | .ok d => (d, a + 16 + d.length, 0)
  | .bad e => ([], 0, e)
theorem B_mid (l : List UInt8) (a b : Nat) : (B l).extract a b = B ((l.drop a).take (b - a)) := B_of (by
  unfold B
  simp [ByteArray.data_extract, List.drop_take])
def RetP (r : List UInt8 × Int × Int) (w : World) (e : Ending) (w' : World) : Prop := e = .returned (.tuple #[.string (B r.1), .int .i64 r.2.1, .int .i64 r.2.2]) ∧ Below w.heap.size w w'
theorem RetP.bad {r : List UInt8 × Int × Int} {x : Int} {w w' : World} {e : Ending} (hr : r = ([], 0, x)) (he : e = .returned (.tuple #[.string ⟨#[]⟩, .int .i64 0, .int .i64 x])) (hb : Below w.heap.size w w') : RetP r w e w' := by
  subst hr
  exact ⟨he, hb⟩
theorem RetP.good {r : List UInt8 × Int × Int} {d : List UInt8} {b : Int} {w w' : World} {e : Ending} (hr : r = (d, b, 0)) (he : e = .returned (.tuple #[.string (B d), .int .i64 b, .int .i64 0])) (hb : Below w.heap.size w w') : RetP r w e w' := by
  subst hr
  exact ⟨he, hb⟩
set_option maxRecDepth 20000 in set_option maxHeartbeats 8000000 in
theorem parse_any (l : List UInt8) (hl : l.length ≤ 1000000000) (a n : Int) (wa : (Lit.int .i64 n).wf = true) (w : World) : Calls Tryz.prog 16 #[.string (B l), .int .i64 a, .int .i64 n] w (RetP (parseV l a n) w) := by
  obtain ⟨N, hN⟩ : ∃ N, l.length = N := ⟨_, rfl⟩
  have hsl := B_size l
  rw [hN] at hsl hl
  have IN := Lib.hid (in_any n w)
  by_cases ha : a < 0
  · have hR : Hid (parseV l a n = ([], 0, 2)) := by unfold Hid parseV parseP; rw [if_pos (.inl ha)]
    go_enter Tryz.func16, Tryz.ntmps16
    go_wp2_with fail
    refine bodyPost_ret (v := .tuple #[.string ⟨#[]⟩, .int .i64 0, .int .i64 2]) (by simp only [results, Tryz.results16]; go_simp) rfl (RetP.bad hR.out rfl (G.refl _))
  · by_cases hb : (N : Int) < a
    · have hR : Hid (parseV l a n = ([], 0, 2)) := by unfold Hid parseV parseP; rw [if_pos (.inr (.inl (by omega)))]
      go_enter Tryz.func16, Tryz.ntmps16
      go_wp2_with fail
      refine bodyPost_ret (v := .tuple #[.string ⟨#[]⟩, .int .i64 0, .int .i64 2]) (by simp only [results, Tryz.results16]; go_simp) rfl (RetP.bad hR.out rfl (G.refl _))
    · by_cases hn : inN n
      · rw [decide_eq_true hn] at IN
        obtain ⟨k, rfl⟩ : ∃ k : Nat, a = (k : Int) := ⟨a.toNat, by omega⟩
        have hk : k ≤ N := by omega
        have hk0 : (0 : Int) ≤ (k : Int) := by omega
        have hkN : (k : Int) ≤ (N : Int) := by omega
        have hn1 : ¬ n < 1 := by unfold inN at hn; omega
        have hn2 : ¬ 99999999 < n := by unfold inN at hn; omega
        have hP : parseP l (k : Int) n = parseR (l.drop k) n := by unfold parseP; rw [if_neg (by rw [hN]; simp only [hn, not_true, or_false]; omega), Int.toNat_natCast]
        obtain ⟨r, hr⟩ : ∃ r, l.drop k = r := ⟨_, rfl⟩
        have hrl : r.length = N - k := by rw [← hr, List.length_drop, hN]
        have hdr : (B l).extract k N = B r := by rw [← hr, ← hsl]; exact B_drop l k
        rw [hr] at hP
        obtain ⟨R, hRR⟩ : ∃ R, r.length = R := ⟨_, rfl⟩
        have hsr := B_size r
        rw [hRR] at hsr
        have hRN : R ≤ N := by omega
        by_cases h16 : R < 16
        · have hR : Hid (parseV l k n = ([], 0, 29)) := by unfold Hid parseV; rw [hP]; unfold parseR; rw [if_pos (by omega)]
          have h16' : (R : Int) < 16 := by omega
          clear hP hr hrl hN ha hb hn
          go_enter Tryz.func16, Tryz.ntmps16
          go_wp2_with fail
          go_at_call 47
          (with_reducible refine IN.out.mono ?_)
          rintro e1 w1 ⟨rfl, hw⟩
          obtain rfl := hw.symm
          clear hw IN
          go_wp2_with fail
          refine bodyPost_ret (v := .tuple #[.string ⟨#[]⟩, .int .i64 0, .int .i64 29]) (by simp only [results, Tryz.results16]; go_simp) rfl (RetP.bad hR.out rfl (G.refl _))
        · have h16' : ¬ (R : Int) < 16 := by omega
          have t4 : (B r).extract 0 4 = B (r.take 4) := B_take r 4
          have S1 := Lib.hid (fun (wx : World) => small_any (B (r.take 4)) (by rw [B_size, List.length_take]; omega) wx)
          rw [B_list] at S1
          obtain ⟨Z, hZ⟩ : ∃ Z, smallN (r.take 4) = Z := ⟨_, rfl⟩
          have hZ32 : Z < 4294967296 := by
            have h1 := smallN_lt (r.take 4)
            have h2 : (r.take 4).length = 4 := by rw [List.length_take]; omega
            rw [h2, hZ] at h1
            omega
          rw [hZ] at S1
          have hwZ : IntKind.i64.wrap (Z : Int) = (Z : Int) := IntWalk.i64_in _ (by omega)
          have b4 : (4 : Int) ≤ (R : Int) := by omega
          have b4n : 4 ≤ R := by omega
          by_cases h5 : 1048576 < Z
          · have hR : Hid (parseV l k n = ([], 0, 5)) := by unfold Hid parseV; rw [hP]; unfold parseR; rw [if_neg (by omega), hZ, if_pos h5]
            have h5' : (1048576 : Int) < (Z : Int) := by omega
            clear hP hr hrl hN ha hb hn h16 hZ
            go_enter Tryz.func16, Tryz.ntmps16
            go_wp2_with fail
            go_at_call 47
            (with_reducible refine IN.out.mono ?_)
            rintro e1 w1 ⟨rfl, hw⟩
            obtain rfl := hw.symm
            clear hw IN
            go_wp2_with fail
            go_at_call 50
            (with_reducible refine (S1.out _).mono ?_)
            rintro e1 w1 ⟨rfl, hw⟩
            obtain rfl := hw.symm
            clear hw S1
            go_wp2_with fail
            refine bodyPost_ret (v := .tuple #[.string ⟨#[]⟩, .int .i64 0, .int .i64 5]) (by simp only [results, Tryz.results16]; go_simp) rfl (RetP.bad hR.out rfl (G.refl _))
          · have h5' : ¬ (1048576 : Int) < (Z : Int) := by omega
            have hw16 : IntKind.i64.wrap (16 + (Z : Int)) = ((16 + Z : Nat) : Int) := by rw [IntWalk.i64_in _ (by omega)]; omega
            have hu16 : IntKind.u64.wrap (16 + (Z : Int)) = ((16 + Z : Nat) : Int) := by simp [IntKind.wrap, IntKind.bits, IntKind.signed]; omega
            have huR : IntKind.u64.wrap (R : Int) = (R : Int) := by simp [IntKind.wrap, IntKind.bits, IntKind.signed]; omega
            by_cases h6 : R < 16 + Z
            · have hR : Hid (parseV l k n = ([], 0, 29)) := by unfold Hid parseV; rw [hP]; unfold parseR; rw [if_neg (by omega), hZ, if_neg h5, if_pos (by omega)]
              have h6' : (R : Int) < ((16 + Z : Nat) : Int) := by omega
              clear hP hr hrl hN ha hb hn h16 hZ h5
              go_enter Tryz.func16, Tryz.ntmps16
              go_wp2_with fail
              go_at_call 47
              (with_reducible refine IN.out.mono ?_)
              rintro e1 w1 ⟨rfl, hw⟩
              obtain rfl := hw.symm
              clear hw IN
              go_wp2_with fail
              go_at_call 50
              (with_reducible refine (S1.out _).mono ?_)
              rintro e1 w1 ⟨rfl, hw⟩
              obtain rfl := hw.symm
              clear hw S1
              go_wp2_with fail
              refine bodyPost_ret (v := .tuple #[.string ⟨#[]⟩, .int .i64 0, .int .i64 29]) (by simp only [results, Tryz.results16]; go_simp) rfl (RetP.bad hR.out rfl (G.refl _))
            · have h6' : ¬ (R : Int) < ((16 + Z : Nat) : Int) := by omega
              have c1 : ((16 + Z : Nat) : Int) ≤ (R : Int) := by omega
              have c2 : 16 + Z ≤ R := by omega
              have c3 : (16 : Int) ≤ ((16 + Z : Nat) : Int) := by omega
              have c4 : (12 : Int) ≤ (R : Int) := by omega
              have c5 : (16 : Int) ≤ (R : Int) := by omega
              obtain ⟨D, hD⟩ : ∃ D, (r.drop 16).take Z = D := ⟨_, rfl⟩
              have hDl : D.length = Z := by rw [← hD, List.length_take, List.length_drop]; omega
              have m16 : (B r).extract 16 (16 + Z) = B D := by rw [B_mid, Nat.add_sub_cancel_left, hD]
              have sD : (B D).size = Z := by rw [B_size, hDl]
              have t12 : (B r).extract 0 12 = B (r.take 12) := B_take r 12
              have sH : (B (r.take 12)).size = 12 := by rw [B_size, List.length_take]; omega
              have jH : B (r.take 12) ++ B D = B (r.take 12 ++ D) := B_app _ _
              have g1 : ¬ 9223372036854775807 < 12 + Z := by omega
              have m12 : (B r).extract 12 16 = B ((r.drop 12).take 4) := B_mid r 12 16
              have m4 : (B r).extract 4 12 = B ((r.drop 4).take 8) := B_mid r 4 12
              have S2 := Lib.hid (fun (wx : World) => small_any (B ((r.drop 12).take 4)) (by rw [B_size, List.length_take]; omega) wx)
              have S3 := Lib.hid (fun (wx : World) => checksum_any (B (r.take 12 ++ D)) (by rw [B_size, List.length_append, hDl, List.length_take]; omega) wx)
              have S4 := Lib.hid (fun (wx : World) => small_any (B ((r.drop 4).take 8)) (by rw [B_size, List.length_take]; omega) wx)
              rw [B_list] at S2 S3 S4
              have hX32 : smallN ((r.drop 12).take 4) < 4294967296 := by
                have h1 := smallN_lt ((r.drop 12).take 4)
                have h2 : ((r.drop 12).take 4).length = 4 := by rw [List.length_take, List.length_drop]; omega
                rw [h2] at h1
                omega
              have hY64 : smallN ((r.drop 4).take 8) < 18446744073709551616 := by
                have h1 := smallN_lt ((r.drop 4).take 8)
                have h2 : ((r.drop 4).take 8).length = 8 := by rw [List.length_take, List.length_drop]; omega
                rw [h2] at h1
                omega
              have hC32 := crcL_lt (r.take 12 ++ D)
              obtain ⟨X, hX⟩ : ∃ X, smallN ((r.drop 12).take 4) = X := ⟨_, rfl⟩
              obtain ⟨Y, hY⟩ : ∃ Y, smallN ((r.drop 4).take 8) = Y := ⟨_, rfl⟩
              obtain ⟨C, hC⟩ : ∃ C, crcL (r.take 12 ++ D) = C := ⟨_, rfl⟩
              rw [hX] at S2 hX32
              rw [hY] at S4 hY64
              rw [hC] at S3 hC32
              have hwX : IntKind.u32.wrap (X : Int) = (X : Int) := by rw [IntKind.wrap_u32']; omega
              have hwC : IntKind.u64.wrap (C : Int) = (C : Int) := by simp [IntKind.wrap, IntKind.bits, IntKind.signed]; omega
              have hwn : IntKind.u64.wrap n = n := by unfold inN at hn; simp [IntKind.wrap, IntKind.bits, IntKind.signed]; omega
              by_cases h7 : X = C
              · by_cases h8 : (Y : Int) = n
                · have hR : Hid (parseV l k n = (D, (k : Int) + 16 + (Z : Int), 0)) := by
                    unfold Hid parseV; rw [hP]; unfold parseR
                    rw [if_neg (by omega), hZ, if_neg h5, if_neg (by omega), hX, hD, hC, if_neg (fun x => x h7), hY, if_neg (fun x => x h8)]
                    simp only
                    rw [hDl]
                  have hwk : IntKind.i64.wrap ((k : Int) + 16) = (k : Int) + 16 := IntWalk.i64_in _ (by omega)
                  have hwk2 : IntKind.i64.wrap ((k : Int) + 16 + (Z : Int)) = (k : Int) + 16 + (Z : Int) := IntWalk.i64_in _ (by omega)
                  subst h7
                  clear hP hr hrl hN ha hb hn h16 hZ h5 h6 hX hY hC hD
                  go_enter Tryz.func16, Tryz.ntmps16
                  go_wp2_with fail
                  go_at_call 47
                  (with_reducible refine IN.out.mono ?_)
                  rintro e1 w1 ⟨rfl, hw⟩
                  obtain rfl := hw.symm
                  clear hw IN
                  go_wp2_with fail
                  go_at_call 50
                  (with_reducible refine (S1.out _).mono ?_)
                  rintro e1 w1 ⟨rfl, hw⟩
                  obtain rfl := hw.symm
                  clear hw S1
                  go_upto_region 12 with fail
                  refine wp_region_ord [(0, 1), (1, 1), (4, 1), (5, 1), (6, 1), (7, 1), (2, 2), (3, 1), (8, 2), (9, 1), (10, 1)] [] 5 (by kernel_rfl) (by decide +kernel) ?_
                  simp only [pickO, List.append_eq, List.cons_append, List.nil_append, List.getElem?_cons_succ, List.getElem?_cons_zero]
                  intro w0 hG
                  (repeat ((first | (with_reducible refine ord_q1 ?_) | (with_reducible refine ord_q0 ?_)); intro K hK; first | (refine Or.inr ⟨?_, ?_⟩; (focus (go_simp; first | done | (simp [undef]; done))); go_simp; (with_reducible refine hK _ ?_); clear hK K) | (refine Or.inl ⟨?_, ?_⟩; (focus (go_simp; done)); apply Exists.intro; refine And.intro ?_ ?_; (focus (first | (intro wq hq; obtain ⟨hcq, hfq⟩ := G.old hq; go_simp; (first | done | exact rfl); done) | (intro wq; go_simp; (first | done | exact rfl); done))); go_simp; (with_reducible refine hK _ ?_); clear hK K) | fail))
                  (with_reducible refine ord_run ?_ hG)
                  intro K hK
                  go_simp
                  go_at_call 50; (with_reducible refine (S2.out _).mono ?_); rintro e1 w2 ⟨rfl, hw⟩; have hb2 : Below w2.heap.size w2 w2 := G.refl _; obtain rfl := hw.symm; clear hw
                  replace hG := Grew.trans hG hb2
                  (try dsimp only)
                  (with_reducible refine hK _ _ hG ?_)
                  clear hK K
                  (repeat ((first | (with_reducible refine ord_q1 ?_) | (with_reducible refine ord_q0 ?_)); intro K hK; first | (refine Or.inr ⟨?_, ?_⟩; (focus (go_simp; first | done | (simp [undef]; done))); go_simp; (with_reducible refine hK _ ?_); clear hK K) | (refine Or.inl ⟨?_, ?_⟩; (focus (go_simp; done)); apply Exists.intro; refine And.intro ?_ ?_; (focus (first | (intro wq hq; obtain ⟨hcq, hfq⟩ := G.old hq; go_simp; (first | done | exact rfl); done) | (intro wq; go_simp; (first | done | exact rfl); done))); go_simp; (with_reducible refine hK _ ?_); clear hK K) | fail))
                  (with_reducible refine ord_run ?_ hG)
                  intro K hK
                  go_simp
                  go_at_call 14; (with_reducible refine (S3.out _).mono ?_); rintro e1 w3 ⟨rfl, hb3⟩
                  replace hG := Grew.trans hG hb3
                  (try dsimp only)
                  (with_reducible refine hK _ _ hG ?_)
                  clear hK K
                  (repeat ((first | (with_reducible refine ord_q1 ?_) | (with_reducible refine ord_q0 ?_)); intro K hK; first | (refine Or.inr ⟨?_, ?_⟩; (focus (go_simp; first | done | (simp [undef]; done))); go_simp; (with_reducible refine hK _ ?_); clear hK K) | (refine Or.inl ⟨?_, ?_⟩; (focus (go_simp; done)); apply Exists.intro; refine And.intro ?_ ?_; (focus (first | (intro wq hq; obtain ⟨hcq, hfq⟩ := G.old hq; go_simp; (first | done | exact rfl); done) | (intro wq; go_simp; (first | done | exact rfl); done))); go_simp; (with_reducible refine hK _ ?_); clear hK K) | fail))
                  (with_reducible refine ord_nil ?_)
                  have hB := Lib.hid hG.b
                  clear hG
                  go_wp2_with fail
                  go_at_call 50
                  (with_reducible refine (S4.out _).mono ?_)
                  rintro e1 w4 ⟨rfl, hw⟩
                  obtain rfl := hw.symm
                  clear hw S4
                  go_wp2_with fail
                  refine bodyPost_ret (v := .tuple #[.string (B D), .int .i64 ((k : Int) + 16 + (Z : Int)), .int .i64 0]) (by simp only [results, Tryz.results16]; go_simp) rfl (RetP.good hR.out rfl hB.out)
                · have hR : Hid (parseV l k n = ([], 0, 30)) := by
                    unfold Hid parseV; rw [hP]; unfold parseR
                    rw [if_neg (by omega), hZ, if_neg h5, if_neg (by omega), hX, hD, hC, if_neg (fun x => x h7), hY, if_pos h8]
                  subst h7
                  clear hP hr hrl hN ha hb hn h16 hZ h5 h6 hX hY hC hD
                  go_enter Tryz.func16, Tryz.ntmps16
                  go_wp2_with fail
                  go_at_call 47
                  (with_reducible refine IN.out.mono ?_)
                  rintro e1 w1 ⟨rfl, hw⟩
                  obtain rfl := hw.symm
                  clear hw IN
                  go_wp2_with fail
                  go_at_call 50
                  (with_reducible refine (S1.out _).mono ?_)
                  rintro e1 w1 ⟨rfl, hw⟩
                  obtain rfl := hw.symm
                  clear hw S1
                  go_upto_region 12 with fail
                  refine wp_region_ord [(0, 1), (1, 1), (4, 1), (5, 1), (6, 1), (7, 1), (2, 2), (3, 1), (8, 2), (9, 1), (10, 1)] [] 5 (by kernel_rfl) (by decide +kernel) ?_
                  simp only [pickO, List.append_eq, List.cons_append, List.nil_append, List.getElem?_cons_succ, List.getElem?_cons_zero]
                  intro w0 hG
                  (repeat ((first | (with_reducible refine ord_q1 ?_) | (with_reducible refine ord_q0 ?_)); intro K hK; first | (refine Or.inr ⟨?_, ?_⟩; (focus (go_simp; first | done | (simp [undef]; done))); go_simp; (with_reducible refine hK _ ?_); clear hK K) | (refine Or.inl ⟨?_, ?_⟩; (focus (go_simp; done)); apply Exists.intro; refine And.intro ?_ ?_; (focus (first | (intro wq hq; obtain ⟨hcq, hfq⟩ := G.old hq; go_simp; (first | done | exact rfl); done) | (intro wq; go_simp; (first | done | exact rfl); done))); go_simp; (with_reducible refine hK _ ?_); clear hK K) | fail))
                  (with_reducible refine ord_run ?_ hG)
                  intro K hK
                  go_simp
                  go_at_call 50; (with_reducible refine (S2.out _).mono ?_); rintro e1 w2 ⟨rfl, hw⟩; have hb2 : Below w2.heap.size w2 w2 := G.refl _; obtain rfl := hw.symm; clear hw
                  replace hG := Grew.trans hG hb2
                  (try dsimp only)
                  (with_reducible refine hK _ _ hG ?_)
                  clear hK K
                  (repeat ((first | (with_reducible refine ord_q1 ?_) | (with_reducible refine ord_q0 ?_)); intro K hK; first | (refine Or.inr ⟨?_, ?_⟩; (focus (go_simp; first | done | (simp [undef]; done))); go_simp; (with_reducible refine hK _ ?_); clear hK K) | (refine Or.inl ⟨?_, ?_⟩; (focus (go_simp; done)); apply Exists.intro; refine And.intro ?_ ?_; (focus (first | (intro wq hq; obtain ⟨hcq, hfq⟩ := G.old hq; go_simp; (first | done | exact rfl); done) | (intro wq; go_simp; (first | done | exact rfl); done))); go_simp; (with_reducible refine hK _ ?_); clear hK K) | fail))
                  (with_reducible refine ord_run ?_ hG)
                  intro K hK
                  go_simp
                  go_at_call 14; (with_reducible refine (S3.out _).mono ?_); rintro e1 w3 ⟨rfl, hb3⟩
                  replace hG := Grew.trans hG hb3
                  (try dsimp only)
                  (with_reducible refine hK _ _ hG ?_)
                  clear hK K
                  (repeat ((first | (with_reducible refine ord_q1 ?_) | (with_reducible refine ord_q0 ?_)); intro K hK; first | (refine Or.inr ⟨?_, ?_⟩; (focus (go_simp; first | done | (simp [undef]; done))); go_simp; (with_reducible refine hK _ ?_); clear hK K) | (refine Or.inl ⟨?_, ?_⟩; (focus (go_simp; done)); apply Exists.intro; refine And.intro ?_ ?_; (focus (first | (intro wq hq; obtain ⟨hcq, hfq⟩ := G.old hq; go_simp; (first | done | exact rfl); done) | (intro wq; go_simp; (first | done | exact rfl); done))); go_simp; (with_reducible refine hK _ ?_); clear hK K) | fail))
                  (with_reducible refine ord_nil ?_)
                  have hB := Lib.hid hG.b
                  clear hG
                  go_wp2_with fail
                  go_at_call 50
                  (with_reducible refine (S4.out _).mono ?_)
                  rintro e1 w4 ⟨rfl, hw⟩
                  obtain rfl := hw.symm
                  clear hw S4
                  go_wp2_with fail
                  refine bodyPost_ret (v := .tuple #[.string ⟨#[]⟩, .int .i64 0, .int .i64 30]) (by simp only [results, Tryz.results16]; go_simp) rfl (RetP.bad hR.out rfl hB.out)
              · have hR : Hid (parseV l k n = ([], 0, 28)) := by
                  unfold Hid parseV; rw [hP]; unfold parseR
                  rw [if_neg (by omega), hZ, if_neg h5, if_neg (by omega), hX, hD, hC, if_pos h7]
                have h7' : ¬ (X : Int) = (C : Int) := by omega
                clear hP hr hrl hN ha hb hn h16 hZ h5 h6 hX hY hC hD h7
                go_enter Tryz.func16, Tryz.ntmps16
                go_wp2_with fail
                go_at_call 47
                (with_reducible refine IN.out.mono ?_)
                rintro e1 w1 ⟨rfl, hw⟩
                obtain rfl := hw.symm
                clear hw IN
                go_wp2_with fail
                go_at_call 50
                (with_reducible refine (S1.out _).mono ?_)
                rintro e1 w1 ⟨rfl, hw⟩
                obtain rfl := hw.symm
                clear hw S1
                go_upto_region 12 with fail
                refine wp_region_ord [(0, 1), (1, 1), (4, 1), (5, 1), (6, 1), (7, 1), (2, 2), (3, 1), (8, 2), (9, 1), (10, 1)] [] 5 (by kernel_rfl) (by decide +kernel) ?_
                simp only [pickO, List.append_eq, List.cons_append, List.nil_append, List.getElem?_cons_succ, List.getElem?_cons_zero]
                intro w0 hG
                (repeat ((first | (with_reducible refine ord_q1 ?_) | (with_reducible refine ord_q0 ?_)); intro K hK; first | (refine Or.inr ⟨?_, ?_⟩; (focus (go_simp; first | done | (simp [undef]; done))); go_simp; (with_reducible refine hK _ ?_); clear hK K) | (refine Or.inl ⟨?_, ?_⟩; (focus (go_simp; done)); apply Exists.intro; refine And.intro ?_ ?_; (focus (first | (intro wq hq; obtain ⟨hcq, hfq⟩ := G.old hq; go_simp; (first | done | exact rfl); done) | (intro wq; go_simp; (first | done | exact rfl); done))); go_simp; (with_reducible refine hK _ ?_); clear hK K) | fail))
                (with_reducible refine ord_run ?_ hG)
                intro K hK
                go_simp
                go_at_call 50; (with_reducible refine (S2.out _).mono ?_); rintro e1 w2 ⟨rfl, hw⟩; have hb2 : Below w2.heap.size w2 w2 := G.refl _; obtain rfl := hw.symm; clear hw
                replace hG := Grew.trans hG hb2
                (try dsimp only)
                (with_reducible refine hK _ _ hG ?_)
                clear hK K
                (repeat ((first | (with_reducible refine ord_q1 ?_) | (with_reducible refine ord_q0 ?_)); intro K hK; first | (refine Or.inr ⟨?_, ?_⟩; (focus (go_simp; first | done | (simp [undef]; done))); go_simp; (with_reducible refine hK _ ?_); clear hK K) | (refine Or.inl ⟨?_, ?_⟩; (focus (go_simp; done)); apply Exists.intro; refine And.intro ?_ ?_; (focus (first | (intro wq hq; obtain ⟨hcq, hfq⟩ := G.old hq; go_simp; (first | done | exact rfl); done) | (intro wq; go_simp; (first | done | exact rfl); done))); go_simp; (with_reducible refine hK _ ?_); clear hK K) | fail))
                (with_reducible refine ord_run ?_ hG)
                intro K hK
                go_simp
                go_at_call 14; (with_reducible refine (S3.out _).mono ?_); rintro e1 w3 ⟨rfl, hb3⟩
                replace hG := Grew.trans hG hb3
                (try dsimp only)
                (with_reducible refine hK _ _ hG ?_)
                clear hK K
                (repeat ((first | (with_reducible refine ord_q1 ?_) | (with_reducible refine ord_q0 ?_)); intro K hK; first | (refine Or.inr ⟨?_, ?_⟩; (focus (go_simp; first | done | (simp [undef]; done))); go_simp; (with_reducible refine hK _ ?_); clear hK K) | (refine Or.inl ⟨?_, ?_⟩; (focus (go_simp; done)); apply Exists.intro; refine And.intro ?_ ?_; (focus (first | (intro wq hq; obtain ⟨hcq, hfq⟩ := G.old hq; go_simp; (first | done | exact rfl); done) | (intro wq; go_simp; (first | done | exact rfl); done))); go_simp; (with_reducible refine hK _ ?_); clear hK K) | fail))
                (with_reducible refine ord_nil ?_)
                have hB := Lib.hid hG.b
                clear hG
                go_wp2_with fail
                refine bodyPost_ret (v := .tuple #[.string ⟨#[]⟩, .int .i64 0, .int .i64 28]) (by simp only [results, Tryz.results16]; go_simp) rfl (RetP.bad hR.out rfl hB.out)
      · rw [decide_eq_false hn] at IN
        have hR : Hid (parseV l a n = ([], 0, 2)) := by unfold Hid parseV parseP; rw [if_pos (.inr (.inr hn))]
        go_enter Tryz.func16, Tryz.ntmps16
        go_wp2_with fail
        go_at_call 47
        (with_reducible refine IN.out.mono ?_)
        rintro e1 w1 ⟨rfl, hw⟩
        obtain rfl := hw.symm
        clear hw IN
        go_wp2_with fail
        refine bodyPost_ret (v := .tuple #[.string ⟨#[]⟩, .int .i64 0, .int .i64 2]) (by simp only [results, Tryz.results16]; go_simp) rfl (RetP.bad hR.out rfl (G.refl _))
set_option maxRecDepth 20000 in set_option maxHeartbeats 8000000 in
theorem lawparse_any (l : List UInt8) (hl : l.length ≤ 1000000000) (a n : Int) (wa : (Lit.int .i64 n).wf = true) (w : World) : Calls Tryz.prog 18 #[.string (B l), .int .i64 a, .int .i64 n] w (RetP (parseV l a n) w) := by
  obtain ⟨N, hN⟩ : ∃ N, l.length = N := ⟨_, rfl⟩
  have hsl := B_size l
  rw [hN] at hsl hl
  by_cases ha : a < 0
  · have hR : Hid (parseV l a n = ([], 0, 2)) := by unfold Hid parseV parseP; rw [if_pos (.inl ha)]
    go_enter Tryz.func18, Tryz.ntmps18
    go_wp2_with fail
    refine bodyPost_ret (v := .tuple #[.string ⟨#[]⟩, .int .i64 0, .int .i64 2]) (by simp only [results, Tryz.results18]; go_simp) rfl (RetP.bad hR.out rfl (G.refl _))
  · by_cases hb : (N : Int) < a
    · have hR : Hid (parseV l a n = ([], 0, 2)) := by unfold Hid parseV parseP; rw [if_pos (.inr (.inl (by omega)))]
      go_enter Tryz.func18, Tryz.ntmps18
      go_wp2_with fail
      refine bodyPost_ret (v := .tuple #[.string ⟨#[]⟩, .int .i64 0, .int .i64 2]) (by simp only [results, Tryz.results18]; go_simp) rfl (RetP.bad hR.out rfl (G.refl _))
    · by_cases hn : inN n
      · skip
        obtain ⟨k, rfl⟩ : ∃ k : Nat, a = (k : Int) := ⟨a.toNat, by omega⟩
        have hk : k ≤ N := by omega
        have hk0 : (0 : Int) ≤ (k : Int) := by omega
        have hkN : (k : Int) ≤ (N : Int) := by omega
        have hn1 : ¬ n < 1 := by unfold inN at hn; omega
        have hn2 : ¬ 99999999 < n := by unfold inN at hn; omega
        have hP : parseP l (k : Int) n = parseR (l.drop k) n := by unfold parseP; rw [if_neg (by rw [hN]; simp only [hn, not_true, or_false]; omega), Int.toNat_natCast]
        obtain ⟨r, hr⟩ : ∃ r, l.drop k = r := ⟨_, rfl⟩
        have hrl : r.length = N - k := by rw [← hr, List.length_drop, hN]
        have hdr : (B l).extract k N = B r := by rw [← hr, ← hsl]; exact B_drop l k
        rw [hr] at hP
        obtain ⟨R, hRR⟩ : ∃ R, r.length = R := ⟨_, rfl⟩
        have hsr := B_size r
        rw [hRR] at hsr
        have hRN : R ≤ N := by omega
        by_cases h16 : R < 16
        · have hR : Hid (parseV l k n = ([], 0, 29)) := by unfold Hid parseV; rw [hP]; unfold parseR; rw [if_pos (by omega)]
          have h16' : (R : Int) < 16 := by omega
          clear hP hr hrl hN ha hb hn
          go_enter Tryz.func18, Tryz.ntmps18
          go_wp2_with fail
          refine bodyPost_ret (v := .tuple #[.string ⟨#[]⟩, .int .i64 0, .int .i64 29]) (by simp only [results, Tryz.results18]; go_simp) rfl (RetP.bad hR.out rfl (G.refl _))
        · have h16' : ¬ (R : Int) < 16 := by omega
          have t4 : (B r).extract 0 4 = B (r.take 4) := B_take r 4
          have S1 := Lib.hid (fun (wx : World) => unbytes_any (B (r.take 4)) (by rw [B_size, List.length_take]; omega) wx)
          rw [B_list] at S1
          obtain ⟨Z, hZ⟩ : ∃ Z, smallN (r.take 4) = Z := ⟨_, rfl⟩
          have hZ32 : Z < 4294967296 := by
            have h1 := smallN_lt (r.take 4)
            have h2 : (r.take 4).length = 4 := by rw [List.length_take]; omega
            rw [h2, hZ] at h1
            omega
          rw [hZ] at S1
          have hwZ : IntKind.i64.wrap (Z : Int) = (Z : Int) := IntWalk.i64_in _ (by omega)
          have b4 : (4 : Int) ≤ (R : Int) := by omega
          have b4n : 4 ≤ R := by omega
          by_cases h5 : 1048576 < Z
          · have hR : Hid (parseV l k n = ([], 0, 5)) := by unfold Hid parseV; rw [hP]; unfold parseR; rw [if_neg (by omega), hZ, if_pos h5]
            have h5' : (1048576 : Int) < (Z : Int) := by omega
            clear hP hr hrl hN ha hb hn h16 hZ
            go_enter Tryz.func18, Tryz.ntmps18
            go_wp2_with fail
            go_at_call 52
            (with_reducible refine (S1.out _).mono ?_)
            rintro e1 w1 ⟨rfl, hw⟩
            obtain rfl := hw.symm
            clear hw S1
            go_wp2_with fail
            refine bodyPost_ret (v := .tuple #[.string ⟨#[]⟩, .int .i64 0, .int .i64 5]) (by simp only [results, Tryz.results18]; go_simp) rfl (RetP.bad hR.out rfl (G.refl _))
          · have h5' : ¬ (1048576 : Int) < (Z : Int) := by omega
            have hw16 : IntKind.i64.wrap (16 + (Z : Int)) = ((16 + Z : Nat) : Int) := by rw [IntWalk.i64_in _ (by omega)]; omega
            have hu16 : IntKind.u64.wrap (16 + (Z : Int)) = ((16 + Z : Nat) : Int) := by simp [IntKind.wrap, IntKind.bits, IntKind.signed]; omega
            have huR : IntKind.u64.wrap (R : Int) = (R : Int) := by simp [IntKind.wrap, IntKind.bits, IntKind.signed]; omega
            by_cases h6 : R < 16 + Z
            · have hR : Hid (parseV l k n = ([], 0, 29)) := by unfold Hid parseV; rw [hP]; unfold parseR; rw [if_neg (by omega), hZ, if_neg h5, if_pos (by omega)]
              have h6' : (R : Int) < ((16 + Z : Nat) : Int) := by omega
              clear hP hr hrl hN ha hb hn h16 hZ h5
              go_enter Tryz.func18, Tryz.ntmps18
              go_wp2_with fail
              go_at_call 52
              (with_reducible refine (S1.out _).mono ?_)
              rintro e1 w1 ⟨rfl, hw⟩
              obtain rfl := hw.symm
              clear hw S1
              go_wp2_with fail
              refine bodyPost_ret (v := .tuple #[.string ⟨#[]⟩, .int .i64 0, .int .i64 29]) (by simp only [results, Tryz.results18]; go_simp) rfl (RetP.bad hR.out rfl (G.refl _))
            · have h6' : ¬ (R : Int) < ((16 + Z : Nat) : Int) := by omega
              have c1 : ((16 + Z : Nat) : Int) ≤ (R : Int) := by omega
              have c2 : 16 + Z ≤ R := by omega
              have c3 : (16 : Int) ≤ ((16 + Z : Nat) : Int) := by omega
              have c4 : (12 : Int) ≤ (R : Int) := by omega
              have c5 : (16 : Int) ≤ (R : Int) := by omega
              obtain ⟨D, hD⟩ : ∃ D, (r.drop 16).take Z = D := ⟨_, rfl⟩
              have hDl : D.length = Z := by rw [← hD, List.length_take, List.length_drop]; omega
              have m16 : (B r).extract 16 (16 + Z) = B D := by rw [B_mid, Nat.add_sub_cancel_left, hD]
              have sD : (B D).size = Z := by rw [B_size, hDl]
              have t12 : (B r).extract 0 12 = B (r.take 12) := B_take r 12
              have sH : (B (r.take 12)).size = 12 := by rw [B_size, List.length_take]; omega
              have jH : B (r.take 12) ++ B D = B (r.take 12 ++ D) := B_app _ _
              have g1 : ¬ 9223372036854775807 < 12 + Z := by omega
              have m12 : (B r).extract 12 16 = B ((r.drop 12).take 4) := B_mid r 12 16
              have m4 : (B r).extract 4 12 = B ((r.drop 4).take 8) := B_mid r 4 12
              have S2 := Lib.hid (fun (wx : World) => unbytes_any (B ((r.drop 12).take 4)) (by rw [B_size, List.length_take]; omega) wx)
              have S3 := Lib.hid (fun (wx : World) => lawsum_any (B (r.take 12 ++ D)) (by rw [B_size, List.length_append, hDl, List.length_take]; omega) wx)
              have S4 := Lib.hid (fun (wx : World) => unbytes_any (B ((r.drop 4).take 8)) (by rw [B_size, List.length_take]; omega) wx)
              rw [B_list] at S2 S3 S4
              have hX32 : smallN ((r.drop 12).take 4) < 4294967296 := by
                have h1 := smallN_lt ((r.drop 12).take 4)
                have h2 : ((r.drop 12).take 4).length = 4 := by rw [List.length_take, List.length_drop]; omega
                rw [h2] at h1
                omega
              have hY64 : smallN ((r.drop 4).take 8) < 18446744073709551616 := by
                have h1 := smallN_lt ((r.drop 4).take 8)
                have h2 : ((r.drop 4).take 8).length = 8 := by rw [List.length_take, List.length_drop]; omega
                rw [h2] at h1
                omega
              have hC32 := crcL_lt (r.take 12 ++ D)
              obtain ⟨X, hX⟩ : ∃ X, smallN ((r.drop 12).take 4) = X := ⟨_, rfl⟩
              obtain ⟨Y, hY⟩ : ∃ Y, smallN ((r.drop 4).take 8) = Y := ⟨_, rfl⟩
              obtain ⟨C, hC⟩ : ∃ C, crcL (r.take 12 ++ D) = C := ⟨_, rfl⟩
              rw [hX] at S2 hX32
              rw [hY] at S4 hY64
              rw [hC] at S3 hC32
              have hwX : IntKind.u32.wrap (X : Int) = (X : Int) := by rw [IntKind.wrap_u32']; omega
              have hwC : IntKind.u64.wrap (C : Int) = (C : Int) := by simp [IntKind.wrap, IntKind.bits, IntKind.signed]; omega
              have hwn : IntKind.u64.wrap n = n := by unfold inN at hn; simp [IntKind.wrap, IntKind.bits, IntKind.signed]; omega
              by_cases h7 : X = C
              · by_cases h8 : (Y : Int) = n
                · have hR : Hid (parseV l k n = (D, (k : Int) + 16 + (Z : Int), 0)) := by
                    unfold Hid parseV; rw [hP]; unfold parseR
                    rw [if_neg (by omega), hZ, if_neg h5, if_neg (by omega), hX, hD, hC, if_neg (fun x => x h7), hY, if_neg (fun x => x h8)]
                    simp only
                    rw [hDl]
                  have hwk : IntKind.i64.wrap ((k : Int) + 16) = (k : Int) + 16 := IntWalk.i64_in _ (by omega)
                  have hwk2 : IntKind.i64.wrap ((k : Int) + 16 + (Z : Int)) = (k : Int) + 16 + (Z : Int) := IntWalk.i64_in _ (by omega)
                  subst h7
                  clear hP hr hrl hN ha hb hn h16 hZ h5 h6 hX hY hC hD
                  go_enter Tryz.func18, Tryz.ntmps18
                  go_wp2_with fail
                  go_at_call 52
                  (with_reducible refine (S1.out _).mono ?_)
                  rintro e1 w1 ⟨rfl, hw⟩
                  obtain rfl := hw.symm
                  clear hw S1
                  go_upto_region 12 with fail
                  refine wp_region_ord [(0, 1), (1, 1), (3, 1), (4, 1), (5, 1), (6, 1), (2, 2), (7, 2), (8, 1), (9, 1)] [] 5 (by kernel_rfl) (by decide +kernel) ?_
                  simp only [pickO, List.append_eq, List.cons_append, List.nil_append, List.getElem?_cons_succ, List.getElem?_cons_zero]
                  intro w0 hG
                  (repeat ((first | (with_reducible refine ord_q1 ?_) | (with_reducible refine ord_q0 ?_)); intro K hK; first | (refine Or.inr ⟨?_, ?_⟩; (focus (go_simp; first | done | (simp [undef]; done))); go_simp; (with_reducible refine hK _ ?_); clear hK K) | (refine Or.inl ⟨?_, ?_⟩; (focus (go_simp; done)); apply Exists.intro; refine And.intro ?_ ?_; (focus (first | (intro wq hq; obtain ⟨hcq, hfq⟩ := G.old hq; go_simp; (first | done | exact rfl); done) | (intro wq; go_simp; (first | done | exact rfl); done))); go_simp; (with_reducible refine hK _ ?_); clear hK K) | fail))
                  (with_reducible refine ord_run ?_ hG)
                  intro K hK
                  go_simp
                  go_at_call 52; (with_reducible refine (S2.out _).mono ?_); rintro e1 w2 ⟨rfl, hw⟩; have hb2 : Below w2.heap.size w2 w2 := G.refl _; obtain rfl := hw.symm; clear hw
                  replace hG := Grew.trans hG hb2
                  (try dsimp only)
                  (with_reducible refine hK _ _ hG ?_)
                  clear hK K
                  (repeat ((first | (with_reducible refine ord_q1 ?_) | (with_reducible refine ord_q0 ?_)); intro K hK; first | (refine Or.inr ⟨?_, ?_⟩; (focus (go_simp; first | done | (simp [undef]; done))); go_simp; (with_reducible refine hK _ ?_); clear hK K) | (refine Or.inl ⟨?_, ?_⟩; (focus (go_simp; done)); apply Exists.intro; refine And.intro ?_ ?_; (focus (first | (intro wq hq; obtain ⟨hcq, hfq⟩ := G.old hq; go_simp; (first | done | exact rfl); done) | (intro wq; go_simp; (first | done | exact rfl); done))); go_simp; (with_reducible refine hK _ ?_); clear hK K) | fail))
                  (with_reducible refine ord_run ?_ hG)
                  intro K hK
                  go_simp
                  go_at_call 15; (with_reducible refine (S3.out _).mono ?_); rintro e1 w3 ⟨rfl, hw⟩; have hb3 : Below w3.heap.size w3 w3 := G.refl _; obtain rfl := hw.symm; clear hw
                  replace hG := Grew.trans hG hb3
                  (try dsimp only)
                  (with_reducible refine hK _ _ hG ?_)
                  clear hK K
                  (repeat ((first | (with_reducible refine ord_q1 ?_) | (with_reducible refine ord_q0 ?_)); intro K hK; first | (refine Or.inr ⟨?_, ?_⟩; (focus (go_simp; first | done | (simp [undef]; done))); go_simp; (with_reducible refine hK _ ?_); clear hK K) | (refine Or.inl ⟨?_, ?_⟩; (focus (go_simp; done)); apply Exists.intro; refine And.intro ?_ ?_; (focus (first | (intro wq hq; obtain ⟨hcq, hfq⟩ := G.old hq; go_simp; (first | done | exact rfl); done) | (intro wq; go_simp; (first | done | exact rfl); done))); go_simp; (with_reducible refine hK _ ?_); clear hK K) | fail))
                  (with_reducible refine ord_nil ?_)
                  have hB := Lib.hid hG.b
                  clear hG
                  go_wp2_with fail
                  go_at_call 52
                  (with_reducible refine (S4.out _).mono ?_)
                  rintro e1 w4 ⟨rfl, hw⟩
                  obtain rfl := hw.symm
                  clear hw S4
                  go_wp2_with fail
                  refine bodyPost_ret (v := .tuple #[.string (B D), .int .i64 ((k : Int) + 16 + (Z : Int)), .int .i64 0]) (by simp only [results, Tryz.results18]; go_simp) rfl (RetP.good hR.out rfl hB.out)
                · have hR : Hid (parseV l k n = ([], 0, 30)) := by
                    unfold Hid parseV; rw [hP]; unfold parseR
                    rw [if_neg (by omega), hZ, if_neg h5, if_neg (by omega), hX, hD, hC, if_neg (fun x => x h7), hY, if_pos h8]
                  subst h7
                  clear hP hr hrl hN ha hb hn h16 hZ h5 h6 hX hY hC hD
                  go_enter Tryz.func18, Tryz.ntmps18
                  go_wp2_with fail
                  go_at_call 52
                  (with_reducible refine (S1.out _).mono ?_)
                  rintro e1 w1 ⟨rfl, hw⟩
                  obtain rfl := hw.symm
                  clear hw S1
                  go_upto_region 12 with fail
                  refine wp_region_ord [(0, 1), (1, 1), (3, 1), (4, 1), (5, 1), (6, 1), (2, 2), (7, 2), (8, 1), (9, 1)] [] 5 (by kernel_rfl) (by decide +kernel) ?_
                  simp only [pickO, List.append_eq, List.cons_append, List.nil_append, List.getElem?_cons_succ, List.getElem?_cons_zero]
                  intro w0 hG
                  (repeat ((first | (with_reducible refine ord_q1 ?_) | (with_reducible refine ord_q0 ?_)); intro K hK; first | (refine Or.inr ⟨?_, ?_⟩; (focus (go_simp; first | done | (simp [undef]; done))); go_simp; (with_reducible refine hK _ ?_); clear hK K) | (refine Or.inl ⟨?_, ?_⟩; (focus (go_simp; done)); apply Exists.intro; refine And.intro ?_ ?_; (focus (first | (intro wq hq; obtain ⟨hcq, hfq⟩ := G.old hq; go_simp; (first | done | exact rfl); done) | (intro wq; go_simp; (first | done | exact rfl); done))); go_simp; (with_reducible refine hK _ ?_); clear hK K) | fail))
                  (with_reducible refine ord_run ?_ hG)
                  intro K hK
                  go_simp
                  go_at_call 52; (with_reducible refine (S2.out _).mono ?_); rintro e1 w2 ⟨rfl, hw⟩; have hb2 : Below w2.heap.size w2 w2 := G.refl _; obtain rfl := hw.symm; clear hw
                  replace hG := Grew.trans hG hb2
                  (try dsimp only)
                  (with_reducible refine hK _ _ hG ?_)
                  clear hK K
                  (repeat ((first | (with_reducible refine ord_q1 ?_) | (with_reducible refine ord_q0 ?_)); intro K hK; first | (refine Or.inr ⟨?_, ?_⟩; (focus (go_simp; first | done | (simp [undef]; done))); go_simp; (with_reducible refine hK _ ?_); clear hK K) | (refine Or.inl ⟨?_, ?_⟩; (focus (go_simp; done)); apply Exists.intro; refine And.intro ?_ ?_; (focus (first | (intro wq hq; obtain ⟨hcq, hfq⟩ := G.old hq; go_simp; (first | done | exact rfl); done) | (intro wq; go_simp; (first | done | exact rfl); done))); go_simp; (with_reducible refine hK _ ?_); clear hK K) | fail))
                  (with_reducible refine ord_run ?_ hG)
                  intro K hK
                  go_simp
                  go_at_call 15; (with_reducible refine (S3.out _).mono ?_); rintro e1 w3 ⟨rfl, hw⟩; have hb3 : Below w3.heap.size w3 w3 := G.refl _; obtain rfl := hw.symm; clear hw
                  replace hG := Grew.trans hG hb3
                  (try dsimp only)
                  (with_reducible refine hK _ _ hG ?_)
                  clear hK K
                  (repeat ((first | (with_reducible refine ord_q1 ?_) | (with_reducible refine ord_q0 ?_)); intro K hK; first | (refine Or.inr ⟨?_, ?_⟩; (focus (go_simp; first | done | (simp [undef]; done))); go_simp; (with_reducible refine hK _ ?_); clear hK K) | (refine Or.inl ⟨?_, ?_⟩; (focus (go_simp; done)); apply Exists.intro; refine And.intro ?_ ?_; (focus (first | (intro wq hq; obtain ⟨hcq, hfq⟩ := G.old hq; go_simp; (first | done | exact rfl); done) | (intro wq; go_simp; (first | done | exact rfl); done))); go_simp; (with_reducible refine hK _ ?_); clear hK K) | fail))
                  (with_reducible refine ord_nil ?_)
                  have hB := Lib.hid hG.b
                  clear hG
                  go_wp2_with fail
                  go_at_call 52
                  (with_reducible refine (S4.out _).mono ?_)
                  rintro e1 w4 ⟨rfl, hw⟩
                  obtain rfl := hw.symm
                  clear hw S4
                  go_wp2_with fail
                  refine bodyPost_ret (v := .tuple #[.string ⟨#[]⟩, .int .i64 0, .int .i64 30]) (by simp only [results, Tryz.results18]; go_simp) rfl (RetP.bad hR.out rfl hB.out)
              · have hR : Hid (parseV l k n = ([], 0, 28)) := by
                  unfold Hid parseV; rw [hP]; unfold parseR
                  rw [if_neg (by omega), hZ, if_neg h5, if_neg (by omega), hX, hD, hC, if_pos h7]
                have h7' : ¬ (X : Int) = (C : Int) := by omega
                clear hP hr hrl hN ha hb hn h16 hZ h5 h6 hX hY hC hD h7
                go_enter Tryz.func18, Tryz.ntmps18
                go_wp2_with fail
                go_at_call 52
                (with_reducible refine (S1.out _).mono ?_)
                rintro e1 w1 ⟨rfl, hw⟩
                obtain rfl := hw.symm
                clear hw S1
                go_upto_region 12 with fail
                refine wp_region_ord [(0, 1), (1, 1), (3, 1), (4, 1), (5, 1), (6, 1), (2, 2), (7, 2), (8, 1), (9, 1)] [] 5 (by kernel_rfl) (by decide +kernel) ?_
                simp only [pickO, List.append_eq, List.cons_append, List.nil_append, List.getElem?_cons_succ, List.getElem?_cons_zero]
                intro w0 hG
                (repeat ((first | (with_reducible refine ord_q1 ?_) | (with_reducible refine ord_q0 ?_)); intro K hK; first | (refine Or.inr ⟨?_, ?_⟩; (focus (go_simp; first | done | (simp [undef]; done))); go_simp; (with_reducible refine hK _ ?_); clear hK K) | (refine Or.inl ⟨?_, ?_⟩; (focus (go_simp; done)); apply Exists.intro; refine And.intro ?_ ?_; (focus (first | (intro wq hq; obtain ⟨hcq, hfq⟩ := G.old hq; go_simp; (first | done | exact rfl); done) | (intro wq; go_simp; (first | done | exact rfl); done))); go_simp; (with_reducible refine hK _ ?_); clear hK K) | fail))
                (with_reducible refine ord_run ?_ hG)
                intro K hK
                go_simp
                go_at_call 52; (with_reducible refine (S2.out _).mono ?_); rintro e1 w2 ⟨rfl, hw⟩; have hb2 : Below w2.heap.size w2 w2 := G.refl _; obtain rfl := hw.symm; clear hw
                replace hG := Grew.trans hG hb2
                (try dsimp only)
                (with_reducible refine hK _ _ hG ?_)
                clear hK K
                (repeat ((first | (with_reducible refine ord_q1 ?_) | (with_reducible refine ord_q0 ?_)); intro K hK; first | (refine Or.inr ⟨?_, ?_⟩; (focus (go_simp; first | done | (simp [undef]; done))); go_simp; (with_reducible refine hK _ ?_); clear hK K) | (refine Or.inl ⟨?_, ?_⟩; (focus (go_simp; done)); apply Exists.intro; refine And.intro ?_ ?_; (focus (first | (intro wq hq; obtain ⟨hcq, hfq⟩ := G.old hq; go_simp; (first | done | exact rfl); done) | (intro wq; go_simp; (first | done | exact rfl); done))); go_simp; (with_reducible refine hK _ ?_); clear hK K) | fail))
                (with_reducible refine ord_run ?_ hG)
                intro K hK
                go_simp
                go_at_call 15; (with_reducible refine (S3.out _).mono ?_); rintro e1 w3 ⟨rfl, hw⟩; have hb3 : Below w3.heap.size w3 w3 := G.refl _; obtain rfl := hw.symm; clear hw
                replace hG := Grew.trans hG hb3
                (try dsimp only)
                (with_reducible refine hK _ _ hG ?_)
                clear hK K
                (repeat ((first | (with_reducible refine ord_q1 ?_) | (with_reducible refine ord_q0 ?_)); intro K hK; first | (refine Or.inr ⟨?_, ?_⟩; (focus (go_simp; first | done | (simp [undef]; done))); go_simp; (with_reducible refine hK _ ?_); clear hK K) | (refine Or.inl ⟨?_, ?_⟩; (focus (go_simp; done)); apply Exists.intro; refine And.intro ?_ ?_; (focus (first | (intro wq hq; obtain ⟨hcq, hfq⟩ := G.old hq; go_simp; (first | done | exact rfl); done) | (intro wq; go_simp; (first | done | exact rfl); done))); go_simp; (with_reducible refine hK _ ?_); clear hK K) | fail))
                (with_reducible refine ord_nil ?_)
                have hB := Lib.hid hG.b
                clear hG
                go_wp2_with fail
                refine bodyPost_ret (v := .tuple #[.string ⟨#[]⟩, .int .i64 0, .int .i64 28]) (by simp only [results, Tryz.results18]; go_simp) rfl (RetP.bad hR.out rfl hB.out)
      · skip
        have hR : Hid (parseV l a n = ([], 0, 2)) := by unfold Hid parseV parseP; rw [if_pos (.inr (.inr hn))]
        by_cases hn1 : n < 1
        · go_enter Tryz.func18, Tryz.ntmps18
          go_wp2_with fail
          refine bodyPost_ret (v := .tuple #[.string ⟨#[]⟩, .int .i64 0, .int .i64 2]) (by simp only [results, Tryz.results18]; go_simp) rfl (RetP.bad hR.out rfl (G.refl _))
        · have hn2 : 99999999 < n := by unfold inN at hn; omega
          go_enter Tryz.func18, Tryz.ntmps18
          go_wp2_with fail
          refine bodyPost_ret (v := .tuple #[.string ⟨#[]⟩, .int .i64 0, .int .i64 2]) (by simp only [results, Tryz.results18]; go_simp) rfl (RetP.bad hR.out rfl (G.refl _))
end Go.Proofs.YtbafnlccpbonmaaGreatDoor
