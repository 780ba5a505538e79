/- lexer: place, slices.ContainsFunc, the row of tokens. -/
import Derived.Test.YtmchiibbodllaaaGreatDoorScJ
namespace Go.Proofs.YtmchiibbodllaaaGreatDoor
set_option linter.unusedVariables false
set_option linter.unnecessarySimpa false
set_option linter.unusedSimpArgs false
open Go.RowKit

abbrev tT : TypeId := 33
theorem infoTok : (Tryz.prog.info? 33).map (fun i => (i.zero, i.size, i.bytes)) = some (some (.agg #[.int .i64 0, .int .i64 0, .int .i64 0, .string ⟨#[]⟩, .string ⟨#[]⟩, .int .i64 0, .int .i64 0, .bool false]), 8, 80) := by kernel_rfl
/-- The line and the column of a place. -/
def lnc (l : List UInt8) (i : Nat) : Int × Int := (((lc (l.take i)).1 : Int), ((lc (l.take i)).2 : Int))
def plC (l : List UInt8) (p : Pl) : List Value := tkC p.t.k (lnc l p.i).1 (lnc l p.i).2 (B p.t.tx) (B p.t.v) p.t.n p.t.s p.j
def rowC (l : List UInt8) (ts : List Pl) : List Value := ts.flatMap (plC l)
def endC (l : List UInt8) : List Value := tkC 0 (lnc l l.length).1 (lnc l l.length).2 ⟨#[]⟩ ⟨#[]⟩ 0 0 false
theorem rowC_app (l : List UInt8) (ts : List Pl) (p : Pl) : rowC l (ts ++ [p]) = rowC l ts ++ plC l p := by unfold rowC; simp
theorem tkC_len (k ln cl : Int) (a b : ByteArray) (n s : Int) (j : Bool) : (tkC k ln cl a b n s j).length = 8 := rfl
theorem tkC_one (k ln cl : Int) (a b : ByteArray) (n s : Int) (j : Bool) : ∀ u ∈ tkC k ln cl a b n s j, u.oneCell' = true := by
  intro u hu
  unfold tkC at hu
  simp only [List.mem_cons, List.not_mem_nil, or_false] at hu
  rcases hu with rfl | rfl | rfl | rfl | rfl | rfl | rfl | rfl <;> rfl
theorem rowC_len (l : List UInt8) : ∀ ts : List Pl, (rowC l ts).length = ts.length * 8
  | [] => rfl
  | p :: ts => by
    have := rowC_len l ts
    unfold rowC at this ⊢
    rw [List.flatMap_cons, List.length_append, this, List.length_cons]
    unfold plC
    rw [tkC_len]
    omega
/-- A row stays where other blocks are written. -/
theorem own_at {w w' : World} {base : Nat} {e : TypeId} {size : Nat} {v : Value} {n : Nat} {xs : List Value} (h : w.ownsRow base e size v n xs) (hk : ∀ g, base ≤ g → g < w.heap.size → w'.heap[g]? = w.heap[g]?) : w'.ownsRow base e size v n xs := by
  refine ⟨h.1, ?_⟩
  rcases h.2 with h0 | ⟨g, cap, cur, hv, hg, hh, hr⟩
  · exact .inl h0
  · refine .inr ⟨g, cap, cur, hv, hg, ?_, hr⟩
    rw [hk g hg]
    · exact hh
    · rcases Nat.lt_or_ge g w.heap.size with h' | h'
      · exact h'
      · rw [Array.getElem?_eq_none h'] at hh; cases hh
section
variable {w : World} {b r : Nat} {s : ByteArray} {i : Nat} {wg ln cl : Int} {j : Bool}
set_option maxRecDepth 20000 in set_option maxHeartbeats 1000000 in
theorem place_any (s : ByteArray) (i : Nat) (w : World) (hs : s.size ≤ 100000) (hi : i ≤ s.size) : Calls Tryz.prog 52 #[.string s, .int .i64 i] w fun e w' => e = .returned (.tuple #[.int .i64 (lnc s.data.toList i).1, .int .i64 (lnc s.data.toList i).2]) ∧ w' = w := by
  have hx : (s.extract 0 i).data.toList = s.data.toList.take i := by rw [ext_eq, B_list, List.drop_zero, Nat.sub_zero]
  have hxs : (s.extract 0 i).size = i := by rw [ByteArray.size_extract]; omega
  have CT := Lib.hid (fun wx => Tryz.strings_Count_one (s.extract 0 i) 10 wx)
  have LI := Lib.hid (fun wx => Tryz.strings_LastIndexByte (s.extract 0 i) 10 (by rw [hxs]; omega) wx)
  have h1 := lc_fst (s.data.toList.take i)
  have h2 := lc_snd (s.extract 0 i)
  have hb := lc_bd (s.data.toList.take i)
  have hct : Lib.countByte (s.extract 0 i).data.toList 10 = (s.data.toList.take i).count 10 := by rw [hx]; rfl
  rw [hct] at CT
  rw [hx, hxs] at h2
  have hl : (s.data.toList.take i).length ≤ 100000 := by rw [List.length_take]; omega
  unfold lnc
  dsimp only
  obtain ⟨⟨a, c⟩, hac⟩ : ∃ p, lc (s.data.toList.take i) = p := ⟨_, rfl⟩
  rw [hac] at h1 h2 hb ⊢
  dsimp only at h1 h2 hb ⊢
  obtain ⟨n, hn⟩ : ∃ n, (s.data.toList.take i).count 10 = n := ⟨_, rfl⟩
  obtain ⟨x, hx⟩ : ∃ x, Lib.lastIndexByte (s.extract 0 i) 10 = x := ⟨_, rfl⟩
  rw [hn] at CT h1
  rw [hx] at LI h2
  have hw1 : IntKind.i64.wrap (1 + (n : Int)) = (a : Int) := by rw [IntWalk.i64_in _ (by omega)]; omega
  have hw2 : IntKind.i64.wrap ((i : Int) - x) = (c : Int) := by rw [IntWalk.i64_in _ (by omega)]; omega
  have hi0 : (0 : Int) ≤ (i : Int) := by omega
  have hi1 : (i : Int) ≤ (s.size : Int) := by omega
  clear h1 h2 hb hac hn hx
  go_enter Tryz.func52, Tryz.ntmps52
  go_wp2_with fail
  go_at_call 84
  (with_reducible refine (CT.out _).mono ?_)
  rintro e1 w1 ⟨rfl, rfl⟩
  go_wp2_with fail
  go_at_call 85
  (with_reducible refine (LI.out _).mono ?_)
  rintro e1 w1 ⟨rfl, rfl⟩
  go_wp2_with fail
  exact bodyPost_ret (v := .tuple #[.int .i64 (a : Int), .int .i64 (c : Int)]) (by simp only [results, Tryz.results52]; go_simp) rfl ⟨rfl, rfl⟩
theorem contains_any (hP : Pre b r s i wg ln cl j w) (hgb : ¬ GB b) (hgr : ¬ GB r) (hbr : r ≠ b) (hs : s.size ≤ 100000) (hi : i < s.size) (W : Nat)
    (hW : ∀ k u, (waysV b)[k]? = some u → w.cell? ⟨W, k, none⟩ = some u) :
    Calls Tryz.prog 50 #[.slice (some ⟨W, 0, none⟩) 5 5, .func (.func 51) #[] #[.pointer (some ⟨r, 0, none⟩)]] w
      (fun e w' => (e = .returned (.bool true) ∧ (way (s.data.toList.drop i) ≠ 4 ∨ okY (s.data.toList.drop i) = true) ∧ Rd w w' b r s i wg ln cl j (lex1 (s.data.toList.drop i))) ∨ (e = .returned (.bool false) ∧ way (s.data.toList.drop i) = 4 ∧ okY (s.data.toList.drop i) = false ∧ Below w.heap.size w w')) := by
  have IX := Lib.hid (index_any hP hgb hgr hbr hs hi W hW)
  clear hP hW
  go_enter Tryz.func50, Tryz.ntmps50
  go_wp2_with fail
  go_at_call 83
  (with_reducible refine IX.out.mono ?_)
  rintro e1 w1 ⟨x, rfl, hx⟩
  rcases hx with ⟨h0, h1⟩ | ⟨h0, h1⟩
  · replace h1 := Lib.hid h1
    go_wp2_with fail
    go_ret
    exact .inl ⟨rfl, h1.out⟩
  · replace h1 := Lib.hid h1
    have h0' : ¬ 0 ≤ x := by omega
    go_wp2_with fail
    go_ret
    exact .inr ⟨by simp [h0'], h1.out⟩
end
end Go.Proofs.YtmchiibbodllaaaGreatDoor
