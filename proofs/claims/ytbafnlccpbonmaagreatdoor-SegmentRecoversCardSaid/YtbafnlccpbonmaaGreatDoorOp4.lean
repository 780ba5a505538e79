/- segment.Open. -/
import Derived.Test.YtbafnlccpbonmaaGreatDoorGMg
import Derived.Test.YtbafnlccpbonmaaGreatDoorGMc
namespace Go.Proofs.YtbafnlccpbonmaaGreatDoor
set_option linter.unusedVariables false
set_option linter.unnecessarySimpa false
set_option linter.unusedSimpArgs false
open Go.RowKit

section
variable {P : Program}
theorem wpList_appB {ops : Array Oper} {rest : List Oper} {o : Oper} {a : Act} {w : World} {Q : Exit → Act → World → Prop} (hgd : o.guard = none) (s x : Operand) (t : TypeId)
    (ho : o.op = .call { callee := .builtin .append, args := #[s, x], argTypes := #[t, t] })
    (base : Nat) (e : TypeId) (i : TypeInfo) (z : Value) (size bytes : Nat) (ht : P.underlying t = some (.slice e)) (hi : P.info? e = some i) (hz : i.zero = some z)
    (hsize : i.size = size) (hby : i.bytes = bytes) (hzs : z.cells.size = size) (hsz : 0 < size)
    (v : Value) (n : Nat) (xs : List Value) (hs : a.eval s = v) (hown : w.ownsRow base e size v n xs)
    (A : Option Addr) (m c : Nat) (news : List Value) (hx : a.eval x = .slice A m c) (hr : Sl w A (m * size) news) (h1 : ∀ u ∈ news, u.oneCell' = true)
    (h63 : n + m ≤ maxLen) (hbytes : (n + m) * bytes ≤ 140737488355328) (hbase : base ≤ w.heap.size)
    (h : ∀ A' c' w', w'.ownsRow base e size (.slice A' (n + m) c') (n + m) (xs ++ news) → n + m ≤ c' → c' ≤ maxLen → w.grownBy w' v.ownBlock →
      ((Value.slice A' (n + m) c').ownBlock = v.ownBlock ∨ (Value.slice A' (n + m) c').ownBlock = some w.heap.size) → wpList P ops Q rest (a.put o.dst (.slice A' (n + m) c')) w') : wpList P ops Q (o :: rest) a w :=
  wpList_plain hgd fun K hK => by
    have := step_appB (P := P) (ops := ops) (o := o) (a := a) (w := w) (K := K) (Q := Q) (E := True) hgd s x t ho base e i z size bytes ht hi hz hsize hby hzs hsz v n xs hs hown A m c news hx hr h1 h63 hbytes hbase fun A' c' w' h2 h3 h4 h5 h6 => hK _ _ (h A' c' w' h2 h3 h4 h5 h6)
    rwa [if_pos (by simp [Region.wanted, hgd])] at this
end
/-- What Open gives: the log and OK, or nil and the error; the device's state behind it. -/
def RetO (d : Nat) (S : Nat → Prop) (R : Int × Ds × Option Lg) (w : World) (e : Ending) (w' : World) : Prop :=
  (∃ x s', R = (x, s', none) ∧ e = .returned (.tuple #[.pointer none, .int .i64 x]) ∧ RetD d S s' w w') ∨
  (∃ s' l L, R = (0, s', some l) ∧ e = .returned (.tuple #[.pointer (some ⟨L, 0, none⟩), .int .i64 0]) ∧ LX w S (fun _ => False) w' d L s' l)
theorem RetO.bad {d : Nat} {S : Nat → Prop} {R : Int × Ds × Option Lg} {w w' : World} {e : Ending} {x : Int} {s' : Ds} (hR : R = (x, s', none)) (he : e = .returned (.tuple #[.pointer none, .int .i64 x])) (h : RetD d S s' w w') : RetO d S R w e w' := .inl ⟨x, s', hR, he, h⟩
theorem num_in {nm f : List UInt8} {n : Nat} (h : numM nm f = some n) : 1 ≤ n ∧ n ≤ 99999999 := by
  have := ((numM_iff nm f n).1 h).2.1
  unfold inN at this
  omega
theorem firsts_in (nm : List UInt8) (fs : List (List UInt8)) : ∀ n ∈ firstsN nm fs, 1 ≤ n ∧ n ≤ 99999999 := fun n hn => by
  unfold firstsN at hn
  rw [List.mem_mergeSort, List.mem_filterMap] at hn
  obtain ⟨f, _, h⟩ := hn
  exact num_in h
theorem firsts_len (nm : List UInt8) (fs : List (List UInt8)) : (firstsN nm fs).length ≤ fs.length := by
  unfold firstsN
  rw [List.length_mergeSort]
  exact List.length_filterMap_le _ _
theorem fm_snoc (nm : List UInt8) {l : List (List UInt8)} {k : Nat} {f : List UInt8} (h : l[k]? = some f) : (l.take (k + 1)).filterMap (numM nm) = (l.take k).filterMap (numM nm) ++ (match numM nm f with | some n => [n] | none => []) := by
  rw [List.take_add_one, h, List.filterMap_append]
  congr 1
  simp only [Option.toList_some, List.filterMap_cons, List.filterMap_nil]
  cases numM nm f <;> rfl
theorem strs_get {l : List (List UInt8)} {k : Nat} {f : List UInt8} (h : l[k]? = some f) : (strs l)[k]? = some (.string (B f)) := by
  unfold strs
  rw [List.getElem?_map, h]
  rfl
theorem infoLog : (Tryz.prog.info? 102).map (fun i => (i.zero, i.size)) = some (some (.agg #[.pointer none, .string ⟨#[]⟩, .int .i64 0, .slice none 0 0, .int .i64 0]), 5) := by kernel_rfl
theorem drop_cons {α : Type} {l : List α} {i : Nat} {x : α} (h : l[i]? = some x) : l.drop i = x :: l.drop (i + 1) := by
  obtain ⟨hi, e⟩ := List.getElem?_eq_some_iff.1 h
  rw [← e, List.getElem_cons_drop]
section
variable {w w' : World} {d : Nat} {s : Ds} {S : Nat → Prop} {nm : List UInt8}
theorem LX.retD {w3 : World} {L : Nat} {s' : Ds} {l : Lg} (h : LX w3 S (fun x => x = L) w' d L s' l) (hb : Below w.heap.size w w3) (hL : w.heap.size ≤ L) : RetD d S s' w w' := by
  obtain ⟨⟨S', T, h1, h2, h3, h4, h5⟩, hg⟩ := h
  have hsz := hb.size
  refine ⟨S', h1, fun x hx => (h4 x hx).imp id (fun h => by omega), (DChg.of_below (S := S) hb).trans hg fun x hx => ?_⟩
  rcases hx with hx | hx
  · exact .inl hx
  · exact .inr (by omega)
theorem LX.rebase {w3 : World} {L : Nat} {s' : Ds} {l : Lg} (h : LX w3 S (fun x => x = L) w' d L s' l) (hb : Below w.heap.size w w3) (hL : w.heap.size ≤ L) : LX w S (fun _ => False) w' d L s' l := by
  obtain ⟨⟨S', T, h1, h2, h3, h4, h5⟩, hg⟩ := h
  have hsz := hb.size
  refine ⟨⟨S', T, h1, h2, h3, fun x hx => (h4 x hx).imp id (fun h => by omega), fun x hx => .inr ?_⟩, (DChg.of_below (S := fun x => S x ∨ False) hb).trans hg fun x hx => ?_⟩
  · rcases h5 x hx with h6 | h6 <;> omega
  · rcases hx with hx | hx
    · exact .inl (.inl hx)
    · exact .inr (by omega)
theorem map_ne {P : Option Addr} {L : Nat} (h : ∀ ad, P = some ad → ad.block ≠ L) : some L ≠ P.map (·.block) := fun e => by
  rcases P with _ | ad
  · cases e
  · simp at e
    exact h ad rfl e.symm
theorem open_step {nm : List UInt8} {n : Nat} {r : List Nat} {s : Ds} {ps : List Pt} (h0 : ¬ (ps ≠ [] ∧ (n : Int) ≠ lastB ps)) : openN nm (n :: r) s ps =
    if (textD s (fileR nm n).1).2 ≠ 0 then ((textD s (fileR nm n).1).2, s, ps)
    else if (scanT ((textD s (fileR nm n).1).1.length + 1) (textD s (fileR nm n).1).1 ⟨n, [0]⟩).2 ≠ 0 ∧ r ≠ [] then ((scanT ((textD s (fileR nm n).1).1.length + 1) (textD s (fileR nm n).1).1 ⟨n, [0]⟩).2, s, ps)
      else if (scanT ((textD s (fileR nm n).1).1.length + 1) (textD s (fileR nm n).1).1 ⟨n, [0]⟩).2 ≠ 0 then
        (if (truncD s (fileR nm n).1 (scanT ((textD s (fileR nm n).1).1.length + 1) (textD s (fileR nm n).1).1 ⟨n, [0]⟩).1.size).1 ≠ 0 then ((truncD s (fileR nm n).1 (scanT ((textD s (fileR nm n).1).1.length + 1) (textD s (fileR nm n).1).1 ⟨n, [0]⟩).1.size).1, (truncD s (fileR nm n).1 (scanT ((textD s (fileR nm n).1).1.length + 1) (textD s (fileR nm n).1).1 ⟨n, [0]⟩).1.size).2, ps) else openN nm r (truncD s (fileR nm n).1 (scanT ((textD s (fileR nm n).1).1.length + 1) (textD s (fileR nm n).1).1 ⟨n, [0]⟩).1.size).2 (ps ++ [(scanT ((textD s (fileR nm n).1).1.length + 1) (textD s (fileR nm n).1).1 ⟨n, [0]⟩).1]))
      else openN nm r s (ps ++ [(scanT ((textD s (fileR nm n).1).1.length + 1) (textD s (fileR nm n).1).1 ⟨n, [0]⟩).1]) := by
  rw [openN, if_neg h0]
theorem RetD.refl0 (h : DevW w d S s) : RetD d S s w w := ⟨S, h, fun x hx => .inl hx, DChg.refl _ _⟩
set_option maxRecDepth 20000 in set_option maxHeartbeats 2000000 in
theorem open_nil (nm : ByteArray) (lim : Int) (w : World) : Calls Tryz.prog 25 #[.pointer none, .string nm, .int .i64 lim] w fun e w' => e = .returned (.tuple #[.pointer none, .int .i64 1]) ∧ w' = w := by
  go_enter Tryz.func25, Tryz.ntmps25
  go_wp2_with fail
  refine bodyPost_ret (v := .tuple #[.pointer none, .int .i64 1]) (by simp only [results, Tryz.results25]; go_simp) rfl ⟨rfl, rfl⟩
set_option maxRecDepth 20000 in set_option maxHeartbeats 2000000 in
theorem open_down (h : DevW w d S s) (hd : s.down = true) (nm : ByteArray) (lim : Int) : Calls Tryz.prog 25 #[.pointer (some ⟨d, 0, none⟩), .string nm, .int .i64 lim] w (RetO d S (31, s, none) w) := by
  have DN := Lib.hid (down_any h)
  rw [hd] at DN
  have H := Lib.hid h
  clear h
  go_enter Tryz.func25, Tryz.ntmps25
  go_wp2_with fail
  go_at_call 45
  (with_reducible refine DN.out.mono ?_)
  rintro e1 w1 ⟨rfl, rfl⟩
  go_wp2_with fail
  refine bodyPost_ret (v := .tuple #[.pointer none, .int .i64 31]) (by simp only [results, Tryz.results25]; go_simp) rfl (.bad rfl rfl (.refl0 H.out))
set_option maxRecDepth 20000 in set_option maxHeartbeats 2000000 in
theorem open_name (h : DevW w d S s) (hd : s.down = false) (hn : nameC nm = false) (lim : Int) : Calls Tryz.prog 25 #[.pointer (some ⟨d, 0, none⟩), .string (B nm), .int .i64 lim] w (RetO d S (12, s, none) w) := by
  have DN := Lib.hid (down_any h)
  rw [hd] at DN
  have IS := Lib.hid (isname_any (B nm) w)
  rw [B_list, hn] at IS
  have H := Lib.hid h
  clear h
  go_enter Tryz.func25, Tryz.ntmps25
  go_wp2_with fail
  go_at_call 45
  (with_reducible refine DN.out.mono ?_)
  rintro e1 w1 ⟨rfl, hw⟩
  obtain rfl := hw.symm
  clear hw
  go_wp2_with fail
  go_at_call 22
  (with_reducible refine IS.out.mono ?_)
  rintro e1 w1 ⟨rfl, rfl⟩
  go_wp2_with fail
  refine bodyPost_ret (v := .tuple #[.pointer none, .int .i64 12]) (by simp only [results, Tryz.results25]; go_simp) rfl (.bad rfl rfl (.refl0 H.out))
set_option maxRecDepth 20000 in set_option maxHeartbeats 2000000 in
theorem open_limit (h : DevW w d S s) (hd : s.down = false) (hn : nameC nm = true) {lim : Int} (hl : lim < 64 ∨ 4194304 < lim) : Calls Tryz.prog 25 #[.pointer (some ⟨d, 0, none⟩), .string (B nm), .int .i64 lim] w (RetO d S (2, s, none) w) := by
  have DN := Lib.hid (down_any h)
  rw [hd] at DN
  have IS := Lib.hid (isname_any (B nm) w)
  rw [B_list, hn] at IS
  have H := Lib.hid h
  clear h
  by_cases h1 : lim < 64
  · go_enter Tryz.func25, Tryz.ntmps25
    go_wp2_with fail
    go_at_call 45
    (with_reducible refine DN.out.mono ?_)
    rintro e1 w1 ⟨rfl, hw⟩
    obtain rfl := hw.symm
    clear hw
    go_wp2_with fail
    go_at_call 22
    (with_reducible refine IS.out.mono ?_)
    rintro e1 w1 ⟨rfl, rfl⟩
    go_wp2_with fail
    refine bodyPost_ret (v := .tuple #[.pointer none, .int .i64 2]) (by simp only [results, Tryz.results25]; go_simp) rfl (.bad rfl rfl (.refl0 H.out))
  · have h2 : 4194304 < lim := by omega
    go_enter Tryz.func25, Tryz.ntmps25
    go_wp2_with fail
    go_at_call 45
    (with_reducible refine DN.out.mono ?_)
    rintro e1 w1 ⟨rfl, hw⟩
    obtain rfl := hw.symm
    clear hw
    go_wp2_with fail
    go_at_call 22
    (with_reducible refine IS.out.mono ?_)
    rintro e1 w1 ⟨rfl, rfl⟩
    go_wp2_with fail
    refine bodyPost_ret (v := .tuple #[.pointer none, .int .i64 2]) (by simp only [results, Tryz.results25]; go_simp) rfl (.bad rfl rfl (.refl0 H.out))
/-- The first loop's world: the log's box, the files' row, the numbers' row. -/
structure OpW (w0 : World) (L d : Nat) (nm : List UInt8) (lim : Int) (AF : Option Addr) (M cF : Nat) (names : List (List UInt8)) (w : World) (A : Option Addr) (c : Nat) (ns : List Nat) : Prop where
  below : Below w0.heap.size w0 w
  box : Bx w L [.pointer (some ⟨d, 0, none⟩), .string (B nm), .int .i64 lim, .slice none 0 0, .int .i64 0]
  files : w.ownsRow w0.heap.size 9 1 (.slice AF M cF) M (strs names)
  row : w.ownsRow w0.heap.size 3 1 (.slice A ns.length c) ns.length (natsC ns)
  lge : w0.heap.size ≤ L
  outL : ∀ ad, A = some ad → ad.block ≠ L
  outF : ∀ ad af, A = some ad → AF = some af → ad.block ≠ af.block
theorem OpW.grow {w0 w w' : World} {L d : Nat} {nm : List UInt8} {lim : Int} {AF : Option Addr} {M cF : Nat} {names : List (List UInt8)} {A : Option Addr} {c : Nat} {ns : List Nat} (h : OpW w0 L d nm lim AF M cF names w A c ns) (hb : Below w.heap.size w w') : OpW w0 L d nm lim AF M cF names w' A c ns :=
  ⟨G.trans h.below hb, h.box.grow hb, own_grow h.files hb, own_grow h.row hb, h.lge, h.outL, h.outF⟩
theorem OpW.app {w0 w w2 w' : World} {L d n : Nat} {nm : List UInt8} {lim : Int} {AF : Option Addr} {M cF : Nat} {names : List (List UInt8)} {A A' : Option Addr} {c c' : Nat} {ns : List Nat} (h : OpW w0 L d nm lim AF M cF names w A c ns) (hb : Below w.heap.size w w2)
    (hg : w2.grownBy w' (Value.slice A ns.length c).ownBlock) (ho : w'.ownsRow w0.heap.size 3 1 (.slice A' (ns.length + 1) c') (ns.length + 1) (natsC ns ++ [.int .i64 (n : Int)]))
    (hob : (Value.slice A' (ns.length + 1) c').ownBlock = (Value.slice A ns.length c).ownBlock ∨ (Value.slice A' (ns.length + 1) c').ownBlock = some w2.heap.size) : OpW w0 L d nm lim AF M cF names w' A' c' (ns ++ [n]) := by
  have h2 := h.grow hb
  have lF := h.files.lt
  have hs := hb.size
  have l4 := h.box.lt
  have hA' : ∀ ad, A' = some ad → (∃ ap, A = some ap ∧ ad.block = ap.block) ∨ ad.block = w2.heap.size := fun ad ha => by
    subst ha
    rcases hob with e | e
    · rcases A with _ | ap
      · cases e
      · injection e with e
        exact .inl ⟨ap, rfl, e⟩
    · injection e with e
      exact .inr e
  have hne : ∀ x, (∀ ad, A = some ad → ad.block ≠ x) → some x ≠ (Value.slice A ns.length c).ownBlock := fun x hx e => by
    rcases A with _ | ap
    · cases e
    · injection e with e
      exact hx ap rfl e.symm
  refine ⟨h2.below.grown hg h2.below.size fun k hk => (h.row.lt k hk).1, h2.box.block hg.size (hg.block L (by omega) (hne L h.outL)), ?_, ?_, h.lge, fun ad ha => ?_, fun ad af ha hf => ?_⟩
  · exact own_blk h2.files fun g hgf => hg.block g (h2.files.lt g hgf).2 (hne g fun ad ha => by
      rcases AF with _ | af
      · cases hgf
      · injection hgf with hgf
        exact fun e => h.outF ad af ha rfl (by omega))
  · rw [List.length_append]
    unfold natsC at ho ⊢
    rw [List.map_append]
    exact ho
  · rcases hA' ad ha with ⟨ap, hp, e⟩ | e
    · rw [e]; exact h.outL ap hp
    · omega
  · rcases hA' ad ha with ⟨ap, hp, e⟩ | e
    · rw [e]; exact h.outF ap af hp hf
    · have := (lF af.block (by rw [hf]; rfl)).2
      omega
set_option maxRecDepth 20000 in set_option maxHeartbeats 16000000 in
theorem open_ok (h : DevW w d S s) (hg : s.Good) (hnm : ∀ f ∈ s.fs, f.name.length ≤ 64) (hp : Pow10 w) (hv : LibVars w) (hns : ¬ S 3) (hd : s.down = false) (hn : nameC nm = true) {lim : Int} (hl : ¬ (lim < 64 ∨ 4194304 < lim)) :
    Calls Tryz.prog 25 #[.pointer (some ⟨d, 0, none⟩), .string (B nm), .int .i64 lim] w (RetO d S (openG s nm lim) w) := by
  obtain ⟨R, hR⟩ : ∃ R, openG s nm lim = R := ⟨_, rfl⟩
  rw [hR]
  unfold openG at hR
  rw [if_neg (by rw [hd]; decide), if_neg (by rw [hn]; decide), if_neg hl] at hR
  have HR := Lib.hid hR
  have DN := Lib.hid (down_any h)
  rw [hd] at DN
  have IS := Lib.hid (isname_any (B nm) w)
  rw [B_list, hn] at IS
  have h1 : ¬ lim < 64 := fun x => hl (.inl x)
  have h2 : ¬ 4194304 < lim := fun x => hl (.inr x)
  have LI := Lib.hid (list_any h hg.ok)
  have HG := Lib.hid hg
  have H := Lib.hid h
  have HP := Lib.hid hp
  have HV := Lib.hid hv
  have HS := Lib.hid hns
  have hN64 : Hid (∀ (k : Nat) (f : List UInt8), (namesC s.fs)[k]? = some f → f.length ≤ 64) := fun k f hk => by
    have := List.mem_of_getElem? hk
    unfold namesC at this
    rw [List.mem_map] at this
    obtain ⟨x, hx, rfl⟩ := this
    exact hnm x hx
  have hcnt : (namesC s.fs).length ≤ 4096 := by unfold namesC; rw [List.length_map]; exact hg.ok.cnt
  obtain ⟨names, hnames⟩ : ∃ n, namesC s.fs = n := ⟨_, rfl⟩
  rw [hnames] at HR hN64 hcnt
  have hHD := Lib.hid hd
  have hFI := Lib.hid (firsts_in nm names)
  have hFL := firsts_len nm names
  clear h hg hnm hp hv hns hl hR hn
  obtain ⟨i0, hi, hz0, hz1, hz2⟩ := info_parts infoIntG
  go_enter Tryz.func25, Tryz.ntmps25
  go_wp2_with fail
  go_at_call 45
  (with_reducible refine DN.out.mono ?_)
  rintro e1 w1 ⟨rfl, hw⟩
  obtain rfl := hw.symm
  clear hw DN
  go_wp2_with fail
  go_at_call 22
  (with_reducible refine IS.out.mono ?_)
  rintro e1 w1 ⟨rfl, hw⟩
  obtain rfl := hw.symm
  clear hw IS
  go_wp2_with fail
  go_at_call 57
  (with_reducible refine LI.out.mono ?_)
  rintro e1 w1 h1c
  rcases h1c with ⟨hx, _⟩ | ⟨_, AF, cF, rfl, hown, hb1⟩
  · rw [hd] at hx
    cases hx
  rw [hnames] at hown ⊢
  obtain ⟨M, hM⟩ : ∃ M, names.length = M := ⟨_, rfl⟩
  rw [hM] at hown hcnt hFL ⊢
  replace hb1 := Lib.hid hb1
  replace hown := Lib.hid hown
  clear LI hnames hd
  have hsz1 := hb1.out.size
  go_wp2_with fail
  refine wp_name (fun wx => OpW w w1.heap.size d nm lim AF M cF names wx none 0 []) ⟨hb1.out.alloc hb1.out.size _, Bx.new rfl rfl, own_grow hown.out (G.alloc (G.refl _) _), ⟨rfl, .inl ⟨rfl, rfl⟩⟩, hb1.out.size, (fun ad ha => by cases ha), (fun ad af ha => by cases ha)⟩ ?_
  intro w2 hO2
  obtain ⟨L, hL⟩ : ∃ L, w1.heap.size = L := ⟨_, rfl⟩
  rw [hL] at hO2 ⊢
  replace hO2 := Lib.hid hO2
  clear hown hL hsz1 hb1
  go_loopw [11, 56] (fun fv kv wr => ∃ (k : Nat) (A : Option Addr) (c : Nat) (ns : List Nat), k ≤ M ∧ kv = .int .i64 (k : Int) ∧ fv = .slice A ns.length c ∧ Hid ((names.take k).filterMap (numM nm) = ns) ∧ ns.length ≤ k ∧ Hid (OpW w L d nm lim AF M cF names wr A c ns)) (fun _ kv _ => M - (intOf kv).toNat)
  case atStart => exact ⟨0, none, 0, [], Nat.zero_le _, rfl, rfl, by unfold Hid; simp, Nat.le_refl _, hO2⟩
  case round =>
    obtain ⟨k, A, c, ns, hkM, rfl, rfl, hns, hnk, HO⟩ := hrel
    clear hO2
    by_cases hlt : k < M
    · have hlt' : (k : Int) < (M : Int) := by omega
      obtain ⟨f, hf⟩ : ∃ f, names[k]? = some f := ⟨_, List.getElem?_eq_getElem (by rw [hM]; exact hlt)⟩
      obtain ⟨g, rfl, hgb, hgl, hgc⟩ := row_ptr HO.out.files (by omega)
      have c0 := hgc k _ (strs_get hf)
      clear hgc
      have hf64 := hN64.out k f hf
      have NU := Lib.hid (fun (wx : World) (hb : Below wr.heap.size wr wx) => number_any nm f (by omega) wx (HP.out.grow (G.trans HO.out.below hb)) (HV.out.grow (G.trans HO.out.below hb)))
      have hsn := fm_snoc nm hf
      have hw2 : IntKind.i64.wrap ((k : Int) + 1) = ((k + 1 : Nat) : Int) := by rw [IntWalk.i64_in _ (by omega)]; omega
      rcases hnu : numM nm f with _ | n
      · rw [hnu] at NU hsn
        unfold numV at NU
        dsimp only at NU hsn
        rw [List.append_nil, hns.out] at hsn
        have hsn := Lib.hid hsn
        clear hf hnu hFI HR HG H hHD
        go_wp2_with fail
        go_at_call 20
        (with_reducible refine (NU.out _ (G.refl _)).mono ?_)
        rintro e1 w3 ⟨rfl, hb3⟩
        clear NU c0
        replace hb3 := Lib.hid hb3
        go_wp2_with fail
        refine ⟨⟨k + 1, A, c, ns, by omega, by go_num, rfl, hsn, by omega, Lib.hid (HO.out.grow hb3.out)⟩, by simp [intOf]; omega⟩
      · rw [hnu] at NU hsn
        unfold numV at NU
        dsimp only at NU hsn
        rw [hns.out] at hsn
        have hsn := Lib.hid hsn
        clear hf hnu hFI HR HG H hHD
        go_wp2_with fail
        go_at_call 20
        (with_reducible refine (NU.out _ (G.refl _)).mono ?_)
        rintro e1 w3 ⟨rfl, hb3⟩
        clear NU c0
        have hb4 := Lib.hid hb3
        have HO3 := Lib.hid ((HO.out.grow hb3).grow (G.alloc (G.refl w3) (.cells #[.int .i64 (n : Int)] 3)))
        have hsw := Lib.hid (HO.out.grow hb3).below.size
        clear hb3
        go_wp2_with (at_builtin; refine wpList_appB rfl (.tmp 67) (.tmp 69) _ rfl w.heap.size 3 i0 _ 1 8 Tryz.underlying48 hi hz0 hz1 hz2 rfl (by decide) (.slice A ns.length c) ns.length (natsC ns) rfl HO3.out.row (some ⟨w3.heap.size, 0, none⟩) 1 1 [.int .i64 (n : Int)] rfl (Sl.new rfl rfl) (by simp [Value.oneCell']) (by show _ ≤ 2 ^ 63 - 1; omega) (by omega) (by have := hsw.out; simp; omega) ?_)
        intro A7 c7 w7 ho7 hc7 hm7 hg7 hob7
        have HO4 := Lib.hid (HO.out.app (n := n) (G.alloc hb4.out (.cells #[.int .i64 (n : Int)] 3)) hg7 ho7 (by first | exact hob7 | (rcases hob7 with e | e; exact .inl e; exact .inr (by rw [e]; simp))))
        clear ho7 hc7 hm7 hg7 hob7 HO3 HO
        go_wp2_with fail
        refine ⟨⟨k + 1, A7, c7, ns ++ [n], by omega, by go_num, by simp, hsn, by simp; omega, HO4⟩, by simp [intOf]; omega⟩
    · obtain rfl : k = M := by omega
      have hns2 : names.filterMap (numM nm) = ns := by
        have := hns.out
        rw [List.take_of_length_le (by omega)] at this
        exact this
      have hfs : firstsN nm names = ns.mergeSort (fun a b => decide (a ≤ b)) := by unfold firstsN; rw [hns2]
      have SO := Lib.hid (sorti_any (base := w.heap.size) (l := ns) rfl HO.out.row (by omega))
      rw [← hfs] at SO
      have hlen : ns.length = (firstsN nm names).length := by rw [hfs, List.length_mergeSort]
      obtain ⟨fs, hfs2⟩ : ∃ fs, firstsN nm names = fs := ⟨_, rfl⟩
      rw [hfs2] at SO HR hFI hFL hlen
      obtain ⟨N, hN⟩ : ∃ N, ns.length = N := ⟨_, rfl⟩
      rw [hN] at SO hlen ⊢
      have hN4 : N ≤ 4096 := by omega
      replace hlen := Lib.hid hlen
      have HOB := Lib.hid HO.out.below
      have HOX := Lib.hid HO.out.box
      have HOL := Lib.hid HO.out.outL
      have hLw : Hid (w.heap.size ≤ L) := HO.out.lge
      have hlt := Lib.hid HO.out.row.lt
      rw [hN] at hlt
      clear hfs hfs2 hns2 hns HO hN hnk hi hz0 hz1 hz2
      go_wp2_with fail
      go_at_call 58
      (with_reducible refine SO.out.mono ?_)
      rintro e1 w3 ⟨rfl, hg3, hown3⟩
      have hb3 := Lib.hid (HOB.out.grown hg3 HOB.out.size fun k hk => (hlt.out k hk).1)
      have hx3 := Lib.hid (HOX.out.block hg3.size (hg3.block L HOX.out.lt fun e => by
        rcases A with _ | ap
        · cases e
        · injection e with e
          exact HOL.out ap rfl e.symm))
      replace hown3 := Lib.hid hown3
      have hLR : Hid (LogR w3 L d ⟨nm, lim, [], 0⟩ none 0 []) := Lib.hid ⟨hx3.out, OwnO.nil _ _ _, (fun r hr => by cases hr), List.Pairwise.nil, (fun r hr => by cases hr), (fun ad ha => by cases ha), rfl⟩
      have hLXr : Hid (LXr w3 S (fun x => x = L) w3 d L s ⟨nm, lim, [], 0⟩ none 0 []) := Lib.hid ⟨hLR.out, ⟨S, H.out.grow hb3.out, (fun x hx hh => by
          rcases hh with e | ⟨ad, ha, _⟩ | ⟨r, hr, _⟩
          · have := H.out.lt hx
            have := hLw.out
            omega
          · cases ha
          · cases hr), fun x hx => .inl hx⟩, (fun x hh => by
          rcases hh with e | ⟨ad, ha, _⟩ | ⟨r, hr, _⟩
          · exact .inl e
          · cases ha
          · cases hr), DChg.refl _ _⟩
      have hE3 : Hid (EnvL w3 S (fun x => x = L)) := Lib.hid ⟨HP.out.grow hb3.out, HS.out, fun e => by have := HP.out.lt; have := hLw.out; omega⟩
      clear SO hg3 HOB HOX hlt hx3 hLR
      obtain ⟨Y, hY⟩ : ∃ Y, openN nm fs s [] = Y := ⟨_, rfl⟩
      rw [hY] at HR
      replace hY := Lib.hid hY
      go_wp2_with fail
      go_loopw [76] (fun iv wr => ∃ (i : Nat) (s1 : Ds) (ps : List Pt) (P : Option Addr) (cc : Nat) (rs : List PR), i ≤ N ∧ iv = .int .i64 (i : Int) ∧ ps.length = i ∧ Hid (openN nm (fs.drop i) s1 ps = Y) ∧ Hid (∀ p ∈ ps, p.Ok) ∧ Hid s1.Good ∧ Hid (LXr w3 S (fun x => x = L) wr d L s1 ⟨nm, lim, ps, 0⟩ P cc rs)) (fun iv _ => N - (intOf iv).toNat)
      case atStart => exact ⟨0, s, [], none, 0, [], Nat.zero_le _, rfl, rfl, hY, Lib.hid (fun p hp => by cases hp), HG, hLXr⟩
      case round =>
        obtain ⟨i, s1, ps, P, cc, rs, hiN, rfl, hpl, hSt, hPO, hG1, hX⟩ := hrel
        clear hY HG hLXr
        have hps : ps = rs.map PR.pt := hX.out.log.eq
        have hrl : rs.length = i := by rw [← hpl, hps, List.length_map]
        obtain ⟨b0, b1, b2, b3, b4⟩ := hX.out.log.box.c5
        have ltL := hX.out.log.box.lt
        rw [hrl] at b3
        by_cases hlt2 : i < N
        · have hlt2' : (i : Int) < (N : Int) := by omega
          obtain ⟨n, hn⟩ : ∃ n, fs[i]? = some n := ⟨_, List.getElem?_eq_getElem (by rw [← hlen.out]; exact hlt2)⟩
          obtain ⟨g, hA, hgb, hgl, hgc⟩ := row_ptr hown3.out (by omega)
          have hgL : g ≠ L := HOL.out _ hA
          have hgS : ¬ S g := fun hh => by have := H.out.lt hh; omega
          subst hA
          have g0 : wr.cell? ⟨g, i, none⟩ = some (.int .i64 (n : Int)) := by
            rw [World.cell?_of_block (hX.out.kept hgl hgS hgL)]
            exact hgc i _ (natsC_get hn)
          have ltg := cell_lt g0
          dsimp only at ltg
          have hni := hFI.out n (List.mem_of_getElem? hn)
          have hdr := drop_cons hn
          obtain ⟨rest, hrest⟩ : ∃ r, fs.drop (i + 1) = r := ⟨_, rfl⟩
          have hrn : Hid (rest ≠ [] ↔ i + 1 < N) := by
            unfold Hid
            rw [← hrest, Ne, List.drop_eq_nil_iff, ← hlen.out]
            omega
          rw [hdr, hrest] at hSt
          replace hrest := Lib.hid hrest
          have hw9 : IntKind.i64.wrap ((i : Int) + 1) = ((i + 1 : Nat) : Int) := by rw [IntWalk.i64_in _ (by omega)]; omega
          have hw8 : IntKind.i64.wrap ((N : Int) - 1) = (N : Int) - 1 := IntWalk.i64_in _ (by omega)
          clear hgc hn hdr
          have TX := Lib.hid (fun (wx : World) (hb : Below wr.heap.size wr wx) => (hX.out.grow hb).text hE3.out hG1.out.ok (n : Int))
          have hff := file_len nm (n : Int)
          rw [show ({ name := nm, limit := lim, parts := ps, dur := 0 } : Lg).file (n : Int) = (fileR nm n).1 from rfl] at TX
          have htl := text_len hG1.out.ok (fileR nm n).1
          obtain ⟨f, hf⟩ : ∃ f, (fileR nm n).1 = f := ⟨_, rfl⟩
          by_cases hi0 : i = 0
          · have hrs0 : rs = [] := List.eq_nil_of_length_eq_zero (by rw [hrl]; exact hi0)
            have hps0 : ps = [] := List.eq_nil_of_length_eq_zero (by rw [hpl]; exact hi0)
            have hcf : ¬ (ps ≠ [] ∧ (n : Int) ≠ lastB ps) := fun hh => hh.1 hps0
            have hi0' : ¬ (0 : Int) < (i : Int) := by omega
            clear hrs0 hps0 hi0
            have hst := hSt.out
            rw [open_step hcf, hf] at hst
            rw [hf] at TX hff htl
            obtain ⟨X, hXt⟩ : ∃ X, textD s1 f = X := ⟨_, rfl⟩
            rw [hXt] at hst TX htl
            obtain ⟨t, e⟩ := X
            dsimp only at hst TX htl
            clear hcf hXt hSt
            by_cases he : e = 0
            · subst he
              rw [if_neg (by simp)] at hst
              have SC := Lib.hid (fun (wx : World) => scan_any t htl n hni wx)
              have hinv := scanT_inv (t.length + 1) _ (scan_start t n)
              have hp2 := Lib.hid hinv
              have hpok := Lib.hid (hinv.ok htl hni)
              obtain ⟨X, hXs⟩ : ∃ X, scanT (t.length + 1) t ⟨n, [0]⟩ = X := ⟨_, rfl⟩
              rw [hXs] at hst SC hp2 hpok
              obtain ⟨p2, bad⟩ := X
              dsimp only at hst hp2 hpok
              clear hXs htl hinv
              unfold RetS1 at SC
              by_cases hbad : bad = 0
              · subst hbad
                rw [if_neg (by simp), if_neg (by simp)] at hst
                have hst2 := Lib.hid hst
                clear hst
                go_wp2_with fail
                have hbt := G.refl wr
                go_at_call 60
                (with_reducible refine (TX.out _ hbt).mono ?_)
                rintro e1 w4 ⟨rfl, hb4⟩
                replace hb4 := Lib.hid (G.trans hbt hb4)
                clear TX hbt
                go_wp2_with fail
                go_at_call 61
                (with_reducible refine (SC.out w4).mono ?_)
                rintro e1 w5 ⟨A2, c2, rfl, hown5, hb5⟩
                clear SC
                have hfst : p2.first = n := hp2.out.1
                dsimp only at hown5 ⊢
                rw [hfst]
                replace hown5 := Lib.hid hown5
                replace hb5 := Lib.hid hb5
                obtain ⟨pl, hpl2⟩ : ∃ k, p2.offs.length = k := ⟨_, rfl⟩
                rw [hpl2] at hown5 ⊢
                replace hpl2 := Lib.hid hpl2
                go_upto_region 31 with fail
                refine wp_name (fun wx => Below w5.heap.size w5 wx ∧ Bx wx w5.heap.size [.int .i64 (n : Int), .slice A2 pl c2]) ⟨by repeat (first | with_reducible assumption | with_reducible exact G.refl _ | with_reducible refine G.drew ?_ | with_reducible refine G.drewN ?_ _ | with_reducible refine G.alloc ?_ _ | with_reducible refine Below.setCell ?_ (by first | (simp; done) | (simp; omega)) _ | with_reducible refine G.trans ?_ hb12 | with_reducible refine G.trans ?_ hb11 | with_reducible refine G.trans ?_ hb10 | with_reducible refine G.trans ?_ hb9 | with_reducible refine G.trans ?_ hb8 | with_reducible refine G.trans ?_ hb7 | with_reducible refine G.trans ?_ hb6 | with_reducible refine G.trans ?_ hb5 | with_reducible refine G.trans ?_ hb4 | with_reducible refine G.trans ?_ hb3 | with_reducible refine G.trans ?_ hb2 | with_reducible refine G.trans ?_ hb1 | with_reducible refine G.trans ?_ hb | assumption), by repeat (first | with_reducible assumption | (with_reducible exact Bx.new (by simp; done) (by rfl)) | (with_reducible refine Bx.alloc ?_ _) | (with_reducible refine Bx.drewN ?_ _) | ((with_reducible apply Bx.put); rotate_right; (first | rfl | skip)) | (with_reducible refine Bx.other ?_ (by first | (simp; done) | (simp; omega)) _))⟩ ?_
                rintro w6 ⟨hb6, x6⟩
                have hb36 := Lib.hid (G.trans hb4.out (G.trans hb5.out hb6))
                obtain ⟨S1, hS1, hrr⟩ := hX.out.reroot
                obtain ⟨hR1, hbk⟩ := hrr w6 hb36.out
                have hq6 : Hid (OwnO w6 0 1 A2 pl c2 (natsC p2.offs)) := Lib.hid ((hown5.out.grow hb6).base0)
                have hqb : Hid (∀ ad, A2 = some ad → w4.heap.size ≤ ad.block ∧ ad.block < w5.heap.size) := fun ad ha => ⟨(hown5.out.lt ha).2, (hown5.out.lt ha).1⟩
                have hs4 := Lib.hid hb4.out.size
                have hs5 := Lib.hid hb5.out.size
                have hs6 := Lib.hid hb6.size
                have h3r := Lib.hid hX.out.chg.size
                have hold := Lib.hid (fun (x : Nat) hx => hX.out.log.lt (x := x) hx)
                have hx6l := Lib.hid x6.lt
                replace x6 := Lib.hid x6
                replace hS1 := Lib.hid hS1
                replace hR1 := Lib.hid hR1
                replace hbk := Lib.hid hbk
                clear hb6 hb5 hown5 hrr b0 b1 b2 b3 b4 ltL g0 ltg
                have hT := hR1
                have hG2 := hG1
                go_wp2_with fail
                have hqk : Hid (∀ x, w4.heap.size ≤ x → x < w6.heap.size → w6.heap[x]? = w6.heap[x]?) := fun x h1x h2x => hT.out.kept h2x (fun hh => by have := (hS1.out x hh).1; have := hs4.out; omega) (fun hh => by have := hold.out x hh; have := hs4.out; omega)
                have hsz7 := Lib.hid hT.out.chg.size
                have x7 := x6.out.block hsz7.out (hqk.out _ hs5.out hx6l.out)
                have y0 := (x7.2 0 _ rfl).1
                have y1 := (x7.2 1 _ rfl).1
                have lty := x7.lt
                clear x7
                have hq7 := Lib.hid (hq6.out.block hsz7.out fun ad ha => hqk.out _ (hqb.out ad ha).1 (by have := (hqb.out ad ha).2; have := hs6.out; omega))
                obtain ⟨c0, c1, c2', c3, c4⟩ := hT.out.log.box.c5
                have ltL := hT.out.log.box.lt
                rw [hrl] at c3
                have HBX := Lib.hid hT.out.log.box
                have HOW := Lib.hid hT.out.log.row
                rw [hrl] at HOW
                obtain ⟨j0, hj, hjz0, hjz1, hjz2⟩ := info_parts infoPart
                refine wp_region_ord [(0, 0), (1, 1), (2, 1), (3, 1), (4, 1), (5, 1), (6, 2), (7, 3), (8, 0), (9, 0), (10, 3)] [7, 10] 16 (by kernel_rfl) (by decide +kernel) ?_
                simp only [pickO, List.append_eq, List.cons_append, List.nil_append, List.getElem?_cons_succ, List.getElem?_cons_zero]
                intro w0 hG
                (repeat ((first | (with_reducible refine ord_q1 ?_) | (with_reducible refine ord_q0 ?_)); intro K hK; first | (refine Or.inr ⟨?_, ?_⟩; (focus (go_simp; first | done | (simp [undef]; done))); go_simp; (with_reducible refine hK _ ?_); clear hK K) | (refine Or.inl ⟨?_, ?_⟩; (focus (go_simp; done)); apply Exists.intro; refine And.intro ?_ ?_; (focus (first | (intro wq hq; obtain ⟨hcq, hfq⟩ := G.old hq; go_simp; (first | done | exact rfl); done) | (intro wq; go_simp; (first | done | exact rfl); done))); go_simp; (with_reducible refine hK _ ?_); clear hK K) | fail))
                have hG9 := hG.b
                have hs9 := hG9.size
                have hmm9 := hG
                (with_reducible refine ord_run ?_ hG)
                intro K hK
                go_simp
                replace hG := Grew.alloc hG (.cells #[.int .i64 (n : Int), .slice A2 pl c2] 105)
                (with_reducible refine hK _ _ hG ?_)
                clear hK K
                (repeat ((first | (with_reducible refine ord_q1 ?_) | (with_reducible refine ord_q0 ?_)); intro K hK; first | (refine Or.inr ⟨?_, ?_⟩; (focus (go_simp; first | done | (simp [undef]; done))); go_simp; (with_reducible refine hK _ ?_); clear hK K) | (refine Or.inl ⟨?_, ?_⟩; (focus (go_simp; done)); apply Exists.intro; refine And.intro ?_ ?_; (focus (first | (intro wq hq; obtain ⟨hcq, hfq⟩ := G.old hq; go_simp; (first | done | exact rfl); done) | (intro wq; go_simp; (first | done | exact rfl); done))); go_simp; (with_reducible refine hK _ ?_); clear hK K) | fail))
                (with_reducible refine ord_tail ?_); intro K hK
                refine step_appO rfl (.tmp 137) (.tmp 139) _ rfl 0 105 j0 _ 2 32 Tryz.underlying100 hj hjz0 hjz1 hjz2 rfl _ i cc (rowP rs) rfl (HOW.out.block (w' := w0.alloc (.cells #[.int .i64 (n : Int), .slice A2 pl c2] 105)) (by simp; omega) fun ad ha => (G.alloc hG9 _).block _ (HOW.out.lt ha).1) w0.heap.size 1 [.int .i64 (n : Int), .slice A2 pl c2] rfl rfl (fun j u hu => ((Bx.new (w := w0) (l := [.int .i64 (n : Int), .slice A2 pl c2]) (t := 105) rfl rfl).2 j u hu).1) (by simp [Value.oneCell']) (by unfold maxLen; omega) (by omega) (Nat.zero_le _) ?_
                intro P8 cc8 w8 ho8 hg8 hp8
                have hfin := Lib.hid (hT.out.log.addPart (q := ⟨n, A2, c2, p2.offs⟩) (G.alloc hG9 (.cells #[.int .i64 (n : Int), .slice A2 pl c2] 105)) (by
                    have h9 := hq7.out.block (w' := w0.alloc (.cells #[.int .i64 (n : Int), .slice A2 pl c2] 105)) (by simp; omega) fun ad ha => (G.alloc hG9 _).block _ (hq7.out.lt ha).1
                    dsimp only
                    rw [hpl2.out]
                    exact h9) (fun x hx hh => by
                    obtain ⟨ad, ha, e⟩ := hx
                    have h9 := (hqb.out ad ha).1
                    have h10 := hold.out x hh
                    have := hs4.out
                    omega) (by
                    have e : (⟨n, A2, c2, p2.offs⟩ : PR).val = .slice A2 pl c2 := by unfold PR.val; rw [hpl2.out]
                    rw [hrl, e]
                    exact ho8) hg8 hp8)
                rw [hrl] at hfin
                have hgL8 : w8.heap[L]? = (w0.alloc (.cells #[.int .i64 (n : Int), .slice A2 pl c2] 105)).heap[L]? := hg8.block L (by simp; omega) (map_ne hT.out.log.pl)
                have k8 := (World.cell?_of_block (a := ⟨L, 3, none⟩) hgL8).trans ((World.cell?_of_block (a := ⟨L, 3, none⟩) ((G.alloc hG9 (.cells #[.int .i64 (n : Int), .slice A2 pl c2] 105)).block L ltL)).trans c3)
                have kf8 : w8.frozen? ⟨L, 3, none⟩ = false := by rw [World.frozen?_of_block hgL8, World.frozen?_of_block ((G.alloc hG9 _).block L ltL)]; exact (HBX.out.2 3 _ rfl).2
                have lt8 := cell_lt k8
                have hlx := Lib.hid (hbk.out (fun x => (⟨n, A2, c2, p2.offs⟩ : PR).has x) (fun x hx => by
                    obtain ⟨ad, ha, e⟩ := hx
                    have h9 := (hqb.out ad ha).1
                    have := hs4.out
                    have := h3r.out
                    exact .inr (by omega)) _ _ _ _ _ _ ((hT.out.mono (fun x hx => Or.inl hx)).own2 hfin.out.1 (fun x hx => by
                    rcases hfin.out.2.1 x hx with h | h | h
                    · exact .inl h
                    · exact .inr (.inl h)
                    · refine .inr (.inr ⟨.inr h, fun hh => ?_, ?_⟩)
                      · obtain ⟨ad, ha, e⟩ := h
                        have h9 := (hqb.out ad ha).1
                        have := (hS1.out x hh).1
                        have := hs4.out
                        omega
                      · obtain ⟨ad, ha, e⟩ := h
                        have h9 := (hqb.out ad ha).2
                        have := hs6.out
                        omega) hfin.out.2.2))
                clear hq7 hqk HBX HOW ho8 hg8 hp8 hgL8 c0 c1 c2' c3 c4 y0 y1 lty ltL hG hG9 hs9 hmm9 hj hjz0 hjz1 hjz2 hfin hT hbk hR1 hq6 hqb hold hS1 hs4 hs5 hs6 hsz7 h3r hx6l x6
                (with_reducible refine hK _ _ ?_); clear hK K
                (repeat ((first | (with_reducible refine ord_q1 ?_) | (with_reducible refine ord_q0 ?_)); intro K hK; first | (refine Or.inr ⟨?_, ?_⟩; (focus (go_simp; first | done | (simp [undef]; done))); go_simp; (with_reducible refine hK _ ?_); clear hK K) | (refine Or.inl ⟨?_, ?_⟩; (focus (go_simp; done)); apply Exists.intro; refine And.intro ?_ ?_; (focus (first | (intro wq hq; obtain ⟨hcq, hfq⟩ := G.old hq; go_simp; (first | done | exact rfl); done) | (intro wq; go_simp; (first | done | exact rfl); done))); go_simp; (with_reducible refine hK _ ?_); clear hK K) | fail))
                ((with_reducible refine ord_tail ?_); intro K hK; go_simp; (with_reducible refine hK _ _ ?_); clear hK K)
                (with_reducible refine ord_nil ?_)
                go_wp2_with fail
                refine ⟨⟨i + 1, s1, ps ++ [p2], P8, cc8, rs ++ [⟨n, A2, c2, p2.offs⟩], by omega, by go_num, by simp [hpl], by rw [hrest.out]; exact hst2, ?_, hG2, ?_⟩, by simp [intOf]; omega⟩
                · intro q hq
                  rcases List.mem_append.1 hq with hq | hq
                  · exact hPO.out q hq
                  · simp at hq
                    subst hq
                    exact hpok.out
                · have e : (⟨n, A2, c2, p2.offs⟩ : PR).pt = p2 := by
                    have := hp2.out.1
                    unfold PR.pt
                    rw [← this]
                  have h9 := hlx.out
                  rw [e] at h9
                  exact Lib.hid h9
              · by_cases hrs : rest ≠ []
                · rw [if_pos ⟨hbad, hrs⟩] at hst
                  have hne9 := hbad
                  have hlt9 : (i : Int) < (N : Int) - 1 := by have := hrn.out.1 hrs; omega
                  have hx2 : (bad != 0) = true := by rw [bne_iff_ne]; exact hbad
                  have hRbad : Hid (R = (bad, s1, none)) := by
                    have h9 := HR.out
                    rw [← hst] at h9
                    dsimp only at h9
                    rw [if_pos hne9] at h9
                    exact h9.symm
                  clear hst
                  go_wp2_with fail
                  have hbt := G.refl wr
                  go_at_call 60
                  (with_reducible refine (TX.out _ hbt).mono ?_)
                  rintro e1 w4 ⟨rfl, hb4⟩
                  replace hb4 := Lib.hid (G.trans hbt hb4)
                  clear TX hbt
                  go_wp2_with fail
                  go_at_call 61
                  (with_reducible refine (SC.out w4).mono ?_)
                  rintro e1 w5 ⟨A2, c2, rfl, hown5, hb5⟩
                  clear SC
                  have hfst : p2.first = n := hp2.out.1
                  dsimp only at hown5 ⊢
                  rw [hfst]
                  replace hown5 := Lib.hid hown5
                  replace hb5 := Lib.hid hb5
                  obtain ⟨pl, hpl2⟩ : ∃ k, p2.offs.length = k := ⟨_, rfl⟩
                  rw [hpl2] at hown5 ⊢
                  go_wp2_with fail
                  have hb9 := Lib.hid (G.trans hb4.out hb5.out)
                  refine bodyPost_ret (v := .tuple #[.pointer none, .int .i64 bad]) (by simp only [results, Tryz.results25]; go_simp) rfl ?_
                  have hx9 := hRbad.out
                  exact .bad hx9 rfl (LX.retD ((hX.out.grow hb9.out).grow (G.alloc (G.refl _) _)).lx hb3.out hLw.out)
                · rw [if_neg (by rintro ⟨_, x⟩; exact hrs x), if_pos hbad] at hst
                  have hlt9 : ¬ (i : Int) < (N : Int) - 1 := by have h9 : ¬ i + 1 < N := fun x => hrs (hrn.out.2 x); omega
                  have hx2 : (bad != 0) = true := by rw [bne_iff_ne]; exact hbad
                  obtain ⟨z2, hz2⟩ : ∃ z, p2.size = z := ⟨_, rfl⟩
                  rw [hz2] at hst
                  obtain ⟨X, hXd⟩ : ∃ X, truncD s1 f (z2 : Int) = X := ⟨_, rfl⟩
                  have hgd := trunc_good hG1.out f (z2 : Int)
                  rw [hXd] at hst hgd
                  obtain ⟨x, s2⟩ := X
                  dsimp only at hst hgd
                  have hG2 := Lib.hid hgd
                  replace hXd := Lib.hid hXd
                  replace hz2 := Lib.hid hz2
                  replace hf := Lib.hid hf
                  clear hgd
                  by_cases hx : x = 0
                  · subst hx
                    rw [if_neg (by simp)] at hst
                    have hst2 := Lib.hid hst
                    clear hst
                    go_wp2_with fail
                    have hbt := G.refl wr
                    go_at_call 60
                    (with_reducible refine (TX.out _ hbt).mono ?_)
                    rintro e1 w4 ⟨rfl, hb4⟩
                    replace hb4 := Lib.hid (G.trans hbt hb4)
                    clear TX hbt
                    go_wp2_with fail
                    go_at_call 61
                    (with_reducible refine (SC.out w4).mono ?_)
                    rintro e1 w5 ⟨A2, c2, rfl, hown5, hb5⟩
                    clear SC
                    have hfst : p2.first = n := hp2.out.1
                    dsimp only at hown5 ⊢
                    rw [hfst]
                    replace hown5 := Lib.hid hown5
                    replace hb5 := Lib.hid hb5
                    obtain ⟨pl, hpl2⟩ : ∃ k, p2.offs.length = k := ⟨_, rfl⟩
                    rw [hpl2] at hown5 ⊢
                    replace hpl2 := Lib.hid hpl2
                    go_upto_region 31 with fail
                    refine wp_name (fun wx => Below w5.heap.size w5 wx ∧ Bx wx w5.heap.size [.int .i64 (n : Int), .slice A2 pl c2]) ⟨by repeat (first | with_reducible assumption | with_reducible exact G.refl _ | with_reducible refine G.drew ?_ | with_reducible refine G.drewN ?_ _ | with_reducible refine G.alloc ?_ _ | with_reducible refine Below.setCell ?_ (by first | (simp; done) | (simp; omega)) _ | with_reducible refine G.trans ?_ hb12 | with_reducible refine G.trans ?_ hb11 | with_reducible refine G.trans ?_ hb10 | with_reducible refine G.trans ?_ hb9 | with_reducible refine G.trans ?_ hb8 | with_reducible refine G.trans ?_ hb7 | with_reducible refine G.trans ?_ hb6 | with_reducible refine G.trans ?_ hb5 | with_reducible refine G.trans ?_ hb4 | with_reducible refine G.trans ?_ hb3 | with_reducible refine G.trans ?_ hb2 | with_reducible refine G.trans ?_ hb1 | with_reducible refine G.trans ?_ hb | assumption), by repeat (first | with_reducible assumption | (with_reducible exact Bx.new (by simp; done) (by rfl)) | (with_reducible refine Bx.alloc ?_ _) | (with_reducible refine Bx.drewN ?_ _) | ((with_reducible apply Bx.put); rotate_right; (first | rfl | skip)) | (with_reducible refine Bx.other ?_ (by first | (simp; done) | (simp; omega)) _))⟩ ?_
                    rintro w6 ⟨hb6, x6⟩
                    have hb36 := Lib.hid (G.trans hb4.out (G.trans hb5.out hb6))
                    obtain ⟨S1, hS1, hrr⟩ := hX.out.reroot
                    obtain ⟨hR1, hbk⟩ := hrr w6 hb36.out
                    have hq6 : Hid (OwnO w6 0 1 A2 pl c2 (natsC p2.offs)) := Lib.hid ((hown5.out.grow hb6).base0)
                    have hqb : Hid (∀ ad, A2 = some ad → w4.heap.size ≤ ad.block ∧ ad.block < w5.heap.size) := fun ad ha => ⟨(hown5.out.lt ha).2, (hown5.out.lt ha).1⟩
                    have hs4 := Lib.hid hb4.out.size
                    have hs5 := Lib.hid hb5.out.size
                    have hs6 := Lib.hid hb6.size
                    have h3r := Lib.hid hX.out.chg.size
                    have hold := Lib.hid (fun (x : Nat) hx => hX.out.log.lt (x := x) hx)
                    have hx6l := Lib.hid x6.lt
                    replace x6 := Lib.hid x6
                    replace hS1 := Lib.hid hS1
                    replace hR1 := Lib.hid hR1
                    replace hbk := Lib.hid hbk
                    clear hb6 hb5 hown5 hrr b0 b1 b2 b3 b4 ltL g0 ltg
                    go_wp2_with fail
                    have LFB := Lib.hid (fun (wx : World) (hb : Below w6.heap.size w6 wx) => (hR1.out.grow hb).log.file (((hX.out.grow hb36.out).grow hb).lx.pow hE3.out) (n : Int))
                    rw [show ({ name := nm, limit := lim, parts := ps, dur := 0 } : Lg).file (n : Int) = f from hf.out] at LFB
                    have PS := Lib.hid (fun (wx : World) (hb : Below w6.heap.size w6 wx) => psize_any ⟨n, A2, c2, p2.offs⟩ wx (by dsimp only; rw [hpl2.out]; exact hq6.out.grow hb) (by have := hpok.out; rw [show (⟨n, A2, c2, p2.offs⟩ : PR).pt = p2 by unfold PR.pt; rw [← hp2.out.1]]; exact this))
                    rw [show (⟨n, A2, c2, p2.offs⟩ : PR).pt = p2 by unfold PR.pt; rw [← hp2.out.1], show (⟨n, A2, c2, p2.offs⟩ : PR).val = .slice A2 pl c2 by unfold PR.val; rw [hpl2.out], hz2.out] at PS
                    dsimp only at PS
                    have DT := Lib.hid (fun (wx : World) (hb : Below w6.heap.size w6 wx) => (hR1.out.grow hb).dTrunc hG1.out.ok f hff (z2 : Int))
                    rw [hXd.out] at DT
                    dsimp only at DT
                    have y0 := (x6.out.2 0 _ rfl).1
                    have y1 := (x6.out.2 1 _ rfl).1
                    have lty := x6.out.lt
                    refine wp_region_ord [(0, 1), (1, 1), (2, 1), (4, 1), (3, 2), (5, 2), (6, 3), (7, 0)] [6] 16 (by kernel_rfl) (by decide +kernel) ?_
                    simp only [pickO, List.append_eq, List.cons_append, List.nil_append, List.getElem?_cons_succ, List.getElem?_cons_zero]
                    intro w0 hG
                    (repeat ((first | (with_reducible refine ord_q1 ?_) | (with_reducible refine ord_q0 ?_)); intro K hK; first | (refine Or.inr ⟨?_, ?_⟩; (focus (go_simp; first | done | (simp [undef]; done))); go_simp; (with_reducible refine hK _ ?_); clear hK K) | (refine Or.inl ⟨?_, ?_⟩; (focus (go_simp; done)); apply Exists.intro; refine And.intro ?_ ?_; (focus (first | (intro wq hq; obtain ⟨hcq, hfq⟩ := G.old hq; go_simp; (first | done | exact rfl); done) | (intro wq; go_simp; (first | done | exact rfl); done))); go_simp; (with_reducible refine hK _ ?_); clear hK K) | fail))
                    (with_reducible refine ord_run ?_ hG)
                    intro K hK
                    go_simp
                    go_at_call 62; (with_reducible refine (LFB.out _ hG.b).mono ?_); rintro e w7 ⟨rfl, hb7⟩
                    replace hG := Grew.trans hG hb7
                    (try dsimp only)
                    (with_reducible refine hK _ _ hG ?_)
                    clear hK K
                    (repeat ((first | (with_reducible refine ord_q1 ?_) | (with_reducible refine ord_q0 ?_)); intro K hK; first | (refine Or.inr ⟨?_, ?_⟩; (focus (go_simp; first | done | (simp [undef]; done))); go_simp; (with_reducible refine hK _ ?_); clear hK K) | (refine Or.inl ⟨?_, ?_⟩; (focus (go_simp; done)); apply Exists.intro; refine And.intro ?_ ?_; (focus (first | (intro wq hq; obtain ⟨hcq, hfq⟩ := G.old hq; go_simp; (first | done | exact rfl); done) | (intro wq; go_simp; (first | done | exact rfl); done))); go_simp; (with_reducible refine hK _ ?_); clear hK K) | fail))
                    (with_reducible refine ord_run ?_ hG)
                    intro K hK
                    go_simp
                    go_at_call 63; (with_reducible refine (PS.out _ hG.b).mono ?_); rintro e w7 ⟨rfl, hb7⟩
                    replace hG := Grew.trans hG hb7
                    (try dsimp only)
                    (with_reducible refine hK _ _ hG ?_)
                    clear hK K
                    (repeat ((first | (with_reducible refine ord_q1 ?_) | (with_reducible refine ord_q0 ?_)); intro K hK; first | (refine Or.inr ⟨?_, ?_⟩; (focus (go_simp; first | done | (simp [undef]; done))); go_simp; (with_reducible refine hK _ ?_); clear hK K) | (refine Or.inl ⟨?_, ?_⟩; (focus (go_simp; done)); apply Exists.intro; refine And.intro ?_ ?_; (focus (first | (intro wq hq; obtain ⟨hcq, hfq⟩ := G.old hq; go_simp; (first | done | exact rfl); done) | (intro wq; go_simp; (first | done | exact rfl); done))); go_simp; (with_reducible refine hK _ ?_); clear hK K) | fail))
                    (with_reducible refine ord_tail ?_)
                    intro K hK
                    go_simp
                    have hb9 := hG.b
                    go_at_call 30
                    (with_reducible refine (DT.out _ hb9).mono ?_)
                    rintro e1 w8 ⟨rfl, h8⟩
                    clear hb9 y0 y1 lty LFB PS DT
                    replace h8 := Lib.hid h8
                    clear hG
                    (with_reducible refine hK _ _ ?_)
                    clear hK K
                    (repeat ((first | (with_reducible refine ord_q1 ?_) | (with_reducible refine ord_q0 ?_)); intro K hK; first | (refine Or.inr ⟨?_, ?_⟩; (focus (go_simp; first | done | (simp [undef]; done))); go_simp; (with_reducible refine hK _ ?_); clear hK K) | (refine Or.inl ⟨?_, ?_⟩; (focus (go_simp; done)); apply Exists.intro; refine And.intro ?_ ?_; (focus (first | (intro wq hq; obtain ⟨hcq, hfq⟩ := G.old hq; go_simp; (first | done | exact rfl); done) | (intro wq; go_simp; (first | done | exact rfl); done))); go_simp; (with_reducible refine hK _ ?_); clear hK K) | fail))
                    (with_reducible refine ord_nil ?_)
                    have hT := h8
                    go_wp2_with fail
                    have hqk : Hid (∀ x, w4.heap.size ≤ x → x < w6.heap.size → w8.heap[x]? = w6.heap[x]?) := fun x h1x h2x => hT.out.kept h2x (fun hh => by have := (hS1.out x hh).1; have := hs4.out; omega) (fun hh => by have := hold.out x hh; have := hs4.out; omega)
                    have hsz7 := Lib.hid hT.out.chg.size
                    have x7 := x6.out.block hsz7.out (hqk.out _ hs5.out hx6l.out)
                    have y0 := (x7.2 0 _ rfl).1
                    have y1 := (x7.2 1 _ rfl).1
                    have lty := x7.lt
                    clear x7
                    have hq7 := Lib.hid (hq6.out.block hsz7.out fun ad ha => hqk.out _ (hqb.out ad ha).1 (by have := (hqb.out ad ha).2; have := hs6.out; omega))
                    obtain ⟨c0, c1, c2', c3, c4⟩ := hT.out.log.box.c5
                    have ltL := hT.out.log.box.lt
                    rw [hrl] at c3
                    have HBX := Lib.hid hT.out.log.box
                    have HOW := Lib.hid hT.out.log.row
                    rw [hrl] at HOW
                    obtain ⟨j0, hj, hjz0, hjz1, hjz2⟩ := info_parts infoPart
                    refine wp_region_ord [(0, 0), (1, 1), (2, 1), (3, 1), (4, 1), (5, 1), (6, 2), (7, 3), (8, 0), (9, 0), (10, 3)] [7, 10] 16 (by kernel_rfl) (by decide +kernel) ?_
                    simp only [pickO, List.append_eq, List.cons_append, List.nil_append, List.getElem?_cons_succ, List.getElem?_cons_zero]
                    intro w0 hG
                    (repeat ((first | (with_reducible refine ord_q1 ?_) | (with_reducible refine ord_q0 ?_)); intro K hK; first | (refine Or.inr ⟨?_, ?_⟩; (focus (go_simp; first | done | (simp [undef]; done))); go_simp; (with_reducible refine hK _ ?_); clear hK K) | (refine Or.inl ⟨?_, ?_⟩; (focus (go_simp; done)); apply Exists.intro; refine And.intro ?_ ?_; (focus (first | (intro wq hq; obtain ⟨hcq, hfq⟩ := G.old hq; go_simp; (first | done | exact rfl); done) | (intro wq; go_simp; (first | done | exact rfl); done))); go_simp; (with_reducible refine hK _ ?_); clear hK K) | fail))
                    have hG9 := hG.b
                    have hs9 := hG9.size
                    have hmm9 := hG
                    (with_reducible refine ord_run ?_ hG)
                    intro K hK
                    go_simp
                    replace hG := Grew.alloc hG (.cells #[.int .i64 (n : Int), .slice A2 pl c2] 105)
                    (with_reducible refine hK _ _ hG ?_)
                    clear hK K
                    (repeat ((first | (with_reducible refine ord_q1 ?_) | (with_reducible refine ord_q0 ?_)); intro K hK; first | (refine Or.inr ⟨?_, ?_⟩; (focus (go_simp; first | done | (simp [undef]; done))); go_simp; (with_reducible refine hK _ ?_); clear hK K) | (refine Or.inl ⟨?_, ?_⟩; (focus (go_simp; done)); apply Exists.intro; refine And.intro ?_ ?_; (focus (first | (intro wq hq; obtain ⟨hcq, hfq⟩ := G.old hq; go_simp; (first | done | exact rfl); done) | (intro wq; go_simp; (first | done | exact rfl); done))); go_simp; (with_reducible refine hK _ ?_); clear hK K) | fail))
                    (with_reducible refine ord_tail ?_); intro K hK
                    refine step_appO rfl (.tmp 137) (.tmp 139) _ rfl 0 105 j0 _ 2 32 Tryz.underlying100 hj hjz0 hjz1 hjz2 rfl _ i cc (rowP rs) rfl (HOW.out.block (w' := w0.alloc (.cells #[.int .i64 (n : Int), .slice A2 pl c2] 105)) (by simp; omega) fun ad ha => (G.alloc hG9 _).block _ (HOW.out.lt ha).1) w0.heap.size 1 [.int .i64 (n : Int), .slice A2 pl c2] rfl rfl (fun j u hu => ((Bx.new (w := w0) (l := [.int .i64 (n : Int), .slice A2 pl c2]) (t := 105) rfl rfl).2 j u hu).1) (by simp [Value.oneCell']) (by unfold maxLen; omega) (by omega) (Nat.zero_le _) ?_
                    intro P8 cc8 w8 ho8 hg8 hp8
                    have hfin := Lib.hid (hT.out.log.addPart (q := ⟨n, A2, c2, p2.offs⟩) (G.alloc hG9 (.cells #[.int .i64 (n : Int), .slice A2 pl c2] 105)) (by
                        have h9 := hq7.out.block (w' := w0.alloc (.cells #[.int .i64 (n : Int), .slice A2 pl c2] 105)) (by simp; omega) fun ad ha => (G.alloc hG9 _).block _ (hq7.out.lt ha).1
                        dsimp only
                        rw [hpl2.out]
                        exact h9) (fun x hx hh => by
                        obtain ⟨ad, ha, e⟩ := hx
                        have h9 := (hqb.out ad ha).1
                        have h10 := hold.out x hh
                        have := hs4.out
                        omega) (by
                        have e : (⟨n, A2, c2, p2.offs⟩ : PR).val = .slice A2 pl c2 := by unfold PR.val; rw [hpl2.out]
                        rw [hrl, e]
                        exact ho8) hg8 hp8)
                    rw [hrl] at hfin
                    have hgL8 : w8.heap[L]? = (w0.alloc (.cells #[.int .i64 (n : Int), .slice A2 pl c2] 105)).heap[L]? := hg8.block L (by simp; omega) (map_ne hT.out.log.pl)
                    have k8 := (World.cell?_of_block (a := ⟨L, 3, none⟩) hgL8).trans ((World.cell?_of_block (a := ⟨L, 3, none⟩) ((G.alloc hG9 (.cells #[.int .i64 (n : Int), .slice A2 pl c2] 105)).block L ltL)).trans c3)
                    have kf8 : w8.frozen? ⟨L, 3, none⟩ = false := by rw [World.frozen?_of_block hgL8, World.frozen?_of_block ((G.alloc hG9 _).block L ltL)]; exact (HBX.out.2 3 _ rfl).2
                    have lt8 := cell_lt k8
                    have hlx := Lib.hid (hbk.out (fun x => (⟨n, A2, c2, p2.offs⟩ : PR).has x) (fun x hx => by
                        obtain ⟨ad, ha, e⟩ := hx
                        have h9 := (hqb.out ad ha).1
                        have := hs4.out
                        have := h3r.out
                        exact .inr (by omega)) _ _ _ _ _ _ ((hT.out.mono (fun x hx => Or.inl hx)).own2 hfin.out.1 (fun x hx => by
                        rcases hfin.out.2.1 x hx with h | h | h
                        · exact .inl h
                        · exact .inr (.inl h)
                        · refine .inr (.inr ⟨.inr h, fun hh => ?_, ?_⟩)
                          · obtain ⟨ad, ha, e⟩ := h
                            have h9 := (hqb.out ad ha).1
                            have := (hS1.out x hh).1
                            have := hs4.out
                            omega
                          · obtain ⟨ad, ha, e⟩ := h
                            have h9 := (hqb.out ad ha).2
                            have := hs6.out
                            omega) hfin.out.2.2))
                    clear hq7 hqk HBX HOW ho8 hg8 hp8 hgL8 c0 c1 c2' c3 c4 y0 y1 lty ltL hG hG9 hs9 hmm9 hj hjz0 hjz1 hjz2 hfin hT hbk hR1 hq6 hqb hold hS1 hs4 hs5 hs6 hsz7 h3r hx6l x6
                    (with_reducible refine hK _ _ ?_); clear hK K
                    (repeat ((first | (with_reducible refine ord_q1 ?_) | (with_reducible refine ord_q0 ?_)); intro K hK; first | (refine Or.inr ⟨?_, ?_⟩; (focus (go_simp; first | done | (simp [undef]; done))); go_simp; (with_reducible refine hK _ ?_); clear hK K) | (refine Or.inl ⟨?_, ?_⟩; (focus (go_simp; done)); apply Exists.intro; refine And.intro ?_ ?_; (focus (first | (intro wq hq; obtain ⟨hcq, hfq⟩ := G.old hq; go_simp; (first | done | exact rfl); done) | (intro wq; go_simp; (first | done | exact rfl); done))); go_simp; (with_reducible refine hK _ ?_); clear hK K) | fail))
                    ((with_reducible refine ord_tail ?_); intro K hK; go_simp; (with_reducible refine hK _ _ ?_); clear hK K)
                    (with_reducible refine ord_nil ?_)
                    go_wp2_with fail
                    refine ⟨⟨i + 1, s2, ps ++ [p2], P8, cc8, rs ++ [⟨n, A2, c2, p2.offs⟩], by omega, by go_num, by simp [hpl], by rw [hrest.out]; exact hst2, ?_, hG2, ?_⟩, by simp [intOf]; omega⟩
                    · intro q hq
                      rcases List.mem_append.1 hq with hq | hq
                      · exact hPO.out q hq
                      · simp at hq
                        subst hq
                        exact hpok.out
                    · have e : (⟨n, A2, c2, p2.offs⟩ : PR).pt = p2 := by
                        have := hp2.out.1
                        unfold PR.pt
                        rw [← this]
                      have h9 := hlx.out
                      rw [e] at h9
                      exact Lib.hid h9
                  · rw [if_pos hx] at hst
                    have hne9 := hx
                    have hx3 : (x != 0) = true := by rw [bne_iff_ne]; exact hx
                    have hRbad : Hid (R = (x, s2, none)) := by
                      have h9 := HR.out
                      rw [← hst] at h9
                      dsimp only at h9
                      rw [if_pos hne9] at h9
                      exact h9.symm
                    clear hst
                    go_wp2_with fail
                    have hbt := G.refl wr
                    go_at_call 60
                    (with_reducible refine (TX.out _ hbt).mono ?_)
                    rintro e1 w4 ⟨rfl, hb4⟩
                    replace hb4 := Lib.hid (G.trans hbt hb4)
                    clear TX hbt
                    go_wp2_with fail
                    go_at_call 61
                    (with_reducible refine (SC.out w4).mono ?_)
                    rintro e1 w5 ⟨A2, c2, rfl, hown5, hb5⟩
                    clear SC
                    have hfst : p2.first = n := hp2.out.1
                    dsimp only at hown5 ⊢
                    rw [hfst]
                    replace hown5 := Lib.hid hown5
                    replace hb5 := Lib.hid hb5
                    obtain ⟨pl, hpl2⟩ : ∃ k, p2.offs.length = k := ⟨_, rfl⟩
                    rw [hpl2] at hown5 ⊢
                    replace hpl2 := Lib.hid hpl2
                    go_upto_region 31 with fail
                    refine wp_name (fun wx => Below w5.heap.size w5 wx ∧ Bx wx w5.heap.size [.int .i64 (n : Int), .slice A2 pl c2]) ⟨by repeat (first | with_reducible assumption | with_reducible exact G.refl _ | with_reducible refine G.drew ?_ | with_reducible refine G.drewN ?_ _ | with_reducible refine G.alloc ?_ _ | with_reducible refine Below.setCell ?_ (by first | (simp; done) | (simp; omega)) _ | with_reducible refine G.trans ?_ hb12 | with_reducible refine G.trans ?_ hb11 | with_reducible refine G.trans ?_ hb10 | with_reducible refine G.trans ?_ hb9 | with_reducible refine G.trans ?_ hb8 | with_reducible refine G.trans ?_ hb7 | with_reducible refine G.trans ?_ hb6 | with_reducible refine G.trans ?_ hb5 | with_reducible refine G.trans ?_ hb4 | with_reducible refine G.trans ?_ hb3 | with_reducible refine G.trans ?_ hb2 | with_reducible refine G.trans ?_ hb1 | with_reducible refine G.trans ?_ hb | assumption), by repeat (first | with_reducible assumption | (with_reducible exact Bx.new (by simp; done) (by rfl)) | (with_reducible refine Bx.alloc ?_ _) | (with_reducible refine Bx.drewN ?_ _) | ((with_reducible apply Bx.put); rotate_right; (first | rfl | skip)) | (with_reducible refine Bx.other ?_ (by first | (simp; done) | (simp; omega)) _))⟩ ?_
                    rintro w6 ⟨hb6, x6⟩
                    have hb36 := Lib.hid (G.trans hb4.out (G.trans hb5.out hb6))
                    obtain ⟨S1, hS1, hrr⟩ := hX.out.reroot
                    obtain ⟨hR1, hbk⟩ := hrr w6 hb36.out
                    have hq6 : Hid (OwnO w6 0 1 A2 pl c2 (natsC p2.offs)) := Lib.hid ((hown5.out.grow hb6).base0)
                    have hqb : Hid (∀ ad, A2 = some ad → w4.heap.size ≤ ad.block ∧ ad.block < w5.heap.size) := fun ad ha => ⟨(hown5.out.lt ha).2, (hown5.out.lt ha).1⟩
                    have hs4 := Lib.hid hb4.out.size
                    have hs5 := Lib.hid hb5.out.size
                    have hs6 := Lib.hid hb6.size
                    have h3r := Lib.hid hX.out.chg.size
                    have hold := Lib.hid (fun (x : Nat) hx => hX.out.log.lt (x := x) hx)
                    have hx6l := Lib.hid x6.lt
                    replace x6 := Lib.hid x6
                    replace hS1 := Lib.hid hS1
                    replace hR1 := Lib.hid hR1
                    replace hbk := Lib.hid hbk
                    clear hb6 hb5 hown5 hrr b0 b1 b2 b3 b4 ltL g0 ltg
                    go_wp2_with fail
                    have LFB := Lib.hid (fun (wx : World) (hb : Below w6.heap.size w6 wx) => (hR1.out.grow hb).log.file (((hX.out.grow hb36.out).grow hb).lx.pow hE3.out) (n : Int))
                    rw [show ({ name := nm, limit := lim, parts := ps, dur := 0 } : Lg).file (n : Int) = f from hf.out] at LFB
                    have PS := Lib.hid (fun (wx : World) (hb : Below w6.heap.size w6 wx) => psize_any ⟨n, A2, c2, p2.offs⟩ wx (by dsimp only; rw [hpl2.out]; exact hq6.out.grow hb) (by have := hpok.out; rw [show (⟨n, A2, c2, p2.offs⟩ : PR).pt = p2 by unfold PR.pt; rw [← hp2.out.1]]; exact this))
                    rw [show (⟨n, A2, c2, p2.offs⟩ : PR).pt = p2 by unfold PR.pt; rw [← hp2.out.1], show (⟨n, A2, c2, p2.offs⟩ : PR).val = .slice A2 pl c2 by unfold PR.val; rw [hpl2.out], hz2.out] at PS
                    dsimp only at PS
                    have DT := Lib.hid (fun (wx : World) (hb : Below w6.heap.size w6 wx) => (hR1.out.grow hb).dTrunc hG1.out.ok f hff (z2 : Int))
                    rw [hXd.out] at DT
                    dsimp only at DT
                    have y0 := (x6.out.2 0 _ rfl).1
                    have y1 := (x6.out.2 1 _ rfl).1
                    have lty := x6.out.lt
                    refine wp_region_ord [(0, 1), (1, 1), (2, 1), (4, 1), (3, 2), (5, 2), (6, 3), (7, 0)] [6] 16 (by kernel_rfl) (by decide +kernel) ?_
                    simp only [pickO, List.append_eq, List.cons_append, List.nil_append, List.getElem?_cons_succ, List.getElem?_cons_zero]
                    intro w0 hG
                    (repeat ((first | (with_reducible refine ord_q1 ?_) | (with_reducible refine ord_q0 ?_)); intro K hK; first | (refine Or.inr ⟨?_, ?_⟩; (focus (go_simp; first | done | (simp [undef]; done))); go_simp; (with_reducible refine hK _ ?_); clear hK K) | (refine Or.inl ⟨?_, ?_⟩; (focus (go_simp; done)); apply Exists.intro; refine And.intro ?_ ?_; (focus (first | (intro wq hq; obtain ⟨hcq, hfq⟩ := G.old hq; go_simp; (first | done | exact rfl); done) | (intro wq; go_simp; (first | done | exact rfl); done))); go_simp; (with_reducible refine hK _ ?_); clear hK K) | fail))
                    (with_reducible refine ord_run ?_ hG)
                    intro K hK
                    go_simp
                    go_at_call 62; (with_reducible refine (LFB.out _ hG.b).mono ?_); rintro e w7 ⟨rfl, hb7⟩
                    replace hG := Grew.trans hG hb7
                    (try dsimp only)
                    (with_reducible refine hK _ _ hG ?_)
                    clear hK K
                    (repeat ((first | (with_reducible refine ord_q1 ?_) | (with_reducible refine ord_q0 ?_)); intro K hK; first | (refine Or.inr ⟨?_, ?_⟩; (focus (go_simp; first | done | (simp [undef]; done))); go_simp; (with_reducible refine hK _ ?_); clear hK K) | (refine Or.inl ⟨?_, ?_⟩; (focus (go_simp; done)); apply Exists.intro; refine And.intro ?_ ?_; (focus (first | (intro wq hq; obtain ⟨hcq, hfq⟩ := G.old hq; go_simp; (first | done | exact rfl); done) | (intro wq; go_simp; (first | done | exact rfl); done))); go_simp; (with_reducible refine hK _ ?_); clear hK K) | fail))
                    (with_reducible refine ord_run ?_ hG)
                    intro K hK
                    go_simp
                    go_at_call 63; (with_reducible refine (PS.out _ hG.b).mono ?_); rintro e w7 ⟨rfl, hb7⟩
                    replace hG := Grew.trans hG hb7
                    (try dsimp only)
                    (with_reducible refine hK _ _ hG ?_)
                    clear hK K
                    (repeat ((first | (with_reducible refine ord_q1 ?_) | (with_reducible refine ord_q0 ?_)); intro K hK; first | (refine Or.inr ⟨?_, ?_⟩; (focus (go_simp; first | done | (simp [undef]; done))); go_simp; (with_reducible refine hK _ ?_); clear hK K) | (refine Or.inl ⟨?_, ?_⟩; (focus (go_simp; done)); apply Exists.intro; refine And.intro ?_ ?_; (focus (first | (intro wq hq; obtain ⟨hcq, hfq⟩ := G.old hq; go_simp; (first | done | exact rfl); done) | (intro wq; go_simp; (first | done | exact rfl); done))); go_simp; (with_reducible refine hK _ ?_); clear hK K) | fail))
                    (with_reducible refine ord_tail ?_)
                    intro K hK
                    go_simp
                    have hb9 := hG.b
                    go_at_call 30
                    (with_reducible refine (DT.out _ hb9).mono ?_)
                    rintro e1 w8 ⟨rfl, h8⟩
                    clear hb9 y0 y1 lty LFB PS DT
                    replace h8 := Lib.hid h8
                    clear hG
                    (with_reducible refine hK _ _ ?_)
                    clear hK K
                    (repeat ((first | (with_reducible refine ord_q1 ?_) | (with_reducible refine ord_q0 ?_)); intro K hK; first | (refine Or.inr ⟨?_, ?_⟩; (focus (go_simp; first | done | (simp [undef]; done))); go_simp; (with_reducible refine hK _ ?_); clear hK K) | (refine Or.inl ⟨?_, ?_⟩; (focus (go_simp; done)); apply Exists.intro; refine And.intro ?_ ?_; (focus (first | (intro wq hq; obtain ⟨hcq, hfq⟩ := G.old hq; go_simp; (first | done | exact rfl); done) | (intro wq; go_simp; (first | done | exact rfl); done))); go_simp; (with_reducible refine hK _ ?_); clear hK K) | fail))
                    (with_reducible refine ord_nil ?_)
                    go_wp2_with fail
                    refine bodyPost_ret (v := .tuple #[.pointer none, .int .i64 x]) (by simp only [results, Tryz.results25]; go_simp) rfl ?_
                    have hx9 := hRbad.out
                    exact .bad hx9 rfl (LX.retD (hbk.out (fun _ => False) (fun x hx => hx.elim) _ _ _ _ _ _ (h8.out.mono fun x hx => Or.inl hx)).lx hb3.out hLw.out)
            · rw [if_pos he] at hst
              have hne9 := he
              have hx2 : (e != 0) = true := by rw [bne_iff_ne]; exact he
              have hRbad : Hid (R = (e, s1, none)) := by
                have h9 := HR.out
                rw [← hst] at h9
                dsimp only at h9
                rw [if_pos hne9] at h9
                exact h9.symm
              clear hst
              go_wp2_with fail
              have hbt := G.refl wr
              go_at_call 60
              (with_reducible refine (TX.out _ hbt).mono ?_)
              rintro e1 w4 ⟨rfl, hb4⟩
              replace hb4 := Lib.hid (G.trans hbt hb4)
              clear TX hbt
              go_wp2_with fail
              refine bodyPost_ret (v := .tuple #[.pointer none, .int .i64 e]) (by simp only [results, Tryz.results25]; go_simp) rfl ?_
              have hx9 := hRbad.out
              exact .bad hx9 rfl (LX.retD (hX.out.grow hb4.out).lx hb3.out hLw.out)
          · have hi0' : (0 : Int) < (i : Int) := by omega
            obtain ⟨qs, r, hrs⟩ : ∃ qs r, rs = qs ++ [r] := by
              rcases snoc_cases rs with e | h
              · rw [e] at hrl
                exact absurd hrl.symm hi0
              · exact h
            obtain ⟨q, hq⟩ : ∃ q, qs.length = q := ⟨_, rfl⟩
            have hqi : q + 1 = i := by rw [← hrl, hrs, List.length_append, hq]; rfl
            have hpr : r.pt.Ok := hPO.out _ (by rw [hps, hrs]; simp)
            have hls : ps.getLast? = some r.pt := by rw [hps, hrs]; simp
            obtain ⟨g2, off2, hP2, hg2, k0, k1⟩ := hX.out.log.cells (k := qs.length) (r := r) (by rw [hrs]; simp)
            rw [hq] at k0 k1
            subst hP2
            rw [show r.val = .slice r.A r.offs.length r.cap from rfl] at k1
            have hw7 : IntKind.i64.wrap ((i : Int) - 1) = (q : Int) := by rw [IntWalk.i64_in _ (by omega)]; omega
            have hqi2 : q < i := by omega
            have hqi3 : (q : Int) < (i : Int) := by omega
            have PB := Lib.hid (fun (wx : World) => pbehind_any r wx hpr)
            rw [show r.val = .slice r.A r.offs.length r.cap from rfl] at PB
            obtain ⟨rA, hrA⟩ : ∃ a, r.A = a := ⟨_, rfl⟩
            obtain ⟨rn, hrn'⟩ : ∃ a, r.offs.length = a := ⟨_, rfl⟩
            obtain ⟨rc, hrc⟩ : ∃ a, r.cap = a := ⟨_, rfl⟩
            rw [hrA, hrn', hrc] at k1 PB
            obtain ⟨bh, hbh⟩ : ∃ b, r.pt.behind = b := ⟨_, rfl⟩
            rw [hbh] at PB
            clear hrA hrn' hrc hpr hq hqi
            by_cases hcn : (n : Int) = bh
            · have hcf : ¬ (ps ≠ [] ∧ (n : Int) ≠ lastB ps) := fun hh => hh.2 (by rw [lastB_some hls, hbh]; exact hcn)
              have hcn2 : ((n : Int) != bh) = false := by rw [bne_eq_false_iff_eq]; exact hcn
              clear hls hbh hcn
              have hst := hSt.out
              rw [open_step hcf, hf] at hst
              rw [hf] at TX hff htl
              obtain ⟨X, hXt⟩ : ∃ X, textD s1 f = X := ⟨_, rfl⟩
              rw [hXt] at hst TX htl
              obtain ⟨t, e⟩ := X
              dsimp only at hst TX htl
              clear hcf hXt hSt
              by_cases he : e = 0
              · subst he
                rw [if_neg (by simp)] at hst
                have SC := Lib.hid (fun (wx : World) => scan_any t htl n hni wx)
                have hinv := scanT_inv (t.length + 1) _ (scan_start t n)
                have hp2 := Lib.hid hinv
                have hpok := Lib.hid (hinv.ok htl hni)
                obtain ⟨X, hXs⟩ : ∃ X, scanT (t.length + 1) t ⟨n, [0]⟩ = X := ⟨_, rfl⟩
                rw [hXs] at hst SC hp2 hpok
                obtain ⟨p2, bad⟩ := X
                dsimp only at hst hp2 hpok
                clear hXs htl hinv
                unfold RetS1 at SC
                by_cases hbad : bad = 0
                · subst hbad
                  rw [if_neg (by simp), if_neg (by simp)] at hst
                  have hst2 := Lib.hid hst
                  clear hst
                  go_wp2_with fail
                  go_at_call 59
                  (with_reducible refine (PB.out _).mono ?_)
                  rintro e1 w9 ⟨rfl, hbt⟩
                  clear PB
                  go_wp2_with fail
                  go_at_call 60
                  (with_reducible refine (TX.out _ hbt).mono ?_)
                  rintro e1 w4 ⟨rfl, hb4⟩
                  replace hb4 := Lib.hid (G.trans hbt hb4)
                  clear TX hbt
                  go_wp2_with fail
                  go_at_call 61
                  (with_reducible refine (SC.out w4).mono ?_)
                  rintro e1 w5 ⟨A2, c2, rfl, hown5, hb5⟩
                  clear SC
                  have hfst : p2.first = n := hp2.out.1
                  dsimp only at hown5 ⊢
                  rw [hfst]
                  replace hown5 := Lib.hid hown5
                  replace hb5 := Lib.hid hb5
                  obtain ⟨pl, hpl2⟩ : ∃ k, p2.offs.length = k := ⟨_, rfl⟩
                  rw [hpl2] at hown5 ⊢
                  replace hpl2 := Lib.hid hpl2
                  go_upto_region 31 with fail
                  refine wp_name (fun wx => Below w5.heap.size w5 wx ∧ Bx wx w5.heap.size [.int .i64 (n : Int), .slice A2 pl c2]) ⟨by repeat (first | with_reducible assumption | with_reducible exact G.refl _ | with_reducible refine G.drew ?_ | with_reducible refine G.drewN ?_ _ | with_reducible refine G.alloc ?_ _ | with_reducible refine Below.setCell ?_ (by first | (simp; done) | (simp; omega)) _ | with_reducible refine G.trans ?_ hb12 | with_reducible refine G.trans ?_ hb11 | with_reducible refine G.trans ?_ hb10 | with_reducible refine G.trans ?_ hb9 | with_reducible refine G.trans ?_ hb8 | with_reducible refine G.trans ?_ hb7 | with_reducible refine G.trans ?_ hb6 | with_reducible refine G.trans ?_ hb5 | with_reducible refine G.trans ?_ hb4 | with_reducible refine G.trans ?_ hb3 | with_reducible refine G.trans ?_ hb2 | with_reducible refine G.trans ?_ hb1 | with_reducible refine G.trans ?_ hb | assumption), by repeat (first | with_reducible assumption | (with_reducible exact Bx.new (by simp; done) (by rfl)) | (with_reducible refine Bx.alloc ?_ _) | (with_reducible refine Bx.drewN ?_ _) | ((with_reducible apply Bx.put); rotate_right; (first | rfl | skip)) | (with_reducible refine Bx.other ?_ (by first | (simp; done) | (simp; omega)) _))⟩ ?_
                  rintro w6 ⟨hb6, x6⟩
                  have hb36 := Lib.hid (G.trans hb4.out (G.trans hb5.out hb6))
                  obtain ⟨S1, hS1, hrr⟩ := hX.out.reroot
                  obtain ⟨hR1, hbk⟩ := hrr w6 hb36.out
                  have hq6 : Hid (OwnO w6 0 1 A2 pl c2 (natsC p2.offs)) := Lib.hid ((hown5.out.grow hb6).base0)
                  have hqb : Hid (∀ ad, A2 = some ad → w4.heap.size ≤ ad.block ∧ ad.block < w5.heap.size) := fun ad ha => ⟨(hown5.out.lt ha).2, (hown5.out.lt ha).1⟩
                  have hs4 := Lib.hid hb4.out.size
                  have hs5 := Lib.hid hb5.out.size
                  have hs6 := Lib.hid hb6.size
                  have h3r := Lib.hid hX.out.chg.size
                  have hold := Lib.hid (fun (x : Nat) hx => hX.out.log.lt (x := x) hx)
                  have hx6l := Lib.hid x6.lt
                  replace x6 := Lib.hid x6
                  replace hS1 := Lib.hid hS1
                  replace hR1 := Lib.hid hR1
                  replace hbk := Lib.hid hbk
                  clear hb6 hb5 hown5 hrr b0 b1 b2 b3 b4 ltL g0 ltg
                  have hT := hR1
                  have hG2 := hG1
                  go_wp2_with fail
                  have hqk : Hid (∀ x, w4.heap.size ≤ x → x < w6.heap.size → w6.heap[x]? = w6.heap[x]?) := fun x h1x h2x => hT.out.kept h2x (fun hh => by have := (hS1.out x hh).1; have := hs4.out; omega) (fun hh => by have := hold.out x hh; have := hs4.out; omega)
                  have hsz7 := Lib.hid hT.out.chg.size
                  have x7 := x6.out.block hsz7.out (hqk.out _ hs5.out hx6l.out)
                  have y0 := (x7.2 0 _ rfl).1
                  have y1 := (x7.2 1 _ rfl).1
                  have lty := x7.lt
                  clear x7
                  have hq7 := Lib.hid (hq6.out.block hsz7.out fun ad ha => hqk.out _ (hqb.out ad ha).1 (by have := (hqb.out ad ha).2; have := hs6.out; omega))
                  obtain ⟨c0, c1, c2', c3, c4⟩ := hT.out.log.box.c5
                  have ltL := hT.out.log.box.lt
                  rw [hrl] at c3
                  have HBX := Lib.hid hT.out.log.box
                  have HOW := Lib.hid hT.out.log.row
                  rw [hrl] at HOW
                  obtain ⟨j0, hj, hjz0, hjz1, hjz2⟩ := info_parts infoPart
                  refine wp_region_ord [(0, 0), (1, 1), (2, 1), (3, 1), (4, 1), (5, 1), (6, 2), (7, 3), (8, 0), (9, 0), (10, 3)] [7, 10] 16 (by kernel_rfl) (by decide +kernel) ?_
                  simp only [pickO, List.append_eq, List.cons_append, List.nil_append, List.getElem?_cons_succ, List.getElem?_cons_zero]
                  intro w0 hG
                  (repeat ((first | (with_reducible refine ord_q1 ?_) | (with_reducible refine ord_q0 ?_)); intro K hK; first | (refine Or.inr ⟨?_, ?_⟩; (focus (go_simp; first | done | (simp [undef]; done))); go_simp; (with_reducible refine hK _ ?_); clear hK K) | (refine Or.inl ⟨?_, ?_⟩; (focus (go_simp; done)); apply Exists.intro; refine And.intro ?_ ?_; (focus (first | (intro wq hq; obtain ⟨hcq, hfq⟩ := G.old hq; go_simp; (first | done | exact rfl); done) | (intro wq; go_simp; (first | done | exact rfl); done))); go_simp; (with_reducible refine hK _ ?_); clear hK K) | fail))
                  have hG9 := hG.b
                  have hs9 := hG9.size
                  have hmm9 := hG
                  (with_reducible refine ord_run ?_ hG)
                  intro K hK
                  go_simp
                  replace hG := Grew.alloc hG (.cells #[.int .i64 (n : Int), .slice A2 pl c2] 105)
                  (with_reducible refine hK _ _ hG ?_)
                  clear hK K
                  (repeat ((first | (with_reducible refine ord_q1 ?_) | (with_reducible refine ord_q0 ?_)); intro K hK; first | (refine Or.inr ⟨?_, ?_⟩; (focus (go_simp; first | done | (simp [undef]; done))); go_simp; (with_reducible refine hK _ ?_); clear hK K) | (refine Or.inl ⟨?_, ?_⟩; (focus (go_simp; done)); apply Exists.intro; refine And.intro ?_ ?_; (focus (first | (intro wq hq; obtain ⟨hcq, hfq⟩ := G.old hq; go_simp; (first | done | exact rfl); done) | (intro wq; go_simp; (first | done | exact rfl); done))); go_simp; (with_reducible refine hK _ ?_); clear hK K) | fail))
                  (with_reducible refine ord_tail ?_); intro K hK
                  refine step_appO rfl (.tmp 137) (.tmp 139) _ rfl 0 105 j0 _ 2 32 Tryz.underlying100 hj hjz0 hjz1 hjz2 rfl _ i cc (rowP rs) rfl (HOW.out.block (w' := w0.alloc (.cells #[.int .i64 (n : Int), .slice A2 pl c2] 105)) (by simp; omega) fun ad ha => (G.alloc hG9 _).block _ (HOW.out.lt ha).1) w0.heap.size 1 [.int .i64 (n : Int), .slice A2 pl c2] rfl rfl (fun j u hu => ((Bx.new (w := w0) (l := [.int .i64 (n : Int), .slice A2 pl c2]) (t := 105) rfl rfl).2 j u hu).1) (by simp [Value.oneCell']) (by unfold maxLen; omega) (by omega) (Nat.zero_le _) ?_
                  intro P8 cc8 w8 ho8 hg8 hp8
                  have hfin := Lib.hid (hT.out.log.addPart (q := ⟨n, A2, c2, p2.offs⟩) (G.alloc hG9 (.cells #[.int .i64 (n : Int), .slice A2 pl c2] 105)) (by
                      have h9 := hq7.out.block (w' := w0.alloc (.cells #[.int .i64 (n : Int), .slice A2 pl c2] 105)) (by simp; omega) fun ad ha => (G.alloc hG9 _).block _ (hq7.out.lt ha).1
                      dsimp only
                      rw [hpl2.out]
                      exact h9) (fun x hx hh => by
                      obtain ⟨ad, ha, e⟩ := hx
                      have h9 := (hqb.out ad ha).1
                      have h10 := hold.out x hh
                      have := hs4.out
                      omega) (by
                      have e : (⟨n, A2, c2, p2.offs⟩ : PR).val = .slice A2 pl c2 := by unfold PR.val; rw [hpl2.out]
                      rw [hrl, e]
                      exact ho8) hg8 hp8)
                  rw [hrl] at hfin
                  have hgL8 : w8.heap[L]? = (w0.alloc (.cells #[.int .i64 (n : Int), .slice A2 pl c2] 105)).heap[L]? := hg8.block L (by simp; omega) (map_ne hT.out.log.pl)
                  have k8 := (World.cell?_of_block (a := ⟨L, 3, none⟩) hgL8).trans ((World.cell?_of_block (a := ⟨L, 3, none⟩) ((G.alloc hG9 (.cells #[.int .i64 (n : Int), .slice A2 pl c2] 105)).block L ltL)).trans c3)
                  have kf8 : w8.frozen? ⟨L, 3, none⟩ = false := by rw [World.frozen?_of_block hgL8, World.frozen?_of_block ((G.alloc hG9 _).block L ltL)]; exact (HBX.out.2 3 _ rfl).2
                  have lt8 := cell_lt k8
                  have hlx := Lib.hid (hbk.out (fun x => (⟨n, A2, c2, p2.offs⟩ : PR).has x) (fun x hx => by
                      obtain ⟨ad, ha, e⟩ := hx
                      have h9 := (hqb.out ad ha).1
                      have := hs4.out
                      have := h3r.out
                      exact .inr (by omega)) _ _ _ _ _ _ ((hT.out.mono (fun x hx => Or.inl hx)).own2 hfin.out.1 (fun x hx => by
                      rcases hfin.out.2.1 x hx with h | h | h
                      · exact .inl h
                      · exact .inr (.inl h)
                      · refine .inr (.inr ⟨.inr h, fun hh => ?_, ?_⟩)
                        · obtain ⟨ad, ha, e⟩ := h
                          have h9 := (hqb.out ad ha).1
                          have := (hS1.out x hh).1
                          have := hs4.out
                          omega
                        · obtain ⟨ad, ha, e⟩ := h
                          have h9 := (hqb.out ad ha).2
                          have := hs6.out
                          omega) hfin.out.2.2))
                  clear hq7 hqk HBX HOW ho8 hg8 hp8 hgL8 c0 c1 c2' c3 c4 y0 y1 lty ltL hG hG9 hs9 hmm9 hj hjz0 hjz1 hjz2 hfin hT hbk hR1 hq6 hqb hold hS1 hs4 hs5 hs6 hsz7 h3r hx6l x6
                  (with_reducible refine hK _ _ ?_); clear hK K
                  (repeat ((first | (with_reducible refine ord_q1 ?_) | (with_reducible refine ord_q0 ?_)); intro K hK; first | (refine Or.inr ⟨?_, ?_⟩; (focus (go_simp; first | done | (simp [undef]; done))); go_simp; (with_reducible refine hK _ ?_); clear hK K) | (refine Or.inl ⟨?_, ?_⟩; (focus (go_simp; done)); apply Exists.intro; refine And.intro ?_ ?_; (focus (first | (intro wq hq; obtain ⟨hcq, hfq⟩ := G.old hq; go_simp; (first | done | exact rfl); done) | (intro wq; go_simp; (first | done | exact rfl); done))); go_simp; (with_reducible refine hK _ ?_); clear hK K) | fail))
                  ((with_reducible refine ord_tail ?_); intro K hK; go_simp; (with_reducible refine hK _ _ ?_); clear hK K)
                  (with_reducible refine ord_nil ?_)
                  go_wp2_with fail
                  refine ⟨⟨i + 1, s1, ps ++ [p2], P8, cc8, rs ++ [⟨n, A2, c2, p2.offs⟩], by omega, by go_num, by simp [hpl], by rw [hrest.out]; exact hst2, ?_, hG2, ?_⟩, by simp [intOf]; omega⟩
                  · intro q hq
                    rcases List.mem_append.1 hq with hq | hq
                    · exact hPO.out q hq
                    · simp at hq
                      subst hq
                      exact hpok.out
                  · have e : (⟨n, A2, c2, p2.offs⟩ : PR).pt = p2 := by
                      have := hp2.out.1
                      unfold PR.pt
                      rw [← this]
                    have h9 := hlx.out
                    rw [e] at h9
                    exact Lib.hid h9
                · by_cases hrs : rest ≠ []
                  · rw [if_pos ⟨hbad, hrs⟩] at hst
                    have hne9 := hbad
                    have hlt9 : (i : Int) < (N : Int) - 1 := by have := hrn.out.1 hrs; omega
                    have hx2 : (bad != 0) = true := by rw [bne_iff_ne]; exact hbad
                    have hRbad : Hid (R = (bad, s1, none)) := by
                      have h9 := HR.out
                      rw [← hst] at h9
                      dsimp only at h9
                      rw [if_pos hne9] at h9
                      exact h9.symm
                    clear hst
                    go_wp2_with fail
                    go_at_call 59
                    (with_reducible refine (PB.out _).mono ?_)
                    rintro e1 w9 ⟨rfl, hbt⟩
                    clear PB
                    go_wp2_with fail
                    go_at_call 60
                    (with_reducible refine (TX.out _ hbt).mono ?_)
                    rintro e1 w4 ⟨rfl, hb4⟩
                    replace hb4 := Lib.hid (G.trans hbt hb4)
                    clear TX hbt
                    go_wp2_with fail
                    go_at_call 61
                    (with_reducible refine (SC.out w4).mono ?_)
                    rintro e1 w5 ⟨A2, c2, rfl, hown5, hb5⟩
                    clear SC
                    have hfst : p2.first = n := hp2.out.1
                    dsimp only at hown5 ⊢
                    rw [hfst]
                    replace hown5 := Lib.hid hown5
                    replace hb5 := Lib.hid hb5
                    obtain ⟨pl, hpl2⟩ : ∃ k, p2.offs.length = k := ⟨_, rfl⟩
                    rw [hpl2] at hown5 ⊢
                    go_wp2_with fail
                    have hb9 := Lib.hid (G.trans hb4.out hb5.out)
                    refine bodyPost_ret (v := .tuple #[.pointer none, .int .i64 bad]) (by simp only [results, Tryz.results25]; go_simp) rfl ?_
                    have hx9 := hRbad.out
                    exact .bad hx9 rfl (LX.retD ((hX.out.grow hb9.out).grow (G.alloc (G.refl _) _)).lx hb3.out hLw.out)
                  · rw [if_neg (by rintro ⟨_, x⟩; exact hrs x), if_pos hbad] at hst
                    have hlt9 : ¬ (i : Int) < (N : Int) - 1 := by have h9 : ¬ i + 1 < N := fun x => hrs (hrn.out.2 x); omega
                    have hx2 : (bad != 0) = true := by rw [bne_iff_ne]; exact hbad
                    obtain ⟨z2, hz2⟩ : ∃ z, p2.size = z := ⟨_, rfl⟩
                    rw [hz2] at hst
                    obtain ⟨X, hXd⟩ : ∃ X, truncD s1 f (z2 : Int) = X := ⟨_, rfl⟩
                    have hgd := trunc_good hG1.out f (z2 : Int)
                    rw [hXd] at hst hgd
                    obtain ⟨x, s2⟩ := X
                    dsimp only at hst hgd
                    have hG2 := Lib.hid hgd
                    replace hXd := Lib.hid hXd
                    replace hz2 := Lib.hid hz2
                    replace hf := Lib.hid hf
                    clear hgd
                    by_cases hx : x = 0
                    · subst hx
                      rw [if_neg (by simp)] at hst
                      have hst2 := Lib.hid hst
                      clear hst
                      go_wp2_with fail
                      go_at_call 59
                      (with_reducible refine (PB.out _).mono ?_)
                      rintro e1 w9 ⟨rfl, hbt⟩
                      clear PB
                      go_wp2_with fail
                      go_at_call 60
                      (with_reducible refine (TX.out _ hbt).mono ?_)
                      rintro e1 w4 ⟨rfl, hb4⟩
                      replace hb4 := Lib.hid (G.trans hbt hb4)
                      clear TX hbt
                      go_wp2_with fail
                      go_at_call 61
                      (with_reducible refine (SC.out w4).mono ?_)
                      rintro e1 w5 ⟨A2, c2, rfl, hown5, hb5⟩
                      clear SC
                      have hfst : p2.first = n := hp2.out.1
                      dsimp only at hown5 ⊢
                      rw [hfst]
                      replace hown5 := Lib.hid hown5
                      replace hb5 := Lib.hid hb5
                      obtain ⟨pl, hpl2⟩ : ∃ k, p2.offs.length = k := ⟨_, rfl⟩
                      rw [hpl2] at hown5 ⊢
                      replace hpl2 := Lib.hid hpl2
                      go_upto_region 31 with fail
                      refine wp_name (fun wx => Below w5.heap.size w5 wx ∧ Bx wx w5.heap.size [.int .i64 (n : Int), .slice A2 pl c2]) ⟨by repeat (first | with_reducible assumption | with_reducible exact G.refl _ | with_reducible refine G.drew ?_ | with_reducible refine G.drewN ?_ _ | with_reducible refine G.alloc ?_ _ | with_reducible refine Below.setCell ?_ (by first | (simp; done) | (simp; omega)) _ | with_reducible refine G.trans ?_ hb12 | with_reducible refine G.trans ?_ hb11 | with_reducible refine G.trans ?_ hb10 | with_reducible refine G.trans ?_ hb9 | with_reducible refine G.trans ?_ hb8 | with_reducible refine G.trans ?_ hb7 | with_reducible refine G.trans ?_ hb6 | with_reducible refine G.trans ?_ hb5 | with_reducible refine G.trans ?_ hb4 | with_reducible refine G.trans ?_ hb3 | with_reducible refine G.trans ?_ hb2 | with_reducible refine G.trans ?_ hb1 | with_reducible refine G.trans ?_ hb | assumption), by repeat (first | with_reducible assumption | (with_reducible exact Bx.new (by simp; done) (by rfl)) | (with_reducible refine Bx.alloc ?_ _) | (with_reducible refine Bx.drewN ?_ _) | ((with_reducible apply Bx.put); rotate_right; (first | rfl | skip)) | (with_reducible refine Bx.other ?_ (by first | (simp; done) | (simp; omega)) _))⟩ ?_
                      rintro w6 ⟨hb6, x6⟩
                      have hb36 := Lib.hid (G.trans hb4.out (G.trans hb5.out hb6))
                      obtain ⟨S1, hS1, hrr⟩ := hX.out.reroot
                      obtain ⟨hR1, hbk⟩ := hrr w6 hb36.out
                      have hq6 : Hid (OwnO w6 0 1 A2 pl c2 (natsC p2.offs)) := Lib.hid ((hown5.out.grow hb6).base0)
                      have hqb : Hid (∀ ad, A2 = some ad → w4.heap.size ≤ ad.block ∧ ad.block < w5.heap.size) := fun ad ha => ⟨(hown5.out.lt ha).2, (hown5.out.lt ha).1⟩
                      have hs4 := Lib.hid hb4.out.size
                      have hs5 := Lib.hid hb5.out.size
                      have hs6 := Lib.hid hb6.size
                      have h3r := Lib.hid hX.out.chg.size
                      have hold := Lib.hid (fun (x : Nat) hx => hX.out.log.lt (x := x) hx)
                      have hx6l := Lib.hid x6.lt
                      replace x6 := Lib.hid x6
                      replace hS1 := Lib.hid hS1
                      replace hR1 := Lib.hid hR1
                      replace hbk := Lib.hid hbk
                      clear hb6 hb5 hown5 hrr b0 b1 b2 b3 b4 ltL g0 ltg
                      go_wp2_with fail
                      have LFB := Lib.hid (fun (wx : World) (hb : Below w6.heap.size w6 wx) => (hR1.out.grow hb).log.file (((hX.out.grow hb36.out).grow hb).lx.pow hE3.out) (n : Int))
                      rw [show ({ name := nm, limit := lim, parts := ps, dur := 0 } : Lg).file (n : Int) = f from hf.out] at LFB
                      have PS := Lib.hid (fun (wx : World) (hb : Below w6.heap.size w6 wx) => psize_any ⟨n, A2, c2, p2.offs⟩ wx (by dsimp only; rw [hpl2.out]; exact hq6.out.grow hb) (by have := hpok.out; rw [show (⟨n, A2, c2, p2.offs⟩ : PR).pt = p2 by unfold PR.pt; rw [← hp2.out.1]]; exact this))
                      rw [show (⟨n, A2, c2, p2.offs⟩ : PR).pt = p2 by unfold PR.pt; rw [← hp2.out.1], show (⟨n, A2, c2, p2.offs⟩ : PR).val = .slice A2 pl c2 by unfold PR.val; rw [hpl2.out], hz2.out] at PS
                      dsimp only at PS
                      have DT := Lib.hid (fun (wx : World) (hb : Below w6.heap.size w6 wx) => (hR1.out.grow hb).dTrunc hG1.out.ok f hff (z2 : Int))
                      rw [hXd.out] at DT
                      dsimp only at DT
                      have y0 := (x6.out.2 0 _ rfl).1
                      have y1 := (x6.out.2 1 _ rfl).1
                      have lty := x6.out.lt
                      refine wp_region_ord [(0, 1), (1, 1), (2, 1), (4, 1), (3, 2), (5, 2), (6, 3), (7, 0)] [6] 16 (by kernel_rfl) (by decide +kernel) ?_
                      simp only [pickO, List.append_eq, List.cons_append, List.nil_append, List.getElem?_cons_succ, List.getElem?_cons_zero]
                      intro w0 hG
                      (repeat ((first | (with_reducible refine ord_q1 ?_) | (with_reducible refine ord_q0 ?_)); intro K hK; first | (refine Or.inr ⟨?_, ?_⟩; (focus (go_simp; first | done | (simp [undef]; done))); go_simp; (with_reducible refine hK _ ?_); clear hK K) | (refine Or.inl ⟨?_, ?_⟩; (focus (go_simp; done)); apply Exists.intro; refine And.intro ?_ ?_; (focus (first | (intro wq hq; obtain ⟨hcq, hfq⟩ := G.old hq; go_simp; (first | done | exact rfl); done) | (intro wq; go_simp; (first | done | exact rfl); done))); go_simp; (with_reducible refine hK _ ?_); clear hK K) | fail))
                      (with_reducible refine ord_run ?_ hG)
                      intro K hK
                      go_simp
                      go_at_call 62; (with_reducible refine (LFB.out _ hG.b).mono ?_); rintro e w7 ⟨rfl, hb7⟩
                      replace hG := Grew.trans hG hb7
                      (try dsimp only)
                      (with_reducible refine hK _ _ hG ?_)
                      clear hK K
                      (repeat ((first | (with_reducible refine ord_q1 ?_) | (with_reducible refine ord_q0 ?_)); intro K hK; first | (refine Or.inr ⟨?_, ?_⟩; (focus (go_simp; first | done | (simp [undef]; done))); go_simp; (with_reducible refine hK _ ?_); clear hK K) | (refine Or.inl ⟨?_, ?_⟩; (focus (go_simp; done)); apply Exists.intro; refine And.intro ?_ ?_; (focus (first | (intro wq hq; obtain ⟨hcq, hfq⟩ := G.old hq; go_simp; (first | done | exact rfl); done) | (intro wq; go_simp; (first | done | exact rfl); done))); go_simp; (with_reducible refine hK _ ?_); clear hK K) | fail))
                      (with_reducible refine ord_run ?_ hG)
                      intro K hK
                      go_simp
                      go_at_call 63; (with_reducible refine (PS.out _ hG.b).mono ?_); rintro e w7 ⟨rfl, hb7⟩
                      replace hG := Grew.trans hG hb7
                      (try dsimp only)
                      (with_reducible refine hK _ _ hG ?_)
                      clear hK K
                      (repeat ((first | (with_reducible refine ord_q1 ?_) | (with_reducible refine ord_q0 ?_)); intro K hK; first | (refine Or.inr ⟨?_, ?_⟩; (focus (go_simp; first | done | (simp [undef]; done))); go_simp; (with_reducible refine hK _ ?_); clear hK K) | (refine Or.inl ⟨?_, ?_⟩; (focus (go_simp; done)); apply Exists.intro; refine And.intro ?_ ?_; (focus (first | (intro wq hq; obtain ⟨hcq, hfq⟩ := G.old hq; go_simp; (first | done | exact rfl); done) | (intro wq; go_simp; (first | done | exact rfl); done))); go_simp; (with_reducible refine hK _ ?_); clear hK K) | fail))
                      (with_reducible refine ord_tail ?_)
                      intro K hK
                      go_simp
                      have hb9 := hG.b
                      go_at_call 30
                      (with_reducible refine (DT.out _ hb9).mono ?_)
                      rintro e1 w8 ⟨rfl, h8⟩
                      clear hb9 y0 y1 lty LFB PS DT
                      replace h8 := Lib.hid h8
                      clear hG
                      (with_reducible refine hK _ _ ?_)
                      clear hK K
                      (repeat ((first | (with_reducible refine ord_q1 ?_) | (with_reducible refine ord_q0 ?_)); intro K hK; first | (refine Or.inr ⟨?_, ?_⟩; (focus (go_simp; first | done | (simp [undef]; done))); go_simp; (with_reducible refine hK _ ?_); clear hK K) | (refine Or.inl ⟨?_, ?_⟩; (focus (go_simp; done)); apply Exists.intro; refine And.intro ?_ ?_; (focus (first | (intro wq hq; obtain ⟨hcq, hfq⟩ := G.old hq; go_simp; (first | done | exact rfl); done) | (intro wq; go_simp; (first | done | exact rfl); done))); go_simp; (with_reducible refine hK _ ?_); clear hK K) | fail))
                      (with_reducible refine ord_nil ?_)
                      have hT := h8
                      go_wp2_with fail
                      have hqk : Hid (∀ x, w4.heap.size ≤ x → x < w6.heap.size → w8.heap[x]? = w6.heap[x]?) := fun x h1x h2x => hT.out.kept h2x (fun hh => by have := (hS1.out x hh).1; have := hs4.out; omega) (fun hh => by have := hold.out x hh; have := hs4.out; omega)
                      have hsz7 := Lib.hid hT.out.chg.size
                      have x7 := x6.out.block hsz7.out (hqk.out _ hs5.out hx6l.out)
                      have y0 := (x7.2 0 _ rfl).1
                      have y1 := (x7.2 1 _ rfl).1
                      have lty := x7.lt
                      clear x7
                      have hq7 := Lib.hid (hq6.out.block hsz7.out fun ad ha => hqk.out _ (hqb.out ad ha).1 (by have := (hqb.out ad ha).2; have := hs6.out; omega))
                      obtain ⟨c0, c1, c2', c3, c4⟩ := hT.out.log.box.c5
                      have ltL := hT.out.log.box.lt
                      rw [hrl] at c3
                      have HBX := Lib.hid hT.out.log.box
                      have HOW := Lib.hid hT.out.log.row
                      rw [hrl] at HOW
                      obtain ⟨j0, hj, hjz0, hjz1, hjz2⟩ := info_parts infoPart
                      refine wp_region_ord [(0, 0), (1, 1), (2, 1), (3, 1), (4, 1), (5, 1), (6, 2), (7, 3), (8, 0), (9, 0), (10, 3)] [7, 10] 16 (by kernel_rfl) (by decide +kernel) ?_
                      simp only [pickO, List.append_eq, List.cons_append, List.nil_append, List.getElem?_cons_succ, List.getElem?_cons_zero]
                      intro w0 hG
                      (repeat ((first | (with_reducible refine ord_q1 ?_) | (with_reducible refine ord_q0 ?_)); intro K hK; first | (refine Or.inr ⟨?_, ?_⟩; (focus (go_simp; first | done | (simp [undef]; done))); go_simp; (with_reducible refine hK _ ?_); clear hK K) | (refine Or.inl ⟨?_, ?_⟩; (focus (go_simp; done)); apply Exists.intro; refine And.intro ?_ ?_; (focus (first | (intro wq hq; obtain ⟨hcq, hfq⟩ := G.old hq; go_simp; (first | done | exact rfl); done) | (intro wq; go_simp; (first | done | exact rfl); done))); go_simp; (with_reducible refine hK _ ?_); clear hK K) | fail))
                      have hG9 := hG.b
                      have hs9 := hG9.size
                      have hmm9 := hG
                      (with_reducible refine ord_run ?_ hG)
                      intro K hK
                      go_simp
                      replace hG := Grew.alloc hG (.cells #[.int .i64 (n : Int), .slice A2 pl c2] 105)
                      (with_reducible refine hK _ _ hG ?_)
                      clear hK K
                      (repeat ((first | (with_reducible refine ord_q1 ?_) | (with_reducible refine ord_q0 ?_)); intro K hK; first | (refine Or.inr ⟨?_, ?_⟩; (focus (go_simp; first | done | (simp [undef]; done))); go_simp; (with_reducible refine hK _ ?_); clear hK K) | (refine Or.inl ⟨?_, ?_⟩; (focus (go_simp; done)); apply Exists.intro; refine And.intro ?_ ?_; (focus (first | (intro wq hq; obtain ⟨hcq, hfq⟩ := G.old hq; go_simp; (first | done | exact rfl); done) | (intro wq; go_simp; (first | done | exact rfl); done))); go_simp; (with_reducible refine hK _ ?_); clear hK K) | fail))
                      (with_reducible refine ord_tail ?_); intro K hK
                      refine step_appO rfl (.tmp 137) (.tmp 139) _ rfl 0 105 j0 _ 2 32 Tryz.underlying100 hj hjz0 hjz1 hjz2 rfl _ i cc (rowP rs) rfl (HOW.out.block (w' := w0.alloc (.cells #[.int .i64 (n : Int), .slice A2 pl c2] 105)) (by simp; omega) fun ad ha => (G.alloc hG9 _).block _ (HOW.out.lt ha).1) w0.heap.size 1 [.int .i64 (n : Int), .slice A2 pl c2] rfl rfl (fun j u hu => ((Bx.new (w := w0) (l := [.int .i64 (n : Int), .slice A2 pl c2]) (t := 105) rfl rfl).2 j u hu).1) (by simp [Value.oneCell']) (by unfold maxLen; omega) (by omega) (Nat.zero_le _) ?_
                      intro P8 cc8 w8 ho8 hg8 hp8
                      have hfin := Lib.hid (hT.out.log.addPart (q := ⟨n, A2, c2, p2.offs⟩) (G.alloc hG9 (.cells #[.int .i64 (n : Int), .slice A2 pl c2] 105)) (by
                          have h9 := hq7.out.block (w' := w0.alloc (.cells #[.int .i64 (n : Int), .slice A2 pl c2] 105)) (by simp; omega) fun ad ha => (G.alloc hG9 _).block _ (hq7.out.lt ha).1
                          dsimp only
                          rw [hpl2.out]
                          exact h9) (fun x hx hh => by
                          obtain ⟨ad, ha, e⟩ := hx
                          have h9 := (hqb.out ad ha).1
                          have h10 := hold.out x hh
                          have := hs4.out
                          omega) (by
                          have e : (⟨n, A2, c2, p2.offs⟩ : PR).val = .slice A2 pl c2 := by unfold PR.val; rw [hpl2.out]
                          rw [hrl, e]
                          exact ho8) hg8 hp8)
                      rw [hrl] at hfin
                      have hgL8 : w8.heap[L]? = (w0.alloc (.cells #[.int .i64 (n : Int), .slice A2 pl c2] 105)).heap[L]? := hg8.block L (by simp; omega) (map_ne hT.out.log.pl)
                      have k8 := (World.cell?_of_block (a := ⟨L, 3, none⟩) hgL8).trans ((World.cell?_of_block (a := ⟨L, 3, none⟩) ((G.alloc hG9 (.cells #[.int .i64 (n : Int), .slice A2 pl c2] 105)).block L ltL)).trans c3)
                      have kf8 : w8.frozen? ⟨L, 3, none⟩ = false := by rw [World.frozen?_of_block hgL8, World.frozen?_of_block ((G.alloc hG9 _).block L ltL)]; exact (HBX.out.2 3 _ rfl).2
                      have lt8 := cell_lt k8
                      have hlx := Lib.hid (hbk.out (fun x => (⟨n, A2, c2, p2.offs⟩ : PR).has x) (fun x hx => by
                          obtain ⟨ad, ha, e⟩ := hx
                          have h9 := (hqb.out ad ha).1
                          have := hs4.out
                          have := h3r.out
                          exact .inr (by omega)) _ _ _ _ _ _ ((hT.out.mono (fun x hx => Or.inl hx)).own2 hfin.out.1 (fun x hx => by
                          rcases hfin.out.2.1 x hx with h | h | h
                          · exact .inl h
                          · exact .inr (.inl h)
                          · refine .inr (.inr ⟨.inr h, fun hh => ?_, ?_⟩)
                            · obtain ⟨ad, ha, e⟩ := h
                              have h9 := (hqb.out ad ha).1
                              have := (hS1.out x hh).1
                              have := hs4.out
                              omega
                            · obtain ⟨ad, ha, e⟩ := h
                              have h9 := (hqb.out ad ha).2
                              have := hs6.out
                              omega) hfin.out.2.2))
                      clear hq7 hqk HBX HOW ho8 hg8 hp8 hgL8 c0 c1 c2' c3 c4 y0 y1 lty ltL hG hG9 hs9 hmm9 hj hjz0 hjz1 hjz2 hfin hT hbk hR1 hq6 hqb hold hS1 hs4 hs5 hs6 hsz7 h3r hx6l x6
                      (with_reducible refine hK _ _ ?_); clear hK K
                      (repeat ((first | (with_reducible refine ord_q1 ?_) | (with_reducible refine ord_q0 ?_)); intro K hK; first | (refine Or.inr ⟨?_, ?_⟩; (focus (go_simp; first | done | (simp [undef]; done))); go_simp; (with_reducible refine hK _ ?_); clear hK K) | (refine Or.inl ⟨?_, ?_⟩; (focus (go_simp; done)); apply Exists.intro; refine And.intro ?_ ?_; (focus (first | (intro wq hq; obtain ⟨hcq, hfq⟩ := G.old hq; go_simp; (first | done | exact rfl); done) | (intro wq; go_simp; (first | done | exact rfl); done))); go_simp; (with_reducible refine hK _ ?_); clear hK K) | fail))
                      ((with_reducible refine ord_tail ?_); intro K hK; go_simp; (with_reducible refine hK _ _ ?_); clear hK K)
                      (with_reducible refine ord_nil ?_)
                      go_wp2_with fail
                      refine ⟨⟨i + 1, s2, ps ++ [p2], P8, cc8, rs ++ [⟨n, A2, c2, p2.offs⟩], by omega, by go_num, by simp [hpl], by rw [hrest.out]; exact hst2, ?_, hG2, ?_⟩, by simp [intOf]; omega⟩
                      · intro q hq
                        rcases List.mem_append.1 hq with hq | hq
                        · exact hPO.out q hq
                        · simp at hq
                          subst hq
                          exact hpok.out
                      · have e : (⟨n, A2, c2, p2.offs⟩ : PR).pt = p2 := by
                          have := hp2.out.1
                          unfold PR.pt
                          rw [← this]
                        have h9 := hlx.out
                        rw [e] at h9
                        exact Lib.hid h9
                    · rw [if_pos hx] at hst
                      have hne9 := hx
                      have hx3 : (x != 0) = true := by rw [bne_iff_ne]; exact hx
                      have hRbad : Hid (R = (x, s2, none)) := by
                        have h9 := HR.out
                        rw [← hst] at h9
                        dsimp only at h9
                        rw [if_pos hne9] at h9
                        exact h9.symm
                      clear hst
                      go_wp2_with fail
                      go_at_call 59
                      (with_reducible refine (PB.out _).mono ?_)
                      rintro e1 w9 ⟨rfl, hbt⟩
                      clear PB
                      go_wp2_with fail
                      go_at_call 60
                      (with_reducible refine (TX.out _ hbt).mono ?_)
                      rintro e1 w4 ⟨rfl, hb4⟩
                      replace hb4 := Lib.hid (G.trans hbt hb4)
                      clear TX hbt
                      go_wp2_with fail
                      go_at_call 61
                      (with_reducible refine (SC.out w4).mono ?_)
                      rintro e1 w5 ⟨A2, c2, rfl, hown5, hb5⟩
                      clear SC
                      have hfst : p2.first = n := hp2.out.1
                      dsimp only at hown5 ⊢
                      rw [hfst]
                      replace hown5 := Lib.hid hown5
                      replace hb5 := Lib.hid hb5
                      obtain ⟨pl, hpl2⟩ : ∃ k, p2.offs.length = k := ⟨_, rfl⟩
                      rw [hpl2] at hown5 ⊢
                      replace hpl2 := Lib.hid hpl2
                      go_upto_region 31 with fail
                      refine wp_name (fun wx => Below w5.heap.size w5 wx ∧ Bx wx w5.heap.size [.int .i64 (n : Int), .slice A2 pl c2]) ⟨by repeat (first | with_reducible assumption | with_reducible exact G.refl _ | with_reducible refine G.drew ?_ | with_reducible refine G.drewN ?_ _ | with_reducible refine G.alloc ?_ _ | with_reducible refine Below.setCell ?_ (by first | (simp; done) | (simp; omega)) _ | with_reducible refine G.trans ?_ hb12 | with_reducible refine G.trans ?_ hb11 | with_reducible refine G.trans ?_ hb10 | with_reducible refine G.trans ?_ hb9 | with_reducible refine G.trans ?_ hb8 | with_reducible refine G.trans ?_ hb7 | with_reducible refine G.trans ?_ hb6 | with_reducible refine G.trans ?_ hb5 | with_reducible refine G.trans ?_ hb4 | with_reducible refine G.trans ?_ hb3 | with_reducible refine G.trans ?_ hb2 | with_reducible refine G.trans ?_ hb1 | with_reducible refine G.trans ?_ hb | assumption), by repeat (first | with_reducible assumption | (with_reducible exact Bx.new (by simp; done) (by rfl)) | (with_reducible refine Bx.alloc ?_ _) | (with_reducible refine Bx.drewN ?_ _) | ((with_reducible apply Bx.put); rotate_right; (first | rfl | skip)) | (with_reducible refine Bx.other ?_ (by first | (simp; done) | (simp; omega)) _))⟩ ?_
                      rintro w6 ⟨hb6, x6⟩
                      have hb36 := Lib.hid (G.trans hb4.out (G.trans hb5.out hb6))
                      obtain ⟨S1, hS1, hrr⟩ := hX.out.reroot
                      obtain ⟨hR1, hbk⟩ := hrr w6 hb36.out
                      have hq6 : Hid (OwnO w6 0 1 A2 pl c2 (natsC p2.offs)) := Lib.hid ((hown5.out.grow hb6).base0)
                      have hqb : Hid (∀ ad, A2 = some ad → w4.heap.size ≤ ad.block ∧ ad.block < w5.heap.size) := fun ad ha => ⟨(hown5.out.lt ha).2, (hown5.out.lt ha).1⟩
                      have hs4 := Lib.hid hb4.out.size
                      have hs5 := Lib.hid hb5.out.size
                      have hs6 := Lib.hid hb6.size
                      have h3r := Lib.hid hX.out.chg.size
                      have hold := Lib.hid (fun (x : Nat) hx => hX.out.log.lt (x := x) hx)
                      have hx6l := Lib.hid x6.lt
                      replace x6 := Lib.hid x6
                      replace hS1 := Lib.hid hS1
                      replace hR1 := Lib.hid hR1
                      replace hbk := Lib.hid hbk
                      clear hb6 hb5 hown5 hrr b0 b1 b2 b3 b4 ltL g0 ltg
                      go_wp2_with fail
                      have LFB := Lib.hid (fun (wx : World) (hb : Below w6.heap.size w6 wx) => (hR1.out.grow hb).log.file (((hX.out.grow hb36.out).grow hb).lx.pow hE3.out) (n : Int))
                      rw [show ({ name := nm, limit := lim, parts := ps, dur := 0 } : Lg).file (n : Int) = f from hf.out] at LFB
                      have PS := Lib.hid (fun (wx : World) (hb : Below w6.heap.size w6 wx) => psize_any ⟨n, A2, c2, p2.offs⟩ wx (by dsimp only; rw [hpl2.out]; exact hq6.out.grow hb) (by have := hpok.out; rw [show (⟨n, A2, c2, p2.offs⟩ : PR).pt = p2 by unfold PR.pt; rw [← hp2.out.1]]; exact this))
                      rw [show (⟨n, A2, c2, p2.offs⟩ : PR).pt = p2 by unfold PR.pt; rw [← hp2.out.1], show (⟨n, A2, c2, p2.offs⟩ : PR).val = .slice A2 pl c2 by unfold PR.val; rw [hpl2.out], hz2.out] at PS
                      dsimp only at PS
                      have DT := Lib.hid (fun (wx : World) (hb : Below w6.heap.size w6 wx) => (hR1.out.grow hb).dTrunc hG1.out.ok f hff (z2 : Int))
                      rw [hXd.out] at DT
                      dsimp only at DT
                      have y0 := (x6.out.2 0 _ rfl).1
                      have y1 := (x6.out.2 1 _ rfl).1
                      have lty := x6.out.lt
                      refine wp_region_ord [(0, 1), (1, 1), (2, 1), (4, 1), (3, 2), (5, 2), (6, 3), (7, 0)] [6] 16 (by kernel_rfl) (by decide +kernel) ?_
                      simp only [pickO, List.append_eq, List.cons_append, List.nil_append, List.getElem?_cons_succ, List.getElem?_cons_zero]
                      intro w0 hG
                      (repeat ((first | (with_reducible refine ord_q1 ?_) | (with_reducible refine ord_q0 ?_)); intro K hK; first | (refine Or.inr ⟨?_, ?_⟩; (focus (go_simp; first | done | (simp [undef]; done))); go_simp; (with_reducible refine hK _ ?_); clear hK K) | (refine Or.inl ⟨?_, ?_⟩; (focus (go_simp; done)); apply Exists.intro; refine And.intro ?_ ?_; (focus (first | (intro wq hq; obtain ⟨hcq, hfq⟩ := G.old hq; go_simp; (first | done | exact rfl); done) | (intro wq; go_simp; (first | done | exact rfl); done))); go_simp; (with_reducible refine hK _ ?_); clear hK K) | fail))
                      (with_reducible refine ord_run ?_ hG)
                      intro K hK
                      go_simp
                      go_at_call 62; (with_reducible refine (LFB.out _ hG.b).mono ?_); rintro e w7 ⟨rfl, hb7⟩
                      replace hG := Grew.trans hG hb7
                      (try dsimp only)
                      (with_reducible refine hK _ _ hG ?_)
                      clear hK K
                      (repeat ((first | (with_reducible refine ord_q1 ?_) | (with_reducible refine ord_q0 ?_)); intro K hK; first | (refine Or.inr ⟨?_, ?_⟩; (focus (go_simp; first | done | (simp [undef]; done))); go_simp; (with_reducible refine hK _ ?_); clear hK K) | (refine Or.inl ⟨?_, ?_⟩; (focus (go_simp; done)); apply Exists.intro; refine And.intro ?_ ?_; (focus (first | (intro wq hq; obtain ⟨hcq, hfq⟩ := G.old hq; go_simp; (first | done | exact rfl); done) | (intro wq; go_simp; (first | done | exact rfl); done))); go_simp; (with_reducible refine hK _ ?_); clear hK K) | fail))
                      (with_reducible refine ord_run ?_ hG)
                      intro K hK
                      go_simp
                      go_at_call 63; (with_reducible refine (PS.out _ hG.b).mono ?_); rintro e w7 ⟨rfl, hb7⟩
                      replace hG := Grew.trans hG hb7
                      (try dsimp only)
                      (with_reducible refine hK _ _ hG ?_)
                      clear hK K
                      (repeat ((first | (with_reducible refine ord_q1 ?_) | (with_reducible refine ord_q0 ?_)); intro K hK; first | (refine Or.inr ⟨?_, ?_⟩; (focus (go_simp; first | done | (simp [undef]; done))); go_simp; (with_reducible refine hK _ ?_); clear hK K) | (refine Or.inl ⟨?_, ?_⟩; (focus (go_simp; done)); apply Exists.intro; refine And.intro ?_ ?_; (focus (first | (intro wq hq; obtain ⟨hcq, hfq⟩ := G.old hq; go_simp; (first | done | exact rfl); done) | (intro wq; go_simp; (first | done | exact rfl); done))); go_simp; (with_reducible refine hK _ ?_); clear hK K) | fail))
                      (with_reducible refine ord_tail ?_)
                      intro K hK
                      go_simp
                      have hb9 := hG.b
                      go_at_call 30
                      (with_reducible refine (DT.out _ hb9).mono ?_)
                      rintro e1 w8 ⟨rfl, h8⟩
                      clear hb9 y0 y1 lty LFB PS DT
                      replace h8 := Lib.hid h8
                      clear hG
                      (with_reducible refine hK _ _ ?_)
                      clear hK K
                      (repeat ((first | (with_reducible refine ord_q1 ?_) | (with_reducible refine ord_q0 ?_)); intro K hK; first | (refine Or.inr ⟨?_, ?_⟩; (focus (go_simp; first | done | (simp [undef]; done))); go_simp; (with_reducible refine hK _ ?_); clear hK K) | (refine Or.inl ⟨?_, ?_⟩; (focus (go_simp; done)); apply Exists.intro; refine And.intro ?_ ?_; (focus (first | (intro wq hq; obtain ⟨hcq, hfq⟩ := G.old hq; go_simp; (first | done | exact rfl); done) | (intro wq; go_simp; (first | done | exact rfl); done))); go_simp; (with_reducible refine hK _ ?_); clear hK K) | fail))
                      (with_reducible refine ord_nil ?_)
                      go_wp2_with fail
                      refine bodyPost_ret (v := .tuple #[.pointer none, .int .i64 x]) (by simp only [results, Tryz.results25]; go_simp) rfl ?_
                      have hx9 := hRbad.out
                      exact .bad hx9 rfl (LX.retD (hbk.out (fun _ => False) (fun x hx => hx.elim) _ _ _ _ _ _ (h8.out.mono fun x hx => Or.inl hx)).lx hb3.out hLw.out)
              · rw [if_pos he] at hst
                have hne9 := he
                have hx2 : (e != 0) = true := by rw [bne_iff_ne]; exact he
                have hRbad : Hid (R = (e, s1, none)) := by
                  have h9 := HR.out
                  rw [← hst] at h9
                  dsimp only at h9
                  rw [if_pos hne9] at h9
                  exact h9.symm
                clear hst
                go_wp2_with fail
                go_at_call 59
                (with_reducible refine (PB.out _).mono ?_)
                rintro e1 w9 ⟨rfl, hbt⟩
                clear PB
                go_wp2_with fail
                go_at_call 60
                (with_reducible refine (TX.out _ hbt).mono ?_)
                rintro e1 w4 ⟨rfl, hb4⟩
                replace hb4 := Lib.hid (G.trans hbt hb4)
                clear TX hbt
                go_wp2_with fail
                refine bodyPost_ret (v := .tuple #[.pointer none, .int .i64 e]) (by simp only [results, Tryz.results25]; go_simp) rfl ?_
                have hx9 := hRbad.out
                exact .bad hx9 rfl (LX.retD (hX.out.grow hb4.out).lx hb3.out hLw.out)
            · have hst := hSt.out
              rw [openN, if_pos ⟨fun e => (by rw [e] at hls; cases hls), by rw [lastB_some hls, hbh]; exact hcn⟩] at hst
              have hne9 : (33 : Int) ≠ 0 := by decide
              have hcn2 : ((n : Int) != bh) = true := by rw [bne_iff_ne]; exact hcn
              have hRbad : Hid (R = (33, s1, none)) := by
                have h9 := HR.out
                rw [← hst] at h9
                dsimp only at h9
                rw [if_pos hne9] at h9
                exact h9.symm
              clear hst hls hbh
              go_wp2_with fail
              go_at_call 59
              (with_reducible refine (PB.out _).mono ?_)
              rintro e1 w9 ⟨rfl, hbt⟩
              clear PB
              go_wp2_with fail
              refine bodyPost_ret (v := .tuple #[.pointer none, .int .i64 33]) (by simp only [results, Tryz.results25]; go_simp) rfl ?_
              have hx9 := hRbad.out
              exact .bad hx9 rfl (LX.retD (hX.out.grow hbt).lx hb3.out hLw.out)
        · have hi9 : i = N := by omega
          have hY2 : Y = (0, s1, ps) := by
            have := hSt.out
            rw [List.drop_of_length_le (by rw [← hlen.out]; omega)] at this
            exact this.symm
          have hr9 := HR.out
          rw [hY2] at hr9
          dsimp only at hr9
          rw [if_neg (by simp)] at hr9
          have hlok : (⟨nm, lim, ps, 0⟩ : Lg).Ok := ⟨hPO.out, by dsimp only; omega, by simp, by simp, by dsimp only; omega, by dsimp only; omega⟩
          have SY := Lib.hid (hX.out.lx.Sync hE3.out hlok)
          obtain ⟨Z, hZ⟩ : ∃ Z, lsync s1 ⟨nm, lim, ps, 0⟩ = Z := ⟨_, rfl⟩
          rw [hZ] at hr9 SY
          obtain ⟨x, s2, l2⟩ := Z
          dsimp only at hr9 SY
          clear hZ hY2 hlok
          by_cases hx : x = 0
          · subst hx
            rw [if_neg (by simp)] at hr9
            have hr9 := Lib.hid hr9
            have hlt9 : ¬ (i : Int) < (N : Int) := by omega
            go_wp2_with fail
            go_at_call 34
            (with_reducible refine SY.out.mono ?_)
            rintro e1 w8 ⟨rfl, h8⟩
            go_wp2_with fail
            refine bodyPost_ret (v := .tuple #[.pointer (some ⟨L, 0, none⟩), .int .i64 0]) (by simp only [results, Tryz.results25]; go_simp) rfl ?_
            exact .inr ⟨s2, l2, L, hr9.out.symm, rfl, h8.rebase hb3.out hLw.out⟩
          · rw [if_pos hx] at hr9
            have hr9 := Lib.hid hr9
            have hlt9 : ¬ (i : Int) < (N : Int) := by omega
            have hx2 : (x != 0) = true := by rw [bne_iff_ne]; exact hx
            go_wp2_with fail
            go_at_call 34
            (with_reducible refine SY.out.mono ?_)
            rintro e1 w8 ⟨rfl, h8⟩
            go_wp2_with fail
            refine bodyPost_ret (v := .tuple #[.pointer none, .int .i64 x]) (by simp only [results, Tryz.results25]; go_simp) rfl ?_
            exact .bad hr9.out.symm rfl (h8.retD hb3.out hLw.out)
end
end Go.Proofs.YtbafnlccpbonmaaGreatDoor
