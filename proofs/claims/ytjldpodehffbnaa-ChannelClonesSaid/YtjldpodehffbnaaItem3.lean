/- Copies of messages and items. -/
import Derived.Test.YtjldpodehffbnaaItem2
namespace Go.Proofs.Ytjldpodehffbnaa
set_option linter.unusedVariables false
set_option linter.unnecessarySimpa false
set_option linter.unusedSimpArgs false
open Go.RowKit

section
variable {P : Program}
theorem wpList_appB {ops : Array Oper} {rest : List Oper} {o : Oper} {a : Act} {w : World} {Q : Exit → Act → World → Prop} (hgd : o.guard = none) (s x : Operand) (t : TypeId)
    (ho : o.op = .call { callee := .builtin .append, args := #[s, x], argTypes := #[t, t] })
    (base : Nat) (e : TypeId) (i : TypeInfo) (z : Value) (size bytes : Nat) (ht : P.underlying t = some (.slice e)) (hi : P.info? e = some i) (hz : i.zero = some z)
    (hsize : i.size = size) (hby : i.bytes = bytes) (hzs : z.cells.size = size) (hsz : 0 < size)
    (v : Value) (n : Nat) (xs : List Value) (hs : a.eval s = v) (hown : w.ownsRow base e size v n xs)
    (A : Option Addr) (m c : Nat) (news : List Value) (hx : a.eval x = .slice A m c) (hr : Sl w A (m * size) news) (h1 : ∀ u ∈ news, u.oneCell' = true)
    (h63 : n + m ≤ maxLen) (hbytes : (n + m) * bytes ≤ 140737488355328) (hbase : base ≤ w.heap.size)
    (h : ∀ A' c' w', w'.ownsRow base e size (.slice A' (n + m) c') (n + m) (xs ++ news) → n + m ≤ c' → c' ≤ maxLen → w.grownBy w' v.ownBlock →
      ((Value.slice A' (n + m) c').ownBlock = v.ownBlock ∨ (Value.slice A' (n + m) c').ownBlock = some w.heap.size) → wpList P ops Q rest (a.put o.dst (.slice A' (n + m) c')) w') : wpList P ops Q (o :: rest) a w :=
  wpList_plain hgd fun K hK => by
    have := step_appB (P := P) (ops := ops) (o := o) (a := a) (w := w) (K := K) (Q := Q) (E := True) hgd s x t ho base e i z size bytes ht hi hz hsize hby hzs hsz v n xs hs hown A m c news hx hr h1 h63 hbytes hbase fun A' c' w' h2 h3 h4 h5 h6 => hK _ _ (h A' c' w' h2 h3 h4 h5 h6)
    rwa [if_pos (by simp [Region.wanted, hgd])] at this
end
/-- A message of the call's own has come back. -/
def RetM (e : Int) (p : List Int) (mass : Int) (os : List Int) (d : Nat) (w : World) (end_ : Ending) (w' : World) : Prop :=
  ∃ A c O lc k i s t BA bn bc BB bm bd, end_ = .returned (.agg #[.int .i64 e, .slice A p.length c, .int .i64 mass, .slice O os.length lc, .int .i64 k, .int .i64 i, .int .i64 s, .string t, .slice BA bn bc, .slice BB bm bd]) ∧
    PathIs (From w.heap.size) w' A p.length c p ∧ PathIs (From w.heap.size) w' O os.length lc os ∧ Tree (From w.heap.size) w' d [.int .i64 k, .int .i64 i, .int .i64 s, .string t, .slice BA bn bc, .slice BB bm bd] ∧ Below w.heap.size w w'
set_option maxRecDepth 20000 in set_option maxHeartbeats 1000000 in
theorem cloneM_any {ok : Nat → Prop} {w : World} {e mass k i s : Int} {t : ByteArray} {A O BA BB : Option Addr} {n c l lc bn bc bm bd d : Nat} {p os : List Int} (h1 : PathIs ok w A n c p) (h2 : PathIs ok w O l lc os)
    (h3 : Tree ok w d [.int .i64 k, .int .i64 i, .int .i64 s, .string t, .slice BA bn bc, .slice BB bm bd]) :
    Calls Try.prog 69 #[.agg #[.int .i64 e, .slice A n c, .int .i64 mass, .slice O l lc, .int .i64 k, .int .i64 i, .int .i64 s, .string t, .slice BA bn bc, .slice BB bm bd]] w (RetM e p mass os d w) := by
  have H1 := Lib.hid h1
  have H2 := Lib.hid h2
  have H3 := Lib.hid h3
  clear h1 h2 h3
  go_enter Try.func69, Try.ntmps69
  go_wp2_with fail
  refine wp_name (fun wr => Below w.heap.size w wr ∧ Hid (w.heap.size + 1 < wr.heap.size) ∧ Bx wr w.heap.size [.int .i64 e, .slice A n c, .int .i64 mass, .slice O l lc, .int .i64 k, .int .i64 i, .int .i64 s, .string t, .slice BA bn bc, .slice BB bm bd] ∧ Bx wr (w.heap.size + 1) [.int .i64 0, .slice none 0 0, .int .i64 0, .slice none 0 0, .int .i64 0, .int .i64 0, .int .i64 0, .string ⟨#[]⟩, .slice none 0 0, .slice none 0 0]) ⟨by repeat (first | with_reducible assumption | with_reducible exact G.refl _ | with_reducible refine G.drew ?_ | with_reducible refine G.drewN ?_ _ | with_reducible refine G.alloc ?_ _ | with_reducible refine Below.setCell ?_ (by first | (simp; done) | (simp; omega)) _ | with_reducible refine G.trans ?_ hb12 | with_reducible refine G.trans ?_ hb11 | with_reducible refine G.trans ?_ hb10 | with_reducible refine G.trans ?_ hb9 | with_reducible refine G.trans ?_ hb8 | with_reducible refine G.trans ?_ hb7 | with_reducible refine G.trans ?_ hb6 | with_reducible refine G.trans ?_ hb5 | with_reducible refine G.trans ?_ hb4 | with_reducible refine G.trans ?_ hb3 | with_reducible refine G.trans ?_ hb2 | with_reducible refine G.trans ?_ hb1 | with_reducible refine G.trans ?_ hb | assumption), by unfold Hid; simp, by repeat (first | with_reducible assumption | (with_reducible exact Bx.new (by simp; done) (by rfl)) | (with_reducible refine Bx.alloc ?_ _) | (with_reducible refine Bx.drewN ?_ _) | ((with_reducible apply Bx.put); rotate_right; (first | rfl | skip)) | (with_reducible refine Bx.other ?_ (by first | (simp; done) | (simp; omega)) _)), by repeat (first | with_reducible assumption | (with_reducible exact Bx.new (by simp; done) (by rfl)) | (with_reducible refine Bx.alloc ?_ _) | (with_reducible refine Bx.drewN ?_ _) | ((with_reducible apply Bx.put); rotate_right; (first | rfl | skip)) | (with_reducible refine Bx.other ?_ (by first | (simp; done) | (simp; omega)) _))⟩ ?_
  rintro wr ⟨hbr, hsz, x1, x2⟩
  have r1 := Lib.hid (H1.out.grow hbr)
  have r2 := Lib.hid (H2.out.grow hbr)
  have r3 := Lib.hid (H3.out.grow hbr)
  have lt0 := x1.lt
  obtain ⟨c0, c1, c2, c3, c4, c5, c6, c7, c8, c9⟩ := x1.c10
  clear H1 H2 H3
  refine wp_region_ord [(0, 1), (1, 1), (3, 1), (4, 1), (5, 1), (6, 1), (8, 1), (9, 1), (2, 2), (7, 2), (10, 2), (11, 1), (12, 3)] [12] 5 (by kernel_rfl) (by decide +kernel) ?_
  simp only [pickO, List.append_eq, List.cons_append, List.nil_append, List.getElem?_cons_succ, List.getElem?_cons_zero]
  intro w0 hG
  (repeat ((first | (with_reducible refine ord_q1 ?_) | (with_reducible refine ord_q0 ?_)); intro K hK; first | (refine Or.inr ⟨?_, ?_⟩; (focus (go_simp; first | done | (simp [undef]; done))); go_simp; (with_reducible refine hK _ ?_); clear hK K) | (refine Or.inl ⟨?_, ?_⟩; (focus (go_simp; done)); apply Exists.intro; refine And.intro ?_ ?_; (focus (first | (intro wq hq; obtain ⟨hcq, hfq⟩ := G.old hq; go_simp; (first | done | exact rfl); done) | (intro wq; go_simp; (first | done | exact rfl); done))); go_simp; (with_reducible refine hK _ ?_); clear hK K) | fail))
  have hs00 := hG.b.size
  (with_reducible refine ord_run ?_ hG)
  intro K hK
  go_simp
  go_at_call 75; (with_reducible refine (copyStamp_any e (r1.out.grow hG.b)).mono ?_); rintro e' w2 ⟨A', c', rfl, p1, hb2⟩
  replace hG := Grew.trans hG hb2
  (try dsimp only)
  (with_reducible refine hK _ _ hG ?_)
  clear hK K
  (repeat ((first | (with_reducible refine ord_q1 ?_) | (with_reducible refine ord_q0 ?_)); intro K hK; first | (refine Or.inr ⟨?_, ?_⟩; (focus (go_simp; first | done | (simp [undef]; done))); go_simp; (with_reducible refine hK _ ?_); clear hK K) | (refine Or.inl ⟨?_, ?_⟩; (focus (go_simp; done)); apply Exists.intro; refine And.intro ?_ ?_; (focus (first | (intro wq hq; obtain ⟨hcq, hfq⟩ := G.old hq; go_simp; (first | done | exact rfl); done) | (intro wq; go_simp; (first | done | exact rfl); done))); go_simp; (with_reducible refine hK _ ?_); clear hK K) | fail))
  (with_reducible refine ord_run ?_ hG)
  intro K hK
  go_simp
  go_at_call 63; (with_reducible refine (clonep_any (r2.out.grow hG.b)).mono ?_); rintro e' w3 ⟨O', lc', rfl, p2, hb3⟩
  replace hG := Grew.trans hG hb3
  (try dsimp only)
  (with_reducible refine hK _ _ hG ?_)
  clear hK K
  (repeat ((first | (with_reducible refine ord_q1 ?_) | (with_reducible refine ord_q0 ?_)); intro K hK; first | (refine Or.inr ⟨?_, ?_⟩; (focus (go_simp; first | done | (simp [undef]; done))); go_simp; (with_reducible refine hK _ ?_); clear hK K) | (refine Or.inl ⟨?_, ?_⟩; (focus (go_simp; done)); apply Exists.intro; refine And.intro ?_ ?_; (focus (first | (intro wq hq; obtain ⟨hcq, hfq⟩ := G.old hq; go_simp; (first | done | exact rfl); done) | (intro wq; go_simp; (first | done | exact rfl); done))); go_simp; (with_reducible refine hK _ ?_); clear hK K) | fail))
  (with_reducible refine ord_run ?_ hG)
  intro K hK
  go_simp
  go_at_call 70; (with_reducible refine (cloneV_any ok d _ _ (r3.out.grow hG.b)).mono ?_); rintro e' w4 ⟨cs2, rfl, p3, hb4⟩; obtain ⟨k2, i2, s2, t2, A3, n3, c3', B3, m3, e3, rfl⟩ := tree_shape p3; replace p3 := Lib.hid p3
  replace hG := Grew.trans hG hb4
  (try dsimp only)
  (with_reducible refine hK _ _ hG ?_)
  clear hK K
  (repeat ((first | (with_reducible refine ord_q1 ?_) | (with_reducible refine ord_q0 ?_)); intro K hK; first | (refine Or.inr ⟨?_, ?_⟩; (focus (go_simp; first | done | (simp [undef]; done))); go_simp; (with_reducible refine hK _ ?_); clear hK K) | (refine Or.inl ⟨?_, ?_⟩; (focus (go_simp; done)); apply Exists.intro; refine And.intro ?_ ?_; (focus (first | (intro wq hq; obtain ⟨hcq, hfq⟩ := G.old hq; go_simp; (first | done | exact rfl); done) | (intro wq; go_simp; (first | done | exact rfl); done))); go_simp; (with_reducible refine hK _ ?_); clear hK K) | fail))
  have hs2 := hb2.size
  have hs3 := hb3.size
  have hs4 := hb4.size
  have x2 := x2.grow hG.b
  have hbf := hbr.trans (hG.b.mono hbr.size)
  obtain ⟨y0, y1, y2, y3, y4, y5, y6, y7, y8, y9⟩ := x2.c10
  obtain ⟨g0, g1, g2, g3, g4, g5, g6, g7, g8, g9⟩ := x2.f10
  ((with_reducible refine ord_tail ?_); intro K hK; go_simp; (with_reducible refine hK _ _ ?_); clear hK K)
  (repeat ((first | (with_reducible refine ord_q1 ?_) | (with_reducible refine ord_q0 ?_)); intro K hK; first | (refine Or.inr ⟨?_, ?_⟩; (focus (go_simp; first | done | (simp [undef]; done))); go_simp; (with_reducible refine hK _ ?_); clear hK K) | (refine Or.inl ⟨?_, ?_⟩; (focus (go_simp; done)); apply Exists.intro; refine And.intro ?_ ?_; (focus (first | (intro wq hq; obtain ⟨hcq, hfq⟩ := G.old hq; go_simp; (first | done | exact rfl); done) | (intro wq; go_simp; (first | done | exact rfl); done))); go_simp; (with_reducible refine hK _ ?_); clear hK K) | fail))
  (with_reducible refine ord_nil ?_)
  clear c0 c1 c2 c3 c4 c5 c6 c7 c8 c9 y0 y1 y2 y3 y4 y5 y6 y7 y8 y9 g0 g1 g2 g3 g4 g5 g6 g7 g8 g9
  have hsz := hsz.out
  obtain ⟨wF, hF⟩ : ∃ wF, wF = w4.setCells (w.heap.size + 1) 0 [.int .i64 e, .slice A' p.length c', .int .i64 mass, .slice O' os.length lc', .int .i64 k2, .int .i64 i2, .int .i64 s2, .string t2, .slice A3 n3 c3', .slice B3 m3 e3] := ⟨_, rfl⟩
  have z : Bx wF (w.heap.size + 1) [.int .i64 e, .slice A' p.length c', .int .i64 mass, .slice O' os.length lc', .int .i64 k2, .int .i64 i2, .int .i64 s2, .string t2, .slice A3 n3 c3', .slice B3 m3 e3] := by rw [hF]; exact x2.fill rfl
  have zb : Below w.heap.size w wF := by rw [hF]; exact Below.setCells' (by omega) _ _ _ hbf
  have zk : Keeps (From w0.heap.size) w4 wF := by rw [hF]; exact Keeps.setCells (by show ¬ _ ≤ _; omega) _ _ _ (Keeps.refl _ _)
  change Exit.then _ _ Exit.normal _ (w4.setCells (w.heap.size + 1) 0 [.int .i64 e, .slice A' p.length c', .int .i64 mass, .slice O' os.length lc', .int .i64 k2, .int .i64 i2, .int .i64 s2, .string t2, .slice A3 n3 c3', .slice B3 m3 e3])
  rw [← hF]
  clear hF
  obtain ⟨y0, y1, y2, y3, y4, y5, y6, y7, y8, y9⟩ := z.c10
  go_wp2_with fail
  refine bodyPost_ret (v := .agg #[.int .i64 e, .slice A' p.length c', .int .i64 mass, .slice O' os.length lc', .int .i64 k2, .int .i64 i2, .int .i64 s2, .string t2, .slice A3 n3 c3', .slice B3 m3 e3]) (by simp only [results, Try.results69]; go_simp) rfl ⟨_, _, _, _, _, _, _, _, _, _, _, _, _, _, rfl, ?_, ?_, ?_, zb⟩
  · exact ((p1.grow hb3).grow hb4).back zk (by omega)
  · exact (p2.grow hb4).back (zk.mono fun b (hb : w2.heap.size ≤ b) => by show w0.heap.size ≤ b; omega) (by omega)
  · exact p3.out.back (zk.mono fun b (hb : w3.heap.size ≤ b) => by show w0.heap.size ≤ b; omega) (by omega)

theorem Try.infoQ : (Try.prog.info? 91).map (fun i => (i.zero, i.size, i.bytes)) = some (some (.agg #[.int .i64 0, .slice none 0 0, .string ⟨#[]⟩, .int .i64 0, .bool false, .int .i64 0, .int .i64 0, .int .i64 0, .string ⟨#[]⟩, .slice none 0 0, .slice none 0 0]), 11, 152) := by kernel_rfl
theorem ReqV.appended {L : Nat} {v v' : Value} {w w' : World} {cs : List Value} {e : Int} {p : List Int} (h : ReqV (Beside L v) w cs e p) (hg : w.grownBy w' v.ownBlock) (hob : v'.ownBlock = v.ownBlock ∨ v'.ownBlock = some w.heap.size) : ReqV (Beside L v') w' cs e p :=
  ((h.mono (ok' := fun b => Beside L v b ∧ Beside L v' b) fun b hb ho => ⟨ho, Tree.beside_later hob hb ho⟩).keep ((Keeps.refl _ _).grown hg fun k hk => .inr fun hx => hx.1.2 hk)).mono fun b _ h => h.2
/-- An item of the call's own has come back. -/
def RetI (it : It) (w : World) (end_ : Ending) (w' : World) : Prop := ∃ cs, end_ = .returned (.agg cs.toArray) ∧ ItemV (From w.heap.size) w' cs it ∧ Below w.heap.size w w'
set_option maxRecDepth 20000 in set_option maxHeartbeats 2000000 in
theorem cloneI_any {ok : Nat → Prop} {w : World} {cs : List Value} {it : It} (h : ItemV ok w cs it) : Calls Try.prog 46 #[.agg cs.toArray] w (RetI it w) := by
  obtain ⟨me, A, n, c, mp, O, l, lc, os, k, i, s, t, BA, bn, bc, BB, bm, bd, R, q, rs, d, rfl, h1, h2, h3, h4, h5, h6, h7⟩ := h
  obtain ⟨i0, hi0, hz0, hz1, hz2⟩ := info_parts Try.infoQ
  have H1 := Lib.hid h1
  have H2 := Lib.hid h2
  have H3 := Lib.hid h3
  replace h6 := Lib.hid h6
  replace h7 := Lib.hid h7
  have hml := Lib.hid h1.len
  have hol := Lib.hid h2.len
  clear h1 h2 h3
  obtain ⟨mass, hmass⟩ : ∃ mass, it.mass = mass := ⟨_, rfl⟩
  obtain ⟨r, hr⟩ : ∃ r, it.r = r := ⟨_, rfl⟩
  rw [hmass]
  rw [hr] at h4 h5 ⊢
  rw [hr] at h6 h7
  replace hmass := Lib.hid hmass
  replace hr := Lib.hid hr
  go_enter Try.func46, Try.ntmps46
  go_wp2_with fail
  refine (cloneM_any (H1.out.grow (by repeat (first | with_reducible assumption | with_reducible exact G.refl _ | with_reducible refine G.drew ?_ | with_reducible refine G.drewN ?_ _ | with_reducible refine G.alloc ?_ _ | with_reducible refine Below.setCell ?_ (by first | (simp; done) | (simp; omega)) _ | with_reducible refine G.trans ?_ hb12 | with_reducible refine G.trans ?_ hb11 | with_reducible refine G.trans ?_ hb10 | with_reducible refine G.trans ?_ hb9 | with_reducible refine G.trans ?_ hb8 | with_reducible refine G.trans ?_ hb7 | with_reducible refine G.trans ?_ hb6 | with_reducible refine G.trans ?_ hb5 | with_reducible refine G.trans ?_ hb4 | with_reducible refine G.trans ?_ hb3 | with_reducible refine G.trans ?_ hb2 | with_reducible refine G.trans ?_ hb1 | with_reducible refine G.trans ?_ hb | assumption))) (H2.out.grow (by repeat (first | with_reducible assumption | with_reducible exact G.refl _ | with_reducible refine G.drew ?_ | with_reducible refine G.drewN ?_ _ | with_reducible refine G.alloc ?_ _ | with_reducible refine Below.setCell ?_ (by first | (simp; done) | (simp; omega)) _ | with_reducible refine G.trans ?_ hb12 | with_reducible refine G.trans ?_ hb11 | with_reducible refine G.trans ?_ hb10 | with_reducible refine G.trans ?_ hb9 | with_reducible refine G.trans ?_ hb8 | with_reducible refine G.trans ?_ hb7 | with_reducible refine G.trans ?_ hb6 | with_reducible refine G.trans ?_ hb5 | with_reducible refine G.trans ?_ hb4 | with_reducible refine G.trans ?_ hb3 | with_reducible refine G.trans ?_ hb2 | with_reducible refine G.trans ?_ hb1 | with_reducible refine G.trans ?_ hb | assumption))) (H3.out.grow (by repeat (first | with_reducible assumption | with_reducible exact G.refl _ | with_reducible refine G.drew ?_ | with_reducible refine G.drewN ?_ _ | with_reducible refine G.alloc ?_ _ | with_reducible refine Below.setCell ?_ (by first | (simp; done) | (simp; omega)) _ | with_reducible refine G.trans ?_ hb12 | with_reducible refine G.trans ?_ hb11 | with_reducible refine G.trans ?_ hb10 | with_reducible refine G.trans ?_ hb9 | with_reducible refine G.trans ?_ hb8 | with_reducible refine G.trans ?_ hb7 | with_reducible refine G.trans ?_ hb6 | with_reducible refine G.trans ?_ hb5 | with_reducible refine G.trans ?_ hb4 | with_reducible refine G.trans ?_ hb3 | with_reducible refine G.trans ?_ hb2 | with_reducible refine G.trans ?_ hb1 | with_reducible refine G.trans ?_ hb | assumption)))).mono ?_
  rintro e' w1 ⟨A', c', O', lc', k', i', s', t', BA', bn', bc', BB', bm', bd', rfl, p1, p2, p3, hb1⟩
  have x1 : Bx w1 w.heap.size [.int .i64 me, .slice A n c, .int .i64 mass, .slice O l lc, .int .i64 k, .int .i64 i, .int .i64 s, .string t, .slice BA bn bc, .slice BB bm bd, .slice R r q] := Bx.grow (by repeat (first | with_reducible assumption | (with_reducible exact Bx.new (by simp; done) (by rfl)) | (with_reducible refine Bx.alloc ?_ _) | (with_reducible refine Bx.drewN ?_ _) | ((with_reducible apply Bx.put); rotate_right; (first | rfl | skip)) | (with_reducible refine Bx.other ?_ (by first | (simp; done) | (simp; omega)) _))) hb1
  have x2 : Bx w1 (w.heap.size + 1) [.int .i64 0, .slice none 0 0, .int .i64 0, .slice none 0 0, .int .i64 0, .int .i64 0, .int .i64 0, .string ⟨#[]⟩, .slice none 0 0, .slice none 0 0, .slice none 0 0] := Bx.grow (by repeat (first | with_reducible assumption | (with_reducible exact Bx.new (by simp; done) (by rfl)) | (with_reducible refine Bx.alloc ?_ _) | (with_reducible refine Bx.drewN ?_ _) | ((with_reducible apply Bx.put); rotate_right; (first | rfl | skip)) | (with_reducible refine Bx.other ?_ (by first | (simp; done) | (simp; omega)) _))) hb1
  have hbw : Below w.heap.size w w1 := G.trans (by repeat (first | with_reducible assumption | with_reducible exact G.refl _ | with_reducible refine G.drew ?_ | with_reducible refine G.drewN ?_ _ | with_reducible refine G.alloc ?_ _ | with_reducible refine Below.setCell ?_ (by first | (simp; done) | (simp; omega)) _ | with_reducible refine G.trans ?_ hb12 | with_reducible refine G.trans ?_ hb11 | with_reducible refine G.trans ?_ hb10 | with_reducible refine G.trans ?_ hb9 | with_reducible refine G.trans ?_ hb8 | with_reducible refine G.trans ?_ hb7 | with_reducible refine G.trans ?_ hb6 | with_reducible refine G.trans ?_ hb5 | with_reducible refine G.trans ?_ hb4 | with_reducible refine G.trans ?_ hb3 | with_reducible refine G.trans ?_ hb2 | with_reducible refine G.trans ?_ hb1 | with_reducible refine G.trans ?_ hb | assumption)) hb1
  have hs1 := hb1.size
  simp only [World.size_alloc] at p1 p2 p3 hs1
  have c10 := (x1.2 10 _ rfl).1
  clear H1 H2 H3
  replace p1 := Lib.hid p1
  replace p2 := Lib.hid p2
  replace p3 := Lib.hid p3
  clear hb1
  have lt1 := x1.lt
  go_wp2_with fail
  refine wp_name (fun wr => Below w1.heap.size w1 wr ∧ Bx wr w1.heap.size [.int .i64 me, .slice A' mp.length c', .int .i64 mass, .slice O' os.length lc', .int .i64 k', .int .i64 i', .int .i64 s', .string t', .slice BA' bn' bc', .slice BB' bm' bd', .slice none 0 0]) ⟨by repeat (first | with_reducible assumption | with_reducible exact G.refl _ | with_reducible refine G.drew ?_ | with_reducible refine G.drewN ?_ _ | with_reducible refine G.alloc ?_ _ | with_reducible refine Below.setCell ?_ (by first | (simp; done) | (simp; omega)) _ | with_reducible refine G.trans ?_ hb12 | with_reducible refine G.trans ?_ hb11 | with_reducible refine G.trans ?_ hb10 | with_reducible refine G.trans ?_ hb9 | with_reducible refine G.trans ?_ hb8 | with_reducible refine G.trans ?_ hb7 | with_reducible refine G.trans ?_ hb6 | with_reducible refine G.trans ?_ hb5 | with_reducible refine G.trans ?_ hb4 | with_reducible refine G.trans ?_ hb3 | with_reducible refine G.trans ?_ hb2 | with_reducible refine G.trans ?_ hb1 | with_reducible refine G.trans ?_ hb | assumption), by repeat (first | with_reducible assumption | (with_reducible exact Bx.new (by simp; done) (by rfl)) | (with_reducible refine Bx.alloc ?_ _) | (with_reducible refine Bx.drewN ?_ _) | ((with_reducible apply Bx.put); rotate_right; (first | rfl | skip)) | (with_reducible refine Bx.other ?_ (by first | (simp; done) | (simp; omega)) _))⟩ ?_
  rintro w2 ⟨hb2, x3⟩
  replace x1 := x1.grow hb2
  replace x2 := x2.grow hb2
  have hbw2 := hbw.trans (hb2.mono hbw.size)
  have hs2 := Lib.hid hb2.size
  have hs1 := Lib.hid hs1
  have lt3 := Lib.hid x3.lt
  clear c10 lt1
  go_loopw [13] (fun iv wr => ∃ (j : Nat) (Rr : Option Addr) (cr : Nat) (zs : List Value), j ≤ r ∧ iv = .int .i64 j ∧ Below w.heap.size w wr ∧ Keeps (fun b => w.heap.size + 1 < b ∧ b ≠ w1.heap.size) w2 wr ∧ Hid (w2.heap.size ≤ wr.heap.size) ∧ Bx wr w.heap.size [.int .i64 me, .slice A n c, .int .i64 mass, .slice O l lc, .int .i64 k, .int .i64 i, .int .i64 s, .string t, .slice BA bn bc, .slice BB bm bd, .slice R r q] ∧ Bx wr (w.heap.size + 1) [.int .i64 0, .slice none 0 0, .int .i64 0, .slice none 0 0, .int .i64 0, .int .i64 0, .int .i64 0, .string ⟨#[]⟩, .slice none 0 0, .slice none 0 0, .slice none 0 0] ∧ Bx wr w1.heap.size [.int .i64 me, .slice A' mp.length c', .int .i64 mass, .slice O' os.length lc', .int .i64 k', .int .i64 i', .int .i64 s', .string t', .slice BA' bn' bc', .slice BB' bm' bd', .slice Rr j cr] ∧ wr.ownsRow w2.heap.size 91 11 (.slice Rr j cr) j zs ∧ Hid (∀ p, p < j → ∃ e pp, ReqV (Beside w2.heap.size (.slice Rr j cr)) wr ((zs.drop (p * 11)).take 11) e pp ∧ (p = 0 → it.e = e ∧ it.p = pp))) (fun iv _ => r - (intOf iv).toNat)
  case atStart => exact ⟨0, none, 0, [], Nat.zero_le _, rfl, hbw2, Keeps.refl _ _, Nat.le_refl _, x1, x2, x3, World.ownsRow_nil _ _ _ _, fun q hq => absurd hq (by omega)⟩
  case round =>
    clear x1 x2 x3
    obtain ⟨j, Rr, cr, zs, hj, rfl, hbr, hkr, hszr, x1, x2, x3, hown, htr⟩ := hrel
    by_cases hlt : j < r
    · have hxr := h5.grow hbr
      obtain ⟨ej, pj, hreq0, hej⟩ := h6.out j hlt
      have hreq := hreq0.keep (Keeps.of_below hbr)
      obtain ⟨b, off, rfl, hbl, hok, hlen, hcell⟩ := hxr.at_ (by decide) hlt
      obtain ⟨A2, n2, c2, sv, call, undo, body, dj, hch, hp2, ht2⟩ := hreq
      obtain ⟨kb, ib, sb, tb, A3, n3, c3, B3, m3, e3, rfl⟩ := tree_shape ht2
      rw [hch] at hcell
      have e0 : wr.cell? ⟨b, off + j * 11, none⟩ = _ := hcell 0 _ rfl
      have e1 := hcell 1 _ rfl
      have e2 := hcell 2 _ rfl
      have e3' := hcell 3 _ rfl
      have e4 := hcell 4 _ rfl
      have e5 := hcell 5 _ rfl
      have e6 := hcell 6 _ rfl
      have e7 := hcell 7 _ rfl
      have e8 := hcell 8 _ rfl
      have e9 := hcell 9 _ rfl
      have e10 := hcell 10 _ rfl
      replace hej := Lib.hid hej
      clear hcell hch hreq0
      replace hp2 := Lib.hid hp2
      replace ht2 := Lib.hid ht2
      have hsb := hbr.size
      go_wp2_with fail
      refine wp_name (fun wa => Below wr.heap.size wr wa ∧ Bx wa wr.heap.size [.int .i64 ej, .slice A2 n2 c2, .string sv, .int .i64 call, .bool undo, .int .i64 kb, .int .i64 ib, .int .i64 sb, .string tb, .slice A3 n3 c3, .slice B3 m3 e3]) ⟨by repeat (first | with_reducible assumption | with_reducible exact G.refl _ | with_reducible refine G.drew ?_ | with_reducible refine G.drewN ?_ _ | with_reducible refine G.alloc ?_ _ | with_reducible refine Below.setCell ?_ (by first | (simp; done) | (simp; omega)) _ | with_reducible refine G.trans ?_ hb12 | with_reducible refine G.trans ?_ hb11 | with_reducible refine G.trans ?_ hb10 | with_reducible refine G.trans ?_ hb9 | with_reducible refine G.trans ?_ hb8 | with_reducible refine G.trans ?_ hb7 | with_reducible refine G.trans ?_ hb6 | with_reducible refine G.trans ?_ hb5 | with_reducible refine G.trans ?_ hb4 | with_reducible refine G.trans ?_ hb3 | with_reducible refine G.trans ?_ hb2 | with_reducible refine G.trans ?_ hb1 | with_reducible refine G.trans ?_ hb | assumption), by repeat (first | with_reducible assumption | (with_reducible exact Bx.new (by simp; done) (by rfl)) | (with_reducible refine Bx.alloc ?_ _) | (with_reducible refine Bx.drewN ?_ _) | ((with_reducible apply Bx.put); rotate_right; (first | rfl | skip)) | (with_reducible refine Bx.other ?_ (by first | (simp; done) | (simp; omega)) _))⟩ ?_
      rintro wa ⟨hba, y⟩
      clear e0 e1 e2 e3' e4 e5 e6 e7 e8 e9 e10
      have lty := y.lt
      obtain ⟨y0, y1, y2, y3, y4, y5, y6, y7, y8, y9, y10⟩ := y.c11
      refine wp_region_ord [(0, 1), (1, 1), (3, 1), (4, 1), (2, 2), (6, 1), (5, 2), (7, 3), (8, 0), (9, 3)] [7, 9] 5 (by kernel_rfl) (by decide +kernel) ?_
      simp only [pickO, List.append_eq, List.cons_append, List.nil_append, List.getElem?_cons_succ, List.getElem?_cons_zero]
      intro w0 hG
      (repeat ((first | (with_reducible refine ord_q1 ?_) | (with_reducible refine ord_q0 ?_)); intro K hK; first | (refine Or.inr ⟨?_, ?_⟩; (focus (go_simp; first | done | (simp [undef]; done))); go_simp; (with_reducible refine hK _ ?_); clear hK K) | (refine Or.inl ⟨?_, ?_⟩; (focus (go_simp; done)); apply Exists.intro; refine And.intro ?_ ?_; (focus (first | (intro wq hq; obtain ⟨hcq, hfq⟩ := G.old hq; go_simp; (first | done | exact rfl); done) | (intro wq; go_simp; (first | done | exact rfl); done))); go_simp; (with_reducible refine hK _ ?_); clear hK K) | fail))
      have hG1 : Below wr.heap.size wr w0 := G.trans hba hG.b
      have hs0 := hG1.size
      have hs00 := hG.b.size
      (with_reducible refine ord_run ?_ hG)
      intro K hK
      go_simp
      go_at_call 45; (with_reducible refine (cloneStamp_any ej (hp2.out.grow hG1)).mono ?_); rintro e' w3 ⟨A4, c4, rfl, q1, hb3⟩
      replace hG := Grew.trans hG hb3
      (try dsimp only)
      (with_reducible refine hK _ _ hG ?_)
      clear hK K
      (repeat ((first | (with_reducible refine ord_q1 ?_) | (with_reducible refine ord_q0 ?_)); intro K hK; first | (refine Or.inr ⟨?_, ?_⟩; (focus (go_simp; first | done | (simp [undef]; done))); go_simp; (with_reducible refine hK _ ?_); clear hK K) | (refine Or.inl ⟨?_, ?_⟩; (focus (go_simp; done)); apply Exists.intro; refine And.intro ?_ ?_; (focus (first | (intro wq hq; obtain ⟨hcq, hfq⟩ := G.old hq; go_simp; (first | done | exact rfl); done) | (intro wq; go_simp; (first | done | exact rfl); done))); go_simp; (with_reducible refine hK _ ?_); clear hK K) | fail))
      (with_reducible refine ord_run ?_ hG)
      intro K hK
      go_simp
      go_at_call 70; (with_reducible refine (cloneV_any ok dj _ _ (ht2.out.grow (G.trans hG1 hb3))).mono ?_); rintro e' w4 ⟨cs2, rfl, q2, hb4⟩; obtain ⟨kc, ic, sc, tc, A5, n5, c5, B5, m5, e5, rfl⟩ := tree_shape q2; replace q2 := Lib.hid q2
      replace hG := Grew.trans hG hb4
      (try dsimp only)
      (with_reducible refine hK _ _ hG ?_)
      clear hK K
      (repeat ((first | (with_reducible refine ord_q1 ?_) | (with_reducible refine ord_q0 ?_)); intro K hK; first | (refine Or.inr ⟨?_, ?_⟩; (focus (go_simp; first | done | (simp [undef]; done))); go_simp; (with_reducible refine hK _ ?_); clear hK K) | (refine Or.inl ⟨?_, ?_⟩; (focus (go_simp; done)); apply Exists.intro; refine And.intro ?_ ?_; (focus (first | (intro wq hq; obtain ⟨hcq, hfq⟩ := G.old hq; go_simp; (first | done | exact rfl); done) | (intro wq; go_simp; (first | done | exact rfl); done))); go_simp; (with_reducible refine hK _ ?_); clear hK K) | fail))
      have hb34 : Below wr.heap.size wr w4 := G.trans (G.trans hG1 hb3) hb4
      have z0 := y.grow hG.b
      have hs3 := hb3.size
      have hs4 := hb4.size
      obtain ⟨y0, y1, y2, y3, y4, y5, y6, y7, y8, y9, y10⟩ := z0.c11
      obtain ⟨g0, g1, g2, g3, g4, g5, g6, g7, g8, g9, g10⟩ := z0.f11
      ((with_reducible refine ord_tail ?_); intro K hK; go_simp; (with_reducible refine hK _ _ ?_); clear hK K)
      (repeat ((first | (with_reducible refine ord_q1 ?_) | (with_reducible refine ord_q0 ?_)); intro K hK; first | (refine Or.inr ⟨?_, ?_⟩; (focus (go_simp; first | done | (simp [undef]; done))); go_simp; (with_reducible refine hK _ ?_); clear hK K) | (refine Or.inl ⟨?_, ?_⟩; (focus (go_simp; done)); apply Exists.intro; refine And.intro ?_ ?_; (focus (first | (intro wq hq; obtain ⟨hcq, hfq⟩ := G.old hq; go_simp; (first | done | exact rfl); done) | (intro wq; go_simp; (first | done | exact rfl); done))); go_simp; (with_reducible refine hK _ ?_); clear hK K) | fail))
      ((with_reducible refine ord_tail ?_); intro K hK; go_simp; (with_reducible refine hK _ _ ?_); clear hK K)
      (with_reducible refine ord_nil ?_)
      clear y0 y1 y2 y3 y4 y5 y6 y7 y8 y9 y10 g0 g1 g2 g3 g4 g5 g6 g7 g8 g9 g10
      obtain ⟨wF, hF⟩ : ∃ wF, wF = (w4.setCells wr.heap.size 0 [.int .i64 ej, .slice A4 pj.length c4]).setCells wr.heap.size 5 [.int .i64 kc, .int .i64 ic, .int .i64 sc, .string tc, .slice A5 n5 c5, .slice B5 m5 e5] := ⟨_, rfl⟩
      have z : Bx wF wr.heap.size [.int .i64 ej, .slice A4 pj.length c4, .string sv, .int .i64 call, .bool undo, .int .i64 kc, .int .i64 ic, .int .i64 sc, .string tc, .slice A5 n5 c5, .slice B5 m5 e5] := by
        rw [hF]; exact Bx.put (Bx.put (Bx.put (Bx.put (Bx.put (Bx.put (Bx.put (Bx.put z0 rfl) rfl) rfl) rfl) rfl) rfl) rfl) rfl
      have zb : Below wr.heap.size wr wF := by rw [hF]; exact Below.setCells' (Nat.le_refl _) _ _ _ (Below.setCells' (Nat.le_refl _) _ _ _ hb34)
      have hny : ¬ From w0.heap.size wr.heap.size := Nat.not_le_of_lt (Nat.lt_of_lt_of_le lty hs00)
      have zk : Keeps (From w0.heap.size) w4 wF := by rw [hF]; exact Keeps.setCells hny _ _ _ (Keeps.setCells hny _ _ _ (Keeps.refl _ _))
      change Exit.then _ _ Exit.normal _ ((w4.setCells wr.heap.size 0 [.int .i64 ej, .slice A4 pj.length c4]).setCells wr.heap.size 5 [.int .i64 kc, .int .i64 ic, .int .i64 sc, .string tc, .slice A5 n5 c5, .slice B5 m5 e5])
      rw [← hF]
      clear hF
      obtain ⟨y0, y1, y2, y3, y4, y5, y6, y7, y8, y9, y10⟩ := z.c11
      have x3F := x3.grow zb
      have i10 := (x3F.2 10 _ rfl).1
      have hownF := own_grow hown zb
      have hz := hown.1
      have hol' := Lib.hid fun q hq => hown.lt q hq
      have hsF := zb.size
      have hszr' := hszr.out
      have hreqF : ReqV (Beside w2.heap.size (.slice Rr j cr)) wF [.int .i64 ej, .slice A4 pj.length c4, .string sv, .int .i64 call, .bool undo, .int .i64 kc, .int .i64 ic, .int .i64 sc, .string tc, .slice A5 n5 c5, .slice B5 m5 e5] ej pj := by
        have hbs : ∀ b, b < wF.heap.size → w0.heap.size ≤ b → Beside w2.heap.size (.slice Rr j cr) b := fun b _ hb => ⟨Nat.le_trans hszr' (Nat.le_trans hs0 hb), fun e => absurd (Nat.le_trans hs0 hb) (Nat.not_le_of_lt (hol'.out b e).2)⟩
        refine ⟨A4, pj.length, c4, sv, call, undo, [.int .i64 kc, .int .i64 ic, .int .i64 sc, .string tc, .slice A5 n5 c5, .slice B5 m5 e5], dj, rfl, ?_, ?_⟩
        · exact (((q1.grow hb4).keep zk).mono hbs)
        · exact (q2.out.keep (zk.mono fun b (hb : w3.heap.size ≤ b) => by show w0.heap.size ≤ b; omega)).mono fun b h1 (h2 : w3.heap.size ≤ b) => hbs b h1 (by omega)
      replace hreqF := Lib.hid hreqF
      clear q1 q2 hb3 hb4 hb34 hG1 hba hG y z0 zk
      go_wp2_with (at_builtin; refine wpList_appB rfl (.tmp 26) (.tmp 28) _ rfl w2.heap.size 91 i0 _ 11 152 Try.underlying31 hi0 hz0 hz1 hz2 rfl (by decide) (.slice Rr j cr) j zs rfl (hownF.alloc _) (some ⟨wF.heap.size, 0, none⟩) 1 1 [.int .i64 ej, .slice A4 pj.length c4, .string sv, .int .i64 call, .bool undo, .int .i64 kc, .int .i64 ic, .int .i64 sc, .string tc, .slice A5 n5 c5, .slice B5 m5 e5] rfl (Sl.new rfl rfl) (by simp [Value.oneCell']) (by show _ ≤ 2 ^ 63 - 1; omega) (by omega) (by simp; omega) ?_; intro A6 c6 w6 hown6 hc6 hm6 hg6 hob6; obtain ⟨i10, f10⟩ := (x3F.below (w' := w6) (L := w2.heap.size) (Below.grown ((Below.refl _ _).alloc (by omega) _) hg6 (by simp; omega) (fun q hq => (hol'.out q hq).1)) lt3.out).2 10 _ rfl)
      have hb6 : Below w2.heap.size wF w6 := Below.grown ((Below.refl _ _).alloc (by omega) _) hg6 (by simp; omega) (fun q hq => (hol'.out q hq).1)
      have hb26 : Below w2.heap.size wr w6 := (zb.mono hszr').trans hb6
      have htr6 : Hid (∀ p, p < j + 1 → ∃ e pp, ReqV (Beside w2.heap.size (.slice A6 (j + 1) c6)) w6 (((zs ++ ([.int .i64 ej, .slice A4 pj.length c4, .string sv, .int .i64 call, .bool undo, .int .i64 kc, .int .i64 ic, .int .i64 sc, .string tc, .slice A5 n5 c5, .slice B5 m5 e5] : List Value)).drop (p * 11)).take 11) e pp ∧ (p = 0 → it.e = e ∧ it.p = pp)) := by
        intro p hp
        rcases Nat.lt_or_ge p j with hpj | hpj
        · obtain ⟨e, pp, h1, h2⟩ := htr.out p hpj
          rw [chunk_old hz hpj]
          exact ⟨e, pp, (((h1.keep (Keeps.of_below zb)).keep (Keeps.of_below (G.alloc (G.refl _) _))).appended hg6 hob6), h2⟩
        · obtain rfl : p = j := by omega
          rw [chunk_new hz rfl]
          exact ⟨ej, pj, ((hreqF.out.keep (Keeps.of_below (G.alloc (G.refl _) _))).appended hg6 hob6), hej.out⟩
      have hs1' := hs1.out
      have hs2' := hs2.out
      have lt3' := lt3.out
      have hs6 := hb26.size
      refine ⟨⟨j + 1, A6, c6, _, by omega, by go_num, (hbr.trans (hb26.mono (by omega))).setCell (by simp; omega) _, (hkr.trans' hszr' hb26).setCell (by simp) _, by unfold Hid; simp [World.setCell]; omega, Bx.other (x1.below hb26 (by omega)) (by simp; omega) _, Bx.other (x2.below hb26 (by omega)) (by simp; omega) _, Bx.put (x3.below hb26 (by omega)) rfl, own_keep hown6 ((Keeps.refl _ _).setCell (by simp; omega) _), fun p hp => let ⟨e, pp, h1, h2⟩ := htr6.out p hp; ⟨e, pp, h1.keep ((Keeps.refl _ _).setCell (fun h => by have := h.1; simp at this; omega) _), h2⟩⟩, ?_⟩
      simp [intOf]; omega
    · obtain rfl : j = r := by omega
      obtain ⟨a0, a1, a2, a3, a4, a5, a6, a7, a8, a9, a10⟩ := x2.c11
      obtain ⟨g0, g1, g2, g3, g4, g5, g6, g7, g8, g9, g10⟩ := x2.f11
      obtain ⟨d0, d1, d2, d3, d4, d5, d6, d7, d8, d9, d10⟩ := x3.c11
      go_wp2_with fail
      clear a0 a1 a2 a3 a4 a5 a6 a7 a8 a9 a10 g0 g1 g2 g3 g4 g5 g6 g7 g8 g9 g10 d0 d1 d2 d3 d4 d5 d6 d7 d8 d9 d10
      obtain ⟨wF, hF⟩ : ∃ wF, wF = wr.setCells (w.heap.size + 1) 0 [.int .i64 me, .slice A' mp.length c', .int .i64 mass, .slice O' os.length lc', .int .i64 k', .int .i64 i', .int .i64 s', .string t', .slice BA' bn' bc', .slice BB' bm' bd', .slice Rr j cr] := ⟨_, rfl⟩
      have z : Bx wF (w.heap.size + 1) [.int .i64 me, .slice A' mp.length c', .int .i64 mass, .slice O' os.length lc', .int .i64 k', .int .i64 i', .int .i64 s', .string t', .slice BA' bn' bc', .slice BB' bm' bd', .slice Rr j cr] := by rw [hF]; exact x2.fill rfl
      have zb : Below w.heap.size w wF := by rw [hF]; exact Below.setCells' (by omega) _ _ _ hbr
      have zk : Keeps (fun b => w.heap.size + 1 < b) wr wF := by rw [hF]; exact Keeps.setCells (by simp) _ _ _ (Keeps.refl _ _)
      change bodyPost _ _ _ Exit.ret _ (wr.setCells (w.heap.size + 1) 0 [.int .i64 me, .slice A' mp.length c', .int .i64 mass, .slice O' os.length lc', .int .i64 k', .int .i64 i', .int .i64 s', .string t', .slice BA' bn' bc', .slice BB' bm' bd', .slice Rr j cr])
      rw [← hF]
      clear hF
      obtain ⟨y0, y1, y2, y3, y4, y5, y6, y7, y8, y9, y10⟩ := z.c11
      have hs1' := hs1.out
      have hs2' := hs2.out
      have hk3 := (hkr.trans (zk.mono fun b hb => hb.1))
      have hup : ∀ b, b < w1.heap.size → From (w.heap.size + 1 + 1) b → w.heap.size + 1 < b ∧ b ≠ w1.heap.size := fun b h1 (h2 : _ ≤ b) => by omega
      refine bodyPost_ret (v := .agg #[.int .i64 me, .slice A' mp.length c', .int .i64 mass, .slice O' os.length lc', .int .i64 k', .int .i64 i', .int .i64 s', .string t', .slice BA' bn' bc', .slice BB' bm' bd', .slice Rr j cr]) (by simp only [results, Try.results46]; go_simp) rfl ⟨[.int .i64 me, .slice A' mp.length c', .int .i64 mass, .slice O' os.length lc', .int .i64 k', .int .i64 i', .int .i64 s', .string t', .slice BA' bn' bc', .slice BB' bm' bd', .slice Rr j cr], rfl, ?_, zb⟩
      refine ⟨me, A', mp.length, c', mp, O', os.length, lc', os, k', i', s', t', BA', bn', bc', BB', bm', bd', Rr, cr, zs, d, by rw [hmass.out, hr.out], ?_, ?_, ?_, by rw [hr.out]; exact h4, ?_, fun p hp => ?_, fun h0 => h7.out (by rw [← hr.out]; exact h0)⟩
      · exact (((p1.out.mono hup).keep (Keeps.of_below hb2)).keep hk3).mono fun b _ hb => by have := hb.1; show w.heap.size ≤ b; omega
      · exact (((p2.out.mono hup).keep (Keeps.of_below hb2)).keep hk3).mono fun b _ hb => by have := hb.1; show w.heap.size ≤ b; omega
      · exact (((p3.out.mono hup).keep (Keeps.of_below hb2)).keep hk3).mono fun b _ hb => by have := hb.1; show w.heap.size ≤ b; omega
      · rw [hr.out]
        exact ((Rw.of_own hown).keep (zk.mono fun b (hb : w2.heap.size ≤ b) => by omega)).mono (by decide) fun b _ (hb : w2.heap.size ≤ b) => by show w.heap.size ≤ b; omega
      · rw [hr.out] at hp
        obtain ⟨e, pp, h1, h2⟩ := htr.out p hp
        exact ⟨e, pp, (h1.keep (zk.mono fun b hb => by have := hb.1; omega)).mono fun b _ hb => by have := hb.1; show w.heap.size ≤ b; omega, h2⟩
end Go.Proofs.Ytjldpodehffbnaa
