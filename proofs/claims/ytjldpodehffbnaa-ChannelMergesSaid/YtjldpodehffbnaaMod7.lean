/- The operations of a channel and of its model, as play calls them. -/
import Derived.Test.YtjldpodehffbnaaMod6
namespace Go.Proofs.Ytjldpodehffbnaa
set_option linter.unusedVariables false
set_option linter.unnecessarySimpa false
set_option linter.unusedSimpArgs false
open Go.RowKit

theorem zero_z : zeroP 0 0 0 0 (nullP 0 0 0 ⟨#[]⟩ 0 0) = true := by
  have : (⟨#[]⟩ : ByteArray).toList = [] := by rw [← List.length_eq_zero_iff]; simp [ByteArray.toList_mk]
  unfold zeroP nullP
  rw [this]
  rfl
section
variable {ok : Nat → Prop} {base K : Nat} {w w' : World} {b r mb : Nat} {c c' c1 c2 : Ch} {A A' : Option Addr}
theorem PlayW.mbelow {L : Nat} (h : PlayW ok base w b r mb c1 c2 A) (hc : MChg mb A w w') (hL : L ≤ base) (hmb : L ≤ mb) : Below L w w' :=
  hc.below hmb (fun ad e => Nat.le_trans hL (h.2.1.rowA e).1) (Nat.le_trans hL h.2.2.1.2.2.2.2.2)
theorem PlayW.cbelow {L : Nat} (h : PlayW ok base w b r mb c1 c2 A) (hc : Chg b r w w') (hL : L ≤ base) (hb : L ≤ b) (hr : L ≤ r) : Below L w w' := hc.below hb hr (Nat.le_trans hL h.2.2.1.2.2.2.2.2)
theorem PlayW.row (h : PlayW ok base w b r mb c1 c2 A) : ∀ ad, A = some ad → base ≤ ad.block := fun ad e => (h.2.1.rowA e).1
theorem PlayW.mod (h : PlayW ok base w b r mb c1 c2 A) : ModR (okP b r mb ok) base w mb c2 A := h.2.1
theorem PlayW.chn (h : PlayW ok base w b r mb c1 c2 A) : ChanAt (OkM (okP b r mb ok) A) w b r c1 := h.1
/-- A fresh block beside a channel and its model. -/
def Apart (b r mb : Nat) (A : Option Addr) (T : Nat) : Prop := T ≠ b ∧ T ≠ r ∧ T ≠ mb ∧ ∀ ad, A = some ad → ad.block ≠ T
theorem PlayW.apart (h : PlayW ok base w b r mb c1 c2 A) {T : Nat} (hT : w.heap.size ≤ T) : Apart b r mb A T := by
  obtain ⟨h1, h2, h3, h4⟩ := h
  exact ⟨by omega, by omega, by omega, fun ad e => by have := h2.rowA e; omega⟩
theorem Apart.chan {T : Nat} {l : List Value} (h : Apart b r mb A T) (hx : Bx w T l) (hc : Chg b r w w') : Bx w' T l := hx.keep hc.2 ⟨h.1, h.2.1⟩
theorem Apart.model {T : Nat} {l : List Value} (h : Apart b r mb A T) (hx : Bx w T l) (hc : MChg mb A w w') : Bx w' T l := hx.keep hc.2 ⟨h.2.2.1, h.2.2.2⟩
theorem cputP (h : PlayW ok base w b r mb c c A) {cs : List Value} {it : It} (hi : ItemV (OkM (okP b r mb ok) A) w cs it) {v : Int} {c' : Ch} (hpc : putC (chkI (zeroC cs) it) c it = (v, c')) :
    Calls Try.prog 22 #[.pointer (some ⟨b, 0, none⟩), .agg cs.toArray] w fun e w' => e = .returned (.int .i64 v) ∧ PlayW ok base w' b r mb c' c A ∧ Chg b r w w' := by
  refine (put_any h.1 hi h.fresh).mono fun e w' hp => ?_
  obtain ⟨he, hC, hch⟩ := hp
  rw [hpc] at he hC
  exact ⟨he, h.chan hch hC, hch⟩
theorem mputP (h : PlayW ok base w b r mb c' c A) (hm : Made K c) (hK : K ≤ 1024) {cs : List Value} {it : It} (hi : ItemV (OkM (okP b r mb ok) A) w cs it) {v : Int} (hpc : putC (chkI (zeroC cs) it) c it = (v, c')) :
    Calls Try.prog 51 #[.pointer (some ⟨mb, 0, none⟩), .agg cs.toArray] w fun e w' => e = .returned (.int .i64 v) ∧ MChg mb A w w' ∧ ∃ A', PlayW ok base w' b r mb c' c' A' := by
  refine (mput_any h.2.1 hi h.freshP (fun k => k.2.2.2 rfl) h.2.2.1.2.2.1 h.2.2.1.2.2.2.2.2 (by rw [hm.base.1]; exact hK)).mono fun e w' hp => ?_
  obtain ⟨he, A', hA, hM, hc⟩ := hp
  rw [hm.putM, hpc] at he hM
  exact ⟨he, hc, A', h.model hc hA hM⟩
theorem cadvP (h : PlayW ok base w b r mb c c A) {e : Int} {P : Option Addr} {n cc : Nat} {p : List Int} (hp : PathIs (OkM (okP b r mb ok) A) w P n cc p) {v : Int} {c' : Ch} (hpc : advC c e p = (v, c')) :
    Calls Try.prog 19 #[.pointer (some ⟨b, 0, none⟩), .agg #[.int .i64 e, .slice P n cc]] w fun e' w' => e' = .returned (.int .i64 v) ∧ PlayW ok base w' b r mb c' c A ∧ Chg b r w w' := by
  refine (advance_any h.1 hp h.fresh).mono fun e w' hp => ?_
  obtain ⟨he, hC, hch⟩ := hp
  rw [hpc] at he hC
  exact ⟨he, h.chan hch hC, hch⟩
theorem madvP (h : PlayW ok base w b r mb c' c A) {e : Int} {P : Option Addr} {n cc : Nat} {p : List Int} (hp : PathIs (OkM (okP b r mb ok) A) w P n cc p) {v : Int} (hpc : advC c e p = (v, c')) :
    Calls Try.prog 52 #[.pointer (some ⟨mb, 0, none⟩), .agg #[.int .i64 e, .slice P n cc]] w fun e' w' => e' = .returned (.int .i64 v) ∧ MChg mb A w w' ∧ PlayW ok base w' b r mb c' c' A := by
  have h2 := h.2.1
  obtain ⟨q, xs, P1, P2, n1, c1, n2, c2, hI⟩ := h2
  refine (madv_any hI hp).mono fun e w' hp => ?_
  obtain ⟨he, ⟨P1', n1', c1', hI'⟩, hb, hk⟩ := hp
  rw [hpc] at he hI'
  have hc : MChg mb A w w' := ⟨hb, hk.mono fun x hx => hx.1⟩
  exact ⟨he, hc, h.model hc (.inl rfl) ⟨q, xs, P1', P2, n1', c1', n2, c2, hI'⟩⟩
theorem ctakeP (h : PlayW ok base w b r mb c c A) {it : It} {l : List It} (hl : c.items = it :: l) :
    Calls Try.prog 24 #[.pointer (some ⟨b, 0, none⟩)] w fun e w' => ∃ cs, e = .returned (.tuple #[.agg cs.toArray, .int .i64 0]) ∧ ItemV (OkM (okP b r mb ok) A) w' cs it ∧ PlayW ok base w' b r mb { c with items := l } c A ∧ Chg b r w w' := by
  refine (take1_any h.1 hl).mono fun e w' hp => ?_
  obtain ⟨cs, he, hi, hC, hch⟩ := hp
  exact ⟨cs, he, hi, h.chan hch hC, hch⟩
/-- The model without its first item. -/
theorem PlayW.cut (h : PlayW ok base w b r mb c1 c A) {it : It} {l : List It} (hl : c.items = it :: l) :
    ∃ g off q P1 n1 s1 P2 n2 s2, A = some ⟨g, off, none⟩ ∧ Bx w mb [.int .i64 c.cap, .slice (some ⟨g, off, none⟩) (l.length + 1) (q + 1), .int .i64 c.me, .slice P1 n1 s1, .int .i64 c.le, .slice P2 n2 s2] ∧ l.length ≤ q ∧ q + 1 ≤ maxLen ∧
      ∀ off', q = 0 ∨ off' = off + 11 → PlayW ok base (w.setCell ⟨mb, 1, none⟩ (.slice (some ⟨g, off', none⟩) l.length q)) b r mb c1 { c with items := l } (some ⟨g, off', none⟩) ∧ MChg mb A w (w.setCell ⟨mb, 1, none⟩ (.slice (some ⟨g, off', none⟩) l.length q)) := by
  have h2 := h.2.1
  obtain ⟨q, xs, P1, P2, n1, s1, n2, s2, h1, h2, h3, h4, h5, h6, h7⟩ := h2
  have hlen : c.items.length = l.length + 1 := by rw [hl]; rfl
  rw [hlen] at h1 h2
  have hq := h2.1
  have hqm := h2.2.1
  obtain ⟨q, rfl⟩ : ∃ q', q = q' + 1 := ⟨q - 1, by omega⟩
  rcases id h2.2.2.2 with ⟨_, he, _⟩ | ⟨g, off, rfl, hg, hgl, hr, hc⟩
  · omega
  have hgm := (h7 _ rfl).2
  dsimp only at hgm
  refine ⟨g, off, q, P1, n1, s1, P2, n2, s2, rfl, h1, by omega, hqm, fun off' hoff => ?_⟩
  have hch : MChg mb (some ⟨g, off, none⟩) w (w.setCell ⟨mb, 1, none⟩ (.slice (some ⟨g, off', none⟩) l.length q)) := ⟨(Below.refl _ _).setCell (Nat.zero_le _) _, (Keeps.refl _ _).setCell (fun h => h.1 rfl) _⟩
  have hok : ∀ x, OkM (okP b r mb ok) (some ⟨g, off, none⟩) x → OkM (okP b r mb ok) (some ⟨g, off', none⟩) x := fun x ho => ⟨ho.1, fun ad e => by cases e; exact (ho.2 ⟨g, off, none⟩ rfl : g ≠ x)⟩
  have hk : Keeps (OkM (okP b r mb ok) (some ⟨g, off, none⟩)) w (w.setCell ⟨mb, 1, none⟩ (.slice (some ⟨g, off', none⟩) l.length q)) := (Keeps.refl _ _).setCell h6 _
  have hO : OwnO w base 11 (some ⟨g, off', none⟩) l.length q (xs.drop 11) := by
    rcases hoff with h0 | rfl
    · subst h0
      have hl0 : l.length = 0 := by omega
      have hx := h2.2.2.1
      rw [hl0] at hx ⊢
      have hd : xs.drop 11 = [] := List.eq_nil_of_length_eq_zero (by rw [List.length_drop, hx])
      rw [hd]
      exact ⟨Nat.le_refl _, Nat.zero_le _, rfl, .inr ⟨g, off', rfl, hg, hgl, fun k hk => by omega, fun j u hu => by simp at hu⟩⟩
    · exact h2.tail
  refine ⟨h.model hch (.inl rfl) ⟨q, xs.drop 11, P1, P2, n1, s1, n2, s2, Bx.put h1 rfl, ?_, fun j it' hj => ?_, ?_, ?_, ?_, ?_⟩, hch⟩
  · exact hO.block (by simp [World.setCell]) (fun ad e => by cases e; exact Below.heap_setCell _ _ _ _ hgm)
  · have := (h3 (j + 1) it' (by rw [hl]; exact hj)).keep hk
    rw [List.drop_drop, show 11 + j * 11 = (j + 1) * 11 by omega]
    exact this.mono fun x _ ho => hok x ho
  · exact (h4.keep hk).mono fun x _ ho => hok x ho
  · exact (h5.keep hk).mono fun x _ ho => hok x ho
  · exact fun h => h6 ⟨h.1, fun ad e => by cases e; exact (h.2 ⟨g, off', none⟩ rfl : g ≠ mb)⟩
  · intro ad e
    cases e
    exact ⟨fun h => h.2 _ rfl rfl, hgm⟩
theorem isP (h : PlayW ok base w b r mb c c A) : Calls Try.prog 36 #[.pointer (some ⟨mb, 0, none⟩), .pointer (some ⟨b, 0, none⟩)] w fun e w' => e = .returned (.bool true) ∧ Below w.heap.size w w' := is_any h.2.1 h.1
end
end Go.Proofs.Ytjldpodehffbnaa
