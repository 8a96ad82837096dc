/- NetworkPlays: the rounds joined, the loop. (Printed by gen_plays.py.) -/
import Derived.Test.YtengpfpeeihaoaaPl6
import Derived.Test.YtengpfpeeihaoaaPl8
import Derived.Test.YtengpfpeeihaoaaPl9
namespace Go.Proofs.Ytengpfpeeihaoaa
open Go.RowKit
set_option linter.unusedVariables false
set_option linter.unusedSimpArgs false

theorem CallAt.ext {w w' : World} {bl o : Nat} {i0 i1 i2 i3 y f t : Int} {a : Option Addr} {m c : Nat} (h : CallAt w bl o i0 i1 i2 i3 y f t a m c) (e : Ext w w') : CallAt w' bl o i0 i1 i2 i3 y f t a m c :=
  ⟨hE3 e h.c0, hE3 e h.c1, hE3 e h.c2, hE3 e h.c3, hE3 e h.c4, hE3 e h.c5, hE3 e h.c6, hE3 e h.c7⟩
/-- what is told of the list of calls -/
def Elems (w0 : World) (Al : Option Addr) (nl : Nat) : Prop := ∀ j, j < nl → ∃ (bl ol : Nat) (i0 i1 i2 i3 y f t : Int) (a : Option Addr) (m c : Nat) (l : List UInt8) (yb : UInt8), Al = some ⟨bl, ol, none⟩ ∧ CallAt w0 bl (ol + j * 8) i0 i1 i2 i3 y f t a m c ∧ SlB w0 a m c l ∧ y = (yb.toNat : Int)
set_option maxRecDepth 100000 in
set_option maxHeartbeats 2000000 in
theorem round_any (w0 : World) (B b b2 : Nat) (p ask : Int) (Al : Option Addr) (nl cl : Nat) (Q0 : Exit → Act → World → Prop) (hexit : ∀ a' w'', PX w0 B b b2 p ask a' w'' → Q0 (.exit 0) a' w'') (hnl : nl ≤ 9223372036854775807) (hp : p ≤ 62) (hB0 : w0.heap.size ≤ B) (hel : Elems w0 Al nl)
    (act : Act) (wr : World) (hI : PI w0 B b b2 p ask Al nl cl act wr) :
    Code.wp Try.prog ((Try.f5.body.bind firstLoop).getD .skip) (Exit.then (fun a' w'' => PI w0 B b b2 p ask Al nl cl a' w'' ∧ Pmu nl a' w'' < Pmu nl act wr) Q0) act wr := by
  obtain ⟨h1, h2, h3, h7, h8, h30, h31, k, h32, hk, hrel⟩ := hI
  have hmu : Pmu nl act wr = nl - k := by unfold Pmu; rw [h32]; simp [intOf]
  rw [hmu]
  obtain ⟨u, ha, hu⟩ := act_eq act h1 h2
  have e2 := (hu 2).trans h3
  have e7 := (hu 7).trans h7
  have e8 := (hu 8).trans h8
  have e30 := (hu 30).trans h30
  have e31 := (hu 31).trans h31
  have e32 := (hu 32).trans h32
  rw [ha, e2, e7, e8, e30, e31, e32]
  clear ha hu h1 h2 h3 h7 h8 h30 h31 h32 hmu e2 e7 e8 e30 e31 e32
  by_cases hlt : k < nl
  · obtain ⟨bl, ol, i0, i1, i2, i3, y, f, t, a, m, c, l, yb, rfl, hc, hs, hy⟩ := hel k hlt
    have hE : Ext w0 wr := by obtain ⟨X, Y, _, _, _, _, hE⟩ := hrel; exact hE
    have hc := hc.ext hE
    have hm : m ≤ 9223372036854775807 := Nat.le_trans hs.le hs.cap
    by_cases hbr : 80 ≤ k ∨ 1000 < m
    · exact case_break w0 B b b2 p ask bl ol nl cl k wr u Q0 hexit hlt hnl hrel _ i0 i1 i2 i3 y f t a m c hc hm hbr
    · have hk80 : k < 80 := by omega
      have hm1 : m ≤ 1000 := by omega
      by_cases d0 : i0 = 0
      · exact case_send w0 B b b2 p ask bl ol nl cl k wr u Q0 hlt hnl hrel hp hB0 i0 i1 i2 i3 y f t a m c l hc hs hk80 hm1 d0
      by_cases d1 : i0 = 1
      · exact case_take w0 B b b2 p ask bl ol nl cl k wr u Q0 hlt hnl hrel hp hB0 i0 i1 i2 i3 y f t a m c l hc hs hk80 hm1 d1
      by_cases d2 : i0 = 2
      · exact case_dup w0 B b b2 p ask bl ol nl cl k wr u Q0 hlt hnl hrel hp hB0 i0 i1 i2 i3 y f t a m c l hc hs hk80 hm1 d2
      by_cases d3 : i0 = 3
      · exact case_cor w0 B b b2 p ask bl ol nl cl k wr u Q0 hlt hnl hrel hp hB0 i0 i1 i2 i3 y f t a m c l hc hs hk80 hm1 d3 yb hy
      by_cases d4 : i0 = 4
      · exact case_flow w0 B b b2 p ask bl ol nl cl k wr u Q0 hlt hnl hrel hp hB0 i0 i1 i2 i3 y f t a m c l hc hs hk80 hm1 d4
      · exact case_disc w0 B b b2 p ask bl ol nl cl k wr u Q0 hlt hnl hrel hp hB0 i0 i1 i2 i3 y f t a m c l hc hs hk80 hm1 ⟨d0, d1, d2, d3, d4⟩
  · exact case_end w0 B b b2 p ask Al nl cl k wr u Q0 hexit (by omega) hnl hrel _
theorem loop_any (w0 : World) (B b b2 : Nat) (p ask : Int) (Al : Option Addr) (nl cl : Nat) (Q0 : Exit → Act → World → Prop) (hexit : ∀ a' w'', PX w0 B b b2 p ask a' w'' → Q0 (.exit 0) a' w'') (hnl : nl ≤ 9223372036854775807) (hp : p ≤ 62) (hB0 : w0.heap.size ≤ B) (hel : Elems w0 Al nl)
    (act : Act) (wr : World) (hI : PI w0 B b b2 p ask Al nl cl act wr) : Code.wp Try.prog (Code.loop ((Try.f5.body.bind firstLoop).getD .skip)) Q0 act wr :=
  wp_loop (PI w0 B b b2 p ask Al nl cl) (Pmu nl) hI (fun a w h => round_any w0 B b b2 p ask Al nl cl Q0 hexit hnl hp hB0 hel a w h)
end Go.Proofs.Ytengpfpeeihaoaa
