/- EncodeBlock. -/
import Derived.Test.YtjlnmpjffogpdaaBk2
namespace Go.Proofs.Ytjlnmpjffogpdaa
open Go.RowKit
set_option linter.unusedVariables false
set_option linter.unusedSimpArgs false
attribute [local go_sem ↓] Go.wp_at_zero Go.wp_at_succ

/-- the text of some pairs -/
def encC (L : List (Int × UInt64)) : List UInt8 := L.flatMap fun x => toB x.1 :: nmb x.2
theorem encC_length (L : List (Int × UInt64)) : (encC L).length = 9 * L.length := by
  induction L with
  | nil => rfl
  | cons x r ih =>
    have : encC (x :: r) = (toB x.1 :: nmb x.2) ++ encC r := by simp [encC]
    rw [this, List.length_append, ih, List.length_cons, List.length_cons, nmb_length]; omega
theorem encC_append (a b : List (Int × UInt64)) : encC (a ++ b) = encC a ++ encC b := by simp [encC]
def encBlk (p : UInt64) (L : List (Int × UInt64)) : List UInt8 := ([3] ++ nmb p) ++ [toB (L.length : Int)] ++ encC L
theorem encBlk_length (p : UInt64) (L : List (Int × UInt64)) : (encBlk p L).length = 10 + 9 * L.length := by
  simp [encBlk, encC_length, nmb_length]; omega
/-- a slice literal of one byte is one's own -/
theorem own_lit1 (w : World) (base : Nat) (e : TypeId) (z : Int) (b : UInt8) (g : Nat) (hg : w.heap.size = g) (hb : base ≤ g) (hz : z = (b.toNat : Int)) : OwnB (w.alloc (.cells #[.int .u8 z] e)) base e (some ⟨g, 0, none⟩) 1 1 [b] := by
  subst hg; subst hz
  exact own_cells (heap_alloc_new w _) hb rfl (Nat.le_refl _) (by omega) rfl rfl
theorem toB_wrap (z : Int) : IntKind.u8.wrap z = ((toB z).toNat : Int) := by rw [← toB_eq, IntKind.wrap_u8]
/-- append to bytes of one's own at a step of a drawn region: what became of the world, whole -/
theorem step_appBG {P : Program} {t e : TypeId} {ops : Array Oper} {o : Oper} {a : Act} {w : World} {K : Act → World → Prop} {Q : Exit → Act → World → Prop} {X : Prop} (E : Elem P t e (.int .u8 0) 1 1) (hgd : o.guard = none) (s x : Operand)
    (ho : o.op = .call { callee := .builtin .append, args := #[s, x], argTypes := #[t, t] })
    (base : Nat) (A : Option Addr) (n c : Nat) (l : List UInt8) (hs : a.eval s = .slice A n c) (hown : OwnB w base e A n c l)
    (A2 : Option Addr) (m c2 : Nat) (l2 : List UInt8) (hx : a.eval x = .slice A2 m c2) (hr : SlB w A2 m c2 l2)
    (hb : n + m ≤ 140737488355328) (hbase : base ≤ w.heap.size)
    (h : ∀ A' c' w', OwnB w' base e A' (n + m) c' (l ++ l2) → w.grownBy w' (Value.ownBlock (.slice A n c)) → K (a.put o.dst (.slice A' (n + m) c')) w') : if Region.wanted o (yielded ops a.tmps) = true then Oper.wp P o a w K Q else X := by
  have hw : Region.wanted o (yielded ops a.tmps) = true := by simp [Region.wanted, hgd]
  rw [if_pos hw]
  refine wp_app E s x ho base A n c (bcs l) hs hown A2 m c2 (bcs l2) hx hr.rd (by rw [bcs_length, hr.len, Nat.mul_one]) (bcs_one l2) (by omega) (by omega) hbase fun A' c' w' h2 h3 => h A' c' w' ?_ h3
  unfold OwnB; rw [bcs_append]; exact h2
theorem own_lt {w : World} {base : Nat} {e : TypeId} {A : Option Addr} {n c : Nat} {l : List UInt8} (h : OwnB w base e A n c l) : ∀ k, Value.ownBlock (.slice A n c) = some k → base ≤ k ∧ k < w.heap.size := fun k hk => World.ownsRow.lt h k hk
theorem below_grown {w0 w w' : World} {base : Nat} {e : TypeId} {A : Option Addr} {n c : Nat} {l : List UInt8} (h : OwnB w base e A n c l) (hb : Below base w0 w) (hs : base ≤ w.heap.size) (hg : w.grownBy w' (Value.ownBlock (.slice A n c))) : Below base w0 w' :=
  hb.grown hg hs (fun k hk => (own_lt h k hk).1)
/-- the name of a pair that lies in a block of the call's own, behind an append to older bytes -/
theorem pair_kept {w w' : World} {base : Nat} {e t : TypeId} {A : Option Addr} {n c : Nat} {l : List UInt8} {i : Int} {v : UInt64} {w2 : World} (h : OwnB w base e A n c l) (he : Ext (w.alloc (.cells (chA i v) t)) w2) (hg : w2.grownBy w' (Value.ownBlock (.slice A n c))) : SlB w' (some ⟨w.heap.size, 1, none⟩) 8 8 (nmb v) := by
  have hb := (Blk.new w t (chA i v)).ext he
  have hb' := hb.grown hg (by
    intro e
    have := (own_lt h _ e.symm).2
    omega)
  refine ⟨nmb_length v, Nat.le_refl _, by omega, .inr ⟨_, 1, rfl, ?_⟩⟩
  have := rangeAt_drop (k := 1) (rangeAt_of_blk hb')
  rw [bcs_nb8]; exact this
section
variable {o : Oper} {a : Act} {w : World} {ops : Array Oper} {rest : List Oper} {Q : Exit → Act → World → Prop}
end
end Go.Proofs.Ytjlnmpjffogpdaa
/- The empty payload, genesis and record; awake. -/
namespace Go.Proofs.Ytjlnmpjffogpdaa
open Go.RowKit
set_option linter.unusedVariables false
set_option linter.unusedSimpArgs false
attribute [local go_sem ↓] Go.wp_at_zero Go.wp_at_succ

abbrev recC0 : Array Value := #[.int .u8 0, .int .u8 0, .int .u8 0, .int .u8 0, .int .u8 0, .int .u8 0, .int .u8 0, .int .u8 0, .slice none 0 0, .slice none 0 0, .int .i64 0]
theorem appendUint_zero (A : Option Addr) (n c : Nat) (l : List UInt8) (wd : Nat) (hwd : wd ≤ 8) (w : World) (h : SlB w A n c l) (hn : n ≤ 140737488351232) :
    Calls Try.prog 51 #[.slice A n c, .int .u64 0, .int .i64 (wd : Int)] w fun e w' => ∃ A' c', e = .returned (.slice A' (n + wd) c') ∧ OwnB w' w.heap.size 5 A' (n + wd) c' (l ++ beBytes wd 0) ∧ Ext w w' :=
  appendUint_any A n c l 0 wd hwd w h hn
end Go.Proofs.Ytjlnmpjffogpdaa
