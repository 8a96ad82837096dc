/- DecodeBlock. -/
import Derived.Test.YtjlnmpjffogpdaaRe1
namespace Go.Proofs.Ytjlnmpjffogpdaa
open Go.RowKit
set_option linter.unusedVariables false
set_option linter.unusedSimpArgs false
attribute [local go_sem ↓] Go.wp_at_zero Go.wp_at_succ

@[go_sem] theorem fold_nmc9 (n : UInt64) : Array.foldl (fun (cs : Array Value) (x : Value × Nat) => cs.setIfInBounds x.snd x.fst) #[.int .u8 0, .int .u8 0, .int .u8 0, .int .u8 0, .int .u8 0, .int .u8 0, .int .u8 0, .int .u8 0, .slice none 0 0] (nmc n).zipIdx 0 8 = #[.int .u8 (nb8 n 0), .int .u8 (nb8 n 1), .int .u8 (nb8 n 2), .int .u8 (nb8 n 3), .int .u8 (nb8 n 4), .int .u8 (nb8 n 5), .int .u8 (nb8 n 6), .int .u8 (nb8 n 7), .slice none 0 0] := by
  rw [← nmc_nb8 n]
  kernel_rfl
@[go_sem] theorem fold_pair (i : Int) (n : UInt64) : Array.foldl (fun (cs : Array Value) (x : Value × Nat) => cs.setIfInBounds (1 + x.snd) x.fst) #[.int .i64 i, .int .u8 0, .int .u8 0, .int .u8 0, .int .u8 0, .int .u8 0, .int .u8 0, .int .u8 0, .int .u8 0] (nmc n).zipIdx 0 8 = #[.int .i64 i, .int .u8 (nb8 n 0), .int .u8 (nb8 n 1), .int .u8 (nb8 n 2), .int .u8 (nb8 n 3), .int .u8 (nb8 n 4), .int .u8 (nb8 n 5), .int .u8 (nb8 n 6), .int .u8 (nb8 n 7)] := by
  rw [← nmc_nb8 n]
  kernel_rfl
/-! what is read: pairs, one behind the other -/
def stC (s : Option (List UInt8)) : Nat → Option (List UInt8)
  | 0 => s
  | k + 1 => rRest 8 (rRest 1 (stC s k))
def ltC (s : Option (List UInt8)) (k : Nat) : List (Int × UInt64) := (List.range k).map fun j => (rNum 1 (stC s j), rName (rRest 1 (stC s j)))
theorem ltC_length (s : Option (List UInt8)) (k : Nat) : (ltC s k).length = k := by simp [ltC]
theorem ltC_succ (s : Option (List UInt8)) (k : Nat) : ltC s (k + 1) = ltC s k ++ [(rNum 1 (stC s k), rName (rRest 1 (stC s k)))] := by
  simp [ltC, List.range_succ]
/-- what DecodeBlock returns -/
def decBlk (l : List UInt8) : Option (UInt64 × List (Int × UInt64)) :=
  let s0 := openU l 3
  let s1 := rRest 8 s0
  let n := (rNum 1 s1).toNat
  let L := ltC (rRest 1 s1) n
  if stC (rRest 1 s1) n = some [] ∧ vldBlk L = true then some (rName s0, L) else none
/-- append to a row of one's own at a step of a drawn region -/
theorem step_appG' {P : Program} {t e : TypeId} {z : Value} {size bytes : Nat} {ops : Array Oper} {o : Oper} {a : Act} {w : World} {K : Act → World → Prop} {Q : Exit → Act → World → Prop} {X : Prop} (E : Elem P t e z size bytes) (hgd : o.guard = none) (s x : Operand)
    (ho : o.op = .call { callee := .builtin .append, args := #[s, x], argTypes := #[t, t] })
    (base : Nat) (A : Option Addr) (n c : Nat) (xs : List Value) (hs : a.eval s = .slice A n c) (hown : w.ownsRow base e size (.slice A n c) n xs)
    (A2 : Option Addr) (m c2 : Nat) (ys : List Value) (hx : a.eval x = .slice A2 m c2) (hr : Rd w A2 ys) (hl : ys.length = m * size) (h1 : ∀ u ∈ ys, u.oneCell' = true)
    (hb : (n + m) * bytes ≤ 140737488355328) (h63 : n + m ≤ 4611686018427387904) (hbase : base ≤ w.heap.size)
    (h : ∀ A' c' w', w'.ownsRow base e size (.slice A' (n + m) c') (n + m) (xs ++ ys) → w.grownBy w' (Value.ownBlock (.slice A n c)) → K (a.put o.dst (.slice A' (n + m) c')) w') : if Region.wanted o (yielded ops a.tmps) = true then Oper.wp P o a w K Q else X := by
  have hw : Region.wanted o (yielded ops a.tmps) = true := by simp [Region.wanted, hgd]
  rw [if_pos hw]
  exact wp_app E s x ho base A n c xs hs hown A2 m c2 ys hx hr hl h1 hb h63 hbase fun A' c' w' h2 h3 => h A' c' w' h2 h3
/-- a row of one's own does not lie in a block of another type -/
theorem own_other {w : World} {base : Nat} {e : TypeId} {size : Nat} {A : Option Addr} {n c : Nat} {xs : List Value} {X : Nat} {t : TypeId} {cs : Array Value} (h : w.ownsRow base e size (.slice A n c) n xs) (hb : Blk w X t cs) (hne : t ≠ e) : some X ≠ Value.ownBlock (.slice A n c) := by
  rcases h.2 with ⟨hv, _⟩ | ⟨g, cap, cur, hv, _, hh, _⟩
  · rw [hv]; simp [Value.ownBlock]
  · rw [hv]
    simp only [Value.ownBlock]
    intro e1
    injection e1 with e1
    subst e1
    unfold Blk at hb
    rw [hh] at hb
    injection hb with hb
    injection hb with _ hb
    exact hne hb.symm
abbrev zero9 : Array Value := #[.int .u8 0, .int .u8 0, .int .u8 0, .int .u8 0, .int .u8 0, .int .u8 0, .int .u8 0, .int .u8 0, .slice none 0 0]
theorem cur_blk {t : TypeId} {D : Nat} {w : World} {B : Nat} {s : Option (List UInt8)} (h : CurAt t D w B s) : ∃ cs, Blk w B t cs := by
  obtain ⟨A, n, c, l, k, hB, _⟩ := h; exact ⟨_, hB⟩
theorem blk_ne {w : World} {X B : Nat} {t t' : TypeId} {cs cs' : Array Value} (h : Blk w X t cs) (h' : Blk w B t' cs') (hne : t ≠ t') : X ≠ B := by
  intro e; subst e
  unfold Blk at h h'
  rw [h] at h'
  injection h' with h'
  injection h' with _ h'
  exact hne h'
section
variable {w0 w w' : World} {B X : Nat} {p : UInt64} {A : Option Addr} {n c : Nat} {L : List (Int × UInt64)} {s s' : Option (List UInt8)}
end
end Go.Proofs.Ytjlnmpjffogpdaa
