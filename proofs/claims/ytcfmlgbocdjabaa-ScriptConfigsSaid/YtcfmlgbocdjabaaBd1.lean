/- DecodeBlock. -/
import Derived.Test.YtcfmlgbocdjabaaRe1
namespace Go.Proofs.Ytcfmlgbocdjabaa
open Go.RowKit
set_option linter.unusedVariables false
set_option linter.unusedSimpArgs false
attribute [local go_sem ↓] Go.wp_at_zero Go.wp_at_succ

@[go_sem] theorem fold_nmc9 (n : UInt64) : Array.foldl (fun (cs : Array Value) (x : Value × Nat) => cs.setIfInBounds x.snd x.fst) #[.int .u8 0, .int .u8 0, .int .u8 0, .int .u8 0, .int .u8 0, .int .u8 0, .int .u8 0, .int .u8 0, .slice none 0 0] (nmc n).zipIdx 0 8 = #[.int .u8 (nb8 n 0), .int .u8 (nb8 n 1), .int .u8 (nb8 n 2), .int .u8 (nb8 n 3), .int .u8 (nb8 n 4), .int .u8 (nb8 n 5), .int .u8 (nb8 n 6), .int .u8 (nb8 n 7), .slice none 0 0] := by
  rw [← nmc_nb8 n]
  kernel_rfl
@[go_sem] theorem fold_pair (i : Int) (n : UInt64) : Array.foldl (fun (cs : Array Value) (x : Value × Nat) => cs.setIfInBounds (1 + x.snd) x.fst) #[.int .i64 i, .int .u8 0, .int .u8 0, .int .u8 0, .int .u8 0, .int .u8 0, .int .u8 0, .int .u8 0, .int .u8 0] (nmc n).zipIdx 0 8 = #[.int .i64 i, .int .u8 (nb8 n 0), .int .u8 (nb8 n 1), .int .u8 (nb8 n 2), .int .u8 (nb8 n 3), .int .u8 (nb8 n 4), .int .u8 (nb8 n 5), .int .u8 (nb8 n 6), .int .u8 (nb8 n 7)] := by
  rw [← nmc_nb8 n]
  kernel_rfl
theorem choiceE : Elem Try.prog 24 94 (.agg #[.int .i64 0, .int .u8 0, .int .u8 0, .int .u8 0, .int .u8 0, .int .u8 0, .int .u8 0, .int .u8 0, .int .u8 0]) 9 16 := ⟨Try.underlying24, by kernel_rfl, rfl, by decide⟩
/-! what is read: pairs, one behind the other -/
def stC (s : Option (List UInt8)) : Nat → Option (List UInt8)
  | 0 => s
  | k + 1 => rRest 8 (rRest 1 (stC s k))
def ltC (s : Option (List UInt8)) (k : Nat) : List (Int × UInt64) := (List.range k).map fun j => (rNum 1 (stC s j), rName (rRest 1 (stC s j)))
theorem ltC_length (s : Option (List UInt8)) (k : Nat) : (ltC s k).length = k := by simp [ltC]
theorem ltC_succ (s : Option (List UInt8)) (k : Nat) : ltC s (k + 1) = ltC s k ++ [(rNum 1 (stC s k), rName (rRest 1 (stC s k)))] := by
  simp [ltC, List.range_succ]
/-- what DecodeBlock returns -/
def decBlk (l : List UInt8) : Option (UInt64 × List (Int × UInt64)) :=
  let s0 := openU l 3
  let s1 := rRest 8 s0
  let n := (rNum 1 s1).toNat
  let L := ltC (rRest 1 s1) n
  if stC (rRest 1 s1) n = some [] ∧ vldBlk L = true then some (rName s0, L) else none
/-- append to a row of one's own at a step of a drawn region -/
theorem step_appG' {P : Program} {t e : TypeId} {z : Value} {size bytes : Nat} {ops : Array Oper} {o : Oper} {a : Act} {w : World} {K : Act → World → Prop} {Q : Exit → Act → World → Prop} {X : Prop} (E : Elem P t e z size bytes) (hgd : o.guard = none) (s x : Operand)
    (ho : o.op = .call { callee := .builtin .append, args := #[s, x], argTypes := #[t, t] })
    (base : Nat) (A : Option Addr) (n c : Nat) (xs : List Value) (hs : a.eval s = .slice A n c) (hown : w.ownsRow base e size (.slice A n c) n xs)
    (A2 : Option Addr) (m c2 : Nat) (ys : List Value) (hx : a.eval x = .slice A2 m c2) (hr : Rd w A2 ys) (hl : ys.length = m * size) (h1 : ∀ u ∈ ys, u.oneCell' = true)
    (hb : (n + m) * bytes ≤ 140737488355328) (h63 : n + m ≤ 4611686018427387904) (hbase : base ≤ w.heap.size)
    (h : ∀ A' c' w', w'.ownsRow base e size (.slice A' (n + m) c') (n + m) (xs ++ ys) → w.grownBy w' (Value.ownBlock (.slice A n c)) → K (a.put o.dst (.slice A' (n + m) c')) w') : if Region.wanted o (yielded ops a.tmps) = true then Oper.wp P o a w K Q else X := by
  have hw : Region.wanted o (yielded ops a.tmps) = true := by simp [Region.wanted, hgd]
  rw [if_pos hw]
  exact wp_app E s x ho base A n c xs hs hown A2 m c2 ys hx hr hl h1 hb h63 hbase fun A' c' w' h2 h3 => h A' c' w' h2 h3
/-- a row of one's own does not lie in a block of another type -/
theorem own_other {w : World} {base : Nat} {e : TypeId} {size : Nat} {A : Option Addr} {n c : Nat} {xs : List Value} {X : Nat} {t : TypeId} {cs : Array Value} (h : w.ownsRow base e size (.slice A n c) n xs) (hb : Blk w X t cs) (hne : t ≠ e) : some X ≠ Value.ownBlock (.slice A n c) := by
  rcases h.2 with ⟨hv, _⟩ | ⟨g, cap, cur, hv, _, hh, _⟩
  · rw [hv]; simp [Value.ownBlock]
  · rw [hv]
    simp only [Value.ownBlock]
    intro e1
    injection e1 with e1
    subst e1
    unfold Blk at hb
    rw [hh] at hb
    injection hb with hb
    injection hb with _ hb
    exact hne hb.symm
abbrev zero9 : Array Value := #[.int .u8 0, .int .u8 0, .int .u8 0, .int .u8 0, .int .u8 0, .int .u8 0, .int .u8 0, .int .u8 0, .slice none 0 0]
/-- the state of DecodeBlock: the cursor in B, the block in X, its slots in a row of one's own -/
structure DecB (w0 w : World) (B X : Nat) (p : UInt64) (A : Option Addr) (n c : Nat) (L : List (Int × UInt64)) (s : Option (List UInt8)) : Prop where
  cur : CurAt 164 w0.heap.size w B s
  blk : Blk w X 26 (blkC p A n c)
  own : w.ownsRow w0.heap.size 94 9 (.slice A n c) n (chc L)
  low : Ext w0 w
  hB : w0.heap.size ≤ B
  hX : w0.heap.size < X
  res : Blk w w0.heap.size 26 zero9
theorem cur_blk {t : TypeId} {D : Nat} {w : World} {B : Nat} {s : Option (List UInt8)} (h : CurAt t D w B s) : ∃ cs, Blk w B t cs := by
  obtain ⟨A, n, c, l, k, hB, _⟩ := h; exact ⟨_, hB⟩
theorem blk_ne {w : World} {X B : Nat} {t t' : TypeId} {cs cs' : Array Value} (h : Blk w X t cs) (h' : Blk w B t' cs') (hne : t ≠ t') : X ≠ B := by
  intro e; subst e
  unfold Blk at h h'
  rw [h] at h'
  injection h' with h'
  injection h' with _ h'
  exact hne h'
section
variable {w0 w w' : World} {B X : Nat} {p : UInt64} {A : Option Addr} {n c : Nat} {L : List (Int × UInt64)} {s s' : Option (List UInt8)}
theorem DecB.ne (h : DecB w0 w B X p A n c L s) : X ≠ B := by
  obtain ⟨cs, hb⟩ := cur_blk h.cur
  exact blk_ne h.blk hb (by decide)
theorem DecB.ext (h : DecB w0 w B X p A n c L s) (he : Ext w w') : DecB w0 w' B X p A n c L s := ⟨h.cur.ext he, h.blk.ext he, own_ext h.own he, h.low.trans he, h.hB, h.hX, h.res.ext he⟩
/-- a read by the cursor -/
theorem DecB.read (h : DecB w0 w B X p A n c L s) (hc : CurAt 164 w0.heap.size w' B s') (hg : w.grownBy w' (some B)) : DecB w0 w' B X p A n c L s' := by
  obtain ⟨cs, hb⟩ := cur_blk h.cur
  exact ⟨hc, h.blk.grown hg (fun e => h.ne (by injection e)), h.own.kept hg (.inr (Ne.symm (own_other h.own hb (by decide)))), ext_grown h.low hg h.hB, h.hB, h.hX, h.res.grown hg (fun e => blk_ne h.res hb (by decide) (by injection e))⟩
theorem DecB.slc (h : DecB w0 w B X p A n c L s) : SlC w A n c L := by
  have hl : L.length = n := by have := h.own.1; rw [chc_length] at this; omega
  exact ⟨hl, (own_cap h.own).1, (own_cap h.own).2, Rd.of_own h.own⟩
/-- a pair is appended, and the slots stored -/
theorem DecB.push (h : DecB w0 w B X p A n c L s) {A' : Option Addr} {c' : Nat} {x : Int × UInt64} (hg : w.grownBy w' (Value.ownBlock (.slice A n c))) (ho : w'.ownsRow w0.heap.size 94 9 (.slice A' (n + 1) c') (n + 1) (chc L ++ chL x)) :
    DecB w0 (w'.setCell ⟨X, 8, none⟩ (.slice A' (n + 1) c')) B X p A' (n + 1) c' (L ++ [x]) s := by
  obtain ⟨cs, hb⟩ := cur_blk h.cur
  have h2 : Blk w' X 26 (blkC p A n c) := h.blk.grown hg (own_other h.own h.blk (by decide))
  have h3 := grown_set w' X 8 (.slice A' (n + 1) c')
  have h4 : Ext w0 w' := Below.grown h.low hg h.low.size (fun k hk => (World.ownsRow.lt h.own k hk).1)
  have h5 : Ext w0 (w'.setCell ⟨X, 8, none⟩ (.slice A' (n + 1) c')) := h4.setCell (p := ⟨X, 8, none⟩) (Nat.le_of_lt h.hX) _
  refine ⟨h.cur.low ?_ (fun b hb => (h5.block b hb).trans (h.low.block b hb).symm), h2.set 8 _, ?_, h5, h.hB, h.hX, (h.res.grown hg (own_other h.own h.res (by decide))).far (p := ⟨X, 8, none⟩) (Nat.ne_of_lt h.hX) _⟩
  · rw [Below.heap_setCell _ _ _ _ (Ne.symm h.ne)]
    exact hg.block B hb.lt (own_other h.own hb (by decide))
  · have := ho.kept h3 (.inr (Ne.symm (own_other ho h2 (by decide))))
    rw [chc_append, chc_cons, chc_nil, List.append_nil]
    exact this
end
end Go.Proofs.Ytcfmlgbocdjabaa
