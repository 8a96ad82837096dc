/- DecodeGenesis: what is read, and the state of the walk. -/
import Derived.Test.YtfklmcfanhnfpaaGn4
namespace Go.Proofs.Ytfklmcfanhnfpaa
open Go.RowKit
set_option linter.unusedVariables false
set_option linter.unusedSimpArgs false
attribute [local go_sem ↓] Go.wp_at_zero Go.wp_at_succ

def rV (s : Option (List UInt8)) : Nat → Option (List UInt8)
  | 0 => s
  | k + 1 => rRest 8 (rV s k)
def vV (s : Option (List UInt8)) (k : Nat) : List UInt64 := (List.range k).map fun j => rName (rV s j)
theorem vV_succ (s : Option (List UInt8)) (k : Nat) : vV s (k + 1) = vV s k ++ [rName (rV s k)] := by simp [vV, List.range_succ]
def rA (s : Option (List UInt8)) : Nat → Option (List UInt8)
  | 0 => s
  | k + 1 => rRest 6 (rRest 8 (rA s k))
def aA (s : Option (List UInt8)) (k : Nat) : List UInt64 := (List.range k).map fun j => rName (rA s j)
def bA (s : Option (List UInt8)) (k : Nat) : List Int := (List.range k).map fun j => rNum 6 (rRest 8 (rA s j))
theorem aA_succ (s : Option (List UInt8)) (k : Nat) : aA s (k + 1) = aA s k ++ [rName (rA s k)] := by simp [aA, List.range_succ]
theorem bA_succ (s : Option (List UInt8)) (k : Nat) : bA s (k + 1) = bA s k ++ [rNum 6 (rRest 8 (rA s k))] := by simp [bA, List.range_succ]
abbrev zeroG : Array Value := genC 0 0 none 0 0 none 0 0 none 0 0
theorem own_types {w : World} {b b' : Nat} {e e' : TypeId} {sz sz' : Nat} {A A' : Option Addr} {n n' c c' : Nat} {xs xs' : List Value} (h : w.ownsRow b e sz (.slice A n c) n xs) (h' : w.ownsRow b' e' sz' (.slice A' n' c') n' xs') (hne : e ≠ e') : Value.ownBlock (.slice A n c) = none ∨ Value.ownBlock (.slice A n c) ≠ Value.ownBlock (.slice A' n' c') := by
  rcases h.2 with ⟨hv, _⟩ | ⟨g, cap, cur, hv, _, hh, _⟩
  · left; rw [hv]; rfl
  · right
    rw [hv]
    exact own_other h' (show Blk w g e cur from hh) hne
/-- behind the head and the first k validators -/
structure DecG1 (w0 w : World) (B X : Nat) (N Z : Int) (A : Option Addr) (n c : Nat) (V : List UInt64) (s : Option (List UInt8)) : Prop where
  cur : CurAt 127 w0.heap.size w B s
  blk : Blk w X 50 (genC N Z A n c none 0 0 none 0 0)
  own : w.ownsRow w0.heap.size 25 8 (.slice A n c) n (ncs V)
  low : Ext w0 w
  hB : w0.heap.size ≤ B
  hX : w0.heap.size < X
  res : Blk w w0.heap.size 50 zeroG
section
variable {w0 w w' : World} {B X : Nat} {N Z : Int} {A : Option Addr} {n c : Nat} {V : List UInt64} {s s' : Option (List UInt8)}
theorem DecG1.ne (h : DecG1 w0 w B X N Z A n c V s) : X ≠ B := by
  obtain ⟨cs, hb⟩ := cur_blk h.cur
  exact blk_ne h.blk hb (by decide)
theorem DecG1.ext (h : DecG1 w0 w B X N Z A n c V s) (he : Ext w w') : DecG1 w0 w' B X N Z A n c V s := ⟨h.cur.ext he, h.blk.ext he, own_ext h.own he, h.low.trans he, h.hB, h.hX, h.res.ext he⟩
theorem DecG1.read (h : DecG1 w0 w B X N Z A n c V s) (hc : CurAt 127 w0.heap.size w' B s') (hg : w.grownBy w' (some B)) : DecG1 w0 w' B X N Z A n c V s' := by
  obtain ⟨cs, hb⟩ := cur_blk h.cur
  exact ⟨hc, h.blk.grown hg (fun e => h.ne (by injection e)), h.own.kept hg (.inr (Ne.symm (own_other h.own hb (by decide)))), ext_grown h.low hg h.hB, h.hB, h.hX, h.res.grown hg (fun e => blk_ne h.res hb (by decide) (by injection e))⟩
theorem DecG1.push (h : DecG1 w0 w B X N Z A n c V s) {A' : Option Addr} {c' : Nat} {x : UInt64} (hg : w.grownBy w' (Value.ownBlock (.slice A n c))) (ho : w'.ownsRow w0.heap.size 25 8 (.slice A' (n + 1) c') (n + 1) (ncs V ++ bcs (nmb x))) :
    DecG1 w0 (w'.setCell ⟨X, 2, none⟩ (.slice A' (n + 1) c')) B X N Z A' (n + 1) c' (V ++ [x]) s := by
  obtain ⟨cs, hb⟩ := cur_blk h.cur
  have h2 : Blk w' X 50 (genC N Z A n c none 0 0 none 0 0) := h.blk.grown hg (own_other h.own h.blk (by decide))
  have h3 := grown_set w' X 2 (.slice A' (n + 1) c')
  have h4 : Ext w0 w' := Below.grown h.low hg h.low.size (fun k hk => (World.ownsRow.lt h.own k hk).1)
  have h5 : Ext w0 (w'.setCell ⟨X, 2, none⟩ (.slice A' (n + 1) c')) := h4.setCell (p := ⟨X, 2, none⟩) (Nat.le_of_lt h.hX) _
  refine ⟨h.cur.low ?_ (fun b hb => (h5.block b hb).trans (h.low.block b hb).symm), h2.set 2 _, ?_, h5, h.hB, h.hX, (h.res.grown hg (own_other h.own h.res (by decide))).far (p := ⟨X, 2, none⟩) (Nat.ne_of_lt h.hX) _⟩
  · rw [Below.heap_setCell _ _ _ _ (Ne.symm h.ne)]
    exact hg.block B hb.lt (own_other h.own hb (by decide))
  · have := ho.kept h3 (.inr (Ne.symm (own_other ho h2 (by decide))))
    rw [ncs_append, ncs_cons, ncs_nil, List.append_nil]
    exact this
end
/-- behind the first k accounts and m balances -/
structure DecG2 (w0 w : World) (b2 B X : Nat) (N Z : Int) (A1 : Option Addr) (n1 c1 : Nat) (V : List UInt64) (A2 : Option Addr) (n2 c2 : Nat) (Ac : List UInt64) (A3 : Option Addr) (n3 c3 : Nat) (Bl : List Int) (s : Option (List UInt8)) : Prop where
  cur : CurAt 127 w0.heap.size w B s
  blk : Blk w X 50 (genC N Z A1 n1 c1 A2 n2 c2 A3 n3 c3)
  own1 : w.ownsRow w0.heap.size 25 8 (.slice A1 n1 c1) n1 (ncs V)
  own2 : w.ownsRow b2 25 8 (.slice A2 n2 c2) n2 (ncs Ac)
  own3 : w.ownsRow w0.heap.size 3 1 (.slice A3 n3 c3) n3 (ics Bl)
  lt1 : ∀ k, Value.ownBlock (.slice A1 n1 c1) = some k → k < b2
  hb2 : w0.heap.size ≤ b2 ∧ b2 ≤ w.heap.size
  low : Ext w0 w
  hB : w0.heap.size ≤ B
  hX : w0.heap.size < X
  res : Blk w w0.heap.size 50 zeroG
section
variable {w0 w w' : World} {b2 B X : Nat} {N Z : Int} {A1 : Option Addr} {n1 c1 : Nat} {V : List UInt64} {A2 : Option Addr} {n2 c2 : Nat} {Ac : List UInt64} {A3 : Option Addr} {n3 c3 : Nat} {Bl : List Int} {s s' : Option (List UInt8)}
theorem DecG2.ne (h : DecG2 w0 w b2 B X N Z A1 n1 c1 V A2 n2 c2 Ac A3 n3 c3 Bl s) : X ≠ B := by
  obtain ⟨cs, hb⟩ := cur_blk h.cur
  exact blk_ne h.blk hb (by decide)
theorem DecG2.ext (h : DecG2 w0 w b2 B X N Z A1 n1 c1 V A2 n2 c2 Ac A3 n3 c3 Bl s) (he : Ext w w') : DecG2 w0 w' b2 B X N Z A1 n1 c1 V A2 n2 c2 Ac A3 n3 c3 Bl s :=
  ⟨h.cur.ext he, h.blk.ext he, own_ext h.own1 he, own_ext h.own2 he, own_ext h.own3 he, h.lt1, ⟨h.hb2.1, Nat.le_trans h.hb2.2 he.size⟩, h.low.trans he, h.hB, h.hX, h.res.ext he⟩
theorem DecG2.read (h : DecG2 w0 w b2 B X N Z A1 n1 c1 V A2 n2 c2 Ac A3 n3 c3 Bl s) (hc : CurAt 127 w0.heap.size w' B s') (hg : w.grownBy w' (some B)) : DecG2 w0 w' b2 B X N Z A1 n1 c1 V A2 n2 c2 Ac A3 n3 c3 Bl s' := by
  obtain ⟨cs, hb⟩ := cur_blk h.cur
  exact ⟨hc, h.blk.grown hg (fun e => h.ne (by injection e)), h.own1.kept hg (.inr (Ne.symm (own_other h.own1 hb (by decide)))), h.own2.kept hg (.inr (Ne.symm (own_other h.own2 hb (by decide)))), h.own3.kept hg (.inr (Ne.symm (own_other h.own3 hb (by decide)))), h.lt1, ⟨h.hb2.1, Nat.le_trans h.hb2.2 hg.size⟩, ext_grown h.low hg h.hB, h.hB, h.hX, h.res.grown hg (fun e => blk_ne h.res hb (by decide) (by injection e))⟩
theorem DecG2.push2 (h : DecG2 w0 w b2 B X N Z A1 n1 c1 V A2 n2 c2 Ac A3 n3 c3 Bl s) {A' : Option Addr} {c' : Nat} {x : UInt64} (hg : w.grownBy w' (Value.ownBlock (.slice A2 n2 c2))) (ho : w'.ownsRow b2 25 8 (.slice A' (n2 + 1) c') (n2 + 1) (ncs Ac ++ bcs (nmb x))) :
    DecG2 w0 (w'.setCell ⟨X, 3, none⟩ (.slice A' (n2 + 1) c')) b2 B X N Z A1 n1 c1 V A' (n2 + 1) c' (Ac ++ [x]) A3 n3 c3 Bl s := by
  obtain ⟨cs, hb⟩ := cur_blk h.cur
  have h2 : Blk w' X 50 (genC N Z A1 n1 c1 A2 n2 c2 A3 n3 c3) := h.blk.grown hg (own_other h.own2 h.blk (by decide))
  have h3 := grown_set w' X 3 (.slice A' (n2 + 1) c')
  have h4 : Ext w0 w' := Below.grown h.low hg h.low.size (fun k hk => Nat.le_trans h.hb2.1 (World.ownsRow.lt h.own2 k hk).1)
  have h5 : Ext w0 (w'.setCell ⟨X, 3, none⟩ (.slice A' (n2 + 1) c')) := h4.setCell (p := ⟨X, 3, none⟩) (Nat.le_of_lt h.hX) _
  have hd : Value.ownBlock (.slice A1 n1 c1) = none ∨ Value.ownBlock (.slice A1 n1 c1) ≠ Value.ownBlock (.slice A2 n2 c2) := by
    cases hq : Value.ownBlock (.slice A1 n1 c1) with
    | none => exact .inl rfl
    | some k =>
      right
      intro e
      have h6 := h.lt1 k hq
      have h7 := (World.ownsRow.lt h.own2 k e.symm).1
      omega
  have k1 := h.own1.kept hg hd
  have k3 := h.own3.kept hg (own_types h.own3 h.own2 (by decide))
  refine ⟨h.cur.low ?_ (fun b hb => (h5.block b hb).trans (h.low.block b hb).symm), h2.set 3 _, k1.kept h3 (.inr (Ne.symm (own_other k1 h2 (by decide)))), ?_, k3.kept h3 (.inr (Ne.symm (own_other k3 h2 (by decide)))), h.lt1, ⟨h.hb2.1, Nat.le_trans h.hb2.2 (Nat.le_trans hg.size h3.size)⟩, h5, h.hB, h.hX, (h.res.grown hg (own_other h.own2 h.res (by decide))).far (p := ⟨X, 3, none⟩) (Nat.ne_of_lt h.hX) _⟩
  · rw [Below.heap_setCell _ _ _ _ (Ne.symm h.ne)]
    exact hg.block B hb.lt (own_other h.own2 hb (by decide))
  · have := ho.kept h3 (.inr (Ne.symm (own_other ho h2 (by decide))))
    rw [ncs_append, ncs_cons, ncs_nil, List.append_nil]
    exact this
theorem DecG2.push3 (h : DecG2 w0 w b2 B X N Z A1 n1 c1 V A2 n2 c2 Ac A3 n3 c3 Bl s) {A' : Option Addr} {c' : Nat} {z : Int} (hg : w.grownBy w' (Value.ownBlock (.slice A3 n3 c3))) (ho : w'.ownsRow w0.heap.size 3 1 (.slice A' (n3 + 1) c') (n3 + 1) (ics Bl ++ [.int .i64 z])) :
    DecG2 w0 (w'.setCell ⟨X, 4, none⟩ (.slice A' (n3 + 1) c')) b2 B X N Z A1 n1 c1 V A2 n2 c2 Ac A' (n3 + 1) c' (Bl ++ [z]) s := by
  obtain ⟨cs, hb⟩ := cur_blk h.cur
  have h2 : Blk w' X 50 (genC N Z A1 n1 c1 A2 n2 c2 A3 n3 c3) := h.blk.grown hg (own_other h.own3 h.blk (by decide))
  have h3 := grown_set w' X 4 (.slice A' (n3 + 1) c')
  have h4 : Ext w0 w' := Below.grown h.low hg h.low.size (fun k hk => (World.ownsRow.lt h.own3 k hk).1)
  have h5 : Ext w0 (w'.setCell ⟨X, 4, none⟩ (.slice A' (n3 + 1) c')) := h4.setCell (p := ⟨X, 4, none⟩) (Nat.le_of_lt h.hX) _
  have k1 := h.own1.kept hg (own_types h.own1 h.own3 (by decide))
  have k2 := h.own2.kept hg (own_types h.own2 h.own3 (by decide))
  refine ⟨h.cur.low ?_ (fun b hb => (h5.block b hb).trans (h.low.block b hb).symm), h2.set 4 _, k1.kept h3 (.inr (Ne.symm (own_other k1 h2 (by decide)))), k2.kept h3 (.inr (Ne.symm (own_other k2 h2 (by decide)))), ?_, h.lt1, ⟨h.hb2.1, Nat.le_trans h.hb2.2 (Nat.le_trans hg.size h3.size)⟩, h5, h.hB, h.hX, (h.res.grown hg (own_other h.own3 h.res (by decide))).far (p := ⟨X, 4, none⟩) (Nat.ne_of_lt h.hX) _⟩
  · rw [Below.heap_setCell _ _ _ _ (Ne.symm h.ne)]
    exact hg.block B hb.lt (own_other h.own3 hb (by decide))
  · have := ho.kept h3 (.inr (Ne.symm (own_other ho h2 (by decide))))
    rw [ics_append]
    exact this
end
end Go.Proofs.Ytfklmcfanhnfpaa
