/- The state of the reference's DecodeTx. -/
import Derived.Test.YtcfmlgbocdjabaaTf0
import Derived.Test.YtcfmlgbocdjabaaTx12b
namespace Go.Proofs.Ytcfmlgbocdjabaa
open Go.RowKit
set_option linter.unusedVariables false
set_option linter.unusedSimpArgs false
attribute [local go_sem ↓] Go.wp_at_zero Go.wp_at_succ

/-- the state of Decode: the cursor in B, the transaction in X, its operations in a row of one's own -/
structure TdR (w0 w : World) (B X : Nat) (ac sq : Int) (A : Option Addr) (n c : Nat) (S : Option Addr) (m d : Nat) (L : List OpR) (G : List UInt8) (s : Option (List UInt8)) : Prop where
  cur : CurAt 126 w0.heap.size w B s
  blk : Blk w X 50 (stA ac sq A n c S m d)
  own : w.ownsRow w0.heap.size 114 23 (.slice A n c) n (ocs L)
  ops : ∀ R, R ∈ L → OwnOp w w0.heap.size R
  sig : OwnB w w0.heap.size 5 S m d G
  low : Ext w0 w
  hB : w0.heap.size ≤ B
  hX : w0.heap.size < X
  res : Blk w w0.heap.size 50 zero4
section
variable {w0 w w' : World} {B X : Nat} {ac sq : Int} {A S : Option Addr} {n c m d : Nat} {L : List OpR} {G : List UInt8} {s s' : Option (List UInt8)}
theorem TdR.ne (h : TdR w0 w B X ac sq A n c S m d L G s) : X ≠ B := by
  obtain ⟨cs, hb⟩ := cur_blk h.cur
  exact blk_ne h.blk hb (by decide)
theorem TdR.ext (h : TdR w0 w B X ac sq A n c S m d L G s) (he : Ext w w') : TdR w0 w' B X ac sq A n c S m d L G s :=
  ⟨h.cur.ext he, h.blk.ext he, own_ext h.own he, fun R hR => (h.ops R hR).ext he, OwnB.ext h.sig he, h.low.trans he, h.hB, h.hX, h.res.ext he⟩
theorem TdR.read (h : TdR w0 w B X ac sq A n c S m d L G s) (hc : CurAt 126 w0.heap.size w' B s') (hg : w.grownBy w' (some B)) : TdR w0 w' B X ac sq A n c S m d L G s' := by
  obtain ⟨cs, hb⟩ := cur_blk h.cur
  exact ⟨hc, h.blk.grown hg (fun e => h.ne (by injection e)), h.own.kept hg (.inr (Ne.symm (own_other h.own hb (by decide)))), fun R hR => (h.ops R hR).kept hg hb (by decide), World.ownsRow.kept h.sig hg (.inr (Ne.symm (own_other h.sig hb (by decide)))), ext_grown h.low hg h.hB, h.hB, h.hX, h.res.grown hg (fun e => blk_ne h.res hb (by decide) (by injection e))⟩
theorem TdR.len (h : TdR w0 w B X ac sq A n c S m d L G s) : L.length = n := by have := h.own.1; rw [ocs_length] at this; omega
theorem TdR.slo (h : TdR w0 w B X ac sq A n c S m d L G s) : SlO w A n c L :=
  ⟨h.len, (own_cap h.own).1, (own_cap h.own).2, Rd.of_own h.own, fun R hR => (h.ops R hR).ok⟩
/-- an operation is appended, and the row stored -/
theorem TdR.push (h : TdR w0 w B X ac sq A n c S m d L G s) {A' : Option Addr} {c' : Nat} {R : OpR} (hR : OwnOp w w0.heap.size R) (hg : w.grownBy w' (Value.ownBlock (.slice A n c))) (ho : w'.ownsRow w0.heap.size 114 23 (.slice A' (n + 1) c') (n + 1) (ocs L ++ opL R)) :
    TdR w0 (w'.setCell ⟨X, 2, none⟩ (.slice A' (n + 1) c')) B X ac sq A' (n + 1) c' S m d (L ++ [R]) G s := by
  obtain ⟨cs, hb⟩ := cur_blk h.cur
  have h2 : Blk w' X 50 (stA ac sq A n c S m d) := h.blk.grown hg (own_other h.own h.blk (by decide))
  have h3 := grown_set w' X 2 (.slice A' (n + 1) c')
  have h4 : Ext w0 w' := Below.grown h.low hg h.low.size (fun k hk => (World.ownsRow.lt h.own k hk).1)
  have h5 : Ext w0 (w'.setCell ⟨X, 2, none⟩ (.slice A' (n + 1) c')) := h4.setCell (p := ⟨X, 2, none⟩) (Nat.le_of_lt h.hX) _
  have hop : ∀ Q : OpR, OwnOp w w0.heap.size Q → OwnOp w' w0.heap.size Q := fun Q hQ =>
    ⟨World.ownsRow.kept hQ.1 hg (own_ne hQ.1 h.own (by decide)), World.ownsRow.kept hQ.2 hg (own_ne hQ.2 h.own (by decide))⟩
  refine ⟨h.cur.low ?_ (fun b hb => (h5.block b hb).trans (h.low.block b hb).symm), h2.set 2 _, ?_, ?_, World.ownsRow.kept (World.ownsRow.kept h.sig hg (own_ne h.sig h.own (by decide))) h3 (.inr (Ne.symm (own_other (World.ownsRow.kept h.sig hg (own_ne h.sig h.own (by decide))) h2 (by decide)))), h5, h.hB, h.hX, (h.res.grown hg (own_other h.own h.res (by decide))).far (p := ⟨X, 2, none⟩) (Nat.ne_of_lt h.hX) _⟩
  · rw [Below.heap_setCell _ _ _ _ (Ne.symm h.ne)]
    exact hg.block B hb.lt (own_other h.own hb (by decide))
  · have := ho.kept h3 (.inr (Ne.symm (own_other ho h2 (by decide))))
    rw [ocs_append, ocs_cons, ocs_nil, List.append_nil]
    exact this
  · intro Q hQ
    rcases List.mem_append.1 hQ with hQ | hQ
    · exact (hop Q (h.ops Q hQ)).kept h3 h2 (by decide)
    · rw [List.mem_singleton.1 hQ]; exact (hop R hR).kept h3 h2 (by decide)
/-- the signature is stored -/
theorem TdR.setSig (h : TdR w0 w B X ac sq A n c S m d L G s) {S' : Option Addr} {m' d' : Nat} {G' : List UInt8} (ho : OwnB w w0.heap.size 5 S' m' d' G') :
    TdR w0 (w.setCell ⟨X, 3, none⟩ (.slice S' m' d')) B X ac sq A n c S' m' d' L G' s := by
  obtain ⟨cs, hb⟩ := cur_blk h.cur
  have h3 := grown_set w X 3 (.slice S' m' d')
  have h5 : Ext w0 (w.setCell ⟨X, 3, none⟩ (.slice S' m' d')) := h.low.setCell (p := ⟨X, 3, none⟩) (Nat.le_of_lt h.hX) _
  refine ⟨h.cur.low ?_ (fun b hb => (h5.block b hb).trans (h.low.block b hb).symm), h.blk.set 3 _, h.own.kept h3 (.inr (Ne.symm (own_other h.own h.blk (by decide)))), fun R hR => (h.ops R hR).kept h3 h.blk (by decide), World.ownsRow.kept ho h3 (.inr (Ne.symm (own_other ho h.blk (by decide)))), h5, h.hB, h.hX, h.res.far (p := ⟨X, 3, none⟩) (Nat.ne_of_lt h.hX) _⟩
  rw [Below.heap_setCell _ _ _ _ (Ne.symm h.ne)]
/-- the result's variable is stored into -/
theorem TdR.fin (h : TdR w0 w B X ac sq A n c S m d L G s) (vs : List Value) : OwnT (w.setCells w0.heap.size 0 vs) w0.heap.size ⟨ac, sq, A, n, c, S, m, d, L, G⟩ := by
  have h3 := grown_setCells' w w0.heap.size vs 0
  exact ⟨h.own.kept h3 (.inr (Ne.symm (own_other h.own h.res (by decide)))), fun R hR => (h.ops R hR).kept h3 h.res (by decide), World.ownsRow.kept h.sig h3 (.inr (Ne.symm (own_other h.sig h.res (by decide))))⟩
end
section
variable {w0 w w' : World} {B X : Nat} {ac sq : Int} {A S : Option Addr} {n c m d : Nat} {L : List OpR} {G : List UInt8} {s s' : Option (List UInt8)}
/-- a number of the transaction is stored -/
theorem TdR.setNum (h : TdR w0 w B X ac sq A n c S m d L G s) (i : Nat) (v : Value) {ac' sq' : Int} (hcs : (stA ac sq A n c S m d).setIfInBounds i v = stA ac' sq' A n c S m d) :
    TdR w0 (w.setCell ⟨X, i, none⟩ v) B X ac' sq' A n c S m d L G s := by
  obtain ⟨cs, hb⟩ := cur_blk h.cur
  have h3 := grown_set w X i v
  have h5 : Ext w0 (w.setCell ⟨X, i, none⟩ v) := h.low.setCell (p := ⟨X, i, none⟩) (Nat.le_of_lt h.hX) _
  refine ⟨h.cur.low ?_ (fun b hb => (h5.block b hb).trans (h.low.block b hb).symm), by have := h.blk.set i v; rw [hcs] at this; exact this, h.own.kept h3 (.inr (Ne.symm (own_other h.own h.blk (by decide)))), fun R hR => (h.ops R hR).kept h3 h.blk (by decide), World.ownsRow.kept h.sig h3 (.inr (Ne.symm (own_other h.sig h.blk (by decide)))), h5, h.hB, h.hX, h.res.far (p := ⟨X, i, none⟩) (Nat.ne_of_lt h.hX) _⟩
  rw [Below.heap_setCell _ _ _ _ (Ne.symm h.ne)]
theorem TdR.flag (h : TdR w0 w B X ac sq A n c S m d L G s) : w.cell? ⟨B, 2, none⟩ = some (.bool s.isNone) := by
  obtain ⟨A, n, c, l, k, hB, _⟩ := h.cur
  exact hB.cell 2
/-- at the start -/
theorem TdR.start (w : World) (A : Option Addr) (n c : Nat) (l : List UInt8) (h : SlB w A n c l) (hn : n ≤ 140737488355328) : TdR w (((w.alloc (.cells zero4 50)).alloc (.cells #[.slice A n c, .int .i64 0, .bool false] 126)).alloc (.cells zero4 50)) (w.heap.size + 1) (w.heap.size + 2) 0 0 none 0 0 none 0 0 [] [] (some l) := by
  have hD : LowB w.heap.size A n := by
    rcases Nat.eq_zero_or_pos n with h0 | h0
    · exact .inl h0
    · obtain ⟨b, o, e, _, hb⟩ := h.at h0
      exact .inr ⟨b, o, e, hb⟩
  have e1 : w.heap.size + 1 = (w.alloc (.cells zero4 50)).heap.size := by simp
  have e2 : w.heap.size + 2 = ((w.alloc (.cells zero4 50)).alloc (.cells #[.slice A n c, .int .i64 0, .bool false] 126)).heap.size := by simp
  have E1 := (Ext.refl w).alloc' (.cells zero4 50)
  have E2 := E1.alloc' (.cells #[.slice A n c, .int .i64 0, .bool false] 126)
  have E3 := E2.alloc' (.cells zero4 50)
  have hB : Blk (((w.alloc (.cells zero4 50)).alloc (.cells #[.slice A n c, .int .i64 0, .bool false] 126)).alloc (.cells zero4 50)) (w.heap.size + 1) 126 #[.slice A n c, .int .i64 0, .bool false] := by
    rw [e1]; exact (Blk.new _ _ _).alloc _
  refine ⟨⟨A, n, c, l, 0, hB, h.ext E3, Nat.zero_le _, hn, (fun r h => by injection h with h; rw [← h]; rfl), hD⟩, ?_, World.ownsRow_nil _ _ _ _, (fun R hR => by cases hR), OwnB.nil _ _ _, E3, by omega, by omega, ((Blk.new w 50 zero4).alloc _).alloc _⟩
  rw [e2]; exact Blk.new _ _ _
end
end Go.Proofs.Ytcfmlgbocdjabaa
