/- A row of votes of one's own; what the law of Missing says of lists (plain). -/
import Derived.Lib.AppendZerosOnto
import Derived.Lib.SliceRun
import Derived.Test.YtbfepgjeecndiaaGreatK20
import Derived.Test.YtbfepgjeecndiaaGreatK25
namespace Go.Proofs.YtbfepgjeecndiaaGreat
set_option maxRecDepth 100000
open Go.RowKit
set_option linter.unusedVariables false
set_option linter.unusedSimpArgs false
structure RwS (w : World) (base : Nat) (A : Option Addr) (n c : Nat) (D : List SgR) : Prop where
 own : w.ownsRow base 48 23 (.slice A n c) n (gcs D)
 sig : ∀ S ∈ D, OwnB w base 5 S.A S.n S.c S.sig ∧ S.v.wf
section
variable {w w' : World} {base n c : Nat} {A : Option Addr} {D : List SgR}
theorem RwS.nil (w : World) (base : Nat) : RwS w base none 0 0 [] := ⟨World.ownsRow_nil _ _ _ _, fun T hT => by cases hT⟩
theorem RwS.ext (h : RwS w base A n c D) (he : Ext w w') : RwS w' base A n c D := ⟨own_ext h.own he, fun T hT => ⟨OwnB.ext (h.sig T hT).1 he, (h.sig T hT).2⟩⟩
theorem RwS.sl (h : RwS w base A n c D) : SlG w A n c D := OwnG.sl (e := 48) h.own (fun T hT => ⟨(h.sig T hT).2, (h.sig T hT).1.sl⟩)
theorem RwS.len (h : RwS w base A n c D) : D.length = n := h.sl.len
theorem RwS.mono {base' : Nat} (h : RwS w base A n c D) (hb : base' ≤ base) : RwS w base' A n c D := ⟨own_mono h.own hb, fun T hT => ⟨own_mono (h.sig T hT).1 hb, (h.sig T hT).2⟩⟩
end
/-! steps of a drawn region -/
section
variable {ops : Array Oper} {o : Oper} {a : Act} {w : World} {K : Act → World → Prop} {Q : Exit → Act → World → Prop} {X : Prop}
theorem step_build0 {ty e : TypeId} (size : Nat) (hrun : ∀ w, (Instr.buildSlice ty 0 #[]).run Tryz.prog w = .ok (.slice (some ⟨w.heap.size, 0, none⟩) 0 0) (w.alloc (.cells #[] e))) (hgd : o.guard = none) (ho : o.op = .buildSlice ty 0 #[])
  (h : ∀ (g : Nat) (W2 : World), Hid (W2.ownsRow g e size (.slice (some ⟨g, 0, none⟩) 0 0) 0 [] ∧ Ext w W2 ∧ w.heap.size ≤ g ∧ g < W2.heap.size) → K (a.put o.dst (.slice (some ⟨g, 0, none⟩) 0 0)) W2) : if Region.wanted o (yielded ops a.tmps) = true then Oper.wp Tryz.prog o a w K Q else X := by
 have hw : Region.wanted o (yielded ops a.tmps) = true := by simp [Region.wanted, hgd]
 rw [if_pos hw]
 have this := hrun w
 have h2 := h _ _ (Lib.hid ⟨own_zero w e size, (Ext.refl w).alloc' _, Nat.le_refl _, by simp⟩)
 clear h
 generalize w.alloc (.cells #[] e) = W2 at *
 unfold Oper.wp execOp
 simp only [ho, List.map_toArray, List.map_nil, Sem.run_bind, Sem.run_pure, this, Result.andThen_ok, Oper.upon]
 exact h2
theorem yields_loadVtV {S : World → Prop} (hw : Region.wanted o (yielded ops a.tmps) = true) (x : Operand) (ho : o.op = .load 46 x) (b of : Nat) (hx : a.eval x = .pointer (some ⟨b, of, none⟩)) (R : VtR) (v : Value) (hv : Value.agg (vtA R) = v) (hS : ∀ w, S w → w.rangeAt b of (vtL R)) : YieldsIf Tryz.prog ops S o v a := by
 rw [← hv]; exact yields_loadVtA hw x ho b of hx R hS
theorem run_buildSgN (v : VtR) (A : Option Addr) (n c : Nat) (l : List UInt8) (w : World) : (Instr.build 48 #[(0, .agg (vtA v)), (1, .slice A n c)]).run Tryz.prog w = .ok (.agg (sgA ⟨v, A, n, c, l⟩)) w := by kernel_rfl
theorem yields_buildSgV {S : World → Prop} (hw : Region.wanted o (yielded ops a.tmps) = true) (x y : Operand) (ho : o.op = .build 48 #[(0, x), (1, y)]) (R : VtR) (A : Option Addr) (n c : Nat) (l : List UInt8) (vq v : Value) (hq : Value.agg (vtA R) = vq) (hv : Value.agg (sgA ⟨R, A, n, c, l⟩) = v) (hx : a.eval x = vq) (hy : a.eval y = .slice A n c) : YieldsIf Tryz.prog ops S o v a :=
 .inl ⟨hw, fun w hw' => by
  have this := run_buildSgN R A n c l w
  rw [hq, hv] at this
  unfold execOp
  simp only [ho, List.map_toArray, List.map_cons, List.map_nil, hx, hy, Sem.run_bind, Sem.run_pure, this, Result.andThen_ok]⟩
end
section
variable {α : Type} [RowT α]
theorem rows_sl {w : World} {base : Nat} {e : TypeId} {A : Option Addr} {n n2 c : Nat} {L L2 : List α} (h : w.ownsRow base e (RowT.sz α) (.slice A (n + n2) c) (n + n2) (gcs L ++ gcs L2)) (h1 : ∀ R ∈ L, RowT.ok R w) (h2 : ∀ R ∈ L2, RowT.ok R w) : SlG w A (n + n2) c (L ++ L2) := by
 rw [← gcs_append] at h
 refine OwnG.sl (e := e) h (fun R hR => ?_)
 rcases List.mem_append.1 hR with hR | hR
 ·exact h1 R hR
 ·exact h2 R hR
end
theorem RwS.setc {w : World} {base n c : Nat} {A : Option Addr} {D : List SgR} (h : RwS w base A n c D) {g i : Nat} {cs : Array Value} (hb : Blk w g 25 cs) (v : Value) : RwS (w.setCell ⟨g, i, none⟩ v) base A n c D :=
 ⟨World.ownsRow.kept h.own (grown_set w g i v) (.inr (Ne.symm (own_other h.own hb (by decide)))), fun T hT => ⟨World.ownsRow.kept (h.sig T hT).1 (grown_set w g i v) (.inr (Ne.symm (own_other (h.sig T hT).1 hb (by decide)))), (h.sig T hT).2⟩⟩
structure RuS (w W : World) (pa pb : Array Value) (A6 : Option Addr) (N c6 : Nat) (AL : List SgR) (A : Option Addr) (n c : Nat) (D : List SgR) : Prop where
 ba : Blk W w.heap.size 25 pa
 bb : Blk W (w.heap.size + 1) 25 pb
 br : Blk W (w.heap.size + 2) 25 (vwA none 0 0 none 0 0)
 bo : Blk W (w.heap.size + 3) 25 (vwA A n c none 0 0)
 all : W.ownsRow (w.heap.size + 4) 48 23 (.slice A6 N c6) N (gcs AL)
 row : RwS W (w.heap.size + 4) A n c D
 low : Ext w W
section
variable {w W W' : World} {pa pb : Array Value} {A6 : Option Addr} {N c6 : Nat} {AL : List SgR} {A A' : Option Addr} {n n' c c' : Nat} {D D' : List SgR}
theorem RuS.ext (h : RuS w W pa pb A6 N c6 AL A n c D) (he : Ext W W') : RuS w W' pa pb A6 N c6 AL A n c D := ⟨h.ba.ext he, h.bb.ext he, h.br.ext he, h.bo.ext he, own_ext h.all he, h.row.ext he, h.low.trans he⟩
theorem RuS.big (h : RuS w W pa pb A6 N c6 AL A n c D) : w.heap.size + 4 ≤ W.heap.size := h.bo.lt
theorem RuS.sla (h : RuS w W pa pb A6 N c6 AL A n c D) (hok : ∀ S, S ∈ AL → S.ok w) : SlG W A6 N c6 AL := OwnG.sl (e := 48) h.all (fun R hR => (hok R hR).ext h.low)
theorem RuS.put (h : RuS w W pa pb A6 N c6 AL A n c D) (he : Ext W W') (hr : RwS W' (w.heap.size + 4) A' n' c' D') (v : Value) (hv : v = .slice A' n' c') : RuS w (W'.setCell ⟨w.heap.size + 3, 0, none⟩ v) pa pb A6 N c6 AL A' n' c' D' := by
 subst hv
 have hb := h.bo.ext he
 have ha := own_ext h.all he
 exact ⟨(h.ba.ext he).far (p := ⟨w.heap.size + 3, 0, none⟩) (by simp) _, (h.bb.ext he).far (p := ⟨w.heap.size + 3, 0, none⟩) (by simp) _, (h.br.ext he).far (p := ⟨w.heap.size + 3, 0, none⟩) (by simp) _, hb.set 0 _, World.ownsRow.kept ha (grown_set W' _ 0 _) (.inr (Ne.symm (own_other ha hb (by decide)))), hr.setc hb _, (h.low.trans he).setCell (p := ⟨w.heap.size + 3, 0, none⟩) (by simp) _⟩
end
/-! plain: what is in a union -/
end Go.Proofs.YtbfepgjeecndiaaGreat
