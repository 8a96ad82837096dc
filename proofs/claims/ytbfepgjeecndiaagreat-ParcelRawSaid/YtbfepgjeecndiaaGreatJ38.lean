/- The stable sort of signed votes (slices' stableCmpFunc, SortStableFunc). -/
import Derived.Test.YtbfepgjeecndiaaGreatJ25
import Derived.Test.YtbfepgjeecndiaaGreatJ31
import Derived.Test.YtbfepgjeecndiaaGreatJ32
namespace Go.Proofs.YtbfepgjeecndiaaGreat
set_option maxRecDepth 100000
set_option maxHeartbeats 8000000
open Go.RowKit
set_option linter.unusedVariables false
set_option linter.unusedSimpArgs false
attribute [local go_sem ↓] Go.wp_at_zero Go.wp_at_succ
theorem stable_any (w0 w : World) (base : Nat) (A : Option Addr) (n c : Nat) (d : Array SgR) (h : RowV w0 w base A n c d) (hn : n ≤ 1000000000) (hc : c ≤ 9223372036854775807) :
  Calls Tryz.prog 90 #[.slice A n c, .int .i64 n, .func (.func 61) #[] #[]] w (fun e w' => e = .returned (.tuple #[]) ∧ ∃ d', RowV w0 w' base A n c d' ∧ Sort.PermIn 0 n d d' ∧ Sort.SortedIn ltSg 0 n d') := by
 have HD := Lib.hid h
 have HSZ := Lib.hid (show n ≤ d.size by rw [RowS.size h]; exact Nat.le_refl _)
 have HI0 := Lib.hid (InsA.start (lt := ltSg) n d)
 clear h
 go_enter Tryz.func90, Tryz.ntmps90
 go_wp2_with fail
 go_loopw [7, 8] (fun va vb wr => ∃ (a b : Nat) (dk : Array SgR), va = .int .i64 (a : Int) ∧ vb = .int .i64 (b : Int) ∧ Hid (b = a + 20) ∧ a ≤ n ∧ Hid (InsA ltSg a n d dk) ∧ Hid (RowV w0 wr base A n c dk)) (fun a _ _ => n - (intOf a).toNat)
 case atStart => exact ⟨0, 20, d, rfl, rfl, Lib.hid rfl, Nat.zero_le _, HI0, HD⟩
 case round =>
  clear HD HI0
  obtain ⟨a, b, dk, rfl, rfl, HAB, han, HI, HD⟩ := hrel
  have bl : a ≤ b ∧ b ≤ n + 20 := by have := HAB.out; omega
  by_cases hlt : b ≤ n
  ·have i1 : (b : Int) ≤ (n : Int) := by omega
   have HC := Lib.hid (insSort_any w0 wr base A n c dk HD.out a b (by omega) hlt hn hc)
   go_wp2_with fail
   refine HC.out.mono ?_
   rintro e w2 ⟨rfl, d2, h2, p2, s2⟩
   have HD2 := Lib.hid h2
   have HI2 := Lib.hid (show InsA ltSg b n d d2 from by rw [HAB.out] at p2 s2 ⊢; exact HI.out.step (by have := HAB.out; omega) HSZ.out p2 s2)
   clear h2 p2 s2 HC HD HI
   go_wp2_with fail
   go_roundw
   case rel => exact ⟨b, b + 20, d2, rfl, by go_num, Lib.hid rfl, hlt, HI2, HD2⟩
   case measure => simp [intOf]; have := HAB.out; omega
  ·have i1 : ¬ (b : Int) ≤ (n : Int) := by omega
   have HC := Lib.hid (insSort_any w0 wr base A n c dk HD.out a n han (Nat.le_refl _) hn hc)
   go_wp2_with fail
   refine HC.out.mono ?_
   rintro e w2 ⟨rfl, d2, h2, p2, s2⟩
   have HD2 := Lib.hid h2
   have HR2 := Lib.hid (HI.out.last han (by have := HAB.out; omega) HSZ.out p2 s2)
   clear h2 p2 s2 HC HD HI i1
   go_wp2_with fail
   go_loopw [6] (fun vs wr => ∃ (s : Nat) (dk : Array SgR), vs = .int .i64 (s : Int) ∧ 0 < s ∧ s ≤ 2 * n + 20 ∧ Hid (Runs ltSg s n d dk) ∧ Hid (RowV w0 wr base A n c dk)) (fun s _ => n - (intOf s).toNat)
   case atStart => exact ⟨20, d2, rfl, by omega, by omega, HR2, HD2⟩
   case round =>
    clear HD2 HR2
    obtain ⟨s, dk, rfl, hs, hsl, HR, HD⟩ := hrel
    by_cases hsn : s < n
    ·have i1 : (s : Int) < (n : Int) := by omega
     obtain ⟨s2, hs2⟩ : ∃ s2, s2 = 2 * s := ⟨_, rfl⟩
     have m1 : (2 : Int) * (s : Int) = (s2 : Int) := by omega
     have m2 : (s : Int) * (2 : Int) = (s2 : Int) := by omega
     have hs2l : s2 ≤ 2 * n := by omega
     have HS2 := Lib.hid hs2
     clear hs2
     have HM0 := Lib.hid (MerA.start HR.out)
     clear HR
     go_wp2_with fail
     go_loopw [7, 8] (fun va vb wr => ∃ (a b : Nat) (dk : Array SgR), va = .int .i64 (a : Int) ∧ vb = .int .i64 (b : Int) ∧ Hid (b = a + s2) ∧ a ≤ n ∧ Hid (MerA ltSg s a n d dk) ∧ Hid (RowV w0 wr base A n c dk)) (fun a _ _ => n - (intOf a).toNat)
     case atStart => exact ⟨0, s2, dk, rfl, rfl, Lib.hid (Nat.zero_add _).symm, Nat.zero_le _, HM0, HD⟩
     case round =>
      clear HD HM0
      obtain ⟨a, b, dk, rfl, rfl, HAB, han, HM, HD⟩ := hrel
      obtain ⟨m, hm⟩ : ∃ m, m = a + s := ⟨_, rfl⟩
      have m0 : (a : Int) + (s : Int) = (m : Int) := by omega
      have HMM := Lib.hid hm
      have bl : a ≤ b ∧ b ≤ 3 * n ∧ m ≤ b := by have := HAB.out; have := HS2.out; omega
      have ml : a < m := by omega
      have mb : m < b := by have := HAB.out; have := HS2.out; omega
      clear hm
      by_cases hlt : b ≤ n
      ·have i2 : (b : Int) ≤ (n : Int) := by omega
       have HC := Lib.hid (symMerge_any (b - a) w0 wr base A n c dk HD.out a m b (Nat.le_refl _) ml mb hlt hn hc (by rw [HMM.out]; exact HM.out.left (by have := HMM.out; omega)) (by have := HM.out.right; rw [← HMM.out, ← HS2.out, ← HAB.out, Nat.min_eq_left hlt] at this; exact this))
       go_wp2_with fail
       refine HC.out.mono ?_
       rintro e w2 ⟨rfl, d2, h2, p2, q2⟩
       have HD2 := Lib.hid h2
       have HM2 := Lib.hid (show MerA ltSg s b n d d2 from by
        have hb2 : b = a + 2 * s := by have := HAB.out; have := HS2.out; omega
        rw [hb2] at p2 q2 ⊢; exact HM.out.step (by omega) HSZ.out p2 q2)
       clear h2 p2 q2 HC HD HM
       go_wp2_with fail
       go_roundw
       case rel => exact ⟨b, b + s2, d2, rfl, by go_num, Lib.hid rfl, hlt, HM2, HD2⟩
       case measure => simp [intOf]; omega
      ·have i2 : ¬ (b : Int) ≤ (n : Int) := by omega
       by_cases hmn : m < n
       ·have i3 : (m : Int) < (n : Int) := by omega
        have HC := Lib.hid (symMerge_any (n - a) w0 wr base A n c dk HD.out a m n (Nat.le_refl _) ml hmn (Nat.le_refl _) hn hc (by rw [HMM.out]; exact HM.out.left (by have := HMM.out; omega)) (by have := HM.out.right; rw [← HMM.out, Nat.min_eq_right (by have := HAB.out; have := HS2.out; omega)] at this; exact this))
        go_wp2_with fail
        refine HC.out.mono ?_
        rintro e w2 ⟨rfl, d2, h2, p2, q2⟩
        have HD2 := Lib.hid h2
        have HR2 := Lib.hid (show Runs ltSg s2 n d d2 from by rw [HS2.out]; exact HM.out.last han (by have := HAB.out; have := HS2.out; omega) HSZ.out p2 q2)
        clear h2 p2 q2 HC HD HM
        go_wp2_with fail
        go_roundw
        case rel => exact ⟨s2, d2, by go_num, by have := HS2.out; omega, by omega, HR2, HD2⟩
        case measure => simp [intOf]; have := HS2.out; omega
       ·have i3 : ¬ (m : Int) < (n : Int) := by omega
        have HR2 := Lib.hid (show Runs ltSg s2 n d dk from by rw [HS2.out]; exact HM.out.rest (by have := HMM.out; omega) han HSZ.out)
        clear HM
        go_wp2_with fail
        go_roundw
        case rel => exact ⟨s2, dk, by go_num, by have := HS2.out; omega, by omega, HR2, HD⟩
        case measure => simp [intOf]; have := HS2.out; omega
    ·have i1 : ¬ (s : Int) < (n : Int) := by omega
     go_wp2_with fail
     go_end0
     exact ⟨rfl, dk, HD.out, HR.out.perm, HR.out.whole (by omega)⟩
theorem sortStable_any (w0 w : World) (base : Nat) (A : Option Addr) (n c : Nat) (d : Array SgR) (h : RowV w0 w base A n c d) (hn : n ≤ 1000000000) (hc : c ≤ 9223372036854775807) :
  Calls Tryz.prog 60 #[.slice A n c, .func (.func 61) #[] #[]] w (fun e w' => e = .returned (.tuple #[]) ∧ ∃ d', RowV w0 w' base A n c d' ∧ Sort.PermIn 0 n d d' ∧ Sort.SortedIn ltSg 0 n d') := by
 have HC := Lib.hid (stable_any w0 w base A n c d h hn hc)
 clear h
 go_enter Tryz.func60, Tryz.ntmps60
 go_wp2_with fail
 refine HC.out.mono ?_
 rintro e w2 ⟨rfl, h2⟩
 go_wp2_with fail
 go_end0
 exact ⟨rfl, h2⟩
end Go.Proofs.YtbfepgjeecndiaaGreat

/- A row of votes of one's own; what the law of Missing says of lists (plain). -/
namespace Go.Proofs.YtbfepgjeecndiaaGreat
set_option maxRecDepth 100000
open Go.RowKit
set_option linter.unusedVariables false
set_option linter.unusedSimpArgs false
structure RwS (w : World) (base : Nat) (A : Option Addr) (n c : Nat) (D : List SgR) : Prop where
 own : w.ownsRow base 48 23 (.slice A n c) n (gcs D)
 sig : ∀ S ∈ D, OwnB w base 5 S.A S.n S.c S.sig ∧ S.v.wf
section
variable {w w' : World} {base n c : Nat} {A : Option Addr} {D : List SgR}
theorem RwS.nil (w : World) (base : Nat) : RwS w base none 0 0 [] := ⟨World.ownsRow_nil _ _ _ _, fun T hT => by cases hT⟩
theorem RwS.ext (h : RwS w base A n c D) (he : Ext w w') : RwS w' base A n c D := ⟨own_ext h.own he, fun T hT => ⟨OwnB.ext (h.sig T hT).1 he, (h.sig T hT).2⟩⟩
theorem RwS.sl (h : RwS w base A n c D) : SlG w A n c D := OwnG.sl (e := 48) h.own (fun T hT => ⟨(h.sig T hT).2, (h.sig T hT).1.sl⟩)
theorem RwS.len (h : RwS w base A n c D) : D.length = n := h.sl.len
theorem RwS.mono {base' : Nat} (h : RwS w base A n c D) (hb : base' ≤ base) : RwS w base' A n c D := ⟨own_mono h.own hb, fun T hT => ⟨own_mono (h.sig T hT).1 hb, (h.sig T hT).2⟩⟩
end
/-! steps of a drawn region -/
section
variable {ops : Array Oper} {o : Oper} {a : Act} {w : World} {K : Act → World → Prop} {Q : Exit → Act → World → Prop} {X : Prop}
theorem step_build0 {ty e : TypeId} (size : Nat) (hrun : ∀ w, (Instr.buildSlice ty 0 #[]).run Tryz.prog w = .ok (.slice (some ⟨w.heap.size, 0, none⟩) 0 0) (w.alloc (.cells #[] e))) (hgd : o.guard = none) (ho : o.op = .buildSlice ty 0 #[])
  (h : ∀ (g : Nat) (W2 : World), Hid (W2.ownsRow g e size (.slice (some ⟨g, 0, none⟩) 0 0) 0 [] ∧ Ext w W2 ∧ w.heap.size ≤ g ∧ g < W2.heap.size) → K (a.put o.dst (.slice (some ⟨g, 0, none⟩) 0 0)) W2) : if Region.wanted o (yielded ops a.tmps) = true then Oper.wp Tryz.prog o a w K Q else X := by
 have hw : Region.wanted o (yielded ops a.tmps) = true := by simp [Region.wanted, hgd]
 rw [if_pos hw]
 have this := hrun w
 have h2 := h _ _ (Lib.hid ⟨own_zero w e size, (Ext.refl w).alloc' _, Nat.le_refl _, by simp⟩)
 clear h
 generalize w.alloc (.cells #[] e) = W2 at *
 unfold Oper.wp execOp
 simp only [ho, List.map_toArray, List.map_nil, Sem.run_bind, Sem.run_pure, this, Result.andThen_ok, Oper.upon]
 exact h2
theorem yields_loadVtV {S : World → Prop} (hw : Region.wanted o (yielded ops a.tmps) = true) (x : Operand) (ho : o.op = .load 46 x) (b of : Nat) (hx : a.eval x = .pointer (some ⟨b, of, none⟩)) (R : VtR) (v : Value) (hv : Value.agg (vtA R) = v) (hS : ∀ w, S w → w.rangeAt b of (vtL R)) : YieldsIf Tryz.prog ops S o v a := by
 rw [← hv]; exact yields_loadVtA hw x ho b of hx R hS
theorem run_buildSgN (v : VtR) (A : Option Addr) (n c : Nat) (l : List UInt8) (w : World) : (Instr.build 48 #[(0, .agg (vtA v)), (1, .slice A n c)]).run Tryz.prog w = .ok (.agg (sgA ⟨v, A, n, c, l⟩)) w := by kernel_rfl
theorem yields_buildSgV {S : World → Prop} (hw : Region.wanted o (yielded ops a.tmps) = true) (x y : Operand) (ho : o.op = .build 48 #[(0, x), (1, y)]) (R : VtR) (A : Option Addr) (n c : Nat) (l : List UInt8) (vq v : Value) (hq : Value.agg (vtA R) = vq) (hv : Value.agg (sgA ⟨R, A, n, c, l⟩) = v) (hx : a.eval x = vq) (hy : a.eval y = .slice A n c) : YieldsIf Tryz.prog ops S o v a :=
 .inl ⟨hw, fun w hw' => by
  have this := run_buildSgN R A n c l w
  rw [hq, hv] at this
  unfold execOp
  simp only [ho, List.map_toArray, List.map_cons, List.map_nil, hx, hy, Sem.run_bind, Sem.run_pure, this, Result.andThen_ok]⟩
end
section
variable {α : Type} [RowT α]
theorem rows_sl {w : World} {base : Nat} {e : TypeId} {A : Option Addr} {n n2 c : Nat} {L L2 : List α} (h : w.ownsRow base e (RowT.sz α) (.slice A (n + n2) c) (n + n2) (gcs L ++ gcs L2)) (h1 : ∀ R ∈ L, RowT.ok R w) (h2 : ∀ R ∈ L2, RowT.ok R w) : SlG w A (n + n2) c (L ++ L2) := by
 rw [← gcs_append] at h
 refine OwnG.sl (e := e) h (fun R hR => ?_)
 rcases List.mem_append.1 hR with hR | hR
 ·exact h1 R hR
 ·exact h2 R hR
end
theorem RwS.setc {w : World} {base n c : Nat} {A : Option Addr} {D : List SgR} (h : RwS w base A n c D) {g i : Nat} {cs : Array Value} (hb : Blk w g 25 cs) (v : Value) : RwS (w.setCell ⟨g, i, none⟩ v) base A n c D :=
 ⟨World.ownsRow.kept h.own (grown_set w g i v) (.inr (Ne.symm (own_other h.own hb (by decide)))), fun T hT => ⟨World.ownsRow.kept (h.sig T hT).1 (grown_set w g i v) (.inr (Ne.symm (own_other (h.sig T hT).1 hb (by decide)))), (h.sig T hT).2⟩⟩
structure RuS (w W : World) (pa pb : Array Value) (A6 : Option Addr) (N c6 : Nat) (AL : List SgR) (A : Option Addr) (n c : Nat) (D : List SgR) : Prop where
 ba : Blk W w.heap.size 25 pa
 bb : Blk W (w.heap.size + 1) 25 pb
 br : Blk W (w.heap.size + 2) 25 (vwA none 0 0 none 0 0)
 bo : Blk W (w.heap.size + 3) 25 (vwA A n c none 0 0)
 all : W.ownsRow (w.heap.size + 4) 48 23 (.slice A6 N c6) N (gcs AL)
 row : RwS W (w.heap.size + 4) A n c D
 low : Ext w W
section
variable {w W W' : World} {pa pb : Array Value} {A6 : Option Addr} {N c6 : Nat} {AL : List SgR} {A A' : Option Addr} {n n' c c' : Nat} {D D' : List SgR}
theorem RuS.ext (h : RuS w W pa pb A6 N c6 AL A n c D) (he : Ext W W') : RuS w W' pa pb A6 N c6 AL A n c D := ⟨h.ba.ext he, h.bb.ext he, h.br.ext he, h.bo.ext he, own_ext h.all he, h.row.ext he, h.low.trans he⟩
theorem RuS.big (h : RuS w W pa pb A6 N c6 AL A n c D) : w.heap.size + 4 ≤ W.heap.size := h.bo.lt
theorem RuS.sla (h : RuS w W pa pb A6 N c6 AL A n c D) (hok : ∀ S, S ∈ AL → S.ok w) : SlG W A6 N c6 AL := OwnG.sl (e := 48) h.all (fun R hR => (hok R hR).ext h.low)
theorem RuS.put (h : RuS w W pa pb A6 N c6 AL A n c D) (he : Ext W W') (hr : RwS W' (w.heap.size + 4) A' n' c' D') (v : Value) (hv : v = .slice A' n' c') : RuS w (W'.setCell ⟨w.heap.size + 3, 0, none⟩ v) pa pb A6 N c6 AL A' n' c' D' := by
 subst hv
 have hb := h.bo.ext he
 have ha := own_ext h.all he
 exact ⟨(h.ba.ext he).far (p := ⟨w.heap.size + 3, 0, none⟩) (by simp) _, (h.bb.ext he).far (p := ⟨w.heap.size + 3, 0, none⟩) (by simp) _, (h.br.ext he).far (p := ⟨w.heap.size + 3, 0, none⟩) (by simp) _, hb.set 0 _, World.ownsRow.kept ha (grown_set W' _ 0 _) (.inr (Ne.symm (own_other ha hb (by decide)))), hr.setc hb _, (h.low.trans he).setCell (p := ⟨w.heap.size + 3, 0, none⟩) (by simp) _⟩
end
/-! plain: what is in a union -/
end Go.Proofs.YtbfepgjeecndiaaGreat
