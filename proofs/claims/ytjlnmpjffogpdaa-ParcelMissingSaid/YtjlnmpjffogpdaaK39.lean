/- A view of one's own whose rows are sorted or cut; laws for the region that builds the union. -/
import Derived.Test.YtjlnmpjffogpdaaK36
import Derived.Test.YtjlnmpjffogpdaaK18
import Derived.Test.YtjlnmpjffogpdaaK37
import Derived.Test.YtjlnmpjffogpdaaK38
import Derived.Test.YtjlnmpjffogpdaaK07
namespace Go.Proofs.Ytjlnmpjffogpdaa
open Go.RowKit
set_option linter.unusedVariables false
set_option linter.unusedSimpArgs false
attribute [local go_sem ↓] Go.wp_at_zero Go.wp_at_succ

theorem ownBlock_n (A : Option Addr) (n n' c c' : Nat) : Value.ownBlock (.slice A n c) = Value.ownBlock (.slice A n' c') := by cases A <;> rfl
section
variable {w0 w w' : World} {VB : Nat} {A : Option Addr} {n n' c : Nat} {L : List SgR} {B : Option Addr} {m m' d : Nat} {X : List TeR}
theorem ClS.kept1 (h : ClS w0 w VB A n c L B m d X) (hg : w.grownBy w' (Value.ownBlock (.slice A n c))) : Ext w0 w' ∧ (∀ g cs, Blk w g 32 cs → Blk w' g 32 cs) ∧ w'.ownsRow w0.heap.size 33 1 (.slice B m d) m (gcs X) ∧ ∀ T ∈ X, OwnB w' w0.heap.size 5 T.A T.n T.c T.l :=
  ⟨Below.grown h.low hg h.low.size (fun k hk => (World.ownsRow.lt h.vw.own1 k hk).1), fun g cs hb => hb.grown hg (own_other h.vw.own1 hb (by decide)), World.ownsRow.kept h.vw.own2 hg (own_ne h.vw.own2 h.vw.own1 (by decide)), fun T hT => World.ownsRow.kept (h.vw.tex T hT) hg (own_ne (h.vw.tex T hT) h.vw.own1 (by decide))⟩
theorem ClS.kept2 (h : ClS w0 w VB A n c L B m d X) (hg : w.grownBy w' (Value.ownBlock (.slice B m d))) : Ext w0 w' ∧ (∀ g cs, Blk w g 32 cs → Blk w' g 32 cs) ∧ w'.ownsRow w0.heap.size 45 23 (.slice A n c) n (gcs L) ∧ ∀ S ∈ L, OwnB w' w0.heap.size 5 S.A S.n S.c S.sig ∧ S.v.wf :=
  ⟨Below.grown h.low hg h.low.size (fun k hk => (World.ownsRow.lt h.vw.own2 k hk).1), fun g cs hb => hb.grown hg (own_other h.vw.own2 hb (by decide)), World.ownsRow.kept h.vw.own1 hg (own_ne h.vw.own1 h.vw.own2 (by decide)), fun S hS => ⟨World.ownsRow.kept (h.vw.sig S hS).1 hg (own_ne (h.vw.sig S hS).1 h.vw.own2 (by decide)), (h.vw.sig S hS).2⟩⟩
theorem ClS.rows1 (h : ClS w0 w VB A n c L B m d X) : RowS w w w0.heap.size 45 A n c L.toArray := RowS.start h.vw.own1 (fun x hx => by have := h.vw.sig x (by simpa using hx); exact this) (by decide)
theorem ClS.rows2 (h : ClS w0 w VB A n c L B m d X) : RowS w w w0.heap.size 33 B m d X.toArray := RowS.start h.vw.own2 (fun x hx => by have := h.vw.tex x (by simpa using hx); exact this) (by decide)
/-- the votes sorted in place -/
theorem ClS.row1 (h : ClS w0 w VB A n c L B m d X) {D : Array SgR} (k : RowS w w' w0.heap.size 45 A n c D) : ClS w0 w' VB A n c D.toList B m d X ∧ ∀ g cs, Blk w g 32 cs → Blk w' g 32 cs := by
  obtain ⟨h1, h2, h3, h4⟩ := h.kept1 k.gr
  exact ⟨⟨h2 _ _ h.blk, ⟨k.own, h3, fun S hS => k.ow S hS, h4⟩, h1, h.hV⟩, h2⟩
theorem ClS.row2 (h : ClS w0 w VB A n c L B m d X) {D : Array TeR} (k : RowS w w' w0.heap.size 33 B m d D) : ClS w0 w' VB A n c L B m d D.toList ∧ ∀ g cs, Blk w g 32 cs → Blk w' g 32 cs := by
  obtain ⟨h1, h2, h3, h4⟩ := h.kept2 k.gr
  exact ⟨⟨h2 _ _ h.blk, ⟨h3, k.own, h4, fun T hT => k.ow T hT⟩, h1, h.hV⟩, h2⟩
theorem ClS.blk1 (h : ClS w0 w VB A n c L B m d X) {D : Array SgR} (k : RowS w w' w0.heap.size 45 A n' c D) : Blk w' VB 32 (vwA A n c B m d) := by
  have hg := k.gr
  rw [ownBlock_n A n' n c c] at hg
  exact (h.kept1 hg).2.1 _ _ h.blk
theorem ClS.blk2 (h : ClS w0 w VB A n c L B m d X) {D : Array TeR} (k : RowS w w' w0.heap.size 33 B m' d D) : Blk w' VB 32 (vwA A n c B m d) := by
  have hg := k.gr
  rw [ownBlock_n B m' m d d] at hg
  exact (h.kept2 hg).2.1 _ _ h.blk
/-- the votes cut, and the row stored -/
theorem ClS.row1S (h : ClS w0 w VB A n c L B m d X) {D : Array SgR} (k : RowS w w' w0.heap.size 45 A n' c D) : ClS w0 (w'.setCell ⟨VB, 0, none⟩ (.slice A n' c)) VB A n' c D.toList B m d X ∧ ∀ g cs, g ≠ VB → Blk w g 32 cs → Blk (w'.setCell ⟨VB, 0, none⟩ (.slice A n' c)) g 32 cs := by
  have hg := k.gr
  rw [ownBlock_n A n' n c c] at hg
  obtain ⟨h1, h2, h3, h4⟩ := h.kept1 hg
  have hb := h2 _ _ h.blk
  have h5 := grown_set w' VB 0 (.slice A n' c)
  refine ⟨⟨hb.set 0 _, ⟨k.own.kept h5 (.inr (Ne.symm (own_other k.own hb (by decide)))), h3.kept h5 (.inr (Ne.symm (own_other h3 hb (by decide)))), fun S hS => ?_, fun T hT => World.ownsRow.kept (h4 T hT) h5 (.inr (Ne.symm (own_other (h4 T hT) hb (by decide))))⟩, h1.setCell (p := ⟨VB, 0, none⟩) (Nat.le_of_lt h.hV) _, h.hV⟩, fun g cs hne hq => (h2 _ _ hq).far (p := ⟨VB, 0, none⟩) hne _⟩
  have h6 := k.ow S hS
  exact ⟨World.ownsRow.kept h6.1 h5 (.inr (Ne.symm (own_other h6.1 hb (by decide)))), h6.2⟩
theorem ClS.row2S (h : ClS w0 w VB A n c L B m d X) {D : Array TeR} (k : RowS w w' w0.heap.size 33 B m' d D) : ClS w0 (w'.setCell ⟨VB, 1, none⟩ (.slice B m' d)) VB A n c L B m' d D.toList ∧ ∀ g cs, g ≠ VB → Blk w g 32 cs → Blk (w'.setCell ⟨VB, 1, none⟩ (.slice B m' d)) g 32 cs := by
  have hg := k.gr
  rw [ownBlock_n B m' m d d] at hg
  obtain ⟨h1, h2, h3, h4⟩ := h.kept2 hg
  have hb := h2 _ _ h.blk
  have h5 := grown_set w' VB 1 (.slice B m' d)
  refine ⟨⟨hb.set 1 _, ⟨h3.kept h5 (.inr (Ne.symm (own_other h3 hb (by decide)))), k.own.kept h5 (.inr (Ne.symm (own_other k.own hb (by decide)))), fun S hS => ⟨World.ownsRow.kept (h4 S hS).1 h5 (.inr (Ne.symm (own_other (h4 S hS).1 hb (by decide)))), (h4 S hS).2⟩, fun T hT => ?_⟩, h1.setCell (p := ⟨VB, 1, none⟩) (Nat.le_of_lt h.hV) _, h.hV⟩, fun g cs hne hq => (h2 _ _ hq).far (p := ⟨VB, 1, none⟩) hne _⟩
  have h6 : OwnB w' w0.heap.size 5 T.A T.n T.c T.l := k.ow T hT
  exact World.ownsRow.kept h6 h5 (.inr (Ne.symm (own_other h6 hb (by decide))))
end
/-! steps of a drawn region -/
section
variable {ops : Array Oper} {o : Oper} {a : Act} {w : World} {K : Act → World → Prop} {Q : Exit → Act → World → Prop} {X : Prop}
theorem run_build2s (A : Option Addr) (n c : Nat) (B : Option Addr) (m d : Nat) (w : World) : (Instr.buildSlice 133 2 #[(0, .slice A n c), (1, .slice B m d)]).run Try.prog w = .ok (.slice (some ⟨w.heap.size, 0, none⟩) 2 2) (w.alloc (.cells #[.slice A n c, .slice B m d] 29)) := by kernel_rfl
theorem run_build2t (A : Option Addr) (n c : Nat) (B : Option Addr) (m d : Nat) (w : World) : (Instr.buildSlice 134 2 #[(0, .slice A n c), (1, .slice B m d)]).run Try.prog w = .ok (.slice (some ⟨w.heap.size, 0, none⟩) 2 2) (w.alloc (.cells #[.slice A n c, .slice B m d] 30)) := by kernel_rfl
theorem step_build2 {ty e : TypeId} {A : Option Addr} {n c : Nat} {B : Option Addr} {m d : Nat} (hrun : ∀ w, (Instr.buildSlice ty 2 #[(0, .slice A n c), (1, .slice B m d)]).run Try.prog w = .ok (.slice (some ⟨w.heap.size, 0, none⟩) 2 2) (w.alloc (.cells #[.slice A n c, .slice B m d] e))) (hgd : o.guard = none) (x y : Operand) (ho : o.op = .buildSlice ty 2 #[(0, x), (1, y)]) (hx : a.eval x = .slice A n c) (hy : a.eval y = .slice B m d)
    (h : ∀ (g : Nat) (W2 : World), Hid (Blk W2 g e #[.slice A n c, .slice B m d] ∧ Ext w W2 ∧ w.heap.size ≤ g) → K (a.put o.dst (.slice (some ⟨g, 0, none⟩) 2 2)) W2) : if Region.wanted o (yielded ops a.tmps) = true then Oper.wp Try.prog o a w K Q else X := by
  have hw : Region.wanted o (yielded ops a.tmps) = true := by simp [Region.wanted, hgd]
  rw [if_pos hw]
  have this := hrun w
  have h2 := h _ _ (Lib.hid ⟨Blk.new w e #[.slice A n c, .slice B m d], (Ext.refl w).alloc' _, Nat.le_refl _⟩)
  clear h
  generalize w.alloc (.cells #[.slice A n c, .slice B m d] e) = W2 at *
  unfold Oper.wp execOp
  simp only [ho, List.map_toArray, List.map_cons, List.map_nil, hx, hy, Sem.run_bind, Sem.run_pure, this, Result.andThen_ok, Oper.upon]
  exact h2
theorem run_allocVw (w : World) : (Instr.alloc 32 true (.tuple #[])).run Try.prog w = .ok (.pointer (some ⟨w.heap.size, 0, none⟩)) (w.alloc (.cells (vwA none 0 0 none 0 0) 32)) := by kernel_rfl
theorem step_allocVw (hgd : o.guard = none) (ho : o.op = .alloc 32)
    (h : ∀ (g : Nat) (W2 : World), Hid (Blk W2 g 32 (vwA none 0 0 none 0 0) ∧ Ext w W2 ∧ w.heap.size ≤ g) → K (a.put o.dst (.pointer (some ⟨g, 0, none⟩))) W2) : if Region.wanted o (yielded ops a.tmps) = true then Oper.wp Try.prog o a w K Q else X := by
  have hw : Region.wanted o (yielded ops a.tmps) = true := by simp [Region.wanted, hgd]
  rw [if_pos hw]
  have this := run_allocVw w
  have h2 := h _ _ (Lib.hid ⟨Blk.new w 32 (vwA none 0 0 none 0 0), (Ext.refl w).alloc' _, Nat.le_refl _⟩)
  clear h
  generalize w.alloc (.cells (vwA none 0 0 none 0 0) 32) = W2 at *
  unfold Oper.wp execOp
  simp only [ho, Sem.run_bind, Sem.run_pure, this, Result.andThen_ok, Oper.upon]
  exact h2
theorem step_storeVw (hgd : o.guard = none) (x y : Operand) (ho : o.op = .store 32 x y) (g : Nat) (A : Option Addr) (n c : Nat) (B : Option Addr) (m d : Nat) (hx : a.eval x = .pointer (some ⟨g, 0, none⟩)) (hy : a.eval y = .agg (vwA A n c B m d)) (hb : Blk w g 32 (vwA none 0 0 none 0 0))
    (h : ∀ W2, Hid (W2 = w.setCells g 0 [.slice A n c, .slice B m d]) → K (a.put o.dst undef) W2) : if Region.wanted o (yielded ops a.tmps) = true then Oper.wp Try.prog o a w K Q else X := by
  have hw : Region.wanted o (yielded ops a.tmps) = true := by simp [Region.wanted, hgd]
  rw [if_pos hw]
  exact wp_store_mid (P := Try.prog) (Q := Q) (op := o) (K := K) 32 x y ho g 0 (vwA A n c B m d) hx hy (show w.there g 0 2 from there_of_blk hb) (by kernel_rfl) (by kernel_rfl) (h _ (Lib.hid rfl))
end
/-- the union, stored -/
theorem ClS.ofStore {w0 w W2 : World} {g : Nat} {A : Option Addr} {n c : Nat} {L : List SgR} {B : Option Addr} {m d : Nat} {X : List TeR} (hb : Blk w g 32 (vwA none 0 0 none 0 0)) (hv : VwO w w0.heap.size A n c L B m d X) (hE : Ext w0 w) (hg : w0.heap.size < g) (hW : W2 = w.setCells g 0 [.slice A n c, .slice B m d]) :
    ClS w0 W2 g A n c L B m d X ∧ (∀ k cs, k ≠ g → Blk w k 32 cs → Blk W2 k 32 cs) := by
  subst hW
  exact ⟨⟨blk_whole (ds := vwA A n c B m d) hb rfl, hv.set hb _, Below.setCells' hE (Nat.le_of_lt hg) _ _, hg⟩, fun k cs hne hk => hk.setCells_far hne _ 0⟩
end Go.Proofs.Ytjlnmpjffogpdaa

/- What the bytes of parcels tell, as values; many parcels together (plain). -/
namespace Go.Proofs.Ytjlnmpjffogpdaa
open Go.RowKit
set_option linter.unusedVariables false
set_option linter.unusedSimpArgs false
theorem dTe_len : ∀ (k : Nat) (r : List UInt8) (acc acc' : List (List UInt8)) (r' : List UInt8), dTe k r acc = some (acc', r') → (∀ q ∈ acc, q.length ≤ 65535) → ∀ q ∈ acc', q.length ≤ 65535
  | 0, r, acc, acc', r', h, ha => by
    simp only [dTe, Option.some.injEq, Prod.mk.injEq] at h
    rw [← h.1]; exact ha
  | k + 1, r, acc, acc', r', h, ha => by
    unfold dTe at h
    split at h
    · refine dTe_len k _ _ acc' r' h (fun q hq => ?_)
      rcases List.mem_append.1 hq with hq | hq
      · exact ha q hq
      · rw [List.mem_singleton.1 hq, List.length_take]
        have h1 := beNat_lt (r.take 2)
        have h2 : 256 ^ (r.take 2).length ≤ 256 ^ 2 := Nat.pow_le_pow_right (by omega) (by rw [List.length_take]; omega)
        omega
    · cases h
theorem rawVw_len {l : List UInt8} {LV : List SgV} {XV : List (List UInt8)} (h : rawVw l = some (LV, XV)) : ∀ q ∈ XV, q.length ≤ 65535 := by
  unfold rawVw contS at h
  split at h
  · cases h
  · split at h
    · cases h
    · rename_i P' r' _
      unfold contT at h
      split at h
      · cases h
      · split at h
        · cases h
        · rename_i Q' r2 hd
          split at h
          · injection h with h; injection h with _ h; subst h
            exact dTe_len _ _ _ _ _ hd (fun q hq => by cases hq)
          · cases h
/-- what a parcel holds -/
def pcDecV (l : List UInt8) : Option (List SgV × List (List UInt8)) := if 8 ≤ l.length ∧ sumOk l = true then
    (match rawVw (l.drop 8) with
    | none => none
    | some (LV, XV) => if (adjB ltSv LV && adjB lexB XV) = true ∧ lrgN LV.length XV.length = false then some (LV, XV) else none)
  else none
/-- parcels joined: their votes and texts one behind the other, and how many are damaged -/
def joS (s : (List SgV × List (List UInt8)) × Nat) (l : List UInt8) : (List SgV × List (List UInt8)) × Nat := match pcDecV l with
  | none => (s.1, s.2 + 1)
  | some (LV, XV) => ((s.1.1 ++ LV, s.1.2 ++ XV), s.2)
def joV (ls : List (List UInt8)) : (List SgV × List (List UInt8)) × Nat := ls.foldl joS (([], []), 0)
theorem joV_snoc (ls : List (List UInt8)) (l : List UInt8) : joV (ls ++ [l]) = joS (joV ls) l := by unfold joV; rw [List.foldl_append]; rfl
def mkSg (v : SgV) : SgR := ⟨v.1, none, 0, 0, v.2⟩
def mkTe (l : List UInt8) : TeR := ⟨none, 0, 0, l⟩
theorem mkSg_V (LV : List SgV) : (LV.map mkSg).map SgR.V = LV := by rw [List.map_map]; exact List.map_id'' (fun _ => rfl) LV
theorem mkTe_l (XV : List (List UInt8)) : (XV.map mkTe).map TeR.l = XV := by rw [List.map_map]; exact List.map_id'' (fun _ => rfl) XV
theorem pcDecV_short {l : List UInt8} (h : l.length < 8) : pcDecV l = none := by unfold pcDecV; rw [if_neg (fun hh => by omega)]
theorem pcDecV_sum {l : List UInt8} (h : sumOk l = false) : pcDecV l = none := by unfold pcDecV; rw [if_neg (fun hh => by rw [h] at hh; cases hh.2)]
theorem pcDecV_raw {l : List UInt8} (h : ∀ (L : List SgR) (X : List TeR), rawVw (l.drop 8) = some (L.map SgR.V, X.map TeR.l) → ordV L X = false) : pcDecV l = none := by
  unfold pcDecV
  split
  · split
    · rfl
    · rename_i LV XV hr
      have := h (LV.map mkSg) (XV.map mkTe) (by rw [mkSg_V, mkTe_l]; exact hr)
      rw [ordV_V, mkSg_V, mkTe_l] at this
      rw [if_neg (fun hh => by rw [this] at hh; cases hh.1)]
  · rfl
theorem pcDecV_large {l : List UInt8} {L : List SgR} {X : List TeR} (hr : rawVw (l.drop 8) = some (L.map SgR.V, X.map TeR.l)) (h : lrgN L.length X.length = true) : pcDecV l = none := by
  unfold pcDecV
  split
  · rw [hr]
    simp only [List.length_map]
    rw [if_neg (fun hh => by rw [h] at hh; cases hh.2)]
  · rfl
theorem pcDecV_yes {l : List UInt8} {L : List SgR} {X : List TeR} (h8 : 8 ≤ l.length) (hs : sumOk l = true) (hr : rawVw (l.drop 8) = some (L.map SgR.V, X.map TeR.l)) (ho : ordV L X = true) (h : lrgN L.length X.length = false) : pcDecV l = some (L.map SgR.V, X.map TeR.l) := by
  unfold pcDecV
  rw [if_pos ⟨h8, hs⟩, hr]
  simp only [List.length_map]
  rw [if_pos ⟨by rw [← ordV_V]; exact ho, h⟩]
/-- Decode, told by values -/
def PcDec2 (w : World) (l : List UInt8) (e : Ending) (w' : World) : Prop :=
  ∃ (A : Option Addr) (n c : Nat) (L : List SgR) (B : Option Addr) (m d : Nat) (X : List TeR) (z : Int), e = .returned (.tuple #[.agg (vwA A n c B m d), .int .i64 z]) ∧ VwO w' w.heap.size A n c L B m d X ∧ Ext w w' ∧
    ((z ≠ 0 ∧ pcDecV l = none) ∨ (z = 0 ∧ pcDecV l = some (L.map SgR.V, X.map TeR.l) ∧ n ≤ 64 ∧ m ≤ 64 ∧ (∀ S, S ∈ L → S.n = 370) ∧ ∀ T, T ∈ X → T.n ≤ 65535))
theorem pcDec2_any (A : Option Addr) (n c : Nat) (l : List UInt8) (w : World) (hS : SlB w A n c l) (hbd : n ≤ 100000000) : Calls Try.prog 27 #[.slice A n c] w (PcDec2 w l) := by
  refine (pcDec_any A n c l w hS hbd).mono ?_
  rintro e w' ⟨A', n', c', L, B, m, d, X, z, he, hv, hE, hc⟩
  refine ⟨A', n', c', L, B, m, d, X, z, he, hv, hE, ?_⟩
  rcases hc with ⟨rfl, h, -⟩ | ⟨rfl, -, h, -⟩ | ⟨rfl, -, -, -, -, h⟩ | ⟨rfl, -, -, -, -, L2, X2, h, -, h2⟩ | ⟨rfl, h8, hs, hr, ho, hl, hv2⟩
  · exact .inl ⟨by decide, pcDecV_short h⟩
  · exact .inl ⟨by decide, pcDecV_sum h⟩
  · exact .inl ⟨by decide, pcDecV_raw h⟩
  · exact .inl ⟨by decide, pcDecV_large h h2⟩
  · have hn : L.length = n' := hv.sl1.len
    have hm : X.length = m := hv.sl2.len
    have hlg := hl
    unfold lrgN at hlg
    rw [hn, hm, Bool.or_eq_false_iff] at hlg
    have h1 := of_decide_eq_false hlg.1
    have h2 := of_decide_eq_false hlg.2
    refine .inr ⟨rfl, pcDecV_yes h8 hs hr ho hl, by omega, by omega, fun S hS => ?_, fun T hT => ?_⟩
    · have := hv2 S hS
      unfold vldSg at this
      rw [Bool.and_eq_true] at this
      exact of_decide_eq_true this.2
    · have := rawVw_len hr T.l (List.mem_map_of_mem hT)
      have h3 := SlB.len (hv.sl2.ok T hT)
      omega
end Go.Proofs.Ytjlnmpjffogpdaa

/- A row of votes of one's own; what the law of Missing says of lists (plain). -/
namespace Go.Proofs.Ytjlnmpjffogpdaa
open Go.RowKit
set_option linter.unusedVariables false
set_option linter.unusedSimpArgs false
/-- a row of signed votes of one's own -/
structure RwS (w : World) (base : Nat) (A : Option Addr) (n c : Nat) (D : List SgR) : Prop where
  own : w.ownsRow base 45 23 (.slice A n c) n (gcs D)
  sig : ∀ S ∈ D, OwnB w base 5 S.A S.n S.c S.sig ∧ S.v.wf
section
variable {w w' : World} {base n c : Nat} {A : Option Addr} {D : List SgR}
theorem RwS.nil (w : World) (base : Nat) : RwS w base none 0 0 [] := ⟨World.ownsRow_nil _ _ _ _, fun T hT => by cases hT⟩
theorem RwS.ext (h : RwS w base A n c D) (he : Ext w w') : RwS w' base A n c D := ⟨own_ext h.own he, fun T hT => ⟨OwnB.ext (h.sig T hT).1 he, (h.sig T hT).2⟩⟩
theorem RwS.sl (h : RwS w base A n c D) : SlG w A n c D := OwnG.sl (e := 45) h.own (fun T hT => ⟨(h.sig T hT).2, (h.sig T hT).1.sl⟩)
theorem RwS.len (h : RwS w base A n c D) : D.length = n := h.sl.len
theorem RwS.mono {base' : Nat} (h : RwS w base A n c D) (hb : base' ≤ base) : RwS w base' A n c D := ⟨own_mono h.own hb, fun T hT => ⟨own_mono (h.sig T hT).1 hb, (h.sig T hT).2⟩⟩
end
/-! steps of a drawn region -/
section
variable {ops : Array Oper} {o : Oper} {a : Act} {w : World} {K : Act → World → Prop} {Q : Exit → Act → World → Prop} {X : Prop}
/-- an empty slice is made -/
theorem step_build0 {ty e : TypeId} (size : Nat) (hrun : ∀ w, (Instr.buildSlice ty 0 #[]).run Try.prog w = .ok (.slice (some ⟨w.heap.size, 0, none⟩) 0 0) (w.alloc (.cells #[] e))) (hgd : o.guard = none) (ho : o.op = .buildSlice ty 0 #[])
    (h : ∀ (g : Nat) (W2 : World), Hid (W2.ownsRow g e size (.slice (some ⟨g, 0, none⟩) 0 0) 0 [] ∧ Ext w W2 ∧ w.heap.size ≤ g ∧ g < W2.heap.size) → K (a.put o.dst (.slice (some ⟨g, 0, none⟩) 0 0)) W2) : if Region.wanted o (yielded ops a.tmps) = true then Oper.wp Try.prog o a w K Q else X := by
  have hw : Region.wanted o (yielded ops a.tmps) = true := by simp [Region.wanted, hgd]
  rw [if_pos hw]
  have this := hrun w
  have h2 := h _ _ (Lib.hid ⟨own_zero w e size, (Ext.refl w).alloc' _, Nat.le_refl _, by simp⟩)
  clear h
  generalize w.alloc (.cells #[] e) = W2 at *
  unfold Oper.wp execOp
  simp only [ho, List.map_toArray, List.map_nil, Sem.run_bind, Sem.run_pure, this, Result.andThen_ok, Oper.upon]
  exact h2
theorem yields_loadVtV {S : World → Prop} (hw : Region.wanted o (yielded ops a.tmps) = true) (x : Operand) (ho : o.op = .load 28 x) (b of : Nat) (hx : a.eval x = .pointer (some ⟨b, of, none⟩)) (R : VtR) (v : Value) (hv : Value.agg (vtA R) = v) (hS : ∀ w, S w → w.rangeAt b of (vtL R)) : YieldsIf Try.prog ops S o v a := by
  rw [← hv]; exact yields_loadVtA hw x ho b of hx R hS
set_option maxRecDepth 100000 in
theorem run_buildSgN (v : VtR) (A : Option Addr) (n c : Nat) (l : List UInt8) (w : World) : (Instr.build 45 #[(0, .agg (vtA v)), (1, .slice A n c)]).run Try.prog w = .ok (.agg (sgA ⟨v, A, n, c, l⟩)) w := by kernel_rfl
theorem yields_buildSgV {S : World → Prop} (hw : Region.wanted o (yielded ops a.tmps) = true) (x y : Operand) (ho : o.op = .build 45 #[(0, x), (1, y)]) (R : VtR) (A : Option Addr) (n c : Nat) (l : List UInt8) (vq v : Value) (hq : Value.agg (vtA R) = vq) (hv : Value.agg (sgA ⟨R, A, n, c, l⟩) = v) (hx : a.eval x = vq) (hy : a.eval y = .slice A n c) : YieldsIf Try.prog ops S o v a :=
  .inl ⟨hw, fun w hw' => by
    have this := run_buildSgN R A n c l w
    rw [hq, hv] at this
    unfold execOp
    simp only [ho, List.map_toArray, List.map_cons, List.map_nil, hx, hy, Sem.run_bind, Sem.run_pure, this, Result.andThen_ok]⟩
end
section
variable {α : Type} [RowT α]
/-- two rows, one behind the other -/
theorem rows_sl {w : World} {base : Nat} {e : TypeId} {A : Option Addr} {n n2 c : Nat} {L L2 : List α} (h : w.ownsRow base e (RowT.sz α) (.slice A (n + n2) c) (n + n2) (gcs L ++ gcs L2)) (h1 : ∀ R ∈ L, RowT.ok R w) (h2 : ∀ R ∈ L2, RowT.ok R w) : SlG w A (n + n2) c (L ++ L2) := by
  rw [← gcs_append] at h
  refine OwnG.sl (e := e) h (fun R hR => ?_)
  rcases List.mem_append.1 hR with hR | hR
  · exact h1 R hR
  · exact h2 R hR
end
theorem RwS.setc {w : World} {base n c : Nat} {A : Option Addr} {D : List SgR} (h : RwS w base A n c D) {g i : Nat} {cs : Array Value} (hb : Blk w g 32 cs) (v : Value) : RwS (w.setCell ⟨g, i, none⟩ v) base A n c D :=
  ⟨World.ownsRow.kept h.own (grown_set w g i v) (.inr (Ne.symm (own_other h.own hb (by decide)))), fun T hT => ⟨World.ownsRow.kept (h.sig T hT).1 (grown_set w g i v) (.inr (Ne.symm (own_other (h.sig T hT).1 hb (by decide)))), (h.sig T hT).2⟩⟩
/-- the state of the reference's Union: its two views, its result, the row of all votes, the row of those in order -/
structure RuS (w W : World) (pa pb : Array Value) (A6 : Option Addr) (N c6 : Nat) (AL : List SgR) (A : Option Addr) (n c : Nat) (D : List SgR) : Prop where
  ba : Blk W w.heap.size 32 pa
  bb : Blk W (w.heap.size + 1) 32 pb
  br : Blk W (w.heap.size + 2) 32 (vwA none 0 0 none 0 0)
  bo : Blk W (w.heap.size + 3) 32 (vwA A n c none 0 0)
  all : W.ownsRow (w.heap.size + 4) 45 23 (.slice A6 N c6) N (gcs AL)
  row : RwS W (w.heap.size + 4) A n c D
  low : Ext w W
section
variable {w W W' : World} {pa pb : Array Value} {A6 : Option Addr} {N c6 : Nat} {AL : List SgR} {A A' : Option Addr} {n n' c c' : Nat} {D D' : List SgR}
theorem RuS.ext (h : RuS w W pa pb A6 N c6 AL A n c D) (he : Ext W W') : RuS w W' pa pb A6 N c6 AL A n c D := ⟨h.ba.ext he, h.bb.ext he, h.br.ext he, h.bo.ext he, own_ext h.all he, h.row.ext he, h.low.trans he⟩
theorem RuS.big (h : RuS w W pa pb A6 N c6 AL A n c D) : w.heap.size + 4 ≤ W.heap.size := h.bo.lt
theorem RuS.sla (h : RuS w W pa pb A6 N c6 AL A n c D) (hok : ∀ S, S ∈ AL → S.ok w) : SlG W A6 N c6 AL := OwnG.sl (e := 45) h.all (fun R hR => (hok R hR).ext h.low)
theorem RuS.put (h : RuS w W pa pb A6 N c6 AL A n c D) (he : Ext W W') (hr : RwS W' (w.heap.size + 4) A' n' c' D') (v : Value) (hv : v = .slice A' n' c') : RuS w (W'.setCell ⟨w.heap.size + 3, 0, none⟩ v) pa pb A6 N c6 AL A' n' c' D' := by
  subst hv
  have hb := h.bo.ext he
  have ha := own_ext h.all he
  exact ⟨(h.ba.ext he).far (p := ⟨w.heap.size + 3, 0, none⟩) (by simp) _, (h.bb.ext he).far (p := ⟨w.heap.size + 3, 0, none⟩) (by simp) _, (h.br.ext he).far (p := ⟨w.heap.size + 3, 0, none⟩) (by simp) _, hb.set 0 _, World.ownsRow.kept ha (grown_set W' _ 0 _) (.inr (Ne.symm (own_other ha hb (by decide)))), hr.setc hb _, (h.low.trans he).setCell (p := ⟨w.heap.size + 3, 0, none⟩) (by simp) _⟩
end
/-! plain: what is in a union -/
theorem law_votes {L L2 M LA : List SgR} (hM : M.map SgR.V = (canonO ltSv (L2.map SgR.V)).filter (fun v => !decide (v.1 ∈ L.map SgR.v))) (hA : LA.map SgR.V = canonO ltSv ((L ++ M).map SgR.V)) (S : SgR) (hS : S ∈ L2) : ∃ Q ∈ LA, Q.v = S.v := by
  have key : ∀ v : SgV, v ∈ (L ++ M).map SgR.V → v.1 = S.v → ∃ Q ∈ LA, Q.v = S.v := fun v hv h1 => by
    have : v ∈ LA.map SgR.V := by rw [hA, mem_canonO ltSv_sto]; exact hv
    obtain ⟨Q, hQ, rfl⟩ := List.mem_map.1 this
    exact ⟨Q, hQ, h1⟩
  by_cases h : S.v ∈ L.map SgR.v
  · obtain ⟨R, hR, hv⟩ := List.mem_map.1 h
    exact key R.V (List.mem_map.2 ⟨R, List.mem_append_left _ hR, rfl⟩) hv
  · refine key S.V ?_ rfl
    rw [List.map_append, List.mem_append]
    right
    rw [hM, List.mem_filter, mem_canonO ltSv_sto]
    exact ⟨List.mem_map.2 ⟨S, hS, rfl⟩, by simpa [SgR.V] using h⟩
theorem law_texts {X X2 M : List TeR} (hM : M.map TeR.l = (canonO lexB (X2.map TeR.l)).filter (fun l => !decide (l ∈ X.map TeR.l))) : canonO lexB ((X ++ M).map TeR.l) = canonO lexB ((X ++ X2).map TeR.l) := by
  refine canonO_congr lexB_sto (fun y => ?_)
  rw [List.map_append, List.map_append, List.mem_append, List.mem_append, hM, List.mem_filter, mem_canonO lexB_sto]
  by_cases h : y ∈ X.map TeR.l
  · simp [h]
  · simp [h]
end Go.Proofs.Ytjlnmpjffogpdaa
