/- Copies of signed votes and of views (snapshot.cloneVote, Clone). -/
import Derived.Lib.AppendZerosOnto
import Derived.Lib.SliceRun
import Derived.Test.YtbfepgjeecndiaaGreatJ23
namespace Go.Proofs.YtbfepgjeecndiaaGreat
set_option maxRecDepth 100000
set_option maxHeartbeats 8000000
open Go.RowKit
set_option linter.unusedVariables false
set_option linter.unusedSimpArgs false
attribute [local go_sem ↓] Go.wp_at_zero Go.wp_at_succ
theorem bClone2_any (A : Option Addr) (n c : Nat) (l : List UInt8) (w : World) (h : SlB w A n c l) (hn : n ≤ 140737488355328) :
  Calls Tryz.prog 87 #[.slice A n c] w fun e w' => ∃ A' c', e = .returned (.slice A' n c') ∧ OwnB w' w.heap.size 5 A' n c' l ∧ Ext w w' := by
 rcases A with _ | ad
 ·have hl : l = [] := by
   rcases h.rd with h | ⟨b, o, h, _⟩
   ·have := congrArg List.length h; rw [bcs_length] at this; exact List.length_eq_zero_iff.1 this
   ·cases h
  subst hl
  obtain rfl : n = 0 := by have := h.len; simpa using this.symm
  have hq := run_eql_slice_nil (P := Tryz.prog) w 28 5 none 0 c Tryz.underlying28
  go_enter Tryz.func87, Tryz.ntmps87
  go_wp2_with fail
  go_ret
  exact ⟨_, _, rfl, OwnB.nil _ _ _, Ext.refl _⟩
 ·have hq := run_eql_slice_nil (P := Tryz.prog) w 28 5 (some ad) n c Tryz.underlying28
  go_enter Tryz.func87, Tryz.ntmps87
  go_wp2_with (at_builtin; go_must (refine wpList_appB bytesE rfl (.tmp 5) (.tmp 6) rfl w.heap.size _ _ _ [] rfl ?r0 _ _ _ l rfl ?r1 (by omega) ?b1 w ?w1 ?_))
  case r0 => exact OwnB.made w w.heap.size _ 0 w.heap.size rfl (Nat.le_refl _) (by omega) rfl
  case r1 => exact h.ext ((Ext.refl w).alloc' _)
  case b1 => exact ((Ext.refl w).alloc' _).size
  case w1 => exact (Ext.refl w).alloc' _
  intro A' c' w' hO hB hs
  go_wp2_with fail
  go_ret
  exact ⟨_, _, rfl, hO, hB⟩
def sgC (S : SgR) (A : Option Addr) (c : Nat) : SgR := ⟨S.v, A, S.n, c, S.sig⟩
theorem cloneVote_any (S : SgR) (w : World) (h : S.ok w) (hn : S.n ≤ 140737488355328) :
  Calls Tryz.prog 86 #[.agg (sgA S)] w fun e w' => ∃ A' c', e = .returned (.agg (sgA (sgC S A' c'))) ∧ OwnB w' w.heap.size 5 A' S.n c' S.sig ∧ Ext w w' := by
 have HB0 := Lib.hid (Blk.new w 48 (sgA S))
 have HX0 := Lib.hid ((Ext.refl w).alloc' (.cells (sgA S) 48))
 have HB1 := Lib.hid (HB0.out.alloc (.cells sg0 48))
 have HR1 := Lib.hid (show Blk ((w.alloc (.cells (sgA S) 48)).alloc (.cells sg0 48)) (w.heap.size + 1) 48 sg0 from Blk.newAt _ _ _ _ (by simp))
 have HX1 := Lib.hid (HX0.out.alloc' (.cells sg0 48))
 have HS1 := Lib.hid (h.sig.ext HX1.out)
 have q0 : ((w.alloc (.cells (sgA S) 48)).alloc (.cells sg0 48)).cell? ⟨w.heap.size, 22, none⟩ = some (.slice S.A S.n S.c) := HB1.out.cell 22
 clear h
 go_enter Tryz.func86, Tryz.ntmps86
 go_wp2_with fail
 refine (bClone2_any S.A S.n S.c S.sig _ HS1.out hn).mono ?_
 rintro e w2 ⟨A', c', rfl, hO2, he2⟩
 have HB2 := Lib.hid (HB1.out.ext he2)
 have HR2 := Lib.hid (HR1.out.ext he2)
 have HX2 := Lib.hid (HX1.out.trans he2)
 have HB3 := Lib.hid (show Blk (w2.setCell ⟨w.heap.size, 22, none⟩ (.slice A' S.n c')) w.heap.size 48 (sgA (sgC S A' c')) from HB2.out.set 22 _)
 have hr3 : (w2.setCell ⟨w.heap.size, 22, none⟩ (.slice A' S.n c')).rangeAt w.heap.size 0 (sgL (sgC S A' c')) := rangeAt_of_blk HB3.out
 have f2 := HB2.out.frozen 22
 have q2 : w2.cell? ⟨w.heap.size, 22, none⟩ = some (.slice S.A S.n S.c) := HB2.out.cell 22
 have ht : (w2.setCell ⟨w.heap.size, 22, none⟩ (.slice A' S.n c')).there (w.heap.size + 1) 0 23 := there_of_blk (HR2.out.far (p := ⟨w.heap.size, 22, none⟩) (by simp) _)
 have HX3 := Lib.hid (show Ext w (w2.setCell ⟨w.heap.size, 22, none⟩ (.slice A' S.n c')) from HX2.out.setCell (p := ⟨w.heap.size, 22, none⟩) (Nat.le_refl _) _)
 have HR3 := Lib.hid (HR2.out.far (p := ⟨w.heap.size, 22, none⟩) (by simp) (.slice A' S.n c'))
 have hst := blk_whole (ds := sgA (sgC S A' c')) HR3.out rfl
 have HO3 := Lib.hid (show OwnB (w2.setCell ⟨w.heap.size, 22, none⟩ (.slice A' S.n c')) w.heap.size 5 A' S.n c' S.sig from by
  have hq := own_mono hO2 HX1.out.size
  exact World.ownsRow.kept hq (grown_set w2 w.heap.size 22 _) (.inr (Ne.symm (own_other hq HB2.out (by decide)))))
 clear hO2 he2
 go_wp2_with (first | (with_reducible refine wpList_loadSg rfl (.tmp 1) rfl w.heap.size 0 rfl (sgC S A' c') hr3 ?_) | (with_reducible refine wpList_storeSg rfl (.tmp 2) (.tmp 7) rfl (w.heap.size + 1) (sgC S A' c') rfl rfl ht ?_))
 exact bodyPost_ret (v := .agg (sgA (sgC S A' c'))) (retC rfl _ _ (w.heap.size + 1) _ rfl (run_loadVar_row _ _ _ _ _ (0, 0) _ hst Tryz.underlying48 rfl (by kernel_rfl))) rfl ⟨A', c', rfl, World.ownsRow.kept HO3.out (grown_setCells' _ (w.heap.size + 1) _ 0) (.inr (Ne.symm (own_other HO3.out HR3.out (by decide)))), Below.setCells' HX3.out (Nat.le_succ _) _ _⟩
structure ClS (w0 w : World) (VB : Nat) (A : Option Addr) (n c : Nat) (L : List SgR) (B : Option Addr) (m d : Nat) (X : List TeR) : Prop where
 blk : Blk w VB 25 (vwA A n c B m d)
 vw : VwO w w0.heap.size A n c L B m d X
 low : Ext w0 w
 hV : w0.heap.size < VB
section
variable {w0 w w' : World} {VB : Nat} {A : Option Addr} {n c : Nat} {L : List SgR} {B : Option Addr} {m d : Nat} {X : List TeR}
theorem ClS.ext (h : ClS w0 w VB A n c L B m d X) (he : Ext w w') : ClS w0 w' VB A n c L B m d X := ⟨h.blk.ext he, h.vw.ext he, h.low.trans he, h.hV⟩
theorem ClS.push1 (h : ClS w0 w VB A n c L B m d X) {A' : Option Addr} {c' : Nat} {S : SgR} (hS : OwnB w w0.heap.size 5 S.A S.n S.c S.sig ∧ S.v.wf) (hg : w.grownBy w' (Value.ownBlock (.slice A n c))) (ho : w'.ownsRow w0.heap.size 48 23 (.slice A' (n + 1) c') (n + 1) (gcs L ++ sgL S)) :
  ClS w0 (w'.setCell ⟨VB, 0, none⟩ (.slice A' (n + 1) c')) VB A' (n + 1) c' (L ++ [S]) B m d X ∧ ∀ g cs, g ≠ VB → Blk w g 25 cs → Blk (w'.setCell ⟨VB, 0, none⟩ (.slice A' (n + 1) c')) g 25 cs := by
 have h2 : Blk w' VB 25 (vwA A n c B m d) := h.blk.grown hg (own_other h.vw.own1 h.blk (by decide))
 have h3 := grown_set w' VB 0 (.slice A' (n + 1) c')
 have h4 : Ext w0 w' := Below.grown h.low hg h.low.size (fun k hk => (World.ownsRow.lt h.vw.own1 k hk).1)
 have h5 : Ext w0 (w'.setCell ⟨VB, 0, none⟩ (.slice A' (n + 1) c')) := h4.setCell (p := ⟨VB, 0, none⟩) (Nat.le_of_lt h.hV) _
 have hB1 : ∀ {A0 : Option Addr} {n0 c0 : Nat} {l0 : List UInt8}, OwnB w w0.heap.size 5 A0 n0 c0 l0 → OwnB (w'.setCell ⟨VB, 0, none⟩ (.slice A' (n + 1) c')) w0.heap.size 5 A0 n0 c0 l0 := fun hQ => by
  have hq : OwnB w' w0.heap.size 5 _ _ _ _ := World.ownsRow.kept hQ hg (own_ne hQ h.vw.own1 (by decide))
  exact World.ownsRow.kept hq h3 (.inr (Ne.symm (own_other hq h2 (by decide))))
 refine ⟨⟨h2.set 0 _, ⟨?_, ?_, ?_, fun T hT => hB1 (h.vw.tex T hT)⟩, h5, h.hV⟩, fun g cs hne hb => (hb.grown hg (own_other h.vw.own1 hb (by decide))).far (p := ⟨VB, 0, none⟩) hne _⟩
 ·have := ho.kept h3 (.inr (Ne.symm (own_other ho h2 (by decide))))
  rw [gcs_append, gcs_one]
  exact this
 ·have hq := World.ownsRow.kept h.vw.own2 hg (own_ne h.vw.own2 h.vw.own1 (by decide))
  exact hq.kept h3 (.inr (Ne.symm (own_other hq h2 (by decide))))
 ·intro Q hQ
  rcases List.mem_append.1 hQ with hQ | hQ
  ·exact ⟨hB1 (h.vw.sig Q hQ).1, (h.vw.sig Q hQ).2⟩
  ·rw [List.mem_singleton.1 hQ]; exact ⟨hB1 hS.1, hS.2⟩
theorem ClS.push2 (h : ClS w0 w VB A n c L B m d X) {B' : Option Addr} {d' : Nat} {T : TeR} (hT : OwnB w w0.heap.size 5 T.A T.n T.c T.l) (hg : w.grownBy w' (Value.ownBlock (.slice B m d))) (ho : w'.ownsRow w0.heap.size 28 1 (.slice B' (m + 1) d') (m + 1) (gcs X ++ teL T)) :
  ClS w0 (w'.setCell ⟨VB, 1, none⟩ (.slice B' (m + 1) d')) VB A n c L B' (m + 1) d' (X ++ [T]) ∧ ∀ g cs, g ≠ VB → Blk w g 25 cs → Blk (w'.setCell ⟨VB, 1, none⟩ (.slice B' (m + 1) d')) g 25 cs := by
 have h2 : Blk w' VB 25 (vwA A n c B m d) := h.blk.grown hg (own_other h.vw.own2 h.blk (by decide))
 have h3 := grown_set w' VB 1 (.slice B' (m + 1) d')
 have h4 : Ext w0 w' := Below.grown h.low hg h.low.size (fun k hk => (World.ownsRow.lt h.vw.own2 k hk).1)
 have h5 : Ext w0 (w'.setCell ⟨VB, 1, none⟩ (.slice B' (m + 1) d')) := h4.setCell (p := ⟨VB, 1, none⟩) (Nat.le_of_lt h.hV) _
 have hB1 : ∀ {A0 : Option Addr} {n0 c0 : Nat} {l0 : List UInt8}, OwnB w w0.heap.size 5 A0 n0 c0 l0 → OwnB (w'.setCell ⟨VB, 1, none⟩ (.slice B' (m + 1) d')) w0.heap.size 5 A0 n0 c0 l0 := fun hQ => by
  have hq : OwnB w' w0.heap.size 5 _ _ _ _ := World.ownsRow.kept hQ hg (own_ne hQ h.vw.own2 (by decide))
  exact World.ownsRow.kept hq h3 (.inr (Ne.symm (own_other hq h2 (by decide))))
 refine ⟨⟨h2.set 1 _, ⟨?_, ?_, fun Q hQ => ⟨hB1 (h.vw.sig Q hQ).1, (h.vw.sig Q hQ).2⟩, ?_⟩, h5, h.hV⟩, fun g cs hne hb => (hb.grown hg (own_other h.vw.own2 hb (by decide))).far (p := ⟨VB, 1, none⟩) hne _⟩
 ·have hq := World.ownsRow.kept h.vw.own1 hg (own_ne h.vw.own1 h.vw.own2 (by decide))
  exact hq.kept h3 (.inr (Ne.symm (own_other hq h2 (by decide))))
 ·have := ho.kept h3 (.inr (Ne.symm (own_other ho h2 (by decide))))
  rw [gcs_append, gcs_one]
  exact this
 ·intro Q hQ
  rcases List.mem_append.1 hQ with hQ | hQ
  ·exact hB1 (h.vw.tex Q hQ)
  ·rw [List.mem_singleton.1 hQ]; exact hB1 hT
end
end Go.Proofs.YtbfepgjeecndiaaGreat

/- A view of one's own whose rows are sorted or cut; laws for the region that builds the union. -/
namespace Go.Proofs.YtbfepgjeecndiaaGreat
open Go.RowKit
set_option linter.unusedVariables false
set_option linter.unusedSimpArgs false
attribute [local go_sem ↓] Go.wp_at_zero Go.wp_at_succ
theorem ownBlock_n (A : Option Addr) (n n' c c' : Nat) : Value.ownBlock (.slice A n c) = Value.ownBlock (.slice A n' c') := by cases A <;> rfl
section
variable {w0 w w' : World} {VB : Nat} {A : Option Addr} {n n' c : Nat} {L : List SgR} {B : Option Addr} {m m' d : Nat} {X : List TeR}
theorem ClS.kept1 (h : ClS w0 w VB A n c L B m d X) (hg : w.grownBy w' (Value.ownBlock (.slice A n c))) : Ext w0 w' ∧ (∀ g cs, Blk w g 25 cs → Blk w' g 25 cs) ∧ w'.ownsRow w0.heap.size 28 1 (.slice B m d) m (gcs X) ∧ ∀ T ∈ X, OwnB w' w0.heap.size 5 T.A T.n T.c T.l :=
 ⟨Below.grown h.low hg h.low.size (fun k hk => (World.ownsRow.lt h.vw.own1 k hk).1), fun g cs hb => hb.grown hg (own_other h.vw.own1 hb (by decide)), World.ownsRow.kept h.vw.own2 hg (own_ne h.vw.own2 h.vw.own1 (by decide)), fun T hT => World.ownsRow.kept (h.vw.tex T hT) hg (own_ne (h.vw.tex T hT) h.vw.own1 (by decide))⟩
theorem ClS.kept2 (h : ClS w0 w VB A n c L B m d X) (hg : w.grownBy w' (Value.ownBlock (.slice B m d))) : Ext w0 w' ∧ (∀ g cs, Blk w g 25 cs → Blk w' g 25 cs) ∧ w'.ownsRow w0.heap.size 48 23 (.slice A n c) n (gcs L) ∧ ∀ S ∈ L, OwnB w' w0.heap.size 5 S.A S.n S.c S.sig ∧ S.v.wf :=
 ⟨Below.grown h.low hg h.low.size (fun k hk => (World.ownsRow.lt h.vw.own2 k hk).1), fun g cs hb => hb.grown hg (own_other h.vw.own2 hb (by decide)), World.ownsRow.kept h.vw.own1 hg (own_ne h.vw.own1 h.vw.own2 (by decide)), fun S hS => ⟨World.ownsRow.kept (h.vw.sig S hS).1 hg (own_ne (h.vw.sig S hS).1 h.vw.own2 (by decide)), (h.vw.sig S hS).2⟩⟩
theorem ClS.rows1 (h : ClS w0 w VB A n c L B m d X) : RowS w w w0.heap.size 48 A n c L.toArray := RowS.start h.vw.own1 (fun x hx => by have := h.vw.sig x (by simpa using hx); exact this) (by decide)
theorem ClS.rows2 (h : ClS w0 w VB A n c L B m d X) : RowS w w w0.heap.size 28 B m d X.toArray := RowS.start h.vw.own2 (fun x hx => by have := h.vw.tex x (by simpa using hx); exact this) (by decide)
theorem ClS.row1 (h : ClS w0 w VB A n c L B m d X) {D : Array SgR} (k : RowS w w' w0.heap.size 48 A n c D) : ClS w0 w' VB A n c D.toList B m d X ∧ ∀ g cs, Blk w g 25 cs → Blk w' g 25 cs := by
 obtain ⟨h1, h2, h3, h4⟩ := h.kept1 k.gr
 exact ⟨⟨h2 _ _ h.blk, ⟨k.own, h3, fun S hS => k.ow S hS, h4⟩, h1, h.hV⟩, h2⟩
theorem ClS.row2 (h : ClS w0 w VB A n c L B m d X) {D : Array TeR} (k : RowS w w' w0.heap.size 28 B m d D) : ClS w0 w' VB A n c L B m d D.toList ∧ ∀ g cs, Blk w g 25 cs → Blk w' g 25 cs := by
 obtain ⟨h1, h2, h3, h4⟩ := h.kept2 k.gr
 exact ⟨⟨h2 _ _ h.blk, ⟨h3, k.own, h4, fun T hT => k.ow T hT⟩, h1, h.hV⟩, h2⟩
theorem ClS.blk1 (h : ClS w0 w VB A n c L B m d X) {D : Array SgR} (k : RowS w w' w0.heap.size 48 A n' c D) : Blk w' VB 25 (vwA A n c B m d) := by
 have hg := k.gr
 rw [ownBlock_n A n' n c c] at hg
 exact (h.kept1 hg).2.1 _ _ h.blk
theorem ClS.blk2 (h : ClS w0 w VB A n c L B m d X) {D : Array TeR} (k : RowS w w' w0.heap.size 28 B m' d D) : Blk w' VB 25 (vwA A n c B m d) := by
 have hg := k.gr
 rw [ownBlock_n B m' m d d] at hg
 exact (h.kept2 hg).2.1 _ _ h.blk
theorem ClS.row1S (h : ClS w0 w VB A n c L B m d X) {D : Array SgR} (k : RowS w w' w0.heap.size 48 A n' c D) : ClS w0 (w'.setCell ⟨VB, 0, none⟩ (.slice A n' c)) VB A n' c D.toList B m d X ∧ ∀ g cs, g ≠ VB → Blk w g 25 cs → Blk (w'.setCell ⟨VB, 0, none⟩ (.slice A n' c)) g 25 cs := by
 have hg := k.gr
 rw [ownBlock_n A n' n c c] at hg
 obtain ⟨h1, h2, h3, h4⟩ := h.kept1 hg
 have hb := h2 _ _ h.blk
 have h5 := grown_set w' VB 0 (.slice A n' c)
 refine ⟨⟨hb.set 0 _, ⟨k.own.kept h5 (.inr (Ne.symm (own_other k.own hb (by decide)))), h3.kept h5 (.inr (Ne.symm (own_other h3 hb (by decide)))), fun S hS => ?_, fun T hT => World.ownsRow.kept (h4 T hT) h5 (.inr (Ne.symm (own_other (h4 T hT) hb (by decide))))⟩, h1.setCell (p := ⟨VB, 0, none⟩) (Nat.le_of_lt h.hV) _, h.hV⟩, fun g cs hne hq => (h2 _ _ hq).far (p := ⟨VB, 0, none⟩) hne _⟩
 have h6 := k.ow S hS
 exact ⟨World.ownsRow.kept h6.1 h5 (.inr (Ne.symm (own_other h6.1 hb (by decide)))), h6.2⟩
theorem ClS.row2S (h : ClS w0 w VB A n c L B m d X) {D : Array TeR} (k : RowS w w' w0.heap.size 28 B m' d D) : ClS w0 (w'.setCell ⟨VB, 1, none⟩ (.slice B m' d)) VB A n c L B m' d D.toList ∧ ∀ g cs, g ≠ VB → Blk w g 25 cs → Blk (w'.setCell ⟨VB, 1, none⟩ (.slice B m' d)) g 25 cs := by
 have hg := k.gr
 rw [ownBlock_n B m' m d d] at hg
 obtain ⟨h1, h2, h3, h4⟩ := h.kept2 hg
 have hb := h2 _ _ h.blk
 have h5 := grown_set w' VB 1 (.slice B m' d)
 refine ⟨⟨hb.set 1 _, ⟨h3.kept h5 (.inr (Ne.symm (own_other h3 hb (by decide)))), k.own.kept h5 (.inr (Ne.symm (own_other k.own hb (by decide)))), fun S hS => ⟨World.ownsRow.kept (h4 S hS).1 h5 (.inr (Ne.symm (own_other (h4 S hS).1 hb (by decide)))), (h4 S hS).2⟩, fun T hT => ?_⟩, h1.setCell (p := ⟨VB, 1, none⟩) (Nat.le_of_lt h.hV) _, h.hV⟩, fun g cs hne hq => (h2 _ _ hq).far (p := ⟨VB, 1, none⟩) hne _⟩
 have h6 : OwnB w' w0.heap.size 5 T.A T.n T.c T.l := k.ow T hT
 exact World.ownsRow.kept h6 h5 (.inr (Ne.symm (own_other h6 hb (by decide))))
end
/-! steps of a drawn region -/
section
variable {ops : Array Oper} {o : Oper} {a : Act} {w : World} {K : Act → World → Prop} {Q : Exit → Act → World → Prop} {X : Prop}
theorem run_build2s (A : Option Addr) (n c : Nat) (B : Option Addr) (m d : Nat) (w : World) : (Instr.buildSlice 106 2 #[(0, .slice A n c), (1, .slice B m d)]).run Tryz.prog w = .ok (.slice (some ⟨w.heap.size, 0, none⟩) 2 2) (w.alloc (.cells #[.slice A n c, .slice B m d] 22)) := by kernel_rfl
theorem run_build2t (A : Option Addr) (n c : Nat) (B : Option Addr) (m d : Nat) (w : World) : (Instr.buildSlice 107 2 #[(0, .slice A n c), (1, .slice B m d)]).run Tryz.prog w = .ok (.slice (some ⟨w.heap.size, 0, none⟩) 2 2) (w.alloc (.cells #[.slice A n c, .slice B m d] 23)) := by kernel_rfl
theorem step_build2 {ty e : TypeId} {A : Option Addr} {n c : Nat} {B : Option Addr} {m d : Nat} (hrun : ∀ w, (Instr.buildSlice ty 2 #[(0, .slice A n c), (1, .slice B m d)]).run Tryz.prog w = .ok (.slice (some ⟨w.heap.size, 0, none⟩) 2 2) (w.alloc (.cells #[.slice A n c, .slice B m d] e))) (hgd : o.guard = none) (x y : Operand) (ho : o.op = .buildSlice ty 2 #[(0, x), (1, y)]) (hx : a.eval x = .slice A n c) (hy : a.eval y = .slice B m d)
  (h : ∀ (g : Nat) (W2 : World), Hid (Blk W2 g e #[.slice A n c, .slice B m d] ∧ Ext w W2 ∧ w.heap.size ≤ g) → K (a.put o.dst (.slice (some ⟨g, 0, none⟩) 2 2)) W2) : if Region.wanted o (yielded ops a.tmps) = true then Oper.wp Tryz.prog o a w K Q else X := by
 have hw : Region.wanted o (yielded ops a.tmps) = true := by simp [Region.wanted, hgd]
 rw [if_pos hw]
 have this := hrun w
 have h2 := h _ _ (Lib.hid ⟨Blk.new w e #[.slice A n c, .slice B m d], (Ext.refl w).alloc' _, Nat.le_refl _⟩)
 clear h
 generalize w.alloc (.cells #[.slice A n c, .slice B m d] e) = W2 at *
 unfold Oper.wp execOp
 simp only [ho, List.map_toArray, List.map_cons, List.map_nil, hx, hy, Sem.run_bind, Sem.run_pure, this, Result.andThen_ok, Oper.upon]
 exact h2
theorem run_allocVw (w : World) : (Instr.alloc 25 true (.tuple #[])).run Tryz.prog w = .ok (.pointer (some ⟨w.heap.size, 0, none⟩)) (w.alloc (.cells (vwA none 0 0 none 0 0) 25)) := by kernel_rfl
theorem step_allocVw (hgd : o.guard = none) (ho : o.op = .alloc 25)
  (h : ∀ (g : Nat) (W2 : World), Hid (Blk W2 g 25 (vwA none 0 0 none 0 0) ∧ Ext w W2 ∧ w.heap.size ≤ g) → K (a.put o.dst (.pointer (some ⟨g, 0, none⟩))) W2) : if Region.wanted o (yielded ops a.tmps) = true then Oper.wp Tryz.prog o a w K Q else X := by
 have hw : Region.wanted o (yielded ops a.tmps) = true := by simp [Region.wanted, hgd]
 rw [if_pos hw]
 have this := run_allocVw w
 have h2 := h _ _ (Lib.hid ⟨Blk.new w 25 (vwA none 0 0 none 0 0), (Ext.refl w).alloc' _, Nat.le_refl _⟩)
 clear h
 generalize w.alloc (.cells (vwA none 0 0 none 0 0) 25) = W2 at *
 unfold Oper.wp execOp
 simp only [ho, Sem.run_bind, Sem.run_pure, this, Result.andThen_ok, Oper.upon]
 exact h2
theorem step_storeVw (hgd : o.guard = none) (x y : Operand) (ho : o.op = .store 25 x y) (g : Nat) (A : Option Addr) (n c : Nat) (B : Option Addr) (m d : Nat) (hx : a.eval x = .pointer (some ⟨g, 0, none⟩)) (hy : a.eval y = .agg (vwA A n c B m d)) (hb : Blk w g 25 (vwA none 0 0 none 0 0))
  (h : ∀ W2, Hid (W2 = w.setCells g 0 [.slice A n c, .slice B m d]) → K (a.put o.dst undef) W2) : if Region.wanted o (yielded ops a.tmps) = true then Oper.wp Tryz.prog o a w K Q else X := by
 have hw : Region.wanted o (yielded ops a.tmps) = true := by simp [Region.wanted, hgd]
 rw [if_pos hw]
 exact wp_store_mid (P := Tryz.prog) (Q := Q) (op := o) (K := K) 25 x y ho g 0 (vwA A n c B m d) hx hy (show w.there g 0 2 from there_of_blk hb) (by kernel_rfl) (by kernel_rfl) (h _ (Lib.hid rfl))
end
theorem ClS.ofStore {w0 w W2 : World} {g : Nat} {A : Option Addr} {n c : Nat} {L : List SgR} {B : Option Addr} {m d : Nat} {X : List TeR} (hb : Blk w g 25 (vwA none 0 0 none 0 0)) (hv : VwO w w0.heap.size A n c L B m d X) (hE : Ext w0 w) (hg : w0.heap.size < g) (hW : W2 = w.setCells g 0 [.slice A n c, .slice B m d]) :
  ClS w0 W2 g A n c L B m d X ∧ (∀ k cs, k ≠ g → Blk w k 25 cs → Blk W2 k 25 cs) := by
 subst hW
 exact ⟨⟨blk_whole (ds := vwA A n c B m d) hb rfl, hv.set hb _, Below.setCells' hE (Nat.le_of_lt hg) _ _, hg⟩, fun k cs hne hk => hk.setCells_far hne _ 0⟩
end Go.Proofs.YtbfepgjeecndiaaGreat
