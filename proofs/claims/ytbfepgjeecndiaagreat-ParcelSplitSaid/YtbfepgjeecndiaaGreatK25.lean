/- The view that bytes tell: plain; and the state of snapshot.Decode. -/
import Derived.Lib.LazyBuf
import Derived.Test.YtbfepgjeecndiaaGreatK18
import Derived.Test.YtbfepgjeecndiaaGreatK21
namespace Go.Proofs.YtbfepgjeecndiaaGreat
open Go.RowKit
set_option linter.unusedVariables false
set_option linter.unusedSimpArgs false
attribute [local go_sem ↓] Go.wp_at_zero Go.wp_at_succ
def chunk (r : List UInt8) : Option (SgV × List UInt8) := if 393 ≤ r.length ∧ vldVt (decVt (r.take 23)) = true then some ((decVt (r.take 23), (r.take 393).drop 23), r.drop 393) else none
def dSg : Nat → List UInt8 → List SgV → Option (List SgV × List UInt8)
 | 0, r, acc => some (acc, r)
 | k + 1, r, acc => match chunk r with
  | none => none
  | some (v, r') => dSg k r' (acc ++ [v])
def dTe : Nat → List UInt8 → List (List UInt8) → Option (List (List UInt8) × List UInt8)
 | 0, r, acc => some (acc, r)
 | k + 1, r, acc => if blobOk r = true then dTe k (r.drop (2 + beNat (r.take 2))) (acc ++ [(r.drop 2).take (beNat (r.take 2))]) else none
def contT (M : Nat) (s : Option (List UInt8)) (P : List SgV) (Q : List (List UInt8)) : Option (List SgV × List (List UInt8)) := match s with
 | none => none
 | some r => match dTe M r Q with
  | none => none
  | some (Q', r') => if r' = [] then some (P, Q') else none
def contS (N : Nat) (s : Option (List UInt8)) (P : List SgV) : Option (List SgV × List (List UInt8)) := match s with
 | none => none
 | some r => match dSg N r P with
  | none => none
  | some (P', r') => contT (rNum 4 (some r')).toNat (rRest 4 (some r')) P' []
def rawVw (l : List UInt8) : Option (List SgV × List (List UInt8)) := contS (rNum 4 (some l)).toNat (rRest 4 (some l)) []
theorem contS_none (N : Nat) (P : List SgV) : contS N none P = none := rfl
theorem contS_zero (r : List UInt8) (P : List SgV) : contS 0 (some r) P = contT (rNum 4 (some r)).toNat (rRest 4 (some r)) P [] := rfl
theorem contS_yes {r : List UInt8} {v : SgV} {r' : List UInt8} (h : chunk r = some (v, r')) (k : Nat) (P : List SgV) : contS (k + 1) (some r) P = contS k (some r') (P ++ [v]) := by
 unfold contS; simp only [dSg, h]
theorem contS_no {r : List UInt8} (h : chunk r = none) (k : Nat) (P : List SgV) : contS (k + 1) (some r) P = none := by
 unfold contS; simp only [dSg, h]
theorem contT_none (M : Nat) (P : List SgV) (Q : List (List UInt8)) : contT M none P Q = none := rfl
theorem contT_zero (s : Option (List UInt8)) (P : List SgV) (Q : List (List UInt8)) : contT 0 s P Q = if s = some [] then some (P, Q) else none := by
 cases s with
 | none => rfl
 | some r => unfold contT; simp only [dTe]; simp
theorem contT_step (M : Nat) (s : Option (List UInt8)) (P : List SgV) (Q : List (List UInt8)) : contT (M + 1) s P Q = contT M (rAft s) P (Q ++ [rBlob s]) := by
 cases s with
 | none => rfl
 | some r =>
  unfold contT
  simp only [dTe, rAft, rBlob]
  by_cases h : blobOk r = true
  ·simp only [if_pos h]
  ·simp only [if_neg h]
structure VwO (w : World) (base : Nat) (A : Option Addr) (n c : Nat) (L : List SgR) (B : Option Addr) (m d : Nat) (X : List TeR) : Prop where
 own1 : w.ownsRow base 48 23 (.slice A n c) n (gcs L)
 own2 : w.ownsRow base 28 1 (.slice B m d) m (gcs X)
 sig : ∀ S, S ∈ L → OwnB w base 5 S.A S.n S.c S.sig ∧ S.v.wf
 tex : ∀ T, T ∈ X → OwnB w base 5 T.A T.n T.c T.l
theorem VwO.nil (w : World) (base : Nat) : VwO w base none 0 0 [] none 0 0 [] := ⟨World.ownsRow_nil _ _ _ _, World.ownsRow_nil _ _ _ _, (fun S hS => by cases hS), (fun T hT => by cases hT)⟩
def VwDec (w : World) (l : List UInt8) (e : Ending) (w' : World) : Prop :=
 Ext w w' ∧ ((∃ (A : Option Addr) (n c : Nat) (L : List SgR) (B : Option Addr) (m d : Nat) (X : List TeR), e = .returned (.tuple #[.agg (vwA A n c B m d), .int .i64 0]) ∧ VwO w' w.heap.size A n c L B m d X ∧ rawVw l = some (L.map SgR.V, X.map TeR.l) ∧ ordV L X = true ∧ ∀ S, S ∈ L → vldSg S = true) ∨
  (e = .returned (.tuple #[.agg (vwA none 0 0 none 0 0), .int .i64 4]) ∧ ∀ (L : List SgR) (X : List TeR), rawVw l = some (L.map SgR.V, X.map TeR.l) → ordV L X = false))
theorem gcs_len1 {w : World} {base : Nat} {A : Option Addr} {n c : Nat} {L : List SgR} (h : w.ownsRow base 48 23 (.slice A n c) n (gcs L)) : L.length = n := by
 have := h.1; rw [gcs_length, show RowT.sz SgR = 23 from rfl] at this; omega
theorem gcs_len2 {w : World} {base : Nat} {B : Option Addr} {m d : Nat} {X : List TeR} (h : w.ownsRow base 28 1 (.slice B m d) m (gcs X)) : X.length = m := by
 have := h.1; rw [gcs_length, show RowT.sz TeR = 1 from rfl] at this; omega
section
variable {w w' : World} {base base' : Nat} {A : Option Addr} {n c : Nat} {L : List SgR} {B : Option Addr} {m d : Nat} {X : List TeR}
theorem VwO.sl1 (h : VwO w base A n c L B m d X) : SlG w A n c L :=
 ⟨gcs_len1 h.own1, (own_cap h.own1).1, (own_cap h.own1).2, Rd.of_own h.own1, fun S hS => ⟨(h.sig S hS).2, (h.sig S hS).1.sl⟩⟩
theorem VwO.sl2 (h : VwO w base A n c L B m d X) : SlG w B m d X :=
 ⟨gcs_len2 h.own2, (own_cap h.own2).1, (own_cap h.own2).2, Rd.of_own h.own2, fun T hT => (h.tex T hT).sl⟩
theorem VwO.ext (h : VwO w base A n c L B m d X) (he : Ext w w') : VwO w' base A n c L B m d X := ⟨own_ext h.own1 he, own_ext h.own2 he, fun S hS => ⟨OwnB.ext (h.sig S hS).1 he, (h.sig S hS).2⟩, fun T hT => OwnB.ext (h.tex T hT) he⟩
theorem VwO.mono (h : VwO w base A n c L B m d X) (hb : base' ≤ base) : VwO w base' A n c L B m d X := ⟨own_mono h.own1 hb, own_mono h.own2 hb, fun S hS => ⟨own_mono (h.sig S hS).1 hb, (h.sig S hS).2⟩, fun T hT => own_mono (h.tex T hT) hb⟩
theorem VwO.set (h : VwO w base A n c L B m d X) {g : Nat} {cs : Array Value} (hb : Blk w g 25 cs) (vs : List Value) : VwO (w.setCells g 0 vs) base A n c L B m d X := by
 have hg := grown_setCells' w g vs 0
 have hB : ∀ {A0 : Option Addr} {n0 c0 : Nat} {l0 : List UInt8}, OwnB w base 5 A0 n0 c0 l0 → OwnB (w.setCells g 0 vs) base 5 A0 n0 c0 l0 := fun hQ => World.ownsRow.kept hQ hg (.inr (Ne.symm (own_other hQ hb (by decide))))
 exact ⟨h.own1.kept hg (.inr (Ne.symm (own_other h.own1 hb (by decide)))), h.own2.kept hg (.inr (Ne.symm (own_other h.own2 hb (by decide)))), fun S hS => ⟨hB (h.sig S hS).1, (h.sig S hS).2⟩, fun T hT => hB (h.tex T hT)⟩
end
structure VdS (w0 w : World) (CB VB : Nat) (A : Option Addr) (n c : Nat) (L : List SgR) (B : Option Addr) (m d : Nat) (X : List TeR) (s : Option (List UInt8)) : Prop where
 cur : CurAt 101 w0.heap.size w CB s
 blk : Blk w VB 25 (vwA A n c B m d)
 own1 : w.ownsRow w0.heap.size 48 23 (.slice A n c) n (gcs L)
 own2 : w.ownsRow w0.heap.size 28 1 (.slice B m d) m (gcs X)
 sig : ∀ S, S ∈ L → OwnB w w0.heap.size 5 S.A S.n S.c S.sig ∧ S.v.wf ∧ vldSg S = true
 tex : ∀ T, T ∈ X → OwnB w w0.heap.size 5 T.A T.n T.c T.l
 low : Ext w0 w
 hC : w0.heap.size ≤ CB
 hV : w0.heap.size < VB
 res : Blk w w0.heap.size 25 (vwA none 0 0 none 0 0)
section
variable {w0 w w' : World} {CB VB : Nat} {A : Option Addr} {n c : Nat} {L : List SgR} {B : Option Addr} {m d : Nat} {X : List TeR} {s s' : Option (List UInt8)}
theorem VdS.ne (h : VdS w0 w CB VB A n c L B m d X s) : VB ≠ CB := by
 obtain ⟨cs, hb⟩ := cur_blk h.cur
 exact blk_ne h.blk hb (by decide)
theorem VdS.ext (h : VdS w0 w CB VB A n c L B m d X s) (he : Ext w w') : VdS w0 w' CB VB A n c L B m d X s :=
 ⟨h.cur.ext he, h.blk.ext he, own_ext h.own1 he, own_ext h.own2 he, fun S hS => ⟨OwnB.ext (h.sig S hS).1 he, (h.sig S hS).2⟩, fun T hT => OwnB.ext (h.tex T hT) he, h.low.trans he, h.hC, h.hV, h.res.ext he⟩
theorem VdS.read (h : VdS w0 w CB VB A n c L B m d X s) (hc : CurAt 101 w0.heap.size w' CB s') (hg : w.grownBy w' (some CB)) : VdS w0 w' CB VB A n c L B m d X s' := by
 obtain ⟨cs, hb⟩ := cur_blk h.cur
 exact ⟨hc, h.blk.grown hg (fun e => h.ne (by injection e)), h.own1.kept hg (.inr (Ne.symm (own_other h.own1 hb (by decide)))), h.own2.kept hg (.inr (Ne.symm (own_other h.own2 hb (by decide)))),
  fun S hS => ⟨World.ownsRow.kept (h.sig S hS).1 hg (.inr (Ne.symm (own_other (h.sig S hS).1 hb (by decide)))), (h.sig S hS).2⟩, fun T hT => World.ownsRow.kept (h.tex T hT) hg (.inr (Ne.symm (own_other (h.tex T hT) hb (by decide)))), ext_grown h.low hg h.hC, h.hC, h.hV, h.res.grown hg (fun e => blk_ne h.res hb (by decide) (by injection e))⟩
theorem VdS.sl1 (h : VdS w0 w CB VB A n c L B m d X s) : SlG w A n c L :=
 ⟨gcs_len1 h.own1, (own_cap h.own1).1, (own_cap h.own1).2, Rd.of_own h.own1, fun S hS => ⟨(h.sig S hS).2.1, (h.sig S hS).1.sl⟩⟩
theorem VdS.sl2 (h : VdS w0 w CB VB A n c L B m d X s) : SlG w B m d X :=
 ⟨gcs_len2 h.own2, (own_cap h.own2).1, (own_cap h.own2).2, Rd.of_own h.own2, fun T hT => (h.tex T hT).sl⟩
theorem VdS.vwo (h : VdS w0 w CB VB A n c L B m d X s) : VwO w w0.heap.size A n c L B m d X := ⟨h.own1, h.own2, fun S hS => ⟨(h.sig S hS).1, (h.sig S hS).2.1⟩, h.tex⟩
theorem VdS.push1 (h : VdS w0 w CB VB A n c L B m d X s) {A' : Option Addr} {c' : Nat} {S : SgR} (hS : OwnB w w0.heap.size 5 S.A S.n S.c S.sig ∧ S.v.wf ∧ vldSg S = true) (hg : w.grownBy w' (Value.ownBlock (.slice A n c))) (ho : w'.ownsRow w0.heap.size 48 23 (.slice A' (n + 1) c') (n + 1) (gcs L ++ sgL S)) :
  VdS w0 (w'.setCell ⟨VB, 0, none⟩ (.slice A' (n + 1) c')) CB VB A' (n + 1) c' (L ++ [S]) B m d X s := by
 obtain ⟨cs, hb⟩ := cur_blk h.cur
 have h2 : Blk w' VB 25 (vwA A n c B m d) := h.blk.grown hg (own_other h.own1 h.blk (by decide))
 have h3 := grown_set w' VB 0 (.slice A' (n + 1) c')
 have h4 : Ext w0 w' := Below.grown h.low hg h.low.size (fun k hk => (World.ownsRow.lt h.own1 k hk).1)
 have h5 : Ext w0 (w'.setCell ⟨VB, 0, none⟩ (.slice A' (n + 1) c')) := h4.setCell (p := ⟨VB, 0, none⟩) (Nat.le_of_lt h.hV) _
 have hB1 : ∀ {A0 : Option Addr} {n0 c0 : Nat} {l0 : List UInt8}, OwnB w w0.heap.size 5 A0 n0 c0 l0 → OwnB (w'.setCell ⟨VB, 0, none⟩ (.slice A' (n + 1) c')) w0.heap.size 5 A0 n0 c0 l0 := fun hQ => by
  have hq : OwnB w' w0.heap.size 5 _ _ _ _ := World.ownsRow.kept hQ hg (own_ne hQ h.own1 (by decide))
  exact World.ownsRow.kept hq h3 (.inr (Ne.symm (own_other hq h2 (by decide))))
 refine ⟨h.cur.low ?_ (fun b hb => (h5.block b hb).trans (h.low.block b hb).symm), h2.set 0 _, ?_, ?_, ?_, fun T hT => hB1 (h.tex T hT), h5, h.hC, h.hV, (h.res.grown hg (own_other h.own1 h.res (by decide))).far (p := ⟨VB, 0, none⟩) (Nat.ne_of_lt h.hV) _⟩
 ·rw [Below.heap_setCell _ _ _ _ (Ne.symm h.ne)]
  exact hg.block CB hb.lt (own_other h.own1 hb (by decide))
 ·have := ho.kept h3 (.inr (Ne.symm (own_other ho h2 (by decide))))
  rw [gcs_append, gcs_one]
  exact this
 ·have hq := World.ownsRow.kept h.own2 hg (own_ne h.own2 h.own1 (by decide))
  exact hq.kept h3 (.inr (Ne.symm (own_other hq h2 (by decide))))
 ·intro Q hQ
  rcases List.mem_append.1 hQ with hQ | hQ
  ·exact ⟨hB1 (h.sig Q hQ).1, (h.sig Q hQ).2⟩
  ·rw [List.mem_singleton.1 hQ]; exact ⟨hB1 hS.1, hS.2⟩
theorem VdS.push2 (h : VdS w0 w CB VB A n c L B m d X s) {B' : Option Addr} {d' : Nat} {T : TeR} (hT : OwnB w w0.heap.size 5 T.A T.n T.c T.l) (hg : w.grownBy w' (Value.ownBlock (.slice B m d))) (ho : w'.ownsRow w0.heap.size 28 1 (.slice B' (m + 1) d') (m + 1) (gcs X ++ teL T)) :
  VdS w0 (w'.setCell ⟨VB, 1, none⟩ (.slice B' (m + 1) d')) CB VB A n c L B' (m + 1) d' (X ++ [T]) s := by
 obtain ⟨cs, hb⟩ := cur_blk h.cur
 have h2 : Blk w' VB 25 (vwA A n c B m d) := h.blk.grown hg (own_other h.own2 h.blk (by decide))
 have h3 := grown_set w' VB 1 (.slice B' (m + 1) d')
 have h4 : Ext w0 w' := Below.grown h.low hg h.low.size (fun k hk => (World.ownsRow.lt h.own2 k hk).1)
 have h5 : Ext w0 (w'.setCell ⟨VB, 1, none⟩ (.slice B' (m + 1) d')) := h4.setCell (p := ⟨VB, 1, none⟩) (Nat.le_of_lt h.hV) _
 have hB1 : ∀ {A0 : Option Addr} {n0 c0 : Nat} {l0 : List UInt8}, OwnB w w0.heap.size 5 A0 n0 c0 l0 → OwnB (w'.setCell ⟨VB, 1, none⟩ (.slice B' (m + 1) d')) w0.heap.size 5 A0 n0 c0 l0 := fun hQ => by
  have hq : OwnB w' w0.heap.size 5 _ _ _ _ := World.ownsRow.kept hQ hg (own_ne hQ h.own2 (by decide))
  exact World.ownsRow.kept hq h3 (.inr (Ne.symm (own_other hq h2 (by decide))))
 refine ⟨h.cur.low ?_ (fun b hb => (h5.block b hb).trans (h.low.block b hb).symm), h2.set 1 _, ?_, ?_, fun Q hQ => ⟨hB1 (h.sig Q hQ).1, (h.sig Q hQ).2⟩, ?_, h5, h.hC, h.hV, (h.res.grown hg (own_other h.own2 h.res (by decide))).far (p := ⟨VB, 1, none⟩) (Nat.ne_of_lt h.hV) _⟩
 ·rw [Below.heap_setCell _ _ _ _ (Ne.symm h.ne)]
  exact hg.block CB hb.lt (own_other h.own2 hb (by decide))
 ·have hq := World.ownsRow.kept h.own1 hg (own_ne h.own1 h.own2 (by decide))
  exact hq.kept h3 (.inr (Ne.symm (own_other hq h2 (by decide))))
 ·have := ho.kept h3 (.inr (Ne.symm (own_other ho h2 (by decide))))
  rw [gcs_append, gcs_one]
  exact this
 ·intro Q hQ
  rcases List.mem_append.1 hQ with hQ | hQ
  ·exact hB1 (h.tex Q hQ)
  ·rw [List.mem_singleton.1 hQ]; exact hB1 hT
end
end Go.Proofs.YtbfepgjeecndiaaGreat

/- ValidOp (the reference's), any operation. -/
namespace Go.Proofs.YtbfepgjeecndiaaGreat
set_option maxRecDepth 100000
set_option maxHeartbeats 1000000
open Go.RowKit
set_option linter.unusedVariables false
set_option linter.unusedSimpArgs false
attribute [local go_sem ↓] Go.wp_at_zero Go.wp_at_succ
end Go.Proofs.YtbfepgjeecndiaaGreat
/- AppendBytes, str, appendOp (the reference's). -/
namespace Go.Proofs.YtbfepgjeecndiaaGreat
open Go.RowKit
set_option linter.unusedVariables false
set_option linter.unusedSimpArgs false
attribute [local go_sem ↓] Go.wp_at_zero Go.wp_at_succ
theorem refAppendUI_any (A : Option Addr) (n c : Nat) (l : List UInt8) (z : Int) (wd : Nat) (hwd1 : 1 ≤ wd) (hwd : wd ≤ 8) (w : World) (h : SlB w A n c l) (hn : n ≤ 140737488351232) :
  Calls Tryz.prog 42 #[.slice A n c, .int .u64 (un (uI z)), .int .i64 (wd : Int)] w fun e w' => ∃ A' c', e = .returned (.slice A' (n + wd) c') ∧ OwnB w' w.heap.size 5 A' (n + wd) c' (l ++ beI wd z) ∧ Ext w w' := by
 have := refAppendUint_any A n c l (uI z) wd hwd1 hwd w h hn
 rw [uI_nat] at this; exact this
theorem refAppendBytes_any (A : Option Addr) (n c : Nat) (l : List UInt8) (P : Option Addr) (m d : Nat) (p : List UInt8) (w : World) (h : SlB w A n c l) (hp : SlB w P m d p) (hm : m ≤ 65535) (hn : n ≤ 1000000000) :
  Calls Tryz.prog 44 #[.slice A n c, .slice P m d] w fun e w' => ∃ A' n' c', e = .returned (.tuple #[.slice A' n' c', .bool true]) ∧ OwnB w' w.heap.size 5 A' n' c' (l ++ blob p) ∧ Ext w w' := by
 have hu := uI_un (m : Int)
 have hlen := hp.len
 have HA := Lib.hid (refAppendUI_any A n c l (m : Int) 2 (by omega) (by omega) w h (by omega))
 have HP := Lib.hid hp
 have HB := Lib.hid (show blob p = beI 2 (m : Int) ++ p by unfold blob; rw [hlen])
 have d1 : decide (65535 < (m : Int)) = false := decide_eq_false (by omega)
 clear h hp hlen
 generalize uI (m : Int) = u at *
 go_enter Tryz.func44, Tryz.ntmps44
 go_wp2_with fail
 refine HA.out.mono ?_
 rintro e w1 ⟨A1, c1, rfl, hO1, he1⟩
 have HO1 := Lib.hid hO1
 have HE1 := Lib.hid he1
 clear hO1 he1
 go_wp2_with (at_builtin; go_must (refine wpList_appB bytesE rfl (.tmp 13) (.tmp 14) rfl w.heap.size A1 _ c1 _ rfl HO1.out P m d p rfl (HP.out.ext HE1.out) (by omega) HE1.out.size w HE1.out ?_))
 intro A2 c2 w2 hO2 hE2 hs2
 have HO2 := Lib.hid hO2
 clear hO2
 go_wp2_with fail
 go_ret2
 exact ⟨A2, _, c2, rfl, by rw [HB.out]; simpa using HO2.out, hE2⟩
end Go.Proofs.YtbfepgjeecndiaaGreat
/- ValidTx, TxBytes, EncodeTx (the reference's). -/
namespace Go.Proofs.YtbfepgjeecndiaaGreat
open Go.RowKit
set_option linter.unusedVariables false
set_option linter.unusedSimpArgs false
attribute [local go_sem ↓] Go.wp_at_zero Go.wp_at_succ
end Go.Proofs.YtbfepgjeecndiaaGreat

/- What Decode accepts is the encoding of what it gives; and nothing may follow it or lack. -/
namespace Go.Proofs.YtbfepgjeecndiaaGreat
open Go.RowKit
set_option linter.unusedVariables false
set_option linter.unusedSimpArgs false
theorem rRest_some {k : Nat} {s : Option (List UInt8)} {r : List UInt8} (h : rRest k s = some r) : ∃ p, s = some p ∧ k ≤ p.length ∧ r = p.drop k := by
 cases s with
 | none => cases h
 | some p =>
  simp only [rRest] at h
  split at h
  ·cases h
  ·injection h with h
   exact ⟨p, rfl, by omega, h.symm⟩
theorem be_back {k : Nat} {s : Option (List UInt8)} {r : List UInt8} (hk : k ≤ 8) (h : rRest k s = some r) : s = some (beI k (rNum k s) ++ r) := by
 obtain ⟨p, rfl, hp, rfl⟩ := rRest_some h
 have hl : (p.take k).length = k := by rw [List.length_take]; omega
 have e : beI k (rNum k (some p)) = p.take k := by
  simp only [rNum, if_neg (show ¬ p.length < k by omega)]
  unfold beI
  have hlt := beNat_lt (p.take k)
  rw [hl] at hlt
  have h2 : 256 ^ k ≤ 256 ^ 8 := Nat.pow_le_pow_right (by omega) hk
  have e2 : ((beNat (p.take k) : Int) % 18446744073709551616).toNat = beNat (p.take k) := by omega
  rw [e2]
  have := beBytes_beNat (p.take k)
  rwa [hl] at this
 rw [e, List.take_append_drop]
theorem blob_back {s : Option (List UInt8)} {r : List UInt8} (h : rAft s = some r) : s = some (blob (rBlob s) ++ r) ∧ (rBlob s).length ≤ 65535 := by
 cases s with
 | none => cases h
 | some p =>
  simp only [rAft] at h
  by_cases hb : blobOk p = true
  ·rw [if_pos hb] at h
   injection h with h
   subst h
   simp only [rBlob, if_pos hb]
   unfold blobOk at hb
   rw [decide_eq_true_eq] at hb
   obtain ⟨h1, h2⟩ := hb
   have hl : ((p.drop 2).take (beNat (p.take 2))).length = beNat (p.take 2) := by rw [List.length_take, List.length_drop]; omega
   have ht : (p.take 2).length = 2 := by rw [List.length_take]; omega
   have hlt := beNat_lt (p.take 2)
   rw [ht] at hlt
   refine ⟨?_, by rw [hl]; omega⟩
   have e : beI 2 (((p.drop 2).take (beNat (p.take 2))).length : Int) = p.take 2 := by
    rw [hl]
    unfold beI
    have e2 : ((beNat (p.take 2) : Int) % 18446744073709551616).toNat = beNat (p.take 2) := by omega
    rw [e2]
    have := beBytes_beNat (p.take 2)
    rwa [ht] at this
   unfold blob
   rw [e, List.append_assoc, ← List.drop_drop, List.take_append_drop, List.take_append_drop]
  ·rw [if_neg hb] at h; cases h
end Go.Proofs.YtbfepgjeecndiaaGreat

/- Elements struck from a row by a test (what slices.DeleteFunc does, plain). -/
namespace Go.Proofs.YtbfepgjeecndiaaGreat
open Go.RowKit
set_option linter.unusedVariables false
set_option linter.unusedSimpArgs false
set_option linter.unusedSectionVars false
section
variable {α : Type} [RowT α] {p : α → Bool} {d dk : Array α} {i j : Nat}
def keepL (p : α → Bool) (L : List α) : List α := L.filter fun x => !p x
theorem keepL_take (hj : j < d.size) : keepL p (d.toList.take (j + 1)) = keepL p (d.toList.take j) ++ if p d[j]! = true then [] else [d[j]!] := by
 unfold keepL
 rw [take_nthG (L := d.toList) (k := j) (by simpa using hj), List.filter_append, ← arr_nth]
 congr 1
 cases h : p d[j]! <;> simp [h]
structure Dl0 (p : α → Bool) (d : Array α) (j : Nat) : Prop where
 le : j ≤ d.size
 val : keepL p (d.toList.take j) = d.toList.take j
structure Dls (p : α → Bool) (d dk : Array α) (i j : Nat) : Prop where
 size : dk.size = d.size
 ij : i < j
 jn : j ≤ d.size
 rest : ∀ t, i ≤ t → dk[t]! = d[t]!
 val : dk.toList.take i = keepL p (d.toList.take j)
theorem Dl0.start (d : Array α) : Dl0 p d 0 := ⟨Nat.zero_le _, rfl⟩
theorem Dl0.next (h : Dl0 p d j) (hj : j < d.size) (hp : p d[j]! = false) : Dl0 p d (j + 1) := ⟨hj, by
 rw [keepL_take hj, h.val, hp, if_neg (by decide), take_nthG (L := d.toList) (k := j) (by simpa using hj), ← arr_nth]⟩
theorem Dl0.hit (h : Dl0 p d j) (hj : j < d.size) (hp : p d[j]! = true) : Dls p d d j (j + 1) := ⟨rfl, by omega, hj, fun _ _ => rfl, by
 rw [keepL_take hj, h.val, hp, if_pos rfl, List.append_nil]⟩
theorem Dl0.all (h : Dl0 p d j) (hj : d.size ≤ j) : keepL p d.toList = d.toList := by
 have := h.val
 rwa [List.take_of_length_le (by simpa using hj)] at this
theorem Dls.skip (h : Dls p d dk i j) (hj : j < d.size) (hp : p d[j]! = true) : Dls p d dk i (j + 1) := ⟨h.size, by have := h.ij; omega, hj, h.rest, by
 rw [keepL_take hj, hp, if_pos rfl, List.append_nil]; exact h.val⟩
theorem Dls.keep (h : Dls p d dk i j) (hj : j < d.size) (hp : p d[j]! = false) : Dls p d (dk.setIfInBounds i d[j]!) (i + 1) (j + 1) := by
 have hij := h.ij
 have hk : i < dk.size := by rw [h.size]; omega
 refine ⟨by rw [Array.size_setIfInBounds]; exact h.size, by omega, by omega, fun t ht => ?_, ?_⟩
 ·rw [← h.rest t (by omega)]
  by_cases hs : t < dk.size
  ·rw [getElem!_pos _ t (by simpa using hs), getElem!_pos dk t hs, Array.getElem_setIfInBounds (by simpa using hs), if_neg (by omega)]
  ·rw [getElem!_neg _ t (by simpa using hs), getElem!_neg dk t hs]
 ·rw [keepL_take hj, hp, if_neg (by decide), ← h.val, Array.toList_setIfInBounds, take_nthG (k := i) (by simpa using hk), List.take_set_of_le (Nat.le_refl _)]
  congr 1
  rw [show nthG (dk.toList.set i d[j]!) i = d[j]! from by simp [nthG, hk]]
theorem Dls.all (h : Dls p d dk i j) (hj : d.size ≤ j) : dk.toList.take i = keepL p d.toList := by
 have := h.val
 rwa [List.take_of_length_le (show (d.toList).length ≤ j by simpa using hj)] at this
end
end Go.Proofs.YtbfepgjeecndiaaGreat

/- A row of texts of one's own. -/
namespace Go.Proofs.YtbfepgjeecndiaaGreat
open Go.RowKit
set_option linter.unusedVariables false
set_option linter.unusedSimpArgs false
attribute [local go_sem ↓] Go.wp_at_zero Go.wp_at_succ
structure RwT (w : World) (base : Nat) (A : Option Addr) (n c : Nat) (D : List TeR) : Prop where
 own : w.ownsRow base 28 1 (.slice A n c) n (gcs D)
 tex : ∀ T ∈ D, OwnB w base 5 T.A T.n T.c T.l
section
variable {w w' : World} {base n c : Nat} {A : Option Addr} {D : List TeR}
theorem RwT.nil (w : World) (base : Nat) : RwT w base none 0 0 [] := ⟨World.ownsRow_nil _ _ _ _, fun T hT => by cases hT⟩
theorem RwT.ext (h : RwT w base A n c D) (he : Ext w w') : RwT w' base A n c D := ⟨own_ext h.own he, fun T hT => OwnB.ext (h.tex T hT) he⟩
theorem RwT.len (h : RwT w base A n c D) : D.length = n := gcs_len2 h.own
theorem RwT.push (h : RwT w base A n c D) {A' : Option Addr} {c' : Nat} {T : TeR} (hT : OwnB w base 5 T.A T.n T.c T.l) (hg : w.grownBy w' (Value.ownBlock (.slice A n c))) (ho : w'.ownsRow base 28 1 (.slice A' (n + 1) c') (n + 1) (gcs D ++ teL T)) : RwT w' base A' (n + 1) c' (D ++ [T]) := by
 refine ⟨by rw [gcs_append, gcs_one]; exact ho, fun Q hQ => ?_⟩
 rcases List.mem_append.1 hQ with hQ | hQ
 ·exact World.ownsRow.kept (h.tex Q hQ) hg (own_ne (h.tex Q hQ) h.own (by decide))
 ·rw [List.mem_singleton.1 hQ]; exact World.ownsRow.kept hT hg (own_ne hT h.own (by decide))
theorem RwT.sl (h : RwT w base A n c D) : SlG w A n c D := OwnG.sl (e := 28) h.own (fun T hT => (h.tex T hT).sl)
theorem RwT.mono {base' : Nat} (h : RwT w base A n c D) (hb : base' ≤ base) : RwT w base' A n c D := ⟨own_mono h.own hb, fun T hT => own_mono (h.tex T hT) hb⟩
theorem RwT.set (h : RwT w base A n c D) {g : Nat} {t : TypeId} {cs : Array Value} (hb : Blk w g t cs) (h1 : t ≠ 28) (h2 : t ≠ 5) (vs : List Value) : RwT (w.setCells g 0 vs) base A n c D :=
 ⟨World.ownsRow.kept h.own (grown_setCells' w g vs 0) (.inr (Ne.symm (own_other h.own hb h1))), fun T hT => World.ownsRow.kept (h.tex T hT) (grown_setCells' w g vs 0) (.inr (Ne.symm (own_other (h.tex T hT) hb h2)))⟩
end
theorem own_zero (w : World) (e : TypeId) (size : Nat) : (w.alloc (.cells #[] e)).ownsRow w.heap.size e size (.slice (some ⟨w.heap.size, 0, none⟩) 0 0) 0 [] :=
 ⟨by simp, .inr ⟨w.heap.size, 0, #[], rfl, Nat.le_refl _, heap_alloc_new w _, Nat.le_refl _, Nat.zero_le _, by simp, by simp⟩⟩
theorem run_buildT0 (w : World) : (Instr.buildSlice 23 0 #[]).run Tryz.prog w = .ok (.slice (some ⟨w.heap.size, 0, none⟩) 0 0) (w.alloc (.cells #[] 28)) := by kernel_rfl
theorem run_buildY0 (w : World) : (Instr.buildSlice 28 0 #[]).run Tryz.prog w = .ok (.slice (some ⟨w.heap.size, 0, none⟩) 0 0) (w.alloc (.cells #[] 5)) := by kernel_rfl
end Go.Proofs.YtbfepgjeecndiaaGreat
