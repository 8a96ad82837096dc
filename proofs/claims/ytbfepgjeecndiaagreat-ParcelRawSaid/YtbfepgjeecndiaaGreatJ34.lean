/- The view of a parcel (parcel.Decode). -/
import Derived.Test.YtbfepgjeecndiaaGreatJ28
import Derived.Test.YtbfepgjeecndiaaGreatJ29
namespace Go.Proofs.YtbfepgjeecndiaaGreat
set_option maxRecDepth 100000
set_option maxHeartbeats 8000000
open Go.RowKit
set_option linter.unusedVariables false
set_option linter.unusedSimpArgs false
attribute [local go_sem ↓] Go.wp_at_zero Go.wp_at_succ
def sumOk (l : List UInt8) : Bool := decide (nmb (tagU 89 (l.drop 8)) = l.take 8)
def PcDec (w : World) (l : List UInt8) (e : Ending) (w' : World) : Prop :=
  ∃ (A : Option Addr) (n c : Nat) (L : List SgR) (B : Option Addr) (m d : Nat) (X : List TeR) (z : Int), e = .returned (.tuple #[.agg (vwA A n c B m d), .int .i64 z]) ∧ VwO w' w.heap.size A n c L B m d X ∧ Ext w w' ∧
    ((z = 2 ∧ l.length < 8 ∧ L = [] ∧ X = []) ∨ (z = 104 ∧ 8 ≤ l.length ∧ sumOk l = false ∧ L = [] ∧ X = []) ∨
     (z = 4 ∧ 8 ≤ l.length ∧ sumOk l = true ∧ L = [] ∧ X = [] ∧ ∀ (L : List SgR) (X : List TeR), rawVw (l.drop 8) = some (L.map SgR.V, X.map TeR.l) → ordV L X = false) ∨
     (z = 5 ∧ 8 ≤ l.length ∧ sumOk l = true ∧ L = [] ∧ X = [] ∧ ∃ (L : List SgR) (X : List TeR), rawVw (l.drop 8) = some (L.map SgR.V, X.map TeR.l) ∧ ordV L X = true ∧ lrgN L.length X.length = true) ∨
     (z = 0 ∧ 8 ≤ l.length ∧ sumOk l = true ∧ rawVw (l.drop 8) = some (L.map SgR.V, X.map TeR.l) ∧ ordV L X = true ∧ lrgN L.length X.length = false ∧ ∀ S, S ∈ L → vldSg S = true))
theorem wpList_newVw {o : Oper} {a : Act} {w : World} {ops : Array Oper} {rest : List Oper} {Q : Exit → Act → World → Prop} (hgd : o.guard = none) (x y : Operand) (ho : o.op = .store 25 x y) (cs : Array Value) (hcs : cs.size = 2) (A : Option Addr) (n c : Nat) (B : Option Addr) (m d : Nat) (hx : a.eval x = .pointer (some ⟨w.heap.size, 0, none⟩)) (hy : a.eval y = .agg (vwA A n c B m d))
  (h : wpList Tryz.prog ops Q rest (a.put o.dst undef) (w.alloc (.cells (vwA A n c B m d) 25))) : wpList Tryz.prog ops Q (o :: rest) a (w.alloc (.cells cs 25)) := by
 have ht := there_of_blk (Blk.new w 25 cs)
 rw [hcs] at ht
 refine wpList_storeVw hgd x y ho w.heap.size A n c B m d hx hy ht ?_
 rw [setCells_whole w 25 cs (vwA A n c B m d) (by rw [hcs]; rfl)]
 exact h
theorem SlG.far {α : Type} [RowT α] {w w' : World} {A : Option Addr} {n c : Nat} {L : List α} (h : SlG w A n c L) (hk : ∀ b, b < w.heap.size → w'.heap[b]? = w.heap[b]?) (hok : ∀ R, R ∈ L → RowT.ok R w') : SlG w' A n c L :=
 ⟨h.len, h.le, h.cap, by
  by_cases hx : gcs L = []
  ·exact .inl hx
  ·obtain ⟨b, o, hA, hr, hb⟩ := h.rd.at hx
   exact .inr ⟨b, o, hA, rangeAt_keep hr (hk b hb)⟩, hok⟩
theorem pcDec_short (A : Option Addr) (n c : Nat) (l : List UInt8) (w : World) (hS : SlB w A n c l) (hn : n < 8) :
  Calls Tryz.prog 11 #[.slice A n c] w (PcDec w l) := by
 have hcap := hS.cap
 have hle := hS.le
 have HL := Lib.hid hS.len
 have HE := Lib.hid ((Ext.refl w).alloc' (.cells (vwA none 0 0 none 0 0) 25))
 have HB := Lib.hid (Blk.new w 25 (vwA none 0 0 none 0 0))
 have ht : (w.alloc (.cells (vwA none 0 0 none 0 0) 25)).there w.heap.size 0 2 := there_of_blk HB.out
 have hst := blk_whole (ds := vwA none 0 0 none 0 0) HB.out rfl
 have i1 : (n : Int) < 8 := by omega
 clear hS
 go_enter Tryz.func11, Tryz.ntmps11
 go_wp2_with (first | (with_reducible refine wpList_storeVw rfl (.tmp 2) (.tmp 10) rfl w.heap.size none 0 0 none 0 0 rfl rfl ht ?_))
 exact bodyPost_ret (v := .tuple #[.agg (vwA none 0 0 none 0 0), .int .i64 2]) (retCV rfl _ _ w.heap.size _ _ rfl rfl (run_loadVar_row _ _ _ _ _ (0, 0) _ hst Tryz.underlying25 rfl (by kernel_rfl))) rfl ⟨none, 0, 0, [], none, 0, 0, [], 2, rfl, VwO.nil _ _, Below.setCells' HE.out (Nat.le_refl _) _ _, .inl ⟨rfl, by rw [HL.out]; exact hn, rfl, rfl⟩⟩
theorem pcDec_long (A : Option Addr) (n c : Nat) (l : List UInt8) (w : World) (hS : SlB w A n c l) (hn : 8 ≤ n) (hbd : n ≤ 100000000) (hcn : ¬ c = 8) :
  Calls Tryz.prog 11 #[.slice A n c] w (PcDec w l) := by
 have hcap := hS.cap
 have hle := hS.le
 have HL := Lib.hid hS.len
 obtain ⟨b, o, rfl, hr, hb⟩ := hS.at (by omega)
 have HE := Lib.hid ((Ext.refl w).alloc' (.cells (vwA none 0 0 none 0 0) 25))
 have HB := Lib.hid (Blk.new w 25 (vwA none 0 0 none 0 0))
 have e1 : (bcs l).take 8 = bcs (l.take 8) := by simp [bcs]
 have e2 : (bcs l).drop 8 = bcs (l.drop 8) := by simp [bcs]
 have i1 : ¬ (n : Int) < 8 := by omega
 have i2 : (8 : Int) ≤ (n : Int) := by omega
 have i3 : (8 : Int) ≤ (c : Int) := by omega
 ·have HA := Lib.hid (fun (W : World) (h : Ext w W) => show SlB W (some ⟨b, o, none⟩) 8 c (l.take 8) from slB_at (by have := rangeAt_take (k := 8) (rangeAt_keep hr (h.block b hb)); rwa [e1] at this) (by rw [List.length_take, HL.out]; omega) (by omega) (by omega))
  have HD := Lib.hid (fun (W : World) (h : Ext w W) => show SlB W (some ⟨b, o + 8, none⟩) (n - 8) (c - 8) (l.drop 8) from slB_at (by have := rangeAt_drop (k := 8) (rangeAt_keep hr (h.block b hb)); rwa [e2] at this) (by rw [List.length_drop, HL.out]) (by omega) (by omega))
  clear hS hr e1 e2
  go_enter Tryz.func11, Tryz.ntmps11
  go_wp2_with fail
  refine (tagged89 _ (n - 8) (c - 8) (l.drop 8) _ (HD.out _ HE.out) (by omega)).mono ?_
  rintro e w1 ⟨rfl, he1⟩
  have HX1 := Lib.hid (HE.out.trans he1)
  have HB1 := Lib.hid (HB.out.ext he1)
  obtain ⟨N, hN⟩ : ∃ N, tagU 89 (l.drop 8) = N := ⟨_, rfl⟩
  have HNN := Lib.hid hN
  rw [hN]
  clear he1 hN
  go_wp2_with (first | (with_reducible refine wpList_storeNew rfl (.tmp 4) (.tmp 13) rfl w1.heap.size N rfl rfl rfl ?_))
  have HX2 := Lib.hid (HX1.out.alloc' (.cells (nmc N) 44))
  have HB2 := Lib.hid (HB1.out.alloc (.cells (nmc N) 44))
  have HBN := Lib.hid (Blk.new w1 44 (nmc N))
  generalize w1.alloc (.cells (nmc N) 44) = W2 at HX2 HB2 HBN ⊢
  have HSN := Lib.hid (fun (W : World) (h : Ext W2 W) => slB_at (n := 8) (c := 8) (rangeNm (HBN.out.ext h)) (nmb_length _) (by omega) (by omega))
  clear HX1 HB1
  refine wp_region_plan (S := fun W => Ext W2 W) (by kernel_rfl) (by kernel_rfl) ((Ext.refl W2).drew') ?_
  (refine pr 0 (oi := ⟨some 14, .slice 44 (.tmp 4) none none none, 28, "parcel.go:37", #[], none⟩) (v := ?_) rfl (by kernel_rfl) (by rfl) ?h ?_; case h => (intro W hSW; go_simp <;> with_reducible rfl))
  try simp only [lays]
  (refine pr 1 (oi := ⟨some 15, .move (.tmp 0), 28, "parcel.go:37", #[], none⟩) (v := ?_) rfl (by kernel_rfl) (by rfl) ?h ?_; case h => (intro W hSW; go_simp <;> with_reducible rfl))
  try simp only [lays]
  (refine pr 2 (oi := ⟨some 16, .slice 28 (.tmp 15) none (some (.const (.int .i64 8))) none, 28, "parcel.go:37", #[⟨1, .data⟩], none⟩) (v := ?_) rfl (by kernel_rfl) (by rfl) ?h ?_; case h => (intro W hSW; go_simp <;> with_reducible rfl))
  try simp only [lays]
  (refine plan_take (i := 3) (oi := ⟨some 17, .call { callee := .value (.func 25), args := #[.tmp 14, .tmp 16], argTypes := #[28, 28] }, 4, "parcel.go:37", #[⟨0, .data⟩, ⟨2, .data⟩], none⟩) (v := ?_) rfl (by kernel_rfl) (by kernel_rfl) (fx_call (by rfl) (fun W hSW K hK => ?hy1_3)) ?_; case hy1_3 => (go_simp; go_at_call 25; (with_reducible refine (bEqual_any _ 8 8 (nmb N) _ 8 c (l.take 8) W (HSN.out W hSW) (HA.out W (HX2.out.trans hSW))).mono ?_); rintro e wz ⟨rfl, rfl⟩; exact hK.out _ (hSW)))
  try simp only [lays]
  (refine pr 4 (oi := ⟨some 18, .unOp .not 4 (.tmp 17), 4, "parcel.go:37", #[⟨3, .data⟩], none⟩) (v := ?_) rfl (by kernel_rfl) (by rfl) ?h ?_; case h => (intro W hSW; go_simp <;> with_reducible rfl))
  try simp only [lays]
  refine Plan.done (by kernel_rfl) (fun W hSW => ?_)
  have HX3 := Lib.hid (HX2.out.trans hSW)
  have HB3 := Lib.hid (HB2.out.ext hSW)
  have ht : W.there w.heap.size 0 2 := there_of_blk HB3.out
  clear hSW
  obtain ⟨q, hq⟩ : ∃ q, decide (nmb N = l.take 8) = q := ⟨_, rfl⟩
  have HQ := Lib.hid (show sumOk l = q by unfold sumOk; rw [HNN.out]; exact hq)
  rw [hq]
  clear hq
  cases q with
  | false =>
   have hst := blk_whole (ds := vwA none 0 0 none 0 0) HB3.out rfl
   go_wp2_with (first | (with_reducible refine wpList_storeVw rfl (.tmp 2) (.tmp 19) rfl w.heap.size none 0 0 none 0 0 rfl rfl ht ?_))
   exact bodyPost_ret (v := .tuple #[.agg (vwA none 0 0 none 0 0), .int .i64 104]) (retCV rfl _ _ w.heap.size _ _ rfl rfl (run_loadVar_row _ _ _ _ _ (0, 0) _ hst Tryz.underlying25 rfl (by kernel_rfl))) rfl ⟨none, 0, 0, [], none, 0, 0, [], 104, rfl, VwO.nil _ _, Below.setCells' HX3.out (Nat.le_refl _) _ _, .inr (.inl ⟨rfl, by rw [HL.out]; exact hn, HQ.out, rfl, rfl⟩)⟩
  | true =>
   clear ht
   go_wp2_with fail
   refine (snDec_any _ (n - 8) (c - 8) (l.drop 8) W (HD.out _ HX3.out) (by omega)).mono ?_
   intro e w4 h4
   obtain ⟨he4, hcase⟩ := h4
   have HX4 := Lib.hid (HX3.out.trans he4)
   have HB4 := Lib.hid (HB3.out.ext he4)
   clear he4
   rcases hcase with ⟨A4, n4, c4, L4, B4, m4, d4, X4, rfl, hvo, hraw, hord, hall⟩ | ⟨rfl, hno⟩
   ·have hs1 := hvo.sl1
    have hs2 := hvo.sl2
    have HVO := Lib.hid (hvo.ext ((Ext.refl w4).alloc' (.cells (vwA A4 n4 c4 B4 m4 d4) 25)))
    have HL4 := Lib.hid hs1.len
    have HM4 := Lib.hid hs2.len
    have hb1 := hs1.le
    have hb2 := hs1.cap
    have hb3 := hs2.le
    have hb4 := hs2.cap
    have HX5 := Lib.hid (HX4.out.alloc' (.cells (vwA A4 n4 c4 B4 m4 d4) 25))
    have HB5 := Lib.hid (HB4.out.alloc (.cells (vwA A4 n4 c4 B4 m4 d4) 25))
    have HBV := Lib.hid (Blk.new w4 25 (vwA A4 n4 c4 B4 m4 d4))
    have HS1 := Lib.hid (hs1.ext ((Ext.refl w4).alloc' (.cells (vwA A4 n4 c4 B4 m4 d4) 25)))
    have HS2 := Lib.hid (hs2.ext ((Ext.refl w4).alloc' (.cells (vwA A4 n4 c4 B4 m4 d4) 25)))
    have HRW := Lib.hid (And.intro hraw (And.intro hord hall))
    obtain ⟨y0, y1⟩ := vw_facts HBV.out
    clear hs1 hs2 hraw hord hall hvo
    go_wp2_with (first | (with_reducible refine wpList_newVw rfl (.tmp 5) (.tmp 24) rfl _ rfl A4 n4 c4 B4 m4 d4 rfl rfl ?_))
    generalize w4.alloc (.cells (vwA A4 n4 c4 B4 m4 d4) 25) = W5 at HX5 HB5 HBV HS1 HS2 HVO y0 y1 ⊢
    refine (parLarge_any A4 n4 c4 B4 m4 d4 W5 (by omega) (by omega)).mono ?_
    rintro e w6 ⟨rfl, he6⟩
    have HX6 := Lib.hid (HX5.out.trans he6)
    have HB6 := Lib.hid (HB5.out.ext he6)
    have ht : w6.there w.heap.size 0 2 := there_of_blk HB6.out
    obtain ⟨z0, z1⟩ := vw_facts (HBV.out.ext he6)
    have HVO6 := Lib.hid (HVO.out.ext he6)
    clear he6 y0 y1
    cases hv : lrgN n4 m4 with
    | true =>
     have HLG := Lib.hid (show lrgN L4.length X4.length = true by rw [HL4.out, HM4.out]; exact hv)
     have hst := blk_whole (ds := vwA none 0 0 none 0 0) HB6.out rfl
     clear hv
     go_wp2_with (first | (with_reducible refine wpList_storeVw rfl (.tmp 2) (.tmp 31) rfl w.heap.size none 0 0 none 0 0 rfl rfl ht ?_))
     exact bodyPost_ret (v := .tuple #[.agg (vwA none 0 0 none 0 0), .int .i64 5]) (retCV rfl _ _ w.heap.size _ _ rfl rfl (run_loadVar_row _ _ _ _ _ (0, 0) _ hst Tryz.underlying25 rfl (by kernel_rfl))) rfl ⟨none, 0, 0, [], none, 0, 0, [], 5, rfl, VwO.nil _ _, Below.setCells' HX6.out (Nat.le_refl _) _ _, .inr (.inr (.inr (.inl ⟨rfl, by rw [HL.out]; exact hn, HQ.out, rfl, rfl, L4, X4, HRW.out.1, HRW.out.2.1, HLG.out⟩)))⟩
    | false =>
     have HLG := Lib.hid (show lrgN L4.length X4.length = false by rw [HL4.out, HM4.out]; exact hv)
     have hst := blk_whole (ds := vwA A4 n4 c4 B4 m4 d4) HB6.out rfl
     clear hv
     go_wp2_with (first | (with_reducible refine wpList_storeVw rfl (.tmp 2) (.tmp 32) rfl w.heap.size A4 n4 c4 B4 m4 d4 rfl rfl ht ?_))
     have HVF := Lib.hid (HVO6.out.set HB6.out (vwA A4 n4 c4 B4 m4 d4).toList)
     exact bodyPost_ret (v := .tuple #[.agg (vwA A4 n4 c4 B4 m4 d4), .int .i64 0]) (retCV rfl _ _ w.heap.size _ _ rfl rfl (run_loadVar_row _ _ _ _ _ (0, 0) _ hst Tryz.underlying25 rfl (by kernel_rfl))) rfl ⟨A4, n4, c4, L4, B4, m4, d4, X4, 0, rfl, HVF.out.mono HX3.out.size, Below.setCells' HX6.out (Nat.le_refl _) _ _, .inr (.inr (.inr (.inr ⟨rfl, by rw [HL.out]; exact hn, HQ.out, HRW.out.1, HRW.out.2.1, HLG.out, HRW.out.2.2⟩)))⟩
   ·have HNO := Lib.hid hno
    have HX5 := Lib.hid (HX4.out.alloc' (.cells (vwA none 0 0 none 0 0) 25))
    have HB5 := Lib.hid (HB4.out.alloc (.cells (vwA none 0 0 none 0 0) 25))
    have ht : (w4.alloc (.cells (vwA none 0 0 none 0 0) 25)).there w.heap.size 0 2 := there_of_blk HB5.out
    have hst := blk_whole (ds := vwA none 0 0 none 0 0) HB5.out rfl
    clear hno
    go_wp2_with (first | (with_reducible refine wpList_newVw rfl (.tmp 5) (.tmp 24) rfl _ rfl none 0 0 none 0 0 rfl rfl ?_) | (with_reducible refine wpList_storeVw rfl (.tmp 2) (.tmp 28) rfl w.heap.size none 0 0 none 0 0 rfl rfl ht ?_))
    exact bodyPost_ret (v := .tuple #[.agg (vwA none 0 0 none 0 0), .int .i64 4]) (retCV rfl _ _ w.heap.size _ _ rfl rfl (run_loadVar_row _ _ _ _ _ (0, 0) _ hst Tryz.underlying25 rfl (by kernel_rfl))) rfl ⟨none, 0, 0, [], none, 0, 0, [], 4, rfl, VwO.nil _ _, Below.setCells' HX5.out (Nat.le_refl _) _ _, .inr (.inr (.inl ⟨rfl, by rw [HL.out]; exact hn, HQ.out, rfl, rfl, HNO.out⟩))⟩
theorem pcDec_eight (A : Option Addr) (l : List UInt8) (w : World) (hS : SlB w A 8 8 l) :
  Calls Tryz.prog 11 #[.slice A 8 8] w (PcDec w l) := by
 have hcap := hS.cap
 have hle := hS.le
 have HL := Lib.hid hS.len
 obtain ⟨b, o, rfl, hr, hb⟩ := hS.at (by omega)
 have HE := Lib.hid ((Ext.refl w).alloc' (.cells (vwA none 0 0 none 0 0) 25))
 have HB := Lib.hid (Blk.new w 25 (vwA none 0 0 none 0 0))
 have e1 : (bcs l).take 8 = bcs (l.take 8) := by simp [bcs]
 have e2 : (bcs l).drop 8 = bcs (l.drop 8) := by simp [bcs]
 have hl0 : l.drop 8 = [] := List.eq_nil_of_length_eq_zero (by rw [List.length_drop, HL.out])
 ·have HA := Lib.hid (fun (W : World) (h : Ext w W) => show SlB W (some ⟨b, o, none⟩) 8 8 (l.take 8) from slB_at (by have := rangeAt_take (k := 8) (rangeAt_keep hr (h.block b hb)); rwa [e1] at this) (by rw [List.length_take, HL.out]; omega) (by omega) (by omega))
  have HD := Lib.hid (fun (W : World) (h : Ext w W) => show SlB W (some ⟨b, o, none⟩) 0 0 (l.drop 8) from by rw [hl0]; exact ⟨rfl, Nat.le_refl _, by omega, .nil⟩)
  clear hS hr e1 e2 hl0
  go_enter Tryz.func11, Tryz.ntmps11
  go_wp2_with fail
  refine (tagged89 _ 0 0 (l.drop 8) _ (HD.out _ HE.out) (by omega)).mono ?_
  rintro e w1 ⟨rfl, he1⟩
  have HX1 := Lib.hid (HE.out.trans he1)
  have HB1 := Lib.hid (HB.out.ext he1)
  obtain ⟨N, hN⟩ : ∃ N, tagU 89 (l.drop 8) = N := ⟨_, rfl⟩
  have HNN := Lib.hid hN
  rw [hN]
  clear he1 hN
  go_wp2_with (first | (with_reducible refine wpList_storeNew rfl (.tmp 4) (.tmp 13) rfl w1.heap.size N rfl rfl rfl ?_))
  have HX2 := Lib.hid (HX1.out.alloc' (.cells (nmc N) 44))
  have HB2 := Lib.hid (HB1.out.alloc (.cells (nmc N) 44))
  have HBN := Lib.hid (Blk.new w1 44 (nmc N))
  generalize w1.alloc (.cells (nmc N) 44) = W2 at HX2 HB2 HBN ⊢
  have HSN := Lib.hid (fun (W : World) (h : Ext W2 W) => slB_at (n := 8) (c := 8) (rangeNm (HBN.out.ext h)) (nmb_length _) (by omega) (by omega))
  clear HX1 HB1
  refine wp_region_plan (S := fun W => Ext W2 W) (by kernel_rfl) (by kernel_rfl) ((Ext.refl W2).drew') ?_
  (refine pr 0 (oi := ⟨some 14, .slice 44 (.tmp 4) none none none, 28, "parcel.go:37", #[], none⟩) (v := ?_) rfl (by kernel_rfl) (by rfl) ?h ?_; case h => (intro W hSW; go_simp <;> with_reducible rfl))
  try simp only [lays]
  (refine pr 1 (oi := ⟨some 15, .move (.tmp 0), 28, "parcel.go:37", #[], none⟩) (v := ?_) rfl (by kernel_rfl) (by rfl) ?h ?_; case h => (intro W hSW; go_simp <;> with_reducible rfl))
  try simp only [lays]
  (refine pr 2 (oi := ⟨some 16, .slice 28 (.tmp 15) none (some (.const (.int .i64 8))) none, 28, "parcel.go:37", #[⟨1, .data⟩], none⟩) (v := ?_) rfl (by kernel_rfl) (by rfl) ?h ?_; case h => (intro W hSW; go_simp <;> with_reducible rfl))
  try simp only [lays]
  (refine plan_take (i := 3) (oi := ⟨some 17, .call { callee := .value (.func 25), args := #[.tmp 14, .tmp 16], argTypes := #[28, 28] }, 4, "parcel.go:37", #[⟨0, .data⟩, ⟨2, .data⟩], none⟩) (v := ?_) rfl (by kernel_rfl) (by kernel_rfl) (fx_call (by rfl) (fun W hSW K hK => ?hy2_3)) ?_; case hy2_3 => (go_simp; go_at_call 25; (with_reducible refine (bEqual_any _ 8 8 (nmb N) _ 8 8 (l.take 8) W (HSN.out W hSW) (HA.out W (HX2.out.trans hSW))).mono ?_); rintro e wz ⟨rfl, rfl⟩; exact hK.out _ (hSW)))
  try simp only [lays]
  (refine pr 4 (oi := ⟨some 18, .unOp .not 4 (.tmp 17), 4, "parcel.go:37", #[⟨3, .data⟩], none⟩) (v := ?_) rfl (by kernel_rfl) (by rfl) ?h ?_; case h => (intro W hSW; go_simp <;> with_reducible rfl))
  try simp only [lays]
  refine Plan.done (by kernel_rfl) (fun W hSW => ?_)
  have HX3 := Lib.hid (HX2.out.trans hSW)
  have HB3 := Lib.hid (HB2.out.ext hSW)
  have ht : W.there w.heap.size 0 2 := there_of_blk HB3.out
  clear hSW
  obtain ⟨q, hq⟩ : ∃ q, decide (nmb N = l.take 8) = q := ⟨_, rfl⟩
  have HQ := Lib.hid (show sumOk l = q by unfold sumOk; rw [HNN.out]; exact hq)
  rw [hq]
  clear hq
  cases q with
  | false =>
   have hst := blk_whole (ds := vwA none 0 0 none 0 0) HB3.out rfl
   go_wp2_with (first | (with_reducible refine wpList_storeVw rfl (.tmp 2) (.tmp 19) rfl w.heap.size none 0 0 none 0 0 rfl rfl ht ?_))
   exact bodyPost_ret (v := .tuple #[.agg (vwA none 0 0 none 0 0), .int .i64 104]) (retCV rfl _ _ w.heap.size _ _ rfl rfl (run_loadVar_row _ _ _ _ _ (0, 0) _ hst Tryz.underlying25 rfl (by kernel_rfl))) rfl ⟨none, 0, 0, [], none, 0, 0, [], 104, rfl, VwO.nil _ _, Below.setCells' HX3.out (Nat.le_refl _) _ _, .inr (.inl ⟨rfl, by rw [HL.out]; exact Nat.le_refl _, HQ.out, rfl, rfl⟩)⟩
  | true =>
   clear ht
   go_wp2_with fail
   refine (snDec_any _ 0 0 (l.drop 8) W (HD.out _ HX3.out) (by omega)).mono ?_
   intro e w4 h4
   obtain ⟨he4, hcase⟩ := h4
   have HX4 := Lib.hid (HX3.out.trans he4)
   have HB4 := Lib.hid (HB3.out.ext he4)
   clear he4
   rcases hcase with ⟨A4, n4, c4, L4, B4, m4, d4, X4, rfl, hvo, hraw, hord, hall⟩ | ⟨rfl, hno⟩
   ·have hs1 := hvo.sl1
    have hs2 := hvo.sl2
    have HVO := Lib.hid (hvo.ext ((Ext.refl w4).alloc' (.cells (vwA A4 n4 c4 B4 m4 d4) 25)))
    have HL4 := Lib.hid hs1.len
    have HM4 := Lib.hid hs2.len
    have hb1 := hs1.le
    have hb2 := hs1.cap
    have hb3 := hs2.le
    have hb4 := hs2.cap
    have HX5 := Lib.hid (HX4.out.alloc' (.cells (vwA A4 n4 c4 B4 m4 d4) 25))
    have HB5 := Lib.hid (HB4.out.alloc (.cells (vwA A4 n4 c4 B4 m4 d4) 25))
    have HBV := Lib.hid (Blk.new w4 25 (vwA A4 n4 c4 B4 m4 d4))
    have HS1 := Lib.hid (hs1.ext ((Ext.refl w4).alloc' (.cells (vwA A4 n4 c4 B4 m4 d4) 25)))
    have HS2 := Lib.hid (hs2.ext ((Ext.refl w4).alloc' (.cells (vwA A4 n4 c4 B4 m4 d4) 25)))
    have HRW := Lib.hid (And.intro hraw (And.intro hord hall))
    obtain ⟨y0, y1⟩ := vw_facts HBV.out
    clear hs1 hs2 hraw hord hall hvo
    go_wp2_with (first | (with_reducible refine wpList_newVw rfl (.tmp 5) (.tmp 24) rfl _ rfl A4 n4 c4 B4 m4 d4 rfl rfl ?_))
    generalize w4.alloc (.cells (vwA A4 n4 c4 B4 m4 d4) 25) = W5 at HX5 HB5 HBV HS1 HS2 HVO y0 y1 ⊢
    refine (parLarge_any A4 n4 c4 B4 m4 d4 W5 (by omega) (by omega)).mono ?_
    rintro e w6 ⟨rfl, he6⟩
    have HX6 := Lib.hid (HX5.out.trans he6)
    have HB6 := Lib.hid (HB5.out.ext he6)
    have ht : w6.there w.heap.size 0 2 := there_of_blk HB6.out
    obtain ⟨z0, z1⟩ := vw_facts (HBV.out.ext he6)
    have HVO6 := Lib.hid (HVO.out.ext he6)
    clear he6 y0 y1
    cases hv : lrgN n4 m4 with
    | true =>
     have HLG := Lib.hid (show lrgN L4.length X4.length = true by rw [HL4.out, HM4.out]; exact hv)
     have hst := blk_whole (ds := vwA none 0 0 none 0 0) HB6.out rfl
     clear hv
     go_wp2_with (first | (with_reducible refine wpList_storeVw rfl (.tmp 2) (.tmp 31) rfl w.heap.size none 0 0 none 0 0 rfl rfl ht ?_))
     exact bodyPost_ret (v := .tuple #[.agg (vwA none 0 0 none 0 0), .int .i64 5]) (retCV rfl _ _ w.heap.size _ _ rfl rfl (run_loadVar_row _ _ _ _ _ (0, 0) _ hst Tryz.underlying25 rfl (by kernel_rfl))) rfl ⟨none, 0, 0, [], none, 0, 0, [], 5, rfl, VwO.nil _ _, Below.setCells' HX6.out (Nat.le_refl _) _ _, .inr (.inr (.inr (.inl ⟨rfl, by rw [HL.out]; exact Nat.le_refl _, HQ.out, rfl, rfl, L4, X4, HRW.out.1, HRW.out.2.1, HLG.out⟩)))⟩
    | false =>
     have HLG := Lib.hid (show lrgN L4.length X4.length = false by rw [HL4.out, HM4.out]; exact hv)
     have hst := blk_whole (ds := vwA A4 n4 c4 B4 m4 d4) HB6.out rfl
     clear hv
     go_wp2_with (first | (with_reducible refine wpList_storeVw rfl (.tmp 2) (.tmp 32) rfl w.heap.size A4 n4 c4 B4 m4 d4 rfl rfl ht ?_))
     have HVF := Lib.hid (HVO6.out.set HB6.out (vwA A4 n4 c4 B4 m4 d4).toList)
     exact bodyPost_ret (v := .tuple #[.agg (vwA A4 n4 c4 B4 m4 d4), .int .i64 0]) (retCV rfl _ _ w.heap.size _ _ rfl rfl (run_loadVar_row _ _ _ _ _ (0, 0) _ hst Tryz.underlying25 rfl (by kernel_rfl))) rfl ⟨A4, n4, c4, L4, B4, m4, d4, X4, 0, rfl, HVF.out.mono HX3.out.size, Below.setCells' HX6.out (Nat.le_refl _) _ _, .inr (.inr (.inr (.inr ⟨rfl, by rw [HL.out]; exact Nat.le_refl _, HQ.out, HRW.out.1, HRW.out.2.1, HLG.out, HRW.out.2.2⟩)))⟩
   ·have HNO := Lib.hid hno
    have HX5 := Lib.hid (HX4.out.alloc' (.cells (vwA none 0 0 none 0 0) 25))
    have HB5 := Lib.hid (HB4.out.alloc (.cells (vwA none 0 0 none 0 0) 25))
    have ht : (w4.alloc (.cells (vwA none 0 0 none 0 0) 25)).there w.heap.size 0 2 := there_of_blk HB5.out
    have hst := blk_whole (ds := vwA none 0 0 none 0 0) HB5.out rfl
    clear hno
    go_wp2_with (first | (with_reducible refine wpList_newVw rfl (.tmp 5) (.tmp 24) rfl _ rfl none 0 0 none 0 0 rfl rfl ?_) | (with_reducible refine wpList_storeVw rfl (.tmp 2) (.tmp 28) rfl w.heap.size none 0 0 none 0 0 rfl rfl ht ?_))
    exact bodyPost_ret (v := .tuple #[.agg (vwA none 0 0 none 0 0), .int .i64 4]) (retCV rfl _ _ w.heap.size _ _ rfl rfl (run_loadVar_row _ _ _ _ _ (0, 0) _ hst Tryz.underlying25 rfl (by kernel_rfl))) rfl ⟨none, 0, 0, [], none, 0, 0, [], 4, rfl, VwO.nil _ _, Below.setCells' HX5.out (Nat.le_refl _) _ _, .inr (.inr (.inl ⟨rfl, by rw [HL.out]; exact Nat.le_refl _, HQ.out, rfl, rfl, HNO.out⟩))⟩
theorem pcDec_any (A : Option Addr) (n c : Nat) (l : List UInt8) (w : World) (hS : SlB w A n c l) (hbd : n ≤ 100000000) : Calls Tryz.prog 11 #[.slice A n c] w (PcDec w l) := by
 by_cases h : n < 8
 ·exact pcDec_short A n c l w hS h
 ·by_cases hc : c = 8
  ·have := hS.le
   obtain rfl : n = 8 := by omega
   subst hc
   exact pcDec_eight A l w hS
  ·exact pcDec_long A n c l w hS (by omega) hbd hc
end Go.Proofs.YtbfepgjeecndiaaGreat
