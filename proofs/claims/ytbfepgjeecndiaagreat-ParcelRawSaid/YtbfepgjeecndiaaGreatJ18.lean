/- The bytes of votes and of signed votes (the program's Encode). -/
import Derived.Test.YtbfepgjeecndiaaGreatJ15
import Derived.Test.YtbfepgjeecndiaaGreatJ16
namespace Go.Proofs.YtbfepgjeecndiaaGreat
set_option maxRecDepth 100000
set_option maxHeartbeats 4000000
open Go.RowKit
set_option linter.unusedVariables false
set_option linter.unusedSimpArgs false
attribute [local go_sem ↓] Go.wp_at_zero Go.wp_at_succ
theorem hmk23 (w : World) : (Instr.makeSlice 28 (.int .i64 0) (.int .i64 23)).run Tryz.prog w = .ok (.slice (some ⟨w.heap.size, 0, none⟩) 0 23) (w.alloc (.cells (madeCells (Value.int .u8 0).cells 23) 5)) := by
 obtain ⟨i, hi, hz, hs, hby⟩ := bytesE.get
 have h := run_make (P := Tryz.prog) w 28 5 i (.int .u8 0) bytesE.ut hi hz .i64 .i64 0 23 (by omega) (by omega) (by rw [hby]; omega) (by omega)
 simpa [hs] using h
theorem appV2 (A : Option Addr) (n c : Nat) (l : List UInt8) (z : Int) (w : World) (h : SlB w A n c l) (hn : n ≤ 140737488351232) : Calls Tryz.prog 37 #[.slice A n c, .int .u64 (un (uI z)), .int .i64 2] w fun e w' => ∃ A' c', e = .returned (.slice A' (n + 2) c') ∧ OwnB w' w.heap.size 5 A' (n + 2) c' (l ++ beI 2 z) ∧ Ext w w' :=
 appendUI_any A n c l z 2 (by omega) w h hn
theorem slB_new5 (w : World) (t : TypeId) (x y z u v : Int) (a b c d e : UInt8) (hx : x = (a.toNat : Int)) (hy : y = (b.toNat : Int)) (hz : z = (c.toNat : Int)) (hu : u = (d.toNat : Int)) (hv : v = (e.toNat : Int)) (g : Nat) (hg : w.heap.size = g) : SlB (w.alloc (.cells #[.int .u8 x, .int .u8 y, .int .u8 z, .int .u8 u, .int .u8 v] t)) (some ⟨g, 0, none⟩) 5 5 [a, b, c, d, e] :=
 SlB.new hg [a, b, c, d, e] (by rw [hx, hy, hz, hu, hv]; rfl) (by simp)
theorem slB_at {w : World} {b o : Nat} {l : List UInt8} (h : w.rangeAt b o (bcs l)) {n c : Nat} (hl : l.length = n) (hc : n ≤ c) (hm : c ≤ 9223372036854775807) : SlB w (some ⟨b, o, none⟩) n c l := ⟨hl, hc, hm, .inr ⟨b, o, rfl, h⟩⟩
theorem voteEnc_no (v : VtR) (h : vldVt v = false) (w : World) : Calls Tryz.prog 71 #[.agg (vtA v)] w fun e w' => e = .returned (.tuple #[.slice none 0 0, .bool false]) ∧ Ext w w' := by
 have HE := Lib.hid ((Ext.refl w).alloc' (.cells (vtA v) 46))
 have hr : (w.alloc (.cells (vtA v) 46)).rangeAt w.heap.size 0 (vtL v) := rangeAt_of_blk (Blk.new w 46 (vtA v))
 have HV := Lib.hid (fun (W : World) => voteValid_any v W)
 rw [h] at HV
 clear h
 go_enter Tryz.func71, Tryz.ntmps71
 go_wp2_with (first | (with_reducible refine wpList_loadVt rfl (.tmp 1) rfl w.heap.size 0 rfl v hr ?_))
 refine (HV.out _).mono ?_
 rintro e w1 ⟨rfl, he1⟩
 have HX := Lib.hid (HE.out.trans he1)
 clear he1 hr
 go_wp2_with fail
 go_ret2
 exact ⟨rfl, HX.out⟩
theorem voteEnc_yes (v : VtR) (h : vldVt v = true) (w : World) : Calls Tryz.prog 71 #[.agg (vtA v)] w fun e w' => ∃ A' c', e = .returned (.tuple #[.slice A' 23 c', .bool true]) ∧ OwnB w' w.heap.size 5 A' 23 c' (encVt v) ∧ Ext w w' := by
 have HE := Lib.hid ((Ext.refl w).alloc' (.cells (vtA v) 46))
 have HB := Lib.hid (Blk.new w 46 (vtA v))
 obtain ⟨W0, hW0⟩ : ∃ W0, w.alloc (.cells (vtA v) 46) = W0 := ⟨_, rfl⟩
 rw [hW0] at HE HB
 have hr : W0.rangeAt w.heap.size 0 (vtL v) := rangeAt_of_blk HB.out
 have HV := Lib.hid (fun (W : World) => voteValid_any v W)
 rw [h] at HV
 have hmk := hmk23
 have u_su := uI_un v.su
 clear h
 go_enter Tryz.func71, Tryz.ntmps71
 go_wp2_with (first | (with_reducible refine wpList_loadVt rfl (.tmp 1) rfl w.heap.size 0 rfl v hr ?_))
 refine (HV.out _).mono ?_
 rintro e w1 ⟨rfl, he1⟩
 have HX := Lib.hid (HE.out.trans he1)
 have HB1 := Lib.hid (HB.out.ext he1)
 obtain ⟨a0, a1, a2, a3, a4, a5, a6, a7⟩ := vt_facts HB1.out
 have glt : w.heap.size < w1.heap.size := by have := HB1.out.lt; omega
 clear he1 hr hW0 a6 a7
 go_wp2_with (at_builtin; go_must (refine wpList_appB bytesE rfl (.tmp 9) (.tmp 25) rfl w1.heap.size _ _ _ [] rfl ((OwnB.made w1 w1.heap.size _ 23 w1.heap.size rfl (Nat.le_refl _) (by omega) (size_madeCells _ _)).alloc _) _ _ _ [toB v.k, toB v.sl, toB v.ro, toB v.ch, toB v.si] rfl ?r1 (by omega) ?b1 w1 ?w1 ?_))
 case r1 => exact slB_new5 _ _ _ _ _ _ _ _ _ _ _ _ (by first | exact toB_eq _ | (rw [← toB_eq]; omega)) (by first | exact toB_eq _ | (rw [← toB_eq]; omega)) (by first | exact toB_eq _ | (rw [← toB_eq]; omega)) (by first | exact toB_eq _ | (rw [← toB_eq]; omega)) (by first | exact toB_eq _ | (rw [← toB_eq]; omega)) _ (by simp)
 case b1 => simp; omega
 case w1 => exact Below.alloc (Below.alloc (Below.refl _ _) (Nat.le_refl _) _) (by simp) _
 intro A1 c1 w2 ho2 hw2 hs2
 have HX2 := Lib.hid (Below.mono hw2 (Nat.le_refl _) : Ext w1 w2)
 have HB2 := Lib.hid (HB1.out.ext HX2.out)
 have HO2 := Lib.hid ho2
 obtain ⟨a0, a1, a2, a3, a4, a5, a6, a7⟩ := vt_facts HB2.out
 clear ho2 hw2 hs2 hmk a0 a1 a2 a3 a4 a6 a7
 go_wp2_with fail
 refine (appV2 A1 5 c1 _ v.su w2 HO2.out.sl (by omega)).mono ?_
 rintro e w3 ⟨A3, c3, rfl, hO3, he3⟩
 have HX3 := Lib.hid (Ext.trans HX2.out he3)
 have HB3 := Lib.hid (HB1.out.ext HX3.out)
 have HO3 := Lib.hid hO3
 have HS3 := Lib.hid he3.size
 clear hO3 he3 a5 u_su
 go_wp2_with (at_builtin; go_must (refine wpList_appB bytesE rfl (.tmp 32) (.tmp 34) rfl w2.heap.size _ _ _ _ rfl HO3.out _ 8 8 (nmb v.pa) rfl (slB_at (vt_pa HB3.out) (nmb_length _) (by omega) (by omega)) (by omega) HS3.out w3 ((Below.refl _ _)) ?_))
 intro A4 c4 w4 ho4 hw4 hs4
 have HX4 := Lib.hid (Below.trans (Below.mono HX3.out (Nat.le_refl _)) (Below.mono hw4 HX2.out.size) : Ext w1 w4)
 have HB4 := Lib.hid (HB1.out.ext HX4.out)
 have HO4 := Lib.hid ho4
 have HS4 := Lib.hid (show w2.heap.size ≤ w4.heap.size from Nat.le_trans HS3.out hs4)
 clear ho4 hw4 hs4
 go_wp2_with (at_builtin; go_must (refine wpList_appB bytesE rfl (.tmp 36) (.tmp 38) rfl w2.heap.size _ _ _ _ rfl HO4.out _ 8 8 (nmb v.va) rfl (slB_at (vt_va HB4.out) (nmb_length _) (by omega) (by omega)) (by omega) HS4.out w4 ((Below.refl _ _)) ?_))
 intro A5 c5 w5 ho5 hw5 hs5
 have HF := Lib.hid (show OwnB w5 w.heap.size 5 A5 23 c5 (encVt v) from by
  have h1 : OwnB w5 w.heap.size 5 A5 23 c5 _ := own_mono (base' := w.heap.size) ho5 (by have := HX.out.size; have := HX2.out.size; omega)
  have e : encVt v = [toB v.k, toB v.sl, toB v.ro, toB v.ch, toB v.si] ++ beI 2 v.su ++ nmb v.pa ++ nmb v.va := by simp [encVt]
  rw [e]
  exact h1)
 have HG := Lib.hid (HX.out.trans (Below.trans (Below.mono HX4.out (Nat.le_refl _)) (Below.mono hw5 HX2.out.size) : Ext w1 w5))
 clear ho5 hw5 hs5
 go_wp2_with fail
 go_ret2
 exact ⟨A5, c5, rfl, HF.out, HG.out⟩
end Go.Proofs.YtbfepgjeecndiaaGreat

/- Two signed votes compared (snapshot.compareVotes). -/
namespace Go.Proofs.YtbfepgjeecndiaaGreat
set_option maxRecDepth 100000
set_option maxHeartbeats 8000000
open Go.RowKit
set_option linter.unusedVariables false
set_option linter.unusedSimpArgs false
attribute [local go_sem ↓] Go.wp_at_zero Go.wp_at_succ
def cmpSg (S T : SgR) : Int := if ltSg S T = true then -1 else if ltSg T S = true then 1 else 0
theorem cmpSg_lt (S T : SgR) : decide (cmpSg S T < 0) = ltSg S T := by
 unfold cmpSg
 cases h1 : ltSg S T
 ·rw [if_neg (by decide)]
  cases h2 : ltSg T S
  ·rw [if_neg (by decide)]; decide
  ·rw [if_pos rfl]; decide
 ·rw [if_pos rfl]; decide
theorem ltSg_swo : Sort.SWO ltSg where
 irrefl x := ltSv_sto.irrefl _
 trans x y z h1 h2 := ltSv_sto.trans _ _ _ h1 h2
 ntrans x y z h1 h2 := ltSv_sto.ntrans h1 h2
theorem cmpVotes_any (S T : SgR) (w : World) (hS : S.ok w) (hT : T.ok w) : Calls Tryz.prog 61 #[.agg (sgA S), .agg (sgA T)] w fun e w' => e = .returned (.int .i64 (cmpSg S T)) ∧ Ext w w' := by
 have hE := ((Ext.refl w).alloc' (.cells (sgA S) 48)).alloc' (.cells (sgA T) 48)
 have HB1 := Lib.hid ((Blk.new w 48 (sgA S)).alloc (.cells (sgA T) 48))
 have HB2 := Lib.hid (show Blk ((w.alloc (.cells (sgA S) 48)).alloc (.cells (sgA T) 48)) (w.heap.size + 1) 48 (sgA T) from Blk.newAt _ _ _ _ (by simp))
 have HE := Lib.hid hE
 have HS := Lib.hid (hS.ext hE)
 have HT := Lib.hid (hT.ext hE)
 obtain ⟨W0, hW0⟩ : ∃ W0, (w.alloc (.cells (sgA S) 48)).alloc (.cells (sgA T) 48) = W0 := ⟨_, rfl⟩
 rw [hW0] at HB1 HB2 HE HS HT
 have r1 : W0.rangeAt w.heap.size 0 (sgL S) := rangeAt_of_blk HB1.out
 have r2 : W0.rangeAt (w.heap.size + 1) 0 (sgL T) := rangeAt_of_blk HB2.out
 have HR := Lib.hid (fun (W : World) (h : Ext W0 W) => And.intro (show W.rangeAt w.heap.size 0 (sgL S) from rangeAt_of_blk (HB1.out.ext h)) (show W.rangeAt (w.heap.size + 1) 0 (sgL T) from rangeAt_of_blk (HB2.out.ext h)))
 have H1 := Lib.hid (fun (W : World) (h : Ext W0 W) => sgLess_any S T W (HS.out.ext h) (HT.out.ext h))
 have H2 := Lib.hid (fun (W : World) (h : Ext W0 W) => sgLess_any T S W (HT.out.ext h) (HS.out.ext h))
 clear hE hS hT HS HT HB1 HB2
 unfold cmpSg
 cases h1 : ltSg S T with
 | true =>
  rw [h1] at H1
  rw [if_pos rfl]
  clear h1 H2
  go_enter Tryz.func61, Tryz.ntmps61
  go_wp2_with (first | (with_reducible refine wpList_loadSg rfl (.tmp 2) rfl w.heap.size 0 rfl S r1 ?_) | (with_reducible refine wpList_loadSg rfl (.tmp 3) rfl (w.heap.size + 1) 0 rfl T r2 ?_))
  refine (H1.out W0 (Ext.refl _)).mono ?_
  rintro e w1 ⟨rfl, he1⟩
  have HX := Lib.hid (HE.out.trans he1)
  clear he1
  go_wp2_with fail
  go_ret
  exact ⟨rfl, HX.out⟩
 | false =>
  rw [h1] at H1
  rw [if_neg (by decide)]
  clear h1
  cases h2 : ltSg T S with
  | true =>
   rw [h2] at H2
   rw [if_pos rfl]
   clear h2
   go_enter Tryz.func61, Tryz.ntmps61
   go_wp2_with (first | (with_reducible refine wpList_loadSg rfl (.tmp 2) rfl w.heap.size 0 rfl S r1 ?_) | (with_reducible refine wpList_loadSg rfl (.tmp 3) rfl (w.heap.size + 1) 0 rfl T r2 ?_))
   refine (H1.out W0 (Ext.refl _)).mono ?_
   rintro e w1 ⟨rfl, he1⟩
   have HZ := Lib.hid he1
   clear r1 r2
   obtain ⟨r1, r2⟩ := HR.out w1 he1
   clear he1
   go_wp2_with (first | (with_reducible refine wpList_loadSg rfl (.tmp 2) rfl w.heap.size 0 rfl S r1 ?_) | (with_reducible refine wpList_loadSg rfl (.tmp 3) rfl (w.heap.size + 1) 0 rfl T r2 ?_))
   refine (H2.out w1 HZ.out).mono ?_
   rintro e w2 ⟨rfl, he2⟩
   have HX := Lib.hid (HE.out.trans (HZ.out.trans he2))
   clear he2
   go_wp2_with fail
   go_ret
   exact ⟨rfl, HX.out⟩
  | false =>
   rw [h2] at H2
   rw [if_neg (by decide)]
   clear h2
   go_enter Tryz.func61, Tryz.ntmps61
   go_wp2_with (first | (with_reducible refine wpList_loadSg rfl (.tmp 2) rfl w.heap.size 0 rfl S r1 ?_) | (with_reducible refine wpList_loadSg rfl (.tmp 3) rfl (w.heap.size + 1) 0 rfl T r2 ?_))
   refine (H1.out W0 (Ext.refl _)).mono ?_
   rintro e w1 ⟨rfl, he1⟩
   have HZ := Lib.hid he1
   clear r1 r2
   obtain ⟨r1, r2⟩ := HR.out w1 he1
   clear he1
   go_wp2_with (first | (with_reducible refine wpList_loadSg rfl (.tmp 2) rfl w.heap.size 0 rfl S r1 ?_) | (with_reducible refine wpList_loadSg rfl (.tmp 3) rfl (w.heap.size + 1) 0 rfl T r2 ?_))
   refine (H2.out w1 HZ.out).mono ?_
   rintro e w2 ⟨rfl, he2⟩
   have HX := Lib.hid (HE.out.trans (HZ.out.trans he2))
   clear he2
   go_wp2_with fail
   go_ret
   exact ⟨rfl, HX.out⟩
abbrev RowV (w0 w : World) (base : Nat) (A : Option Addr) (n c : Nat) (d : Array SgR) : Prop := RowS w0 w base 48 A n c d
section
variable {w0 w w' : World} {base : Nat} {A : Option Addr} {n c : Nat} {d : Array SgR}
theorem RowV.load (h : RowV w0 w base A n c d) {g : Nat} (hA : A = some ⟨g, 0, none⟩) {i : Nat} (hi : i < n) {R : SgR} (hR : d[i]! = R) (he : Ext w w') : w'.rangeAt g (i * 23) (sgL R) := by
 have := (RowS.ext h he).cell hA hi
 rw [hR] at this
 exact this
theorem RowV.cmp (h : RowV w0 w base A n c d) {i j : Nat} (hi : i < n) (hj : j < n) {R T : SgR} (hR : d[i]! = R) (hT : d[j]! = T) (vx vy : Value) (hx : Value.agg (sgA R) = vx) (hy : Value.agg (sgA T) = vy) (b : Bool) (hb : ltSg d[i]! d[j]! = b) :
  ∃ z : Int, decide (z < 0) = b ∧ Hid (∀ W, Ext w W → Calls Tryz.prog 61 #[vx, vy] W fun e w' => e = .returned (.int .i64 z) ∧ Ext W w') := by
 subst hR; subst hT; rw [← hx, ← hy]
 exact ⟨cmpSg d[i]! d[j]!, by rw [cmpSg_lt, hb], Lib.hid (fun W hW => cmpVotes_any _ _ W ((RowS.ext h hW).ok hi) ((RowS.ext h hW).ok hj))⟩
theorem RowV.xchg (h : RowV w0 w base A n c d) {g : Nat} (hA : A = some ⟨g, 0, none⟩) {i j : Nat} (hi : i < n) (hj : j < n) {R T : SgR} (hR : d[i]! = R) (hT : d[j]! = T) (W : World) (hW : W = w.drew) :
  W.rangeAt g (i * 23) (sgL R) ∧ W.rangeAt g (j * 23) (sgL T) ∧ W.there g (i * 23) 23 ∧ (W.setCells g (i * 23) (sgL T)).there g (j * 23) 23 ∧ RowV w0 ((W.setCells g (i * 23) (sgL T)).setCells g (j * 23) (sgL R)) base A n c (Sort.swp d i j) := by
 have hE := (Ext.refl w).drew'
 subst hW
 have h2 := RowS.ext h hE
 refine ⟨h.load hA hi hR hE, h.load hA hj hT hE, h2.there hA hi, ?_, ?_⟩
 ·have := (h2.set hA hi _ (h2.owAt hj)).there hA hj
  rw [hT] at this; exact this
 ·have := h2.swap hA hi hj
  rw [hR, hT] at this; exact this
end
end Go.Proofs.YtbfepgjeecndiaaGreat

/- The signed vote that bytes tell (the program's Decode). -/
namespace Go.Proofs.YtbfepgjeecndiaaGreat
set_option maxRecDepth 100000
set_option maxHeartbeats 8000000
open Go.RowKit
set_option linter.unusedVariables false
set_option linter.unusedSimpArgs false
attribute [local go_sem ↓] Go.wp_at_zero Go.wp_at_succ
def zeroS : SgR := ⟨zeroV, none, 0, 0, []⟩
abbrev sg0 : Array Value := #[.int .i64 0, .int .i64 0, .int .i64 0, .int .i64 0, .int .i64 0, .int .i64 0, .int .u8 0, .int .u8 0, .int .u8 0, .int .u8 0, .int .u8 0, .int .u8 0, .int .u8 0, .int .u8 0, .int .u8 0, .int .u8 0, .int .u8 0, .int .u8 0, .int .u8 0, .int .u8 0, .int .u8 0, .int .u8 0, .slice none 0 0]
theorem sg0_eq : sg0 = sgA zeroS := by
 unfold sgA zeroS zeroV; simp only [nb8_nil 0 (by omega), nb8_nil 1 (by omega), nb8_nil 2 (by omega), nb8_nil 3 (by omega), nb8_nil 4 (by omega), nb8_nil 5 (by omega), nb8_nil 6 (by omega), nb8_nil 7 (by omega)]
section
variable {o : Oper} {a : Act} {w : World} {ops : Array Oper} {rest : List Oper} {Q : Exit → Act → World → Prop}
theorem wpList_storeSg (hgd : o.guard = none) (x y : Operand) (ho : o.op = .store 48 x y) (g : Nat) (S : SgR) (hx : a.eval x = .pointer (some ⟨g, 0, none⟩)) (hy : a.eval y = .agg (sgA S)) (ht : w.there g 0 23)
  (h : wpList Tryz.prog ops Q rest (a.put o.dst undef) (w.setCells g 0 (sgA S).toList)) : wpList Tryz.prog ops Q (o :: rest) a w :=
 wpList_store_mid hgd 48 x y ho g 0 (sgA S) hx hy ht (by kernel_rfl) (sgA_all S) h
theorem wpList_storeS0 (hgd : o.guard = none) (x y : Operand) (ho : o.op = .store 48 x y) (g : Nat) (hx : a.eval x = .pointer (some ⟨g, 0, none⟩)) (hy : a.eval y = .agg sg0) (ht : w.there g 0 23)
  (h : wpList Tryz.prog ops Q rest (a.put o.dst undef) (w.setCells g 0 (sgA zeroS).toList)) : wpList Tryz.prog ops Q (o :: rest) a w := by
 refine wpList_storeSg hgd x y ho g zeroS hx (by rw [hy, sg0_eq]) ht h
end
theorem yields_loadVtA {o : Oper} {a : Act} {ops : Array Oper} {S : World → Prop} (hw : Region.wanted o (yielded ops a.tmps) = true) (x : Operand) (ho : o.op = .load 46 x) (b of : Nat) (hx : a.eval x = .pointer (some ⟨b, of, none⟩)) (R : VtR) (hS : ∀ w, S w → w.rangeAt b of (vtL R)) : YieldsIf Tryz.prog ops S o (.agg (vtA R)) a := by
 have := yieldsIf_load_mid (P := Tryz.prog) (S := S) hw 46 x ho b of hx (vtL R) _ hS Tryz.underlying46 rfl (by rw [vtL_length]; kernel_rfl)
 rw [vtL_arr] at this
 exact this
theorem appV0 (A : Option Addr) (n c : Nat) (l : List UInt8) (w : World) (h : SlB w A n c l) (hn : n ≤ 140737488351232) : Calls Tryz.prog 37 #[.slice A n c, .int .u64 0, .int .i64 0] w fun e w' => ∃ A' c', e = .returned (.slice A' n c') ∧ OwnB w' w.heap.size 5 A' n c' l ∧ Ext w w' := by
 have := appendUint_any A n c l 0 0 (by omega) w h hn
 refine this.mono ?_
 rintro e w' ⟨A', c', he, ho, hx⟩
 exact ⟨A', c', he, by simpa [beBytes] using ho, hx⟩
def sdC (l : List UInt8) : Int := if l.length < 393 then 2 else if 393 < l.length then 3 else vdC (l.take 23)
def SdOut (w : World) (l : List UInt8) (e : Ending) (w' : World) : Prop := ∃ S : SgR, e = .returned (.tuple #[.agg (sgA S), .int .i64 (sdC l)]) ∧ S.ok w' ∧ Ext w w' ∧ (sdC l = 0 → S.v = decVt (l.take 23) ∧ vldVt S.v = true ∧ S.n = 370 ∧ S.sig = l.drop 23) ∧ (sdC l ≠ 0 → S = zeroS) ∧ OwnB w' w.heap.size 5 S.A S.n S.c S.sig
theorem zeroV_wf : zeroV.wf := ⟨wfI_of (by decide) (by decide), wfI_of (by decide) (by decide), wfI_of (by decide) (by decide), wfI_of (by decide) (by decide), wfI_of (by decide) (by decide), wfI_of (by decide) (by decide)⟩
theorem zeroS_ok (w : World) : zeroS.ok w := ⟨zeroV_wf, SlB.nil w⟩
theorem sgDec_short (A : Option Addr) (n c : Nat) (l : List UInt8) (w : World) (hS : SlB w A n c l) (hn : n < 393) : Calls Tryz.prog 50 #[.slice A n c] w (SdOut w l) := by
 have hcap := hS.cap
 have hle := hS.le
 have HC := Lib.hid (show sdC l = 2 from by unfold sdC; rw [hS.len]; rw [if_pos hn])
 have HE := Lib.hid ((Ext.refl w).alloc' (.cells sg0 48))
 have HB := Lib.hid (Blk.new w 48 sg0)
 have ht : (w.alloc (.cells sg0 48)).there w.heap.size 0 23 := there_of_blk HB.out
 have hst := blk_whole (ds := sgA zeroS) HB.out rfl
 have i1 : ((n : Int) < 393) := by omega
 
 clear hS
 go_enter Tryz.func50, Tryz.ntmps50
 go_wp2_with (first | (with_reducible refine wpList_storeS0 rfl (.tmp 2) (.tmp 10) rfl w.heap.size rfl rfl ht ?_))
 exact bodyPost_ret (v := .tuple #[.agg (sgA zeroS), .int .i64 2]) (retCV rfl _ _ w.heap.size _ _ rfl rfl (run_loadVar_row _ _ _ _ _ (0, 0) _ hst Tryz.underlying48 rfl (by kernel_rfl))) rfl ⟨zeroS, by rw [HC.out], zeroS_ok _, Below.setCells' HE.out (Nat.le_refl _) _ _, fun h => by rw [HC.out] at h; exact absurd h (by decide), fun _ => rfl, OwnB.nil _ _ _⟩
theorem sgDec_long (A : Option Addr) (n c : Nat) (l : List UInt8) (w : World) (hS : SlB w A n c l) (hn : 393 < n) : Calls Tryz.prog 50 #[.slice A n c] w (SdOut w l) := by
 have hcap := hS.cap
 have hle := hS.le
 have HC := Lib.hid (show sdC l = 3 from by unfold sdC; rw [hS.len]; rw [if_neg (by omega), if_pos hn])
 have HE := Lib.hid ((Ext.refl w).alloc' (.cells sg0 48))
 have HB := Lib.hid (Blk.new w 48 sg0)
 have ht : (w.alloc (.cells sg0 48)).there w.heap.size 0 23 := there_of_blk HB.out
 have hst := blk_whole (ds := sgA zeroS) HB.out rfl
 have i1 : (¬ (n : Int) < 393) := by omega
 have i2 : (393 : Int) < (n : Int) := by omega
 clear hS
 go_enter Tryz.func50, Tryz.ntmps50
 go_wp2_with (first | (with_reducible refine wpList_storeS0 rfl (.tmp 2) (.tmp 15) rfl w.heap.size rfl rfl ht ?_))
 exact bodyPost_ret (v := .tuple #[.agg (sgA zeroS), .int .i64 3]) (retCV rfl _ _ w.heap.size _ _ rfl rfl (run_loadVar_row _ _ _ _ _ (0, 0) _ hst Tryz.underlying48 rfl (by kernel_rfl))) rfl ⟨zeroS, by rw [HC.out], zeroS_ok _, Below.setCells' HE.out (Nat.le_refl _) _ _, fun h => by rw [HC.out] at h; exact absurd h (by decide), fun _ => rfl, OwnB.nil _ _ _⟩
theorem sgDec_yes (A : Option Addr) (c : Nat) (l : List UInt8) (w : World) (hS : SlB w A 393 c l) : Calls Tryz.prog 50 #[.slice A 393 c] w (SdOut w l) := by
 have hl := hS.len
 have hcap := hS.cap
 have hle := hS.le
 obtain ⟨b, o, rfl, hr, hb⟩ := hS.at (by omega)
 have HC := Lib.hid (show sdC l = vdC (l.take 23) from by unfold sdC; rw [hl, if_neg (by omega), if_neg (by omega)])
 have HE := Lib.hid ((Ext.refl w).alloc' (.cells sg0 48))
 have HB := Lib.hid (Blk.new w 48 sg0)
 have HS := Lib.hid hS
 have HL := Lib.hid hl
 have e1 : (bcs l).take 23 = bcs (l.take 23) := by simp [bcs]
 have e2 : (bcs l).drop 23 = bcs (l.drop 23) := by simp [bcs]
 have HA := Lib.hid (fun (W : World) (h : Ext w W) => show SlB W (some ⟨b, o, none⟩) 23 c (l.take 23) from slB_at (by have := rangeAt_take (k := 23) (rangeAt_keep hr (h.block b hb)); rwa [e1] at this) (by rw [List.length_take]; omega) (by omega) (by omega))
 have HD := Lib.hid (fun (W : World) (h : Ext w W) => show SlB W (some ⟨b, o + 23, none⟩) 370 (c - 23) (l.drop 23) from slB_at (by have := rangeAt_drop (k := 23) (rangeAt_keep hr (h.block b hb)); rwa [e2] at this) (by rw [List.length_drop]; omega) (by omega) (by omega))
 have hck : ¬ c = 23 := by omega
 clear hS hr hl e1 e2
 go_enter Tryz.func50, Tryz.ntmps50
 go_wp2_with fail
 refine (voteDec_yes _ c (l.take 23) _ (HA.out _ HE.out)).mono ?_
 rintro e w1 ⟨rfl, he1⟩
 have HX1 := Lib.hid (HE.out.trans he1)
 have HB1 := Lib.hid (HB.out.ext he1)
 have HWF := Lib.hid (show (vdV (l.take 23)).wf from by unfold vdV; split; exact decVt_wf _; exact zeroV_wf)
 have HV := Lib.hid (show (vdC (l.take 23) = 0 ∧ vdV (l.take 23) = decVt (l.take 23) ∧ vldVt (vdV (l.take 23)) = true) ∨ vdC (l.take 23) = 11 from by
  unfold vdC vdV
  cases hv : vldVt (decVt (l.take 23)) with
  | true => exact .inl ⟨rfl, rfl, hv⟩
  | false => exact .inr rfl)
 obtain ⟨v, hv⟩ : ∃ v, vdV (l.take 23) = v := ⟨_, rfl⟩
 obtain ⟨z, hz⟩ : ∃ z, vdC (l.take 23) = z := ⟨_, rfl⟩
 rw [hv, hz] at HV
 rw [hv] at HWF
 rw [hz] at HC
 rw [hv, hz]
 clear hv hz he1
 have HX2 := Lib.hid (HX1.out.alloc' (.cells (vtA v) 46))
 have HB2 := Lib.hid (HB1.out.alloc (.cells (vtA v) 46))
 have HV2 := Lib.hid (Blk.new w1 46 (vtA v))
 have HG := Lib.hid HB1.out.lt
 have hth : (w1.alloc (.cells (vtA v) 46)).there w.heap.size 0 23 := there_of_blk HB2.out
 rcases HV.out with ⟨rfl, hd, hvd⟩ | rfl
 ·have HF := Lib.hid (And.intro hd hvd)
  clear hd hvd
  go_wp2_with (first | (with_reducible refine wpList_newVt rfl (.tmp 4) (.tmp 20) rfl _ rfl v rfl rfl ?_))
  generalize w1.alloc (.cells (vtA v) 46) = W2 at HX2 HB2 HV2 hth ⊢
  have HN := Lib.hid (show w1.heap.size ≠ w.heap.size from by have := HG.out; omega)
  refine wp_region_held_drew (S := fun W => W.rangeAt w1.heap.size 0 (vtL v)) (by kernel_rfl) (rangeAt_of_blk HV2.out.drew) (fun hHeld => ?_)
  (refine wpAnyH_take (i := 0) (oi := ⟨some 26, .load 46 (.tmp 4), 46, "signed.go:62", #[], none⟩) (v := .agg (vtA v)) rfl (by kernel_rfl) (by kernel_rfl) (by kernel_rfl) (fun _ _ _ h => h) ?hy0 hHeld ?_; case hy0 => (refine yields_loadVtA ?hw (.tmp 4) rfl w1.heap.size 0 ?hx v (fun W h => h); (case hw => rfl); (case hx => rfl)))
  try simp only [lays]
  (refine wr 1 (oi := ⟨some 27, .move (.tmp 0), 28, "signed.go:62", #[], none⟩) (v := ?_) rfl (by kernel_rfl) (by rfl) (fun _ _ _ h => h) ?h hHeld ?_; case h => (intro W hSW; go_simp <;> with_reducible rfl))
  try simp only [lays]
  (refine wr 2 (oi := ⟨some 28, .slice 28 (.tmp 27) (some (.const (.int .i64 23))) none none, 28, "signed.go:62", #[⟨1, .data⟩], none⟩) (v := ?_) rfl (by kernel_rfl) (by rfl) (fun _ _ _ h => h) ?h hHeld ?_; case h => (intro W hSW; go_simp <;> with_reducible rfl))
  try simp only [lays]
  refine wpAnyH_ready (rs := [3]) (by kernel_rfl) (by simp) ?_
  refine AllReadyH.cons (o := ⟨some 29, .call { callee := .value (.func 37), args := #[.tmp 28, .const (.int .u64 0), .const (.int .i64 0)], argTypes := #[28, 61, 3] }, 28, "signed.go:62", #[⟨2, .data⟩], none⟩) rfl (fun K hK => ?_) AllReadyH.nil
  refine Eq.mpr (if_pos (by rfl)) ?_
  go_simp
  go_at_call 37
  refine (appV0 _ 370 (c - 23) (l.drop 23) _ (HD.out _ HX2.out.drew') (by omega)).mono ?_
  rintro e w3 ⟨A3, c3, rfl, hO3, he3⟩
  refine hK.out _ _ (rangeAt_of_blk (HV2.out.drew.ext he3)) (fun hHeld => ?_)
  clear hK K
  try simp only [lays]
  (refine wr 4 (oi := ⟨some 30, .build 48 #[(0, .tmp 26), (1, .tmp 29)], 48, "signed.go:62", #[⟨0, .data⟩, ⟨3, .data⟩], none⟩) (v := ?_) rfl (by kernel_rfl) (by rfl) (fun _ _ _ h => h) ?h hHeld ?_; case h => (intro W hSW; go_simp <;> with_reducible rfl))
  try simp only [lays]
  refine wpAnyH_ready (rs := [5]) (by kernel_rfl) (by simp) ?_
  refine AllReadyH.cons (o := ⟨none, .store 48 (.tmp 2) (.tmp 30), 0, "signed.go:62", #[⟨4, .data⟩, ⟨3, .chain⟩, ⟨0, .phase⟩, ⟨1, .phase⟩, ⟨2, .phase⟩, ⟨3, .phase⟩, ⟨4, .phase⟩], none⟩) rfl (fun K hK => ?_) AllReadyH.nil
  refine Eq.mpr (if_pos (by rfl)) ?_
  refine wp_store_mid 48 (.tmp 2) (.tmp 30) rfl w.heap.size 0 (sgA ⟨v, A3, 370, c3, l.drop 23⟩) rfl ?hy (show w3.there w.heap.size 0 23 from there_of_blk (HB2.out.drew.ext he3)) (by kernel_rfl) (sgA_all _) ?_
  case hy => rfl
  refine hK.out _ _ (World.rangeAt_setCells_apart (rangeAt_of_blk (HV2.out.drew.ext he3)) _ _ _ (.inl HN.out)) (fun hHeld => ?_)
  clear hK K
  try simp only [lays]
  (refine wr 6 (oi := ⟨some 3, .assign (.const (.int .i64 0)), 29, "signed.go:62", #[⟨5, .chain⟩, ⟨0, .phase⟩, ⟨1, .phase⟩, ⟨2, .phase⟩, ⟨3, .phase⟩, ⟨4, .phase⟩, ⟨5, .phase⟩], none⟩) (v := ?_) rfl (by kernel_rfl) (by rfl) (fun _ _ _ h => h) ?h hHeld ?_; case h => (intro W hSW; go_simp <;> with_reducible rfl))
  try simp only [lays]
  refine wpAnyH_done (by kernel_rfl) ?_ _
  have hst := blk_whole (ds := sgA ⟨v, A3, 370, c3, l.drop 23⟩) (HB2.out.drew.ext he3) rfl
  have hx3 : Ext w w3 := Ext.trans HX2.out.drew' he3
  have hown : OwnB (w3.setCells w.heap.size 0 (sgA ⟨v, A3, 370, c3, l.drop 23⟩).toList) w.heap.size 5 A3 370 c3 (l.drop 23) :=
   World.ownsRow.kept (own_mono hO3 (Nat.le_of_lt (show w.heap.size < W2.heap.size from HB2.out.lt))) (grown_setCells' w3 w.heap.size _ 0) (.inr (Ne.symm (own_other hO3 (HB2.out.drew.ext he3) (by decide))))
  have hok : (SgR.mk v A3 370 c3 (l.drop 23)).ok (w3.setCells w.heap.size 0 (sgA ⟨v, A3, 370, c3, l.drop 23⟩).toList) := ⟨HWF.out, hown.sl⟩
  go_wp2_with fail
  exact bodyPost_ret (v := .tuple #[.agg (sgA ⟨v, A3, 370, c3, l.drop 23⟩), .int .i64 0]) (retCV rfl _ _ w.heap.size _ _ rfl rfl (run_loadVar_row _ _ _ _ _ (0, 0) _ hst Tryz.underlying48 rfl (by kernel_rfl))) rfl ⟨⟨v, A3, 370, c3, l.drop 23⟩, by rw [HC.out], hok, Below.setCells' hx3 (Nat.le_refl _) _ _, fun _ => ⟨HF.out.1, HF.out.2, rfl, rfl⟩, fun h => absurd HC.out h, hown⟩
 ·have ht := hth
  have hst := blk_whole (ds := sgA zeroS) HB2.out rfl
  go_wp2_with (first | (with_reducible refine wpList_newVt rfl (.tmp 4) (.tmp 20) rfl _ rfl v rfl rfl ?_) | (with_reducible refine wpList_storeS0 rfl (.tmp 2) (.tmp 24) rfl w.heap.size rfl rfl ht ?_))
  exact bodyPost_ret (v := .tuple #[.agg (sgA zeroS), .int .i64 11]) (retCV rfl _ _ w.heap.size _ _ rfl rfl (run_loadVar_row _ _ _ _ _ (0, 0) _ hst Tryz.underlying48 rfl (by kernel_rfl))) rfl ⟨zeroS, by rw [HC.out], zeroS_ok _, Below.setCells' HX2.out (Nat.le_refl _) _ _, fun h => by rw [HC.out] at h; exact absurd h (by decide), fun _ => rfl, OwnB.nil _ _ _⟩
theorem sgDec_any (A : Option Addr) (n c : Nat) (l : List UInt8) (w : World) (hS : SlB w A n c l) : Calls Tryz.prog 50 #[.slice A n c] w (SdOut w l) := by
 rcases Nat.lt_trichotomy n 393 with h | h | h
 ·exact sgDec_short A n c l w hS h
 ·subst h; exact sgDec_yes A c l w hS
 ·exact sgDec_long A n c l w hS h
end Go.Proofs.YtbfepgjeecndiaaGreat
