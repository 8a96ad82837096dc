/- Elements struck from a row by a test (what slices.DeleteFunc does, plain). -/
import Derived.Test.YtjlnmpjffogpdaaK18
import Derived.Test.YtjlnmpjffogpdaaK19
import Derived.Test.YtjlnmpjffogpdaaK14
namespace Go.Proofs.Ytjlnmpjffogpdaa
open Go.RowKit
set_option linter.unusedVariables false
set_option linter.unusedSimpArgs false
set_option linter.unusedSectionVars false
section
variable {α : Type} [RowT α] {p : α → Bool} {d dk : Array α} {i j : Nat}
/-- what the test lets stand -/
def keepL (p : α → Bool) (L : List α) : List α := L.filter fun x => !p x
theorem keepL_take (hj : j < d.size) : keepL p (d.toList.take (j + 1)) = keepL p (d.toList.take j) ++ if p d[j]! = true then [] else [d[j]!] := by
  unfold keepL
  rw [take_nthG (L := d.toList) (k := j) (by simpa using hj), List.filter_append, ← arr_nth]
  congr 1
  cases h : p d[j]! <;> simp [h]
/-- nothing struck so far -/
structure Dl0 (p : α → Bool) (d : Array α) (j : Nat) : Prop where
  le : j ≤ d.size
  val : keepL p (d.toList.take j) = d.toList.take j
/-- the first i of dk are what stands of the first j of d -/
structure Dls (p : α → Bool) (d dk : Array α) (i j : Nat) : Prop where
  size : dk.size = d.size
  ij : i < j
  jn : j ≤ d.size
  rest : ∀ t, i ≤ t → dk[t]! = d[t]!
  val : dk.toList.take i = keepL p (d.toList.take j)
theorem Dl0.start (d : Array α) : Dl0 p d 0 := ⟨Nat.zero_le _, rfl⟩
theorem Dl0.next (h : Dl0 p d j) (hj : j < d.size) (hp : p d[j]! = false) : Dl0 p d (j + 1) := ⟨hj, by
  rw [keepL_take hj, h.val, hp, if_neg (by decide), take_nthG (L := d.toList) (k := j) (by simpa using hj), ← arr_nth]⟩
theorem Dl0.hit (h : Dl0 p d j) (hj : j < d.size) (hp : p d[j]! = true) : Dls p d d j (j + 1) := ⟨rfl, by omega, hj, fun _ _ => rfl, by
  rw [keepL_take hj, h.val, hp, if_pos rfl, List.append_nil]⟩
theorem Dl0.all (h : Dl0 p d j) (hj : d.size ≤ j) : keepL p d.toList = d.toList := by
  have := h.val
  rwa [List.take_of_length_le (by simpa using hj)] at this
theorem Dls.skip (h : Dls p d dk i j) (hj : j < d.size) (hp : p d[j]! = true) : Dls p d dk i (j + 1) := ⟨h.size, by have := h.ij; omega, hj, h.rest, by
  rw [keepL_take hj, hp, if_pos rfl, List.append_nil]; exact h.val⟩
theorem Dls.keep (h : Dls p d dk i j) (hj : j < d.size) (hp : p d[j]! = false) : Dls p d (dk.setIfInBounds i d[j]!) (i + 1) (j + 1) := by
  have hij := h.ij
  have hk : i < dk.size := by rw [h.size]; omega
  refine ⟨by rw [Array.size_setIfInBounds]; exact h.size, by omega, by omega, fun t ht => ?_, ?_⟩
  · rw [← h.rest t (by omega)]
    by_cases hs : t < dk.size
    · rw [getElem!_pos _ t (by simpa using hs), getElem!_pos dk t hs, Array.getElem_setIfInBounds (by simpa using hs), if_neg (by omega)]
    · rw [getElem!_neg _ t (by simpa using hs), getElem!_neg dk t hs]
  · rw [keepL_take hj, hp, if_neg (by decide), ← h.val, Array.toList_setIfInBounds, take_nthG (k := i) (by simpa using hk), List.take_set_of_le (Nat.le_refl _)]
    congr 1
    rw [show nthG (dk.toList.set i d[j]!) i = d[j]! from by simp [nthG, hk]]
theorem Dls.all (h : Dls p d dk i j) (hj : d.size ≤ j) : dk.toList.take i = keepL p d.toList := by
  have := h.val
  rwa [List.take_of_length_le (show (d.toList).length ≤ j by simpa using hj)] at this
end
end Go.Proofs.Ytjlnmpjffogpdaa

/- The bytes of votes and of signed votes (the program's Encode). -/
namespace Go.Proofs.Ytjlnmpjffogpdaa
open Go.RowKit
set_option linter.unusedVariables false
set_option linter.unusedSimpArgs false
attribute [local go_sem ↓] Go.wp_at_zero Go.wp_at_succ

theorem hmk23 (w : World) : (Instr.makeSlice 33 (.int .i64 0) (.int .i64 23)).run Try.prog w = .ok (.slice (some ⟨w.heap.size, 0, none⟩) 0 23) (w.alloc (.cells (madeCells (Value.int .u8 0).cells 23) 5)) := by
  obtain ⟨i, hi, hz, hs, hby⟩ := bytesE.get
  have h := run_make (P := Try.prog) w 33 5 i (.int .u8 0) bytesE.ut hi hz .i64 .i64 0 23 (by omega) (by omega) (by rw [hby]; omega) (by omega)
  simpa [hs] using h
theorem appV2 (A : Option Addr) (n c : Nat) (l : List UInt8) (z : Int) (w : World) (h : SlB w A n c l) (hn : n ≤ 140737488351232) : Calls Try.prog 51 #[.slice A n c, .int .u64 (un (uI z)), .int .i64 2] w fun e w' => ∃ A' c', e = .returned (.slice A' (n + 2) c') ∧ OwnB w' w.heap.size 5 A' (n + 2) c' (l ++ beI 2 z) ∧ Ext w w' :=
  appendUI_any A n c l z 2 (by omega) w h hn
/-- five bytes in a new block -/
theorem slB_new5 (w : World) (t : TypeId) (x y z u v : Int) (a b c d e : UInt8) (hx : x = (a.toNat : Int)) (hy : y = (b.toNat : Int)) (hz : z = (c.toNat : Int)) (hu : u = (d.toNat : Int)) (hv : v = (e.toNat : Int)) (g : Nat) (hg : w.heap.size = g) : SlB (w.alloc (.cells #[.int .u8 x, .int .u8 y, .int .u8 z, .int .u8 u, .int .u8 v] t)) (some ⟨g, 0, none⟩) 5 5 [a, b, c, d, e] :=
  SlB.new hg [a, b, c, d, e] (by rw [hx, hy, hz, hu, hv]; rfl) (by simp)
theorem slB_at {w : World} {b o : Nat} {l : List UInt8} (h : w.rangeAt b o (bcs l)) {n c : Nat} (hl : l.length = n) (hc : n ≤ c) (hm : c ≤ 9223372036854775807) : SlB w (some ⟨b, o, none⟩) n c l := ⟨hl, hc, hm, .inr ⟨b, o, rfl, h⟩⟩
set_option maxRecDepth 100000 in
set_option maxHeartbeats 4000000 in
theorem voteEnc_no (v : VtR) (h : vldVt v = false) (w : World) : Calls Try.prog 79 #[.agg (vtA v)] w fun e w' => e = .returned (.tuple #[.slice none 0 0, .bool false]) ∧ Ext w w' := by
  have HE := Lib.hid ((Ext.refl w).alloc' (.cells (vtA v) 28))
  have hr : (w.alloc (.cells (vtA v) 28)).rangeAt w.heap.size 0 (vtL v) := rangeAt_of_blk (Blk.new w 28 (vtA v))
  have HV := Lib.hid (fun (W : World) => voteValid_any v W)
  rw [h] at HV
  clear h
  go_enter Try.func79, Try.ntmps79
  go_wp2_with (first | (with_reducible refine wpList_loadVt rfl (.tmp 1) rfl w.heap.size 0 rfl v hr ?_))
  refine (HV.out _).mono ?_
  rintro e w1 ⟨rfl, he1⟩
  have HX := Lib.hid (HE.out.trans he1)
  clear he1 hr
  go_wp2_with fail
  go_ret2
  exact ⟨rfl, HX.out⟩
set_option maxRecDepth 100000 in
set_option maxHeartbeats 4000000 in
theorem voteEnc_yes (v : VtR) (h : vldVt v = true) (w : World) : Calls Try.prog 79 #[.agg (vtA v)] w fun e w' => ∃ A' c', e = .returned (.tuple #[.slice A' 23 c', .bool true]) ∧ OwnB w' w.heap.size 5 A' 23 c' (encVt v) ∧ Ext w w' := by
  have HE := Lib.hid ((Ext.refl w).alloc' (.cells (vtA v) 28))
  have HB := Lib.hid (Blk.new w 28 (vtA v))
  obtain ⟨W0, hW0⟩ : ∃ W0, w.alloc (.cells (vtA v) 28) = W0 := ⟨_, rfl⟩
  rw [hW0] at HE HB
  have hr : W0.rangeAt w.heap.size 0 (vtL v) := rangeAt_of_blk HB.out
  have HV := Lib.hid (fun (W : World) => voteValid_any v W)
  rw [h] at HV
  have hmk := hmk23
  have u_su := uI_un v.su
  clear h
  go_enter Try.func79, Try.ntmps79
  go_wp2_with (first | (with_reducible refine wpList_loadVt rfl (.tmp 1) rfl w.heap.size 0 rfl v hr ?_))
  refine (HV.out _).mono ?_
  rintro e w1 ⟨rfl, he1⟩
  have HX := Lib.hid (HE.out.trans he1)
  have HB1 := Lib.hid (HB.out.ext he1)
  obtain ⟨a0, a1, a2, a3, a4, a5, a6, a7⟩ := vt_facts HB1.out
  have glt : w.heap.size < w1.heap.size := by have := HB1.out.lt; omega
  clear he1 hr hW0 a6 a7
  go_wp2_with (at_builtin; go_must (refine wpList_appB bytesE rfl (.tmp 9) (.tmp 25) rfl w1.heap.size _ _ _ [] rfl ((OwnB.made w1 w1.heap.size _ 23 w1.heap.size rfl (Nat.le_refl _) (by omega) (size_madeCells _ _)).alloc _) _ _ _ [toB v.k, toB v.sl, toB v.ro, toB v.ch, toB v.si] rfl ?r1 (by omega) ?b1 w1 ?w1 ?_))
  case r1 => exact slB_new5 _ _ _ _ _ _ _ _ _ _ _ _ (by first | exact toB_eq _ | (rw [← toB_eq]; omega)) (by first | exact toB_eq _ | (rw [← toB_eq]; omega)) (by first | exact toB_eq _ | (rw [← toB_eq]; omega)) (by first | exact toB_eq _ | (rw [← toB_eq]; omega)) (by first | exact toB_eq _ | (rw [← toB_eq]; omega)) _ (by simp)
  case b1 => simp; omega
  case w1 => exact Below.alloc (Below.alloc (Below.refl _ _) (Nat.le_refl _) _) (by simp) _
  intro A1 c1 w2 ho2 hw2 hs2
  have HX2 := Lib.hid (Below.mono hw2 (Nat.le_refl _) : Ext w1 w2)
  have HB2 := Lib.hid (HB1.out.ext HX2.out)
  have HO2 := Lib.hid ho2
  obtain ⟨a0, a1, a2, a3, a4, a5, a6, a7⟩ := vt_facts HB2.out
  clear ho2 hw2 hs2 hmk a0 a1 a2 a3 a4 a6 a7
  go_wp2_with fail
  refine (appV2 A1 5 c1 _ v.su w2 HO2.out.sl (by omega)).mono ?_
  rintro e w3 ⟨A3, c3, rfl, hO3, he3⟩
  have HX3 := Lib.hid (Ext.trans HX2.out he3)
  have HB3 := Lib.hid (HB1.out.ext HX3.out)
  have HO3 := Lib.hid hO3
  have HS3 := Lib.hid he3.size
  clear hO3 he3 a5 u_su
  go_wp2_with (at_builtin; go_must (refine wpList_appB bytesE rfl (.tmp 32) (.tmp 34) rfl w2.heap.size _ _ _ _ rfl HO3.out _ 8 8 (nmb v.pa) rfl (slB_at (vt_pa HB3.out) (nmb_length _) (by omega) (by omega)) (by omega) HS3.out w3 ((Below.refl _ _)) ?_))
  intro A4 c4 w4 ho4 hw4 hs4
  have HX4 := Lib.hid (Below.trans (Below.mono HX3.out (Nat.le_refl _)) (Below.mono hw4 HX2.out.size) : Ext w1 w4)
  have HB4 := Lib.hid (HB1.out.ext HX4.out)
  have HO4 := Lib.hid ho4
  have HS4 := Lib.hid (show w2.heap.size ≤ w4.heap.size from Nat.le_trans HS3.out hs4)
  clear ho4 hw4 hs4
  go_wp2_with (at_builtin; go_must (refine wpList_appB bytesE rfl (.tmp 36) (.tmp 38) rfl w2.heap.size _ _ _ _ rfl HO4.out _ 8 8 (nmb v.va) rfl (slB_at (vt_va HB4.out) (nmb_length _) (by omega) (by omega)) (by omega) HS4.out w4 ((Below.refl _ _)) ?_))
  intro A5 c5 w5 ho5 hw5 hs5
  have HF := Lib.hid (show OwnB w5 w.heap.size 5 A5 23 c5 (encVt v) from by
    have h1 : OwnB w5 w.heap.size 5 A5 23 c5 _ := own_mono (base' := w.heap.size) ho5 (by have := HX.out.size; have := HX2.out.size; omega)
    have e : encVt v = [toB v.k, toB v.sl, toB v.ro, toB v.ch, toB v.si] ++ beI 2 v.su ++ nmb v.pa ++ nmb v.va := by simp [encVt]
    rw [e]
    exact h1)
  have HG := Lib.hid (HX.out.trans (Below.trans (Below.mono HX4.out (Nat.le_refl _)) (Below.mono hw5 HX2.out.size) : Ext w1 w5))
  clear ho5 hw5 hs5
  go_wp2_with fail
  go_ret2
  exact ⟨A5, c5, rfl, HF.out, HG.out⟩
end Go.Proofs.Ytjlnmpjffogpdaa

/- The reference's order of signed votes. -/
namespace Go.Proofs.Ytjlnmpjffogpdaa
open Go.RowKit
set_option linter.unusedVariables false
set_option linter.unusedSimpArgs false
attribute [local go_sem ↓] Go.wp_at_zero Go.wp_at_succ
theorem strV_lt (p q : List UInt8) : Op.bytesLess (strV p).toList (strV q).toList = lexB p q := by
  rw [bytesLess_lex, ByteArray.toList_eq, ByteArray.toList_eq]; rfl
set_option maxRecDepth 100000 in
set_option maxHeartbeats 8000000 in
theorem rSgLess_any (S T : SgR) (w : World) (hS : S.ok w) (hT : T.ok w) : Calls Try.prog 36 #[.agg (sgA S), .agg (sgA T)] w fun e w' => e = .returned (.bool (ltSg S T)) ∧ Ext w w' := by
  have hE := ((Ext.refl w).alloc' (.cells (sgA S) 45)).alloc' (.cells (sgA T) 45)
  have HB1 := Lib.hid ((Blk.new w 45 (sgA S)).alloc (.cells (sgA T) 45))
  have HB2 := Lib.hid (show Blk ((w.alloc (.cells (sgA S) 45)).alloc (.cells (sgA T) 45)) (w.heap.size + 1) 45 (sgA T) from Blk.newAt _ _ _ _ (by simp))
  have HE := Lib.hid hE
  have HS := Lib.hid (hS.ext hE)
  have HT := Lib.hid (hT.ext hE)
  obtain ⟨W0, hW0⟩ : ∃ W0, (w.alloc (.cells (sgA S) 45)).alloc (.cells (sgA T) 45) = W0 := ⟨_, rfl⟩
  rw [hW0] at HB1 HB2 HE HS HT
  have r1 := sg_vote HB1.out
  have r2 := sg_vote HB2.out
  have hq : ∀ W, (binOp .neq 28 (.agg (vtA S.v)) (.agg (vtA T.v))).run Try.prog W = .ok (.bool (!decide (S.v = T.v))) W := fun W => by
    rw [run_neq_struct, eqIn_Vt S.v T.v HS.out.v HT.out.v W]; rfl
  have hqi := fun W => eqIn_Vt S.v T.v HS.out.v HT.out.v W
  have HL := Lib.hid (fun (W : World) => rVtLess_any S.v T.v W)
  clear hE hS hT
  by_cases hv : S.v = T.v
  · have HV := Lib.hid (show ltSg S T = Op.bytesLess (strV S.sig).toList (strV T.sig).toList from by rw [strV_lt]; unfold ltSg ltSv SgR.V; rw [if_pos hv])
    have s1 := run_strV HS.out.sig
    have s2 := run_strV HT.out.sig
    rw [decide_eq_true hv] at hq hqi
    rw [Bool.not_true] at hq
    have c1 : W0.cell? ⟨w.heap.size, 22, none⟩ = some (.slice S.A S.n S.c) := HB1.out.cell 22
    have c2 : W0.cell? ⟨w.heap.size + 1, 22, none⟩ = some (.slice T.A T.n T.c) := HB2.out.cell 22
    clear hv
    go_enter Try.func36, Try.ntmps36
    go_wp2_with (first | (with_reducible refine wpList_loadVt rfl (.tmp 5) rfl w.heap.size 0 rfl S.v r1 ?_) | (with_reducible refine wpList_loadVt rfl (.tmp 7) rfl (w.heap.size + 1) 0 rfl T.v r2 ?_))
    go_ret
    exact ⟨by rw [HV.out]; rfl, HE.out⟩
  · have HV := Lib.hid (ltSg_v hv)
    rw [decide_eq_false hv] at hq hqi
    rw [Bool.not_false] at hq
    clear hv
    go_enter Try.func36, Try.ntmps36
    go_wp2_with (first | (with_reducible refine wpList_loadVt rfl (.tmp 5) rfl w.heap.size 0 rfl S.v r1 ?_) | (with_reducible refine wpList_loadVt rfl (.tmp 7) rfl (w.heap.size + 1) 0 rfl T.v r2 ?_) | (with_reducible refine wpList_loadVt rfl (.tmp 10) rfl w.heap.size 0 rfl S.v r1 ?_) | (with_reducible refine wpList_loadVt rfl (.tmp 12) rfl (w.heap.size + 1) 0 rfl T.v r2 ?_))
    refine (HL.out W0).mono ?_
    rintro e w1 ⟨rfl, he1⟩
    have HX1 := Lib.hid (HE.out.trans he1)
    clear he1
    go_wp2_with fail
    go_ret
    exact ⟨by rw [HV.out]; rfl, HX1.out⟩
end Go.Proofs.Ytjlnmpjffogpdaa

/- Two signed votes compared (snapshot.compareVotes). -/
namespace Go.Proofs.Ytjlnmpjffogpdaa
open Go.RowKit
set_option linter.unusedVariables false
set_option linter.unusedSimpArgs false
attribute [local go_sem ↓] Go.wp_at_zero Go.wp_at_succ

def cmpSg (S T : SgR) : Int := if ltSg S T = true then -1 else if ltSg T S = true then 1 else 0
theorem cmpSg_lt (S T : SgR) : decide (cmpSg S T < 0) = ltSg S T := by
  unfold cmpSg
  cases h1 : ltSg S T
  · rw [if_neg (by decide)]
    cases h2 : ltSg T S
    · rw [if_neg (by decide)]; decide
    · rw [if_pos rfl]; decide
  · rw [if_pos rfl]; decide
theorem ltSg_swo : Sort.SWO ltSg where
  irrefl x := ltSv_sto.irrefl _
  trans x y z h1 h2 := ltSv_sto.trans _ _ _ h1 h2
  ntrans x y z h1 h2 := ltSv_sto.ntrans h1 h2
set_option maxRecDepth 100000 in
set_option maxHeartbeats 8000000 in
theorem cmpVotes_any (S T : SgR) (w : World) (hS : S.ok w) (hT : T.ok w) : Calls Try.prog 68 #[.agg (sgA S), .agg (sgA T)] w fun e w' => e = .returned (.int .i64 (cmpSg S T)) ∧ Ext w w' := by
  have hE := ((Ext.refl w).alloc' (.cells (sgA S) 45)).alloc' (.cells (sgA T) 45)
  have HB1 := Lib.hid ((Blk.new w 45 (sgA S)).alloc (.cells (sgA T) 45))
  have HB2 := Lib.hid (show Blk ((w.alloc (.cells (sgA S) 45)).alloc (.cells (sgA T) 45)) (w.heap.size + 1) 45 (sgA T) from Blk.newAt _ _ _ _ (by simp))
  have HE := Lib.hid hE
  have HS := Lib.hid (hS.ext hE)
  have HT := Lib.hid (hT.ext hE)
  obtain ⟨W0, hW0⟩ : ∃ W0, (w.alloc (.cells (sgA S) 45)).alloc (.cells (sgA T) 45) = W0 := ⟨_, rfl⟩
  rw [hW0] at HB1 HB2 HE HS HT
  have r1 : W0.rangeAt w.heap.size 0 (sgL S) := rangeAt_of_blk HB1.out
  have r2 : W0.rangeAt (w.heap.size + 1) 0 (sgL T) := rangeAt_of_blk HB2.out
  have HR := Lib.hid (fun (W : World) (h : Ext W0 W) => And.intro (show W.rangeAt w.heap.size 0 (sgL S) from rangeAt_of_blk (HB1.out.ext h)) (show W.rangeAt (w.heap.size + 1) 0 (sgL T) from rangeAt_of_blk (HB2.out.ext h)))
  have H1 := Lib.hid (fun (W : World) (h : Ext W0 W) => sgLess_any S T W (HS.out.ext h) (HT.out.ext h))
  have H2 := Lib.hid (fun (W : World) (h : Ext W0 W) => sgLess_any T S W (HT.out.ext h) (HS.out.ext h))
  clear hE hS hT HS HT HB1 HB2
  unfold cmpSg
  cases h1 : ltSg S T with
  | true =>
    rw [h1] at H1
    rw [if_pos rfl]
    clear h1 H2
    go_enter Try.func68, Try.ntmps68
    go_wp2_with (first | (with_reducible refine wpList_loadSg rfl (.tmp 2) rfl w.heap.size 0 rfl S r1 ?_) | (with_reducible refine wpList_loadSg rfl (.tmp 3) rfl (w.heap.size + 1) 0 rfl T r2 ?_))
    refine (H1.out W0 (Ext.refl _)).mono ?_
    rintro e w1 ⟨rfl, he1⟩
    have HX := Lib.hid (HE.out.trans he1)
    clear he1
    go_wp2_with fail
    go_ret
    exact ⟨rfl, HX.out⟩
  | false =>
    rw [h1] at H1
    rw [if_neg (by decide)]
    clear h1
    cases h2 : ltSg T S with
    | true =>
      rw [h2] at H2
      rw [if_pos rfl]
      clear h2
      go_enter Try.func68, Try.ntmps68
      go_wp2_with (first | (with_reducible refine wpList_loadSg rfl (.tmp 2) rfl w.heap.size 0 rfl S r1 ?_) | (with_reducible refine wpList_loadSg rfl (.tmp 3) rfl (w.heap.size + 1) 0 rfl T r2 ?_))
      refine (H1.out W0 (Ext.refl _)).mono ?_
      rintro e w1 ⟨rfl, he1⟩
      have HZ := Lib.hid he1
      clear r1 r2
      obtain ⟨r1, r2⟩ := HR.out w1 he1
      clear he1
      go_wp2_with (first | (with_reducible refine wpList_loadSg rfl (.tmp 2) rfl w.heap.size 0 rfl S r1 ?_) | (with_reducible refine wpList_loadSg rfl (.tmp 3) rfl (w.heap.size + 1) 0 rfl T r2 ?_))
      refine (H2.out w1 HZ.out).mono ?_
      rintro e w2 ⟨rfl, he2⟩
      have HX := Lib.hid (HE.out.trans (HZ.out.trans he2))
      clear he2
      go_wp2_with fail
      go_ret
      exact ⟨rfl, HX.out⟩
    | false =>
      rw [h2] at H2
      rw [if_neg (by decide)]
      clear h2
      go_enter Try.func68, Try.ntmps68
      go_wp2_with (first | (with_reducible refine wpList_loadSg rfl (.tmp 2) rfl w.heap.size 0 rfl S r1 ?_) | (with_reducible refine wpList_loadSg rfl (.tmp 3) rfl (w.heap.size + 1) 0 rfl T r2 ?_))
      refine (H1.out W0 (Ext.refl _)).mono ?_
      rintro e w1 ⟨rfl, he1⟩
      have HZ := Lib.hid he1
      clear r1 r2
      obtain ⟨r1, r2⟩ := HR.out w1 he1
      clear he1
      go_wp2_with (first | (with_reducible refine wpList_loadSg rfl (.tmp 2) rfl w.heap.size 0 rfl S r1 ?_) | (with_reducible refine wpList_loadSg rfl (.tmp 3) rfl (w.heap.size + 1) 0 rfl T r2 ?_))
      refine (H2.out w1 HZ.out).mono ?_
      rintro e w2 ⟨rfl, he2⟩
      have HX := Lib.hid (HE.out.trans (HZ.out.trans he2))
      clear he2
      go_wp2_with fail
      go_ret
      exact ⟨rfl, HX.out⟩
/-- a row of signed votes -/
abbrev RowV (w0 w : World) (base : Nat) (A : Option Addr) (n c : Nat) (d : Array SgR) : Prop := RowS w0 w base 45 A n c d
section
variable {w0 w w' : World} {base : Nat} {A : Option Addr} {n c : Nat} {d : Array SgR}
theorem RowV.load (h : RowV w0 w base A n c d) {g : Nat} (hA : A = some ⟨g, 0, none⟩) {i : Nat} (hi : i < n) {R : SgR} (hR : d[i]! = R) (he : Ext w w') : w'.rangeAt g (i * 23) (sgL R) := by
  have := (RowS.ext h he).cell hA hi
  rw [hR] at this
  exact this
/-- what the comparison of two of its elements says, in every world that has only grown -/
theorem RowV.cmp (h : RowV w0 w base A n c d) {i j : Nat} (hi : i < n) (hj : j < n) {R T : SgR} (hR : d[i]! = R) (hT : d[j]! = T) (vx vy : Value) (hx : Value.agg (sgA R) = vx) (hy : Value.agg (sgA T) = vy) (b : Bool) (hb : ltSg d[i]! d[j]! = b) :
    ∃ z : Int, decide (z < 0) = b ∧ Hid (∀ W, Ext w W → Calls Try.prog 68 #[vx, vy] W fun e w' => e = .returned (.int .i64 z) ∧ Ext W w') := by
  subst hR; subst hT; rw [← hx, ← hy]
  exact ⟨cmpSg d[i]! d[j]!, by rw [cmpSg_lt, hb], Lib.hid (fun W hW => cmpVotes_any _ _ W ((RowS.ext h hW).ok hi) ((RowS.ext h hW).ok hj))⟩
/-- an exchange, store by store -/
theorem RowV.xchg (h : RowV w0 w base A n c d) {g : Nat} (hA : A = some ⟨g, 0, none⟩) {i j : Nat} (hi : i < n) (hj : j < n) {R T : SgR} (hR : d[i]! = R) (hT : d[j]! = T) (W : World) (hW : W = w.drew) :
    W.rangeAt g (i * 23) (sgL R) ∧ W.rangeAt g (j * 23) (sgL T) ∧ W.there g (i * 23) 23 ∧ (W.setCells g (i * 23) (sgL T)).there g (j * 23) 23 ∧ RowV w0 ((W.setCells g (i * 23) (sgL T)).setCells g (j * 23) (sgL R)) base A n c (Sort.swp d i j) := by
  have hE := (Ext.refl w).drew'
  subst hW
  have h2 := RowS.ext h hE
  refine ⟨h.load hA hi hR hE, h.load hA hj hT hE, h2.there hA hi, ?_, ?_⟩
  · have := (h2.set hA hi _ (h2.owAt hj)).there hA hj
    rw [hT] at this; exact this
  · have := h2.swap hA hi hj
    rw [hR, hT] at this; exact this
end
end Go.Proofs.Ytjlnmpjffogpdaa
