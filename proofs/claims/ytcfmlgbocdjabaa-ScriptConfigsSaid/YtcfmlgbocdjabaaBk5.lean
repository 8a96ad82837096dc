/- EncodeBlock. -/
import Derived.Test.YtcfmlgbocdjabaaBk2
namespace Go.Proofs.Ytcfmlgbocdjabaa
open Go.RowKit
set_option linter.unusedVariables false
set_option linter.unusedSimpArgs false
attribute [local go_sem ↓] Go.wp_at_zero Go.wp_at_succ

/-- the text of some pairs -/
def encC (L : List (Int × UInt64)) : List UInt8 := L.flatMap fun x => toB x.1 :: nmb x.2
theorem encC_length (L : List (Int × UInt64)) : (encC L).length = 9 * L.length := by
  induction L with
  | nil => rfl
  | cons x r ih =>
    have : encC (x :: r) = (toB x.1 :: nmb x.2) ++ encC r := by simp [encC]
    rw [this, List.length_append, ih, List.length_cons, List.length_cons, nmb_length]; omega
theorem encC_append (a b : List (Int × UInt64)) : encC (a ++ b) = encC a ++ encC b := by simp [encC]
def encBlk (p : UInt64) (L : List (Int × UInt64)) : List UInt8 := ([3] ++ nmb p) ++ [toB (L.length : Int)] ++ encC L
theorem encBlk_length (p : UInt64) (L : List (Int × UInt64)) : (encBlk p L).length = 10 + 9 * L.length := by
  simp [encBlk, encC_length, nmb_length]; omega
/-- a slice literal of one byte is one's own -/
theorem own_lit1 (w : World) (base : Nat) (e : TypeId) (z : Int) (b : UInt8) (g : Nat) (hg : w.heap.size = g) (hb : base ≤ g) (hz : z = (b.toNat : Int)) : OwnB (w.alloc (.cells #[.int .u8 z] e)) base e (some ⟨g, 0, none⟩) 1 1 [b] := by
  subst hg; subst hz
  exact own_cells (heap_alloc_new w _) hb rfl (Nat.le_refl _) (by omega) rfl rfl
theorem toB_wrap (z : Int) : IntKind.u8.wrap z = ((toB z).toNat : Int) := by rw [← toB_eq, IntKind.wrap_u8]
/-- append to bytes of one's own at a step of a drawn region: what became of the world, whole -/
theorem step_appBG {P : Program} {t e : TypeId} {ops : Array Oper} {o : Oper} {a : Act} {w : World} {K : Act → World → Prop} {Q : Exit → Act → World → Prop} {X : Prop} (E : Elem P t e (.int .u8 0) 1 1) (hgd : o.guard = none) (s x : Operand)
    (ho : o.op = .call { callee := .builtin .append, args := #[s, x], argTypes := #[t, t] })
    (base : Nat) (A : Option Addr) (n c : Nat) (l : List UInt8) (hs : a.eval s = .slice A n c) (hown : OwnB w base e A n c l)
    (A2 : Option Addr) (m c2 : Nat) (l2 : List UInt8) (hx : a.eval x = .slice A2 m c2) (hr : SlB w A2 m c2 l2)
    (hb : n + m ≤ 140737488355328) (hbase : base ≤ w.heap.size)
    (h : ∀ A' c' w', OwnB w' base e A' (n + m) c' (l ++ l2) → w.grownBy w' (Value.ownBlock (.slice A n c)) → K (a.put o.dst (.slice A' (n + m) c')) w') : if Region.wanted o (yielded ops a.tmps) = true then Oper.wp P o a w K Q else X := by
  have hw : Region.wanted o (yielded ops a.tmps) = true := by simp [Region.wanted, hgd]
  rw [if_pos hw]
  refine wp_app E s x ho base A n c (bcs l) hs hown A2 m c2 (bcs l2) hx hr.rd (by rw [bcs_length, hr.len, Nat.mul_one]) (bcs_one l2) (by omega) (by omega) hbase fun A' c' w' h2 h3 => h A' c' w' ?_ h3
  unfold OwnB; rw [bcs_append]; exact h2
theorem own_lt {w : World} {base : Nat} {e : TypeId} {A : Option Addr} {n c : Nat} {l : List UInt8} (h : OwnB w base e A n c l) : ∀ k, Value.ownBlock (.slice A n c) = some k → base ≤ k ∧ k < w.heap.size := fun k hk => World.ownsRow.lt h k hk
theorem below_grown {w0 w w' : World} {base : Nat} {e : TypeId} {A : Option Addr} {n c : Nat} {l : List UInt8} (h : OwnB w base e A n c l) (hb : Below base w0 w) (hs : base ≤ w.heap.size) (hg : w.grownBy w' (Value.ownBlock (.slice A n c))) : Below base w0 w' :=
  hb.grown hg hs (fun k hk => (own_lt h k hk).1)
/-- the name of a pair that lies in a block of the call's own, behind an append to older bytes -/
theorem pair_kept {w w' : World} {base : Nat} {e t : TypeId} {A : Option Addr} {n c : Nat} {l : List UInt8} {i : Int} {v : UInt64} {w2 : World} (h : OwnB w base e A n c l) (he : Ext (w.alloc (.cells (chA i v) t)) w2) (hg : w2.grownBy w' (Value.ownBlock (.slice A n c))) : SlB w' (some ⟨w.heap.size, 1, none⟩) 8 8 (nmb v) := by
  have hb := (Blk.new w t (chA i v)).ext he
  have hb' := hb.grown hg (by
    intro e
    have := (own_lt h _ e.symm).2
    omega)
  refine ⟨nmb_length v, Nat.le_refl _, by omega, .inr ⟨_, 1, rfl, ?_⟩⟩
  have := rangeAt_drop (k := 1) (rangeAt_of_blk hb')
  rw [bcs_nb8]; exact this
section
variable {o : Oper} {a : Act} {w : World} {ops : Array Oper} {rest : List Oper} {Q : Exit → Act → World → Prop}
/-- a pair is loaded -/
theorem wpList_loadC (hgd : o.guard = none) (x : Operand) (ho : o.op = .load 94 x) (b of : Nat) (hx : a.eval x = .pointer (some ⟨b, of, none⟩)) (i : Int) (v : UInt64) (hc : w.rangeAt b of (chL (i, v)))
    (h : wpList Try.prog ops Q rest (a.put o.dst (.agg (chA i v))) w) : wpList Try.prog ops Q (o :: rest) a w := by
  have := wpList_load_mid (P := Try.prog) (Q := Q) (ops := ops) (rest := rest) hgd 94 x ho b of hx (chL (i, v)) _ hc Try.underlying94 rfl (by rw [chL_length]; kernel_rfl)
  rw [chL_eq] at this
  exact this h
end
theorem encBlock_no (p : UInt64) (A : Option Addr) (n c : Nat) (L : List (Int × UInt64)) (w : World) (hS : SlC w A n c L) (hn : n ≤ 1000000) (hv : vldBlk L = false) :
    Calls Try.prog 13 #[.agg (blkC p A n c)] w fun e w' => e = .returned (.tuple #[.slice none 0 0, .int .i64 1]) ∧ Ext w w' := by
  have hE := (Ext.refl w).alloc' (.cells (blkC p A n c) 26)
  have HV := Lib.hid (validBlock_any p A n c L _ (hS.ext hE) hn)
  rw [hv] at HV
  have HE := Lib.hid hE
  clear hS hE hv
  go_enter Try.func13, Try.ntmps13
  go_wp2_with fail
  refine HV.out.mono ?_
  rintro e w1 ⟨rfl, he1⟩
  go_wp2_with fail
  go_ret2
  exact ⟨rfl, HE.out.trans he1⟩
set_option maxRecDepth 100000 in
set_option maxHeartbeats 4000000 in
theorem encBlock_yes (p : UInt64) (A : Option Addr) (n c : Nat) (L : List (Int × UInt64)) (w : World) (hS : SlC w A n c L) (hv : vldBlk L = true) :
    Calls Try.prog 13 #[.agg (blkC p A n c)] w fun e w' => ∃ A' n' c', e = .returned (.tuple #[.slice A' n' c', .int .i64 0]) ∧ SlB w' A' n' c' (encBlk p L) ∧ Ext w w' := by
  have hl := vldBlk_len hv
  have hlen := hS.len
  have hn7 : n ≤ 7 := by omega
  have hn1 : 1 ≤ n := by omega
  have hE := (Ext.refl w).alloc' (.cells (blkC p A n c) 26)
  have hB := Blk.new w 26 (blkC p A n c)
  obtain ⟨b, o, rfl, hr0, hb0⟩ := hS.at (by omega)
  have HV := Lib.hid (validBlock_any p _ n c L _ (hS.ext hE) (by omega))
  rw [hv] at HV
  have HE := Lib.hid hE
  have HB := Lib.hid hB
  have HR0 := Lib.hid hr0
  have HLEN := Lib.hid hlen
  have HBL := Lib.hid hb0
  clear hS hE hv hB hl hr0 hlen hb0
  go_enter Try.func13, Try.ntmps13
  go_wp2_with fail
  refine HV.out.mono ?_
  rintro e w1 ⟨rfl, he1⟩
  have hB1 := HB.out.ext he1
  have HB1 := Lib.hid hB1
  have HE1 := Lib.hid (HE.out.trans he1)
  have c8 : w1.cell? ⟨w.heap.size, 8, none⟩ = some (.slice (some ⟨b, o, none⟩) n c) := hB1.cell 8
  have h1w : w.heap.size < w1.heap.size := by have := he1.size; simp at this; omega
  clear hB1 he1 HV
  go_wp2_with (at_builtin; go_must (refine wpList_appB bytesE rfl (.tmp 10) (.tmp 12) rfl w1.heap.size _ _ _ [3] rfl (own_lit1 w1 w1.heap.size _ _ 3 _ rfl (Nat.le_refl _) rfl) _ 8 8 (nmb p) rfl (blkC_parent (HB1.out.alloc _)) (by omega) ((Ext.refl w1).alloc' _).size w1 ((Ext.refl w1).alloc' _) ?_))
  intro A2 c2 w2 hO2 hE2 hs2
  have HO2 := Lib.hid hO2
  have c8' : w2.cell? ⟨w.heap.size, 8, none⟩ = some (.slice (some ⟨b, o, none⟩) n c) := (HB1.out.below hE2 HB1.out.lt).cell 8
  have HE2 := Lib.hid hE2
  have hs2' : w1.heap.size ≤ w2.heap.size := hE2.size
  clear hO2 hE2 c8
  have HTB := Lib.hid (show (n : Int) = ((toB (n : Int)).toNat : Int) by rw [← toB_eq]; omega)
  go_wp2_with (at_builtin; go_must (refine wpList_appB bytesE rfl (.tmp 14) (.tmp 19) rfl w1.heap.size _ _ _ ([3] ++ nmb p) rfl (HO2.out.alloc _) _ 1 1 [toB (n : Int)] rfl (SlB.new1 _ _ _ _ _ rfl HTB.out) (by omega) (HE2.out.alloc hs2' _).size w1 (HE2.out.alloc hs2' _) ?_))
  intro A3 c3 w3 hO3 hE3 hs3
  have HO3 := Lib.hid hO3
  have c8 : w3.cell? ⟨w.heap.size, 8, none⟩ = some (.slice (some ⟨b, o, none⟩) n c) := (HB1.out.below hE3 HB1.out.lt).cell 8
  have HE3 := Lib.hid hE3
  clear hO3 hE3 c8' HO2 HE2
  go_wp2_with fail
  go_loopw [24, 4] (fun i v wr => ∃ (k : Nat) (A4 : Option Addr) (c4 : Nat), k ≤ n ∧ i = .int .i64 (k : Int) ∧ v = .slice A4 (10 + 9 * k) c4 ∧ OwnB wr w1.heap.size 5 A4 (10 + 9 * k) c4 ([3] ++ nmb p ++ [toB (n : Int)] ++ encC (L.take k)) ∧ Below w1.heap.size w1 wr) (fun i _ _ => n - (intOf i).toNat)
  case atStart => exact ⟨0, A3, c3, Nat.zero_le _, rfl, rfl, by simpa [encC] using HO3.out, HE3.out⟩
  case round =>
    obtain ⟨k, A4, c4, hk, rfl, rfl, hO, hE⟩ := hrel
    have HO := Lib.hid hO
    have HEr := Lib.hid hE
    clear hO hE
    by_cases hlt : k < n
    · have hr := item_at (rangeAt_keep HR0.out ((HE1.out.trans (HEr.out)).block b HBL.out)) (k := k) (by rw [HLEN.out]; exact hlt)
      have HTK := Lib.hid (take_nthC (L := L) (k := k) (by rw [HLEN.out]; exact hlt))
      have i0 : (0 : Int) ≤ (k : Int) := by omega
      have i1 : (k : Int) < (n : Int) := by omega
      obtain ⟨x, hx⟩ : ∃ x, idN L k = x := ⟨_, rfl⟩
      obtain ⟨v, hv⟩ : ∃ v, vlN L k = v := ⟨_, rfl⟩
      rw [hx, hv] at HTK hr
      clear hx hv
      go_wp2_with (first | (with_reducible refine wpList_loadC rfl (.tmp 26) rfl b (o + k * 9) rfl x v hr ?_))
      have HX1 := Lib.hid (((Ext.refl (wr.alloc (.cells (chA x v) 94))).alloc' (.cells #[.int .u8 (IntKind.u8.wrap x)] 5)).drew')
      go_region_law (first | (refine step_appBG bytesE rfl (.tmp 28) (.tmp 32) rfl w1.heap.size A4 (10 + 9 * k) c4 _ (by rfl) (OwnB.drew ((HO.out.alloc _).alloc _)) (some ⟨wr.heap.size + 1, 0, none⟩) 1 1 [toB x] (by rfl) ((SlB.new1 _ _ _ _ _ (by simp) (by first | exact toB_eq _ | exact toB_wrap _)).ext (Ext.refl _).drew') (by omega) (by have := HEr.out.size; simp; omega) ?_; intro A5 c5 w5 hO5 hg5; have hE5 := below_grown (OwnB.drew ((HO.out.alloc _).alloc _)) (((HEr.out.alloc HEr.out.size _).alloc (by have := HEr.out.size; simp; omega) _).drew) (by have := HEr.out.size; simp; omega) hg5; have hS5 := pair_kept HO.out (((Ext.refl _).alloc' _).drew') hg5; have HO5 := Lib.hid hO5; have HE5 := Lib.hid hE5; have HS5 := Lib.hid hS5; clear hO5 hE5 hS5 hg5) | (refine step_appBG bytesE rfl (.tmp 33) (.tmp 35) rfl w1.heap.size A5 (10 + 9 * k + 1) c5 _ (by rfl) HO5.out (some ⟨wr.heap.size, 1, none⟩) 8 8 (nmb v) (by rfl) HS5.out (by omega) HE5.out.size ?_; intro A6 c6 w6 hO6 hg6; have hE6 := below_grown HO5.out HE5.out HE5.out.size hg6; have HO6 := Lib.hid hO6; have HE6 := Lib.hid hE6; clear hO6 hg6 hE6))
      have HO7 := Lib.hid (show OwnB w6 w1.heap.size 5 A6 (10 + 9 * (k + 1)) c6 ([3] ++ nmb p ++ [toB (n : Int)] ++ encC (L.take (k + 1))) by
        rw [HTK.out, encC_append, show 10 + 9 * (k + 1) = 10 + 9 * k + 1 + 8 by omega]
        have := HO6.out
        simpa [encC] using this)
      clear HO6 HO5 HS5 HE5 HO hr
      go_wp2_with fail
      go_roundw
      case rel => exact ⟨k + 1, A6, c6, by omega, by go_num, by congr 1, HO7.out, HE6.out⟩
      case measure => simp [intOf]; omega
    · obtain rfl : k = n := by omega
      go_wp2_with fail
      go_ret2
      refine ⟨A4, 10 + 9 * k, c4, rfl, ?_, HE1.out.trans HEr.out⟩
      have := HO.out.sl
      unfold encBlk
      rw [List.take_of_length_le (Nat.le_of_eq HLEN.out)] at this
      rw [HLEN.out]
      exact this
end Go.Proofs.Ytcfmlgbocdjabaa
/- The empty payload, genesis and record; awake. -/
namespace Go.Proofs.Ytcfmlgbocdjabaa
open Go.RowKit
set_option linter.unusedVariables false
set_option linter.unusedSimpArgs false
attribute [local go_sem ↓] Go.wp_at_zero Go.wp_at_succ

set_option maxRecDepth 100000 in
set_option maxHeartbeats 1000000 in
theorem encPayload_empty (w : World) :
    Calls Try.prog 47 #[.agg #[.slice none 0 0]] w fun e w' => ∃ A c, e = .returned (.tuple #[.slice A 2 c, .int .i64 0]) ∧ SlB w' A 2 c [2, 0] ∧ Ext w w' := by
  have HS := Lib.hid (SlB.new2 (w.alloc (.cells #[.slice none 0 0] 92)) 5 2 0 2 0 (w.heap.size + 1) (by simp) rfl rfl)
  have HE := Lib.hid (((Ext.refl w).alloc' (.cells #[.slice none 0 0] 92)).alloc' (.cells #[.int .u8 2, .int .u8 0] 5))
  go_enter Try.func47, Try.ntmps47
  go_wp2_with fail
  go_loopw [21, 4] (fun i v wr => i = .int .i64 0 ∧ v = .slice (some ⟨w.heap.size + 1, 0, none⟩) 2 2 ∧ wr = (w.alloc (.cells #[.slice none 0 0] 92)).alloc (.cells #[.int .u8 2, .int .u8 0] 5)) (fun i _ _ => 0)
  case atStart => exact ⟨rfl, rfl, rfl⟩
  case round =>
    obtain ⟨rfl, rfl, rfl⟩ := hrel
    go_wp2_with fail
    go_ret2
    exact ⟨_, _, rfl, HS.out, HE.out⟩
set_option maxRecDepth 100000 in
set_option maxHeartbeats 1000000 in
theorem valGenesis_empty (w : World) :
    Calls Try.prog 60 #[.agg #[.int .i64 0, .int .i64 0, .slice none 0 0, .slice none 0 0, .slice none 0 0]] w fun e w' => e = .returned (.int .i64 1) ∧ Ext w w' := by
  have HE := Lib.hid ((Ext.refl w).alloc' (.cells #[.int .i64 0, .int .i64 0, .slice none 0 0, .slice none 0 0, .slice none 0 0] 40))
  go_enter Try.func60, Try.ntmps60
  go_wp2_with fail
  go_quiet (fail)
  go_wp2_with fail
  go_ret
  exact ⟨rfl, HE.out.trans (drewN_ext _ _)⟩
set_option maxRecDepth 100000 in
set_option maxHeartbeats 1000000 in
theorem encGenesis_empty (w : World) :
    Calls Try.prog 18 #[.agg #[.int .i64 0, .int .i64 0, .slice none 0 0, .slice none 0 0, .slice none 0 0]] w fun e w' => e = .returned (.tuple #[.slice none 0 0, .int .i64 1]) ∧ Ext w w' := by
  have HE := Lib.hid ((Ext.refl w).alloc' (.cells #[.int .i64 0, .int .i64 0, .slice none 0 0, .slice none 0 0, .slice none 0 0] 40))
  go_enter Try.func18, Try.ntmps18
  go_wp2_with fail
  refine (valGenesis_empty _).mono ?_
  rintro e w1 ⟨rfl, he1⟩
  go_wp2_with fail
  go_ret2
  exact ⟨rfl, HE.out.trans he1⟩
abbrev recC0 : Array Value := #[.int .u8 0, .int .u8 0, .int .u8 0, .int .u8 0, .int .u8 0, .int .u8 0, .int .u8 0, .int .u8 0, .slice none 0 0, .slice none 0 0, .int .i64 0]
theorem egRec : ∀ args w, (callFunc 144 args).run Try.prog w = .ok (.enter 144 args) w := fun _ _ => by kernel_rfl
set_option maxRecDepth 100000 in
set_option maxHeartbeats 1000000 in
theorem valRecord_empty (w : World) :
    Calls Try.prog 104 #[.agg recC0] w fun e w' => e = .returned (.bool true) ∧ Ext w w' := by
  have HF := Lib.hid (validators_any 144 egRec (.pointer (some ⟨w.heap.size, 0, none⟩)) (fun _ => 0) 0 (by omega) (w.alloc (.cells recC0 98)) (fun i hi => by omega))
  rw [show okIds (fun _ => 0) 0 = true from okIds_yes (fun i hi => by omega)] at HF
  have HE := Lib.hid ((Ext.refl w).alloc' (.cells recC0 98))
  go_enter Try.func104, Try.ntmps104
  go_wp2_with fail
  refine HF.out.mono ?_
  rintro e w1 ⟨rfl, rfl⟩
  go_wp2_with fail
  go_loopw [3] (fun i wr => i = .int .i64 1 ∧ wr = w.alloc (.cells recC0 98)) (fun i _ => 0)
  case atStart => exact ⟨rfl, rfl⟩
  case round =>
    obtain ⟨rfl, rfl⟩ := hrel
    go_wp2_with fail
    go_ret
    exact ⟨rfl, HE.out⟩
theorem appendUint_zero (A : Option Addr) (n c : Nat) (l : List UInt8) (wd : Nat) (hwd : wd ≤ 8) (w : World) (h : SlB w A n c l) (hn : n ≤ 140737488351232) :
    Calls Try.prog 61 #[.slice A n c, .int .u64 0, .int .i64 (wd : Int)] w fun e w' => ∃ A' c', e = .returned (.slice A' (n + wd) c') ∧ OwnB w' w.heap.size 5 A' (n + wd) c' (l ++ beBytes wd 0) ∧ Ext w w' :=
  appendUint_any A n c l 0 wd hwd w h hn
set_option maxRecDepth 100000 in
set_option maxHeartbeats 1000000 in
theorem appendNames_empty (A : Option Addr) (n c : Nat) (l : List UInt8) (w : World) (h : SlB w A n c l) (hn : n ≤ 140737488351232) :
    Calls Try.prog 105 #[.slice A n c, .slice none 0 0] w fun e w' => ∃ A' c', e = .returned (.tuple #[.slice A' (n + 1) c', .bool true]) ∧ SlB w' A' (n + 1) c' (l ++ [0]) ∧ Ext w w' := by
  have HA := Lib.hid (appendUint_zero A n c l 1 (by omega) w h hn)
  clear h
  go_enter Try.func105, Try.ntmps105
  go_wp2_with fail
  refine HA.out.mono ?_
  rintro e w1 ⟨A1, c1, rfl, hO1, he1⟩
  have HO1 := Lib.hid hO1
  have HE1 := Lib.hid he1
  clear hO1 he1
  go_wp2_with fail
  go_loopw [19, 6] (fun i v wr => i = .int .i64 0 ∧ v = .slice A1 (n + 1) c1 ∧ w1 = wr) (fun i _ _ => 0)
  case atStart => exact ⟨rfl, rfl, rfl⟩
  case round =>
    obtain ⟨rfl, rfl, rfl⟩ := hrel
    go_wp2_with fail
    go_ret2
    exact ⟨A1, c1, rfl, HO1.out.sl, HE1.out⟩
set_option maxRecDepth 100000 in
set_option maxHeartbeats 4000000 in
theorem encRecord_empty (w : World) :
    Calls Try.prog 48 #[.agg recC0] w fun e w' => ∃ A c, e = .returned (.tuple #[.slice A 13 c, .int .i64 0]) ∧ Ext w w' := by
  have HE := Lib.hid ((Ext.refl w).alloc' (.cells recC0 98))
  have HB := Lib.hid (Blk.new w 98 recC0)
  go_enter Try.func48, Try.ntmps48
  go_wp2_with fail
  refine (valRecord_empty _).mono ?_
  rintro e w1 ⟨rfl, he1⟩
  have HB1 := Lib.hid (HB.out.ext he1)
  have HE1 := Lib.hid (HE.out.trans he1)
  have HP := Lib.hid (fun (W : World) (hW : Ext w1 W) => (show SlB W (some ⟨w.heap.size, 0, none⟩) 8 8 (nmb 0) from ⟨nmb_length 0, Nat.le_refl _, by omega, .inr ⟨_, 0, rfl, by
    have := rangeAt_take (k := 8) (rangeAt_of_blk (HB1.out.ext hW)); rw [nmb_zero]; exact this⟩⟩))
  clear he1
  go_wp2_with (at_builtin; go_must (refine wpList_appB bytesE rfl (.tmp 10) (.tmp 12) rfl w1.heap.size _ _ _ [4] rfl (own_lit1 w1 w1.heap.size _ _ 4 _ rfl (Nat.le_refl _) rfl) _ 8 8 (nmb 0) rfl (HP.out _ ((Ext.refl w1).alloc' _)) (by omega) ((Ext.refl w1).alloc' _).size w1 ((Ext.refl w1).alloc' _) ?_))
  intro A2 c2 w2 hO2 hE2 hs2
  have HO2 := Lib.hid hO2
  have HE2 := Lib.hid hE2
  have hX := (HB1.out.ext hE2)
  have HX := Lib.hid hX
  have q0 : w2.cell? ⟨w.heap.size, 8, none⟩ = some (.slice none 0 0) := hX.cell 8
  have q1 : w2.cell? ⟨w.heap.size, 9, none⟩ = some (.slice none 0 0) := hX.cell 9
  have q2 : w2.cell? ⟨w.heap.size, 10, none⟩ = some (.int .i64 0) := hX.cell 10
  clear hO2 hE2 hX
  have HQ := Lib.hid (fun (W : World) (h : Ext w2 W) => show W.cell? ⟨w.heap.size, 8, none⟩ = some (.slice none 0 0) ∧ W.cell? ⟨w.heap.size, 10, none⟩ = some (.int .i64 0) from ⟨(HX.out.ext h).cell 8, (HX.out.ext h).cell 10⟩)
  have HQ9 := Lib.hid (fun (W : World) (h : Ext w2 W) => show W.cell? ⟨w.heap.size, 8, none⟩ = some (.slice none 0 0) ∧ W.cell? ⟨w.heap.size, 9, none⟩ = some (.slice none 0 0) from ⟨(HX.out.ext h).cell 8, (HX.out.ext h).cell 9⟩)
  have HA := Lib.hid (fun (W : World) (h : Ext w2 W) => show Calls Try.prog 61 #[.slice A2 9 c2, .int .u64 0, .int .i64 2] W (fun e w' => ∃ A' c', e = .returned (.slice A' 11 c') ∧ OwnB w' W.heap.size 5 A' 11 c' ([4] ++ nmb 0 ++ beBytes 2 0) ∧ Ext W w') from appendUint_zero A2 9 c2 _ 2 (by omega) W (HO2.out.sl.ext h) (by omega))
  have hXd := (Ext.refl w2).drew'
  have hXa := ((Ext.refl w2).alloc' (.cells #[.int .u8 0] 5)).drew'
  have HNa := Lib.hid ((SlB.new1 w2 5 0 0 w2.heap.size rfl rfl).ext (Ext.refl _).drew')
  clear q0 q1 q2
  have uw : IntKind.u64.wrap 0 = 0 := by rw [IntKind.wrap_u64]; rfl
  have bw : IntKind.u8.wrap 0 = 0 := by rw [IntKind.wrap_u8]; rfl
  go_wp2_with fail
  go_region_held3 (fun w' => w'.cell? ⟨w.heap.size, 8, none⟩ = some (.slice none 0 0) ∧ w'.cell? ⟨w.heap.size, 10, none⟩ = some (.int .i64 0)) (first | (with_reducible exact HQ.out _ hXd) | (with_reducible exact HQ.out _ hXa) | (with_reducible exact HQ.out _ hX4) | (with_reducible exact HQ.out _ hX3) | (with_reducible exact HQ.out _ (hX3.alloc' _)) | fail "CELLS") (first | (go_at_call 61; (with_reducible refine (HA.out _ hXd).mono ?_); rintro e w3 ⟨A3, c3, rfl, hO3, he3⟩; have hX3 := hXd.trans he3; have HO3 := Lib.hid (show OwnB w3 w2.heap.size _ _ _ _ _ from hO3); clear hO3) | (go_at_call 61; (with_reducible refine (HA.out _ hXa).mono ?_); rintro e w3 ⟨A3, c3, rfl, hO3, he3⟩; have hX3 := hXa.trans he3; have HN3 := Lib.hid (HNa.out.ext he3); have HO3 := Lib.hid (show OwnB w3 w2.heap.size _ _ _ _ _ from own_mono hO3 (by simp)); clear hO3) | (refine step_appB bytesE rfl (.tmp 18) (.tmp 23) rfl w2.heap.size A3 11 c3 _ (by rfl) HO3.out (some ⟨w2.heap.size, 0, none⟩) 1 1 [0] (by rfl) HN3.out (by omega) hX3.size w2 hX3 ?_; intro A4 c4 w4 hO4 hX4 hs4; have HO4 := Lib.hid hO4; clear hO4) | (refine step_appB bytesE rfl (.tmp 18) (.tmp 23) rfl w2.heap.size A3 11 c3 _ (by rfl) (HO3.out.alloc _) (some ⟨w3.heap.size, 0, none⟩) 1 1 [0] (by rfl) (SlB.new1 _ _ _ _ _ rfl rfl) (by omega) (hX3.alloc' _).size w2 (hX3.alloc' _) ?_; intro A4 c4 w4 hO4 hX4 hs4; have HO4 := Lib.hid hO4; clear hO4) | fail "ARM")
  all_goals (
    obtain ⟨q0, q1⟩ := HQ9.out _ hX4
    have HXX := Lib.hid (Ext.trans HE1.out (Ext.trans HE2.out hX4))
    clear hX4 hX3 hXd hXa
    go_wp2_with fail
    go_loopw [28, 4] (fun i v wr => i = .int .i64 0 ∧ v = .slice A4 12 c4 ∧ w4 = wr) (fun i _ _ => 0)
    case atStart => exact ⟨rfl, rfl, rfl⟩
    case round =>
      obtain ⟨rfl, rfl, rfl⟩ := hrel
      go_wp2_with fail
      refine (appendNames_empty _ 12 _ _ _ HO4.out.sl (by omega)).mono ?_
      rintro e w5 ⟨A5, c5, rfl, hS5, he5⟩
      go_wp2_with fail
      go_ret2
      exact ⟨A5, c5, rfl, HXX.out.trans he5⟩)
end Go.Proofs.Ytcfmlgbocdjabaa
