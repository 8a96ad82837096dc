/- EncodeConfig, both sides. -/
import Derived.Test.YtjlnmpjffogpdaaSc1
import Derived.Test.YtjlnmpjffogpdaaTx5
namespace Go.Proofs.Ytjlnmpjffogpdaa
open Go.RowKit
set_option linter.unusedVariables false
set_option linter.unusedSimpArgs false
attribute [local go_sem ↓] Go.wp_at_zero Go.wp_at_succ

/-- when a configuration can be encoded, and how -/
def eCf (c : Cf) : Bool := vCf c && decide (0 ≤ c.tw ∧ c.tw ≤ 1023 ∧ 0 ≤ c.li ∧ c.li ≤ 1023)
def encCf (c : Cf) : List UInt8 := [toB c.m, toB c.v, toB c.a] ++ beI 8 c.st ++ beI 8 c.ba ++ beI 2 c.tw ++ beI 2 c.li ++ nmb c.sd
theorem encCf_length (c : Cf) : (encCf c).length = 31 := by simp [encCf, beI_length, nmb_length]
def cfL (c : Cf) : List Value := (cfA c).toList
theorem cfL_length (c : Cf) : (cfL c).length = 15 := rfl
theorem cfL_arr (c : Cf) : (cfL c).toArray = cfA c := rfl
theorem range_cf {w : World} {g : Nat} {t : TypeId} {c : Cf} (h : Blk w g t (cfA c)) : w.rangeAt g 0 (cfL c) := rangeAt_of_blk h
/-- the state of EncodeConfig: the configuration in G, the bytes in a row of one's own -/
structure CfS (t : TypeId) (w0 w : World) (G : Nat) (c : Cf) (A : Option Addr) (n k : Nat) (l : List UInt8) : Prop where
  box : Blk w G t (cfA c)
  own : OwnB w w0.heap.size 5 A n k l
  low : Ext w0 w
theorem CfS.call {t : TypeId} {w0 w w' : World} {G : Nat} {c : Cf} {A A' : Option Addr} {n k n' k' : Nat} {l l' : List UInt8} (h : CfS t w0 w G c A n k l) (hO : OwnB w' w.heap.size 5 A' n' k' l') (he : Ext w w') : CfS t w0 w' G c A' n' k' l' :=
  ⟨h.box.ext he, own_mono hO h.low.size, h.low.trans he⟩
theorem CfS.ext {t : TypeId} {w0 w w' : World} {G : Nat} {c : Cf} {A : Option Addr} {n k : Nat} {l : List UInt8} (h : CfS t w0 w G c A n k l) (he : Ext w w') : CfS t w0 w' G c A n k l :=
  ⟨h.box.ext he, OwnB.ext h.own he, h.low.trans he⟩
theorem CfS.seed {t : TypeId} {w0 w : World} {G : Nat} {c : Cf} {A : Option Addr} {n k : Nat} {l : List UInt8} (h : CfS t w0 w G c A n k l) : SlB w (some ⟨G, 7, none⟩) 8 8 (nmb c.sd) :=
  ⟨nmb_length _, Nat.le_refl _, by omega, .inr ⟨G, 7, rfl, by have := rangeAt_take (k := 8) (rangeAt_drop (k := 7) (rangeAt_of_blk h.box)); rw [bcs_nb8]; simpa using this⟩⟩
theorem appU8 (A : Option Addr) (n c : Nat) (l : List UInt8) (z : Int) (w : World) (h : SlB w A n c l) (hn : n ≤ 140737488351232) : Calls Try.prog 51 #[.slice A n c, .int .u64 (un (uI z)), .int .i64 8] w fun e w' => ∃ A' c', e = .returned (.slice A' (n + 8) c') ∧ OwnB w' w.heap.size 5 A' (n + 8) c' (l ++ beI 8 z) ∧ Ext w w' := appendUI_any A n c l z 8 (by omega) w h hn
theorem appU2 (A : Option Addr) (n c : Nat) (l : List UInt8) (z : Int) (w : World) (h : SlB w A n c l) (hn : n ≤ 140737488351232) : Calls Try.prog 51 #[.slice A n c, .int .u64 (un (uI z)), .int .i64 2] w fun e w' => ∃ A' c', e = .returned (.slice A' (n + 2) c') ∧ OwnB w' w.heap.size 5 A' (n + 2) c' (l ++ beI 2 z) ∧ Ext w w' := appendUI_any A n c l z 2 (by omega) w h hn
section
variable {o : Oper} {a : Act} {w : World} {ops : Array Oper} {rest : List Oper} {Q : Exit → Act → World → Prop}
theorem wpList_loadCf_script (hgd : o.guard = none) (x : Operand) (ho : o.op = .load 64 x) (b : Nat) (hx : a.eval x = .pointer (some ⟨b, 0, none⟩)) (c : Cf) (hc : w.rangeAt b 0 (cfL c))
    (h : wpList Try.prog ops Q rest (a.put o.dst (.agg (cfA c))) w) : wpList Try.prog ops Q (o :: rest) a w := by
  have := wpList_load_mid (P := Try.prog) (Q := Q) (ops := ops) (rest := rest) hgd 64 x ho b 0 hx (cfL c) _ hc Try.underlying64 rfl (by rw [cfL_length]; kernel_rfl)
  rw [cfL_arr] at this
  exact this h
end
set_option maxRecDepth 100000 in
set_option maxHeartbeats 4000000 in
theorem scriptEncCfg_no (c : Cf) (h : eCf c = false) (w : World) : Calls Try.prog 50 #[.agg (cfA c)] w fun e w' => e = .returned (.tuple #[.slice none 0 0, .int .i64 1]) ∧ Ext w w' := by
  have HE := Lib.hid ((Ext.refl w).alloc' (.cells (cfA c) 64))
  have HB := Lib.hid (Blk.new w 64 (cfA c))
  obtain ⟨W0, hW0⟩ : ∃ W0, w.alloc (.cells (cfA c) 64) = W0 := ⟨_, rfl⟩
  rw [hW0] at HE HB
  have HV := Lib.hid (worldValid_any c W0)
  have hr := range_cf HB.out
  go_enter Try.func50, Try.ntmps50
  go_wp2_with (first | (with_reducible refine wpList_loadCf_script rfl (.tmp 1) rfl w.heap.size rfl c hr ?_))
  refine HV.out.mono ?_
  rintro e w1 ⟨rfl, he1⟩
  have HX := Lib.hid (HE.out.trans he1)
  obtain ⟨q0, q1, q2, q3, q4, q5, q6⟩ := cf_facts (HB.out.ext he1)
  clear he1 hW0 hr
  unfold eCf at h
  cases hv : vCf c with
  | false =>
    go_wp2_with fail
    go_ret2
    exact ⟨rfl, HX.out⟩
  | true =>
    rw [hv, Bool.true_and] at h
    have h := of_decide_eq_false h
    obtain ⟨tw, htw⟩ : ∃ tw, c.tw = tw := ⟨_, rfl⟩
    obtain ⟨li, hli⟩ : ∃ li, c.li = li := ⟨_, rfl⟩
    rw [htw, hli] at h
    rw [htw] at q5
    rw [hli] at q6
    clear hv htw hli
    by_cases t0 : tw < 0
    · clear h
      go_wp2_with fail
      go_ret2
      exact ⟨rfl, HX.out⟩
    · by_cases t1 : 1023 < tw
      · clear h
        go_wp2_with fail
        go_ret2
        exact ⟨rfl, HX.out⟩
      · by_cases t2 : li < 0
        · clear h
          go_wp2_with fail
          go_ret2
          exact ⟨rfl, HX.out⟩
        · have t3 : 1023 < li := by omega
          clear h
          go_wp2_with fail
          go_ret2
          exact ⟨rfl, HX.out⟩
set_option maxRecDepth 100000 in
set_option maxHeartbeats 4000000 in
theorem scriptEncCfg_yes (c : Cf) (h : eCf c = true) (w : World) : Calls Try.prog 50 #[.agg (cfA c)] w fun e w' => ∃ A' c', e = .returned (.tuple #[.slice A' 31 c', .int .i64 0]) ∧ OwnB w' w.heap.size 5 A' 31 c' (encCf c) ∧ Ext w w' := by
  have HE := Lib.hid ((Ext.refl w).alloc' (.cells (cfA c) 64))
  have HB := Lib.hid (Blk.new w 64 (cfA c))
  obtain ⟨W0, hW0⟩ : ∃ W0, w.alloc (.cells (cfA c) 64) = W0 := ⟨_, rfl⟩
  rw [hW0] at HE HB
  have HV := Lib.hid (worldValid_any c W0)
  have hr := range_cf HB.out
  have u_st := uI_un c.st
  have u_ba := uI_un c.ba
  have u_tw := uI_un c.tw
  have u_li := uI_un c.li
  unfold eCf at h
  simp only [Bool.and_eq_true, decide_eq_true_eq] at h
  obtain ⟨hv, t0, t1, t2, t3⟩ := h
  rw [hv] at HV
  clear hv
  go_enter Try.func50, Try.ntmps50
  go_wp2_with (first | (with_reducible refine wpList_loadCf_script rfl (.tmp 1) rfl w.heap.size rfl c hr ?_))
  refine HV.out.mono ?_
  rintro e w1 ⟨rfl, he1⟩
  have HX := Lib.hid (HE.out.trans he1)
  have HB1 := Lib.hid (HB.out.ext he1)
  obtain ⟨q0, q1, q2, q3, q4, q5, q6⟩ := cf_facts HB1.out
  clear he1 hW0 hr
  go_wp2_with fail
  have H0 := Lib.hid (show CfS 64 w (w1.alloc (.cells #[.int .u8 (c.m % 256), .int .u8 (c.v % 256), .int .u8 (c.a % 256)] 5)) w.heap.size c (some ⟨w1.heap.size, 0, none⟩) 3 3 [toB c.m, toB c.v, toB c.a] from ⟨HB1.out.alloc _, own_lit3 _ _ _ _ _ _ _ rfl HX.out.size _ _ _ (by first | exact toB_eq _ | (rw [← toB_eq]; omega)) (by first | exact toB_eq _ | (rw [← toB_eq]; omega)) (by first | exact toB_eq _ | (rw [← toB_eq]; omega)), HX.out.alloc' _⟩)
  generalize w1.alloc (.cells #[.int .u8 (c.m % 256), .int .u8 (c.v % 256), .int .u8 (c.a % 256)] 5) = W3 at *
  clear q0 q1 q2 q3 q4 q5 q6 HB1 HX
  have HSS := Lib.hid (fun (W : World) (h : Ext W3 W) => cf_facts (H0.out.box.ext h))
  have hX := (Ext.refl W3).drew'
  go_region_held3 (fun w' => w'.cell? ⟨w.heap.size, 0, none⟩ = some (.int .i64 c.m) ∧ w'.cell? ⟨w.heap.size, 1, none⟩ = some (.int .i64 c.v) ∧ w'.cell? ⟨w.heap.size, 2, none⟩ = some (.int .i64 c.a) ∧ w'.cell? ⟨w.heap.size, 3, none⟩ = some (.int .i64 c.st) ∧ w'.cell? ⟨w.heap.size, 4, none⟩ = some (.int .i64 c.ba) ∧ w'.cell? ⟨w.heap.size, 5, none⟩ = some (.int .i64 c.tw) ∧ w'.cell? ⟨w.heap.size, 6, none⟩ = some (.int .i64 c.li)) (first | (with_reducible exact HSS.out _ hX) | fail "KEEP") (first | (go_at_call 51; first | ((with_reducible refine (appU8 _ _ _ _ c.st _ (H0.out.ext hX).own.sl (by omega)).mono ?_); rintro e wv1 ⟨A1, k1, rfl, hO1, he1⟩; have H1 := Lib.hid (show CfS 64 w wv1 w.heap.size c A1 11 k1 _ from (H0.out.ext hX).call hO1 he1); have hX := hX.trans he1; clear hO1 he1) | ((with_reducible refine (appU8 _ _ _ _ c.ba _ H1.out.own.sl (by omega)).mono ?_); rintro e wv2 ⟨A2, k2, rfl, hO2, he2⟩; have H2 := Lib.hid (show CfS 64 w wv2 w.heap.size c A2 19 k2 _ from H1.out.call hO2 he2); have hX := hX.trans he2; clear hO2 he2) | fail "NUM") | fail "ARM")
  clear hX HSS
  go_wp2_with fail
  have HSS := Lib.hid (fun (W : World) (h : Ext wv2 W) => cf_facts (H2.out.box.ext h))
  have hX := (Ext.refl wv2).drew'
  go_region_held3 (fun w' => w'.cell? ⟨w.heap.size, 0, none⟩ = some (.int .i64 c.m) ∧ w'.cell? ⟨w.heap.size, 1, none⟩ = some (.int .i64 c.v) ∧ w'.cell? ⟨w.heap.size, 2, none⟩ = some (.int .i64 c.a) ∧ w'.cell? ⟨w.heap.size, 3, none⟩ = some (.int .i64 c.st) ∧ w'.cell? ⟨w.heap.size, 4, none⟩ = some (.int .i64 c.ba) ∧ w'.cell? ⟨w.heap.size, 5, none⟩ = some (.int .i64 c.tw) ∧ w'.cell? ⟨w.heap.size, 6, none⟩ = some (.int .i64 c.li)) (first | (with_reducible exact HSS.out _ hX) | fail "KEEP") (first | (go_at_call 51; first | ((with_reducible refine (appU2 _ _ _ _ c.tw _ (H2.out.ext hX).own.sl (by omega)).mono ?_); rintro e wv3 ⟨A3, k3, rfl, hO3, he3⟩; have H3 := Lib.hid (show CfS 64 w wv3 w.heap.size c A3 21 k3 _ from (H2.out.ext hX).call hO3 he3); have hX := hX.trans he3; clear hO3 he3) | ((with_reducible refine (appU2 _ _ _ _ c.li _ H3.out.own.sl (by omega)).mono ?_); rintro e wv4 ⟨A4, k4, rfl, hO4, he4⟩; have H4 := Lib.hid (show CfS 64 w wv4 w.heap.size c A4 23 k4 _ from H3.out.call hO4 he4); have hX := hX.trans he4; clear hO4 he4) | fail "NUM") | fail "ARM")
  clear hX HSS
  go_wp2_with (at_builtin; go_must (refine wpList_appBG bytesE rfl (.tmp 56) (.tmp 58) rfl w.heap.size A4 23 k4 _ rfl H4.out.own _ 8 8 (nmb c.sd) rfl H4.out.seed (by omega) H4.out.low.size ?_; intro A5 c5 w5 hO5 hg5))
  have HF := Lib.hid (show OwnB w5 w.heap.size 5 A5 31 c5 (encCf c) by simpa [encCf] using hO5)
  have HG := Lib.hid (show Ext w w5 from Below.grown H4.out.low hg5 H4.out.low.size (fun k hk => (World.ownsRow.lt H4.out.own k hk).1))
  clear hO5 hg5
  go_wp2_with fail
  go_ret2
  exact ⟨A5, c5, rfl, HF.out, HG.out⟩
section
variable {o : Oper} {a : Act} {w : World} {ops : Array Oper} {rest : List Oper} {Q : Exit → Act → World → Prop}
end
end Go.Proofs.Ytjlnmpjffogpdaa
