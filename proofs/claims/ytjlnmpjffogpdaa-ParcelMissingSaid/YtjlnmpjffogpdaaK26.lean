/- The signed vote that bytes tell (the program's Decode). -/
import Derived.Test.YtjlnmpjffogpdaaK24
import Derived.Test.YtjlnmpjffogpdaaLay
namespace Go.Proofs.Ytjlnmpjffogpdaa
open Go.RowKit
set_option linter.unusedVariables false
set_option linter.unusedSimpArgs false
attribute [local go_sem ↓] Go.wp_at_zero Go.wp_at_succ

def zeroS : SgR := ⟨zeroV, none, 0, 0, []⟩
abbrev sg0 : Array Value := #[.int .i64 0, .int .i64 0, .int .i64 0, .int .i64 0, .int .i64 0, .int .i64 0, .int .u8 0, .int .u8 0, .int .u8 0, .int .u8 0, .int .u8 0, .int .u8 0, .int .u8 0, .int .u8 0, .int .u8 0, .int .u8 0, .int .u8 0, .int .u8 0, .int .u8 0, .int .u8 0, .int .u8 0, .int .u8 0, .slice none 0 0]
theorem sg0_eq : sg0 = sgA zeroS := by
  unfold sgA zeroS zeroV; simp only [nb8_nil 0 (by omega), nb8_nil 1 (by omega), nb8_nil 2 (by omega), nb8_nil 3 (by omega), nb8_nil 4 (by omega), nb8_nil 5 (by omega), nb8_nil 6 (by omega), nb8_nil 7 (by omega)]
section
variable {o : Oper} {a : Act} {w : World} {ops : Array Oper} {rest : List Oper} {Q : Exit → Act → World → Prop}
theorem wpList_storeSg (hgd : o.guard = none) (x y : Operand) (ho : o.op = .store 45 x y) (g : Nat) (S : SgR) (hx : a.eval x = .pointer (some ⟨g, 0, none⟩)) (hy : a.eval y = .agg (sgA S)) (ht : w.there g 0 23)
    (h : wpList Try.prog ops Q rest (a.put o.dst undef) (w.setCells g 0 (sgA S).toList)) : wpList Try.prog ops Q (o :: rest) a w :=
  wpList_store_mid hgd 45 x y ho g 0 (sgA S) hx hy ht (by kernel_rfl) (sgA_all S) h
theorem wpList_storeS0 (hgd : o.guard = none) (x y : Operand) (ho : o.op = .store 45 x y) (g : Nat) (hx : a.eval x = .pointer (some ⟨g, 0, none⟩)) (hy : a.eval y = .agg sg0) (ht : w.there g 0 23)
    (h : wpList Try.prog ops Q rest (a.put o.dst undef) (w.setCells g 0 (sgA zeroS).toList)) : wpList Try.prog ops Q (o :: rest) a w := by
  refine wpList_storeSg hgd x y ho g zeroS hx (by rw [hy, sg0_eq]) ht h
end
theorem yields_loadVtA {o : Oper} {a : Act} {ops : Array Oper} {S : World → Prop} (hw : Region.wanted o (yielded ops a.tmps) = true) (x : Operand) (ho : o.op = .load 28 x) (b of : Nat) (hx : a.eval x = .pointer (some ⟨b, of, none⟩)) (R : VtR) (hS : ∀ w, S w → w.rangeAt b of (vtL R)) : YieldsIf Try.prog ops S o (.agg (vtA R)) a := by
  have := yieldsIf_load_mid (P := Try.prog) (S := S) hw 28 x ho b of hx (vtL R) _ hS Try.underlying28 rfl (by rw [vtL_length]; kernel_rfl)
  rw [vtL_arr] at this
  exact this
theorem appV0 (A : Option Addr) (n c : Nat) (l : List UInt8) (w : World) (h : SlB w A n c l) (hn : n ≤ 140737488351232) : Calls Try.prog 51 #[.slice A n c, .int .u64 0, .int .i64 0] w fun e w' => ∃ A' c', e = .returned (.slice A' n c') ∧ OwnB w' w.heap.size 5 A' n c' l ∧ Ext w w' := by
  have := appendUint_any A n c l 0 0 (by omega) w h hn
  refine this.mono ?_
  rintro e w' ⟨A', c', he, ho, hx⟩
  exact ⟨A', c', he, by simpa [beBytes] using ho, hx⟩
/-- what Decode answers -/
def sdC (l : List UInt8) : Int := if l.length < 393 then 2 else if 393 < l.length then 3 else vdC (l.take 23)
/-- the signed vote that Decode gives -/
def SdOut (w : World) (l : List UInt8) (e : Ending) (w' : World) : Prop := ∃ S : SgR, e = .returned (.tuple #[.agg (sgA S), .int .i64 (sdC l)]) ∧ S.ok w' ∧ Ext w w' ∧ (sdC l = 0 → S.v = decVt (l.take 23) ∧ vldVt S.v = true ∧ S.n = 370 ∧ S.sig = l.drop 23) ∧ (sdC l ≠ 0 → S = zeroS) ∧ OwnB w' w.heap.size 5 S.A S.n S.c S.sig
theorem zeroV_wf : zeroV.wf := ⟨wfI_of (by decide) (by decide), wfI_of (by decide) (by decide), wfI_of (by decide) (by decide), wfI_of (by decide) (by decide), wfI_of (by decide) (by decide), wfI_of (by decide) (by decide)⟩
theorem zeroS_ok (w : World) : zeroS.ok w := ⟨zeroV_wf, SlB.nil w⟩
set_option maxRecDepth 100000 in
set_option maxHeartbeats 8000000 in
theorem sgDec_short (A : Option Addr) (n c : Nat) (l : List UInt8) (w : World) (hS : SlB w A n c l) (hn : n < 393) : Calls Try.prog 91 #[.slice A n c] w (SdOut w l) := by
  have hcap := hS.cap
  have hle := hS.le
  have HC := Lib.hid (show sdC l = 2 from by unfold sdC; rw [hS.len]; rw [if_pos hn])
  have HE := Lib.hid ((Ext.refl w).alloc' (.cells sg0 45))
  have HB := Lib.hid (Blk.new w 45 sg0)
  have ht : (w.alloc (.cells sg0 45)).there w.heap.size 0 23 := there_of_blk HB.out
  have hst := blk_whole (ds := sgA zeroS) HB.out rfl
  have i1 : ((n : Int) < 393) := by omega
  
  clear hS
  go_enter Try.func91, Try.ntmps91
  go_wp2_with (first | (with_reducible refine wpList_storeS0 rfl (.tmp 2) (.tmp 10) rfl w.heap.size rfl rfl ht ?_))
  exact bodyPost_ret (v := .tuple #[.agg (sgA zeroS), .int .i64 2]) (retCV rfl _ _ w.heap.size _ _ rfl rfl (run_loadVar_row _ _ _ _ _ (0, 0) _ hst Try.underlying45 rfl (by kernel_rfl))) rfl ⟨zeroS, by rw [HC.out], zeroS_ok _, Below.setCells' HE.out (Nat.le_refl _) _ _, fun h => by rw [HC.out] at h; exact absurd h (by decide), fun _ => rfl, OwnB.nil _ _ _⟩
set_option maxRecDepth 100000 in
set_option maxHeartbeats 8000000 in
theorem sgDec_long (A : Option Addr) (n c : Nat) (l : List UInt8) (w : World) (hS : SlB w A n c l) (hn : 393 < n) : Calls Try.prog 91 #[.slice A n c] w (SdOut w l) := by
  have hcap := hS.cap
  have hle := hS.le
  have HC := Lib.hid (show sdC l = 3 from by unfold sdC; rw [hS.len]; rw [if_neg (by omega), if_pos hn])
  have HE := Lib.hid ((Ext.refl w).alloc' (.cells sg0 45))
  have HB := Lib.hid (Blk.new w 45 sg0)
  have ht : (w.alloc (.cells sg0 45)).there w.heap.size 0 23 := there_of_blk HB.out
  have hst := blk_whole (ds := sgA zeroS) HB.out rfl
  have i1 : (¬ (n : Int) < 393) := by omega
  have i2 : (393 : Int) < (n : Int) := by omega
  clear hS
  go_enter Try.func91, Try.ntmps91
  go_wp2_with (first | (with_reducible refine wpList_storeS0 rfl (.tmp 2) (.tmp 15) rfl w.heap.size rfl rfl ht ?_))
  exact bodyPost_ret (v := .tuple #[.agg (sgA zeroS), .int .i64 3]) (retCV rfl _ _ w.heap.size _ _ rfl rfl (run_loadVar_row _ _ _ _ _ (0, 0) _ hst Try.underlying45 rfl (by kernel_rfl))) rfl ⟨zeroS, by rw [HC.out], zeroS_ok _, Below.setCells' HE.out (Nat.le_refl _) _ _, fun h => by rw [HC.out] at h; exact absurd h (by decide), fun _ => rfl, OwnB.nil _ _ _⟩
set_option maxRecDepth 100000 in
set_option maxHeartbeats 8000000 in
theorem sgDec_yes (A : Option Addr) (c : Nat) (l : List UInt8) (w : World) (hS : SlB w A 393 c l) : Calls Try.prog 91 #[.slice A 393 c] w (SdOut w l) := by
  have hl := hS.len
  have hcap := hS.cap
  have hle := hS.le
  obtain ⟨b, o, rfl, hr, hb⟩ := hS.at (by omega)
  have HC := Lib.hid (show sdC l = vdC (l.take 23) from by unfold sdC; rw [hl, if_neg (by omega), if_neg (by omega)])
  have HE := Lib.hid ((Ext.refl w).alloc' (.cells sg0 45))
  have HB := Lib.hid (Blk.new w 45 sg0)
  have HS := Lib.hid hS
  have HL := Lib.hid hl
  have e1 : (bcs l).take 23 = bcs (l.take 23) := by simp [bcs]
  have e2 : (bcs l).drop 23 = bcs (l.drop 23) := by simp [bcs]
  have HA := Lib.hid (fun (W : World) (h : Ext w W) => show SlB W (some ⟨b, o, none⟩) 23 c (l.take 23) from slB_at (by have := rangeAt_take (k := 23) (rangeAt_keep hr (h.block b hb)); rwa [e1] at this) (by rw [List.length_take]; omega) (by omega) (by omega))
  have HD := Lib.hid (fun (W : World) (h : Ext w W) => show SlB W (some ⟨b, o + 23, none⟩) 370 (c - 23) (l.drop 23) from slB_at (by have := rangeAt_drop (k := 23) (rangeAt_keep hr (h.block b hb)); rwa [e2] at this) (by rw [List.length_drop]; omega) (by omega) (by omega))
  have hck : ¬ c = 23 := by omega
  clear hS hr hl e1 e2
  go_enter Try.func91, Try.ntmps91
  go_wp2_with fail
  refine (voteDec_yes _ c (l.take 23) _ (HA.out _ HE.out)).mono ?_
  rintro e w1 ⟨rfl, he1⟩
  have HX1 := Lib.hid (HE.out.trans he1)
  have HB1 := Lib.hid (HB.out.ext he1)
  have HWF := Lib.hid (show (vdV (l.take 23)).wf from by unfold vdV; split; exact decVt_wf _; exact zeroV_wf)
  have HV := Lib.hid (show (vdC (l.take 23) = 0 ∧ vdV (l.take 23) = decVt (l.take 23) ∧ vldVt (vdV (l.take 23)) = true) ∨ vdC (l.take 23) = 11 from by
    unfold vdC vdV
    cases hv : vldVt (decVt (l.take 23)) with
    | true => exact .inl ⟨rfl, rfl, hv⟩
    | false => exact .inr rfl)
  obtain ⟨v, hv⟩ : ∃ v, vdV (l.take 23) = v := ⟨_, rfl⟩
  obtain ⟨z, hz⟩ : ∃ z, vdC (l.take 23) = z := ⟨_, rfl⟩
  rw [hv, hz] at HV
  rw [hv] at HWF
  rw [hz] at HC
  rw [hv, hz]
  clear hv hz he1
  have HX2 := Lib.hid (HX1.out.alloc' (.cells (vtA v) 28))
  have HB2 := Lib.hid (HB1.out.alloc (.cells (vtA v) 28))
  have HV2 := Lib.hid (Blk.new w1 28 (vtA v))
  have HG := Lib.hid HB1.out.lt
  have hth : (w1.alloc (.cells (vtA v) 28)).there w.heap.size 0 23 := there_of_blk HB2.out
  rcases HV.out with ⟨rfl, hd, hvd⟩ | rfl
  · have HF := Lib.hid (And.intro hd hvd)
    clear hd hvd
    go_wp2_with (first | (with_reducible refine wpList_newVt rfl (.tmp 4) (.tmp 20) rfl _ rfl v rfl rfl ?_))
    generalize w1.alloc (.cells (vtA v) 28) = W2 at HX2 HB2 HV2 hth ⊢
    have HN := Lib.hid (show w1.heap.size ≠ w.heap.size from by have := HG.out; omega)
    refine wp_region_held_drew (S := fun W => W.rangeAt w1.heap.size 0 (vtL v)) (by kernel_rfl) (rangeAt_of_blk HV2.out.drew) (fun hHeld => ?_)
    (refine wpAnyH_take (i := 0) (oi := ⟨some 26, .load 28 (.tmp 4), 28, "signed.go:62", #[], none⟩) (v := .agg (vtA v)) rfl (by kernel_rfl) (by kernel_rfl) (by kernel_rfl) (fun _ _ _ h => h) ?hy0 hHeld ?_; case hy0 => (refine yields_loadVtA ?hw (.tmp 4) rfl w1.heap.size 0 ?hx v (fun W h => h); (case hw => rfl); (case hx => rfl)))
    try simp only [lays]
    (refine wpAnyH_take (i := 1) (oi := ⟨some 27, .move (.tmp 0), 33, "signed.go:62", #[], none⟩) (v := ?_) rfl (by kernel_rfl) (by kernel_rfl) (by kernel_rfl) (fun _ _ _ h => h) (Or.inl ⟨by rfl, ?hy1⟩) hHeld ?_; case hy1 => (intro W hSW; go_simp <;> with_reducible rfl))
    try simp only [lays]
    (refine wpAnyH_take (i := 2) (oi := ⟨some 28, .slice 33 (.tmp 27) (some (.const (.int .i64 23))) none none, 33, "signed.go:62", #[⟨1, .data⟩], none⟩) (v := ?_) rfl (by kernel_rfl) (by kernel_rfl) (by kernel_rfl) (fun _ _ _ h => h) (Or.inl ⟨by rfl, ?hy2⟩) hHeld ?_; case hy2 => (intro W hSW; go_simp <;> with_reducible rfl))
    try simp only [lays]
    refine wpAnyH_ready (rs := [3]) (by kernel_rfl) (by simp) ?_
    refine AllReadyH.cons (o := ⟨some 29, .call { callee := .value (.func 51), args := #[.tmp 28, .const (.int .u64 0), .const (.int .i64 0)], argTypes := #[33, 87, 3] }, 33, "signed.go:62", #[⟨2, .data⟩], none⟩) rfl (fun K hK => ?_) AllReadyH.nil
    refine Eq.mpr (if_pos (by rfl)) ?_
    go_simp
    go_at_call 51
    refine (appV0 _ 370 (c - 23) (l.drop 23) _ (HD.out _ HX2.out.drew') (by omega)).mono ?_
    rintro e w3 ⟨A3, c3, rfl, hO3, he3⟩
    refine hK.out _ _ (rangeAt_of_blk (HV2.out.drew.ext he3)) (fun hHeld => ?_)
    clear hK K
    try simp only [lays]
    (refine wpAnyH_take (i := 4) (oi := ⟨some 30, .build 45 #[(0, .tmp 26), (1, .tmp 29)], 45, "signed.go:62", #[⟨0, .data⟩, ⟨3, .data⟩], none⟩) (v := ?_) rfl (by kernel_rfl) (by kernel_rfl) (by kernel_rfl) (fun _ _ _ h => h) (Or.inl ⟨by rfl, ?hy4⟩) hHeld ?_; case hy4 => (intro W hSW; go_simp <;> with_reducible rfl))
    try simp only [lays]
    refine wpAnyH_ready (rs := [5]) (by kernel_rfl) (by simp) ?_
    refine AllReadyH.cons (o := ⟨none, .store 45 (.tmp 2) (.tmp 30), 0, "signed.go:62", #[⟨4, .data⟩, ⟨3, .chain⟩, ⟨0, .phase⟩, ⟨1, .phase⟩, ⟨2, .phase⟩, ⟨3, .phase⟩, ⟨4, .phase⟩], none⟩) rfl (fun K hK => ?_) AllReadyH.nil
    refine Eq.mpr (if_pos (by rfl)) ?_
    refine wp_store_mid 45 (.tmp 2) (.tmp 30) rfl w.heap.size 0 (sgA ⟨v, A3, 370, c3, l.drop 23⟩) rfl ?hy (show w3.there w.heap.size 0 23 from there_of_blk (HB2.out.drew.ext he3)) (by kernel_rfl) (sgA_all _) ?_
    case hy => rfl
    refine hK.out _ _ (World.rangeAt_setCells_apart (rangeAt_of_blk (HV2.out.drew.ext he3)) _ _ _ (.inl HN.out)) (fun hHeld => ?_)
    clear hK K
    try simp only [lays]
    (refine wpAnyH_take (i := 6) (oi := ⟨some 3, .assign (.const (.int .i64 0)), 60, "signed.go:62", #[⟨5, .chain⟩, ⟨0, .phase⟩, ⟨1, .phase⟩, ⟨2, .phase⟩, ⟨3, .phase⟩, ⟨4, .phase⟩, ⟨5, .phase⟩], none⟩) (v := ?_) rfl (by kernel_rfl) (by kernel_rfl) (by kernel_rfl) (fun _ _ _ h => h) (Or.inl ⟨by rfl, ?hy6⟩) hHeld ?_; case hy6 => (intro W hSW; go_simp <;> with_reducible rfl))
    try simp only [lays]
    refine wpAnyH_done (by kernel_rfl) ?_ _
    have hst := blk_whole (ds := sgA ⟨v, A3, 370, c3, l.drop 23⟩) (HB2.out.drew.ext he3) rfl
    have hx3 : Ext w w3 := Ext.trans HX2.out.drew' he3
    have hown : OwnB (w3.setCells w.heap.size 0 (sgA ⟨v, A3, 370, c3, l.drop 23⟩).toList) w.heap.size 5 A3 370 c3 (l.drop 23) :=
      World.ownsRow.kept (own_mono hO3 (Nat.le_of_lt (show w.heap.size < W2.heap.size from HB2.out.lt))) (grown_setCells' w3 w.heap.size _ 0) (.inr (Ne.symm (own_other hO3 (HB2.out.drew.ext he3) (by decide))))
    have hok : (SgR.mk v A3 370 c3 (l.drop 23)).ok (w3.setCells w.heap.size 0 (sgA ⟨v, A3, 370, c3, l.drop 23⟩).toList) := ⟨HWF.out, hown.sl⟩
    go_wp2_with fail
    exact bodyPost_ret (v := .tuple #[.agg (sgA ⟨v, A3, 370, c3, l.drop 23⟩), .int .i64 0]) (retCV rfl _ _ w.heap.size _ _ rfl rfl (run_loadVar_row _ _ _ _ _ (0, 0) _ hst Try.underlying45 rfl (by kernel_rfl))) rfl ⟨⟨v, A3, 370, c3, l.drop 23⟩, by rw [HC.out], hok, Below.setCells' hx3 (Nat.le_refl _) _ _, fun _ => ⟨HF.out.1, HF.out.2, rfl, rfl⟩, fun h => absurd HC.out h, hown⟩
  · have ht := hth
    have hst := blk_whole (ds := sgA zeroS) HB2.out rfl
    go_wp2_with (first | (with_reducible refine wpList_newVt rfl (.tmp 4) (.tmp 20) rfl _ rfl v rfl rfl ?_) | (with_reducible refine wpList_storeS0 rfl (.tmp 2) (.tmp 24) rfl w.heap.size rfl rfl ht ?_))
    exact bodyPost_ret (v := .tuple #[.agg (sgA zeroS), .int .i64 11]) (retCV rfl _ _ w.heap.size _ _ rfl rfl (run_loadVar_row _ _ _ _ _ (0, 0) _ hst Try.underlying45 rfl (by kernel_rfl))) rfl ⟨zeroS, by rw [HC.out], zeroS_ok _, Below.setCells' HX2.out (Nat.le_refl _) _ _, fun h => by rw [HC.out] at h; exact absurd h (by decide), fun _ => rfl, OwnB.nil _ _ _⟩
theorem sgDec_any (A : Option Addr) (n c : Nat) (l : List UInt8) (w : World) (hS : SlB w A n c l) : Calls Try.prog 91 #[.slice A n c] w (SdOut w l) := by
  rcases Nat.lt_trichotomy n 393 with h | h | h
  · exact sgDec_short A n c l w hS h
  · subst h; exact sgDec_yes A c l w hS
  · exact sgDec_long A n c l w hS h
end Go.Proofs.Ytjlnmpjffogpdaa
