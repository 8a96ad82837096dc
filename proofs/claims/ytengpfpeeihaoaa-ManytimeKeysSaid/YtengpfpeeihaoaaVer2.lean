/- climbed: the root that a part of a signature shows. -/
import Derived.Test.YtengpfpeeihaoaaVer1
namespace Go.Proofs.Ytengpfpeeihaoaa
open Go.RowKit
set_option linter.unusedVariables false
set_option linter.unusedSimpArgs false

theorem names18 (A : Option Addr) (len c : Nat) (l : List UInt8) (at_ : Nat) (w : World) (h : SlB w A len c l) (hf : at_ + 144 ≤ len) (hat : at_ ≤ 1000) :
    Calls Try.prog 80 #[.slice A len c, .int .i64 (at_ : Int), .int .i64 18] w fun e w' => ∃ g, e = .returned (.slice (some ⟨g, 0, none⟩) 18 18) ∧ SlN w' (some ⟨g, 0, none⟩) 18 18 (namesU l at_ 18) ∧ Ext w w' :=
  names_any A len c l at_ 18 w h (by omega) (by omega) hat
theorem names5 (A : Option Addr) (len c : Nat) (l : List UInt8) (at_ : Nat) (z : Int) (hz : z = (at_ : Int)) (w : World) (h : SlB w A len c l) (hf : at_ + 40 ≤ len) (hat : at_ ≤ 1000) :
    Calls Try.prog 80 #[.slice A len c, .int .i64 z, .int .i64 5] w fun e w' => ∃ g, e = .returned (.slice (some ⟨g, 0, none⟩) 5 5) ∧ SlN w' (some ⟨g, 0, none⟩) 5 5 (namesU l at_ 5) ∧ Ext w w' := by
  subst hz; exact names_any A len c l at_ 5 w h (by omega) (by omega) hat
theorem stN {w0 w2 : World} {g : Nat} (hX : Ext w0 w2) (hq : Blk w2 g 61 zcs.toArray) (hg : w0.heap.size ≤ g) (r : UInt64) : Ext w0 (w2.setCells g 0 (nmc r).toList) := Below.setCells' hX hg _ _
theorem pack9 {w0 cur : World} {g : Nat} {r : UInt64} (hX : Ext w0 cur) (hb : Blk cur g 61 (nmc r)) : ∃ W1 g1, W1 = cur ∧ g1 = g ∧ Ext w0 W1 ∧ Blk W1 g1 61 (nmc r) := ⟨_, _, rfl, rfl, hX, hb⟩
theorem follow32 (leaf : UInt64) (j : Nat) (A : Option Addr) (c : Nat) (ns : List UInt64) (w : World) (hd : depU j 32 = 5) (hj : j < 32) (h : SlN w A 5 c ns) :
    Calls Try.prog 81 #[.agg (nmc leaf), .int .i64 (j : Int), .int .i64 32, .slice A 5 c] w fun e w' => e = .returned (.tuple #[.agg (nmc (compU leaf j 32 ns)), .bool true]) ∧ Ext w w' :=
  follow_yes leaf 32 j 5 A c ns w (by omega) hj hd.symm h
def climbU (l : List UInt8) (at_ j : Nat) (m : UInt64) : UInt64 := compU (oneRec m (namesU l at_ 18)) j 32 (namesU l (at_ + 144) 5)
theorem dep_step (n d : Nat) (hn : 1 ≤ n) (hs : spl (2 * n) = n) (ih : ∀ j, j < n → depU j n = d) : ∀ j, j < 2 * n → depU j (2 * n) = d + 1 := by
  intro j hj
  by_cases hlt : j < n
  · rw [depU_low _ _ (by omega) (by rw [hs]; exact hlt), hs, ih j hlt]
  · rw [depU_high _ _ (by omega) (by rw [hs]; exact hlt), hs, show 2 * n - n = n from by omega, ih (j - n) (by omega)]
theorem dep32 (j : Nat) (h : j < 32) : depU j 32 = 5 :=
  dep_step 16 4 (by omega) (by decide) (dep_step 8 3 (by omega) (by decide) (dep_step 4 2 (by omega) (by decide) (dep_step 2 1 (by omega) (by decide) (dep_step 1 0 (by omega) (by decide) (fun j _ => depU_short _ _ (by decide)))))) j h
set_option maxRecDepth 100000 in
set_option maxHeartbeats 2000000 in
theorem climbed_any (A : Option Addr) (len c : Nat) (l : List UInt8) (at_ j : Nat) (m : UInt64) (w : World) (h : SlB w A len c l) (hf : at_ + 184 ≤ len) (hat : at_ ≤ 500) (hj : j < 32) :
    Calls Try.prog 60 #[.slice A len c, .int .i64 (at_ : Int), .int .i64 (j : Int), .agg (nmc m)] w fun e w' => e = .returned (.agg (nmc (climbU l at_ j m))) ∧ Ext w w' := by
  have hle := h.le
  have hcap := h.cap
  have hE0 : Ext w ((w.alloc (.cells (nmc m) 61)).alloc (.cells zcs.toArray 61)).drew := (((Ext.refl w).alloc' _).alloc' _).drew'
  have hbm : Blk ((w.alloc (.cells (nmc m) 61)).alloc (.cells zcs.toArray 61)).drew w.heap.size 61 (nmc m) := ((Blk.new w _ _).alloc _).drew
  have hbz : Blk ((w.alloc (.cells (nmc m) 61)).alloc (.cells zcs.toArray 61)).drew (w.heap.size + 1) 61 zcs.toArray := (Blk.newAt _ _ _ _ (by simp)).drew
  have HW0 := Lib.hid (show w.heap.size + 2 ≤ ((w.alloc (.cells (nmc m) 61)).alloc (.cells zcs.toArray 61)).heap.size from by simp)
  have HSL := Lib.hid h
  have hu := Try.underlying61
  have hi := size61b m
  clear h
  go_enter Try.func60, Try.ntmps60
  go_wp2_with fail
  generalize (w.alloc (.cells (nmc m) 61)).alloc (.cells zcs.toArray 61) = W0 at *
  have HE0 := Lib.hid hE0
  have HBM := Lib.hid hbm
  have HBZ := Lib.hid hbz
  have HSS := Lib.hid (fun (w' : World) (hx : Ext W0.drew w') => cells8 (hbm.ext hx))
  clear hE0 hbm hbz
  have hX := Ext.refl W0.drew
  have HAD := Lib.hid (fun (o : Obj) => (show Ext W0.drew (W0.alloc o).drew from ((Ext.refl W0.drew).alloc' o : Ext W0.drew (W0.drew.alloc o))))
  have HD5 := Lib.hid (dep32 j hj)
  have HAT := Lib.hid (show (at_ : Int) + 144 = ((at_ + 144 : Nat) : Int) by omega)
  have H40 := Lib.hid (show at_ + 144 + 40 ≤ len by omega)
  have H1000b := Lib.hid (show at_ + 144 ≤ 1000 by omega)
  have H18 := Lib.hid (show at_ + 144 ≤ len by omega)
  have H1000 := Lib.hid (show at_ ≤ 1000 by omega)
  have HSZ := Lib.hid (show w.heap.size + 2 ≤ W0.heap.size from HW0.out)
  go_region_held3 (fun w' => (∀ i, i < 8 → w'.cell? ⟨w.heap.size, i, none⟩ = some (.int .u8 (nb8 m i)))) (first | (with_reducible exact HSS.out _ hX) | (with_reducible exact HSS.out _ (HAD.out _)) | (with_reducible exact HSS.out _ (hX.alloc' _)) | (with_reducible exact HSS.out _ HW9.out)) (first | (go_at_call 80; first | ((with_reducible refine (names18 A len c l at_ _ (HSL.out.ext (HE0.out.trans hX)) H18.out H1000.out).mono ?_); rintro e w1 ⟨g1, rfl, hsl1, he1⟩; have hX := hX.trans he1) | ((with_reducible refine (names18 A len c l at_ _ (HSL.out.ext (HE0.out.trans (HAD.out _))) H18.out H1000.out).mono ?_); rintro e w1 ⟨g1, rfl, hsl1, he1⟩; have hq := (Blk.new W0 61 zcs.toArray).drew.ext he1; have hX := (HAD.out _).trans he1)) | (go_at_call 79; first | ((with_reducible refine (recover_any m _ _ _ _ hsl1).mono ?_); rintro e w2 ⟨rfl, he2⟩; have hX := hX.trans he2; first | (have hq2 := hq.ext he2; have hst := run_storeN hq2 (oneRec m (namesU l at_ 18)); have HW9 := Lib.hid (stN hX hq2 (Nat.le_refl _) (oneRec m (namesU l at_ 18)))) | (have hst := run_storeNewN w2 w2.heap.size rfl (oneRec m (namesU l at_ 18)); have HW9 := Lib.hid (hX.alloc' (.cells (nmc (oneRec m (namesU l at_ 18))) 61)))) | ((with_reducible refine (recover_any m _ _ _ _ (hsl1.ext ((Ext.refl _).alloc' _))).mono ?_); rintro e w2 ⟨rfl, he2⟩; have hq2 := (Blk.new w1 61 zcs.toArray).ext he2; have HG2 := Lib.hid hX.size; have hX := (hX.alloc' _).trans he2; have hst := run_storeN hq2 (oneRec m (namesU l at_ 18)); have HW9 := Lib.hid (stN hX hq2 HG2.out (oneRec m (namesU l at_ 18))))))
  all_goals
    obtain ⟨W1, g9, hW, hg, hX1, hb1⟩ : ∃ W1 g1, W1 = _ ∧ g1 = _ ∧ Ext W0.drew W1 ∧ Blk W1 g1 61 (nmc (oneRec m (namesU l at_ 18))) := by first | exact pack9 HW9.out (blkN hq2 (oneRec m (namesU l at_ 18))) | exact pack9 HW9.out (Blk.new w2 61 (nmc (oneRec m (namesU l at_ 18))))
    rw [← hW, ← hg]
    clear hX HW9 hst
    (try clear hq2)
    (try clear hq)
    clear he2 hsl1 he1
    have HX1 := Lib.hid hX1
    have HB1 := Lib.hid hb1
    clear hX1 hb1 hW hg
    go_wp2_with fail
    have HSS1 := Lib.hid (fun (w' : World) (hx : Ext W1.drew w') => cells8 (HB1.out.drew.ext hx))
    have hX := Ext.refl W1.drew
    have HE1 := Lib.hid (show Ext w W1.drew from (HE0.out.trans HX1.out).drew')
    have HAD1 := Lib.hid (fun (o : Obj) => (show Ext W1.drew (W1.alloc o).drew from ((Ext.refl W1.drew).alloc' o : Ext W1.drew (W1.drew.alloc o))))
    have a1 : IntKind.i64.wrap ((at_ : Int) + 144) = (at_ : Int) + 144 := IntWalk.i64_in _ (by omega)
    go_region_held3 (fun w' => (∀ i, i < 8 → w'.cell? ⟨g9, i, none⟩ = some (.int .u8 (nb8 (oneRec m (namesU l at_ 18)) i)))) (first | (with_reducible exact HSS1.out _ hX) | (with_reducible exact HSS1.out _ (HAD1.out _)) | (with_reducible exact HSS1.out _ (hX.alloc' _)) | (with_reducible exact HSS1.out _ HW9.out)) (first | (go_at_call 80; first | ((with_reducible refine (names5 A len c l (at_ + 144) _ HAT.out _ (HSL.out.ext (HE1.out.trans hX)) H40.out H1000b.out).mono ?_); rintro e w1 ⟨g1, rfl, hsl1, he1⟩; have hX := hX.trans he1) | ((with_reducible refine (names5 A len c l (at_ + 144) _ HAT.out _ (HSL.out.ext (HE1.out.trans (HAD1.out _))) H40.out H1000b.out).mono ?_); rintro e w1 ⟨g1, rfl, hsl1, he1⟩; have hq := (Blk.new W1 61 zcs.toArray).drew.ext he1; have hX := (HAD1.out _).trans he1)) | (go_at_call 81; first | ((with_reducible refine (follow32 (oneRec m (namesU l at_ 18)) j _ _ _ _ HD5.out hj hsl1).mono ?_); rintro e w2 ⟨rfl, he2⟩; have hX := hX.trans he2; first | (have hq2 := hq.ext he2; have hst := run_storeN hq2 (compU (oneRec m (namesU l at_ 18)) j 32 (namesU l (at_ + 144) 5)); have HW9 := Lib.hid (stN hX hq2 (Nat.le_refl _) (compU (oneRec m (namesU l at_ 18)) j 32 (namesU l (at_ + 144) 5)))) | (have hst := run_storeNewN w2 w2.heap.size rfl (compU (oneRec m (namesU l at_ 18)) j 32 (namesU l (at_ + 144) 5)); have HW9 := Lib.hid (hX.alloc' (.cells (nmc (compU (oneRec m (namesU l at_ 18)) j 32 (namesU l (at_ + 144) 5))) 61)))) | ((with_reducible refine (follow32 (oneRec m (namesU l at_ 18)) j _ _ _ _ HD5.out hj (hsl1.ext ((Ext.refl _).alloc' _))).mono ?_); rintro e w2 ⟨rfl, he2⟩; have hq2 := (Blk.new w1 61 zcs.toArray).ext he2; have HG2 := Lib.hid hX.size; have hX := (hX.alloc' _).trans he2; have hst := run_storeN hq2 (compU (oneRec m (namesU l at_ 18)) j 32 (namesU l (at_ + 144) 5)); have HW9 := Lib.hid (stN hX hq2 HG2.out (compU (oneRec m (namesU l at_ 18)) j 32 (namesU l (at_ + 144) 5))))))
  all_goals
    obtain ⟨W2, g8, hW, hg, hX2, hb2⟩ : ∃ W2 g1, W2 = _ ∧ g1 = _ ∧ Ext W1.drew W2 ∧ Blk W2 g1 61 (nmc (compU (oneRec m (namesU l at_ 18)) j 32 (namesU l (at_ + 144) 5))) := by first | exact pack9 HW9.out (blkN hq2 (compU (oneRec m (namesU l at_ 18)) j 32 (namesU l (at_ + 144) 5))) | exact pack9 HW9.out (Blk.new w2 61 (nmc (compU (oneRec m (namesU l at_ 18)) j 32 (namesU l (at_ + 144) 5))))
    rw [← hW, ← hg]
    clear hX HW9 hst
    (try clear hq2)
    (try clear hq)
    clear he2 hsl1 he1
    have hz2 := (HBZ.out.ext HX1.out).drew.ext hX2
    have HE2 := Lib.hid (HE1.out.trans hX2)
    have hr8 := rangeN hb2
    clear hW hg
    go_wp2_with (first | (with_reducible refine wpList_loadN rfl (.tmp 11) rfl g8 0 rfl (compU (oneRec m (namesU l at_ 18)) j 32 (namesU l (at_ + 144) 5)) hr8 ?_) | (with_reducible refine wpList_storeN rfl _ _ rfl (w.heap.size + 1) 0 _ rfl rfl (thereZ hz2) ?_))
    refine bodyPost_ret (v := .agg (nmc (compU (oneRec m (namesU l at_ 18)) j 32 (namesU l (at_ + 144) 5)))) (retN rfl _ _ (w.heap.size + 1) _ rfl (blkN hz2 _)) rfl ⟨rfl, Below.setCells' HE2.out (by omega) _ _⟩
end Go.Proofs.Ytengpfpeeihaoaa
