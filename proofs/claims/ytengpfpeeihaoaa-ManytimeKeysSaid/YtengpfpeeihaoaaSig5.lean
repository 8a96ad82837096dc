/- Sign of a key that is fresh (the reference's). -/
import Derived.Test.YtengpfpeeihaoaaSig4
namespace Go.Proofs.Ytengpfpeeihaoaa
open Go.RowKit
set_option linter.unusedVariables false
set_option linter.unusedSimpArgs false
def sig2 (seed : UInt64) (leaf : Nat) (m : UInt64) : List UInt8 :=
  [toB ((leaf / 256 : Nat) : Int), toB (leaf : Int)] ++ (oneSig (keyU seed 1 ((leaf / 32 : Nat) : Int) ((leaf % 32 : Nat) : Int)) m).flatMap nmb ++ (pathU (leavesU seed 1 ((leaf / 32 : Nat) : Int)) (leaf % 32)).flatMap nmb
    ++ (oneSig (keyU seed 2 0 ((leaf / 32 : Nat) : Int)) (rootU (leavesU seed 1 ((leaf / 32 : Nat) : Int)))).flatMap nmb ++ (pathU (leavesU seed 2 0) (leaf / 32)).flatMap nmb
theorem sig2_eq (seed m : UInt64) (leaf t r : Nat) (hr : r < 32) (h : leaf = 32 * t + r) :
    [toB ((leaf : Int) / 256), toB (leaf : Int)] ++ (oneSig (keyU seed 1 (t : Int) ((leaf : Int).tmod 32)) m).flatMap nmb ++ (pathU (leavesU seed 1 (t : Int)) r).flatMap nmb ++ (oneSig (keyU seed 2 0 (t : Int)) (rootU (leavesU seed 1 (t : Int)))).flatMap nmb ++ (pathU (leavesU seed 2 0) t).flatMap nmb = sig2 seed leaf m := by
  have e1 : leaf / 32 = t := by omega
  have e2 : leaf % 32 = r := by omega
  have e3 : (leaf : Int).tmod 32 = (r : Int) := by
    rw [Int.tmod_eq_emod_of_nonneg (by omega)]; omega
  unfold sig2
  rw [e1, e2, e3, show (leaf : Int) / 256 = ((leaf / 256 : Nat) : Int) from by omega]
theorem keyC_app (seed : UInt64) (A : Option Addr) (c : Nat) : keyC seed A c = #[.int .u8 (nb8 seed 0), .int .u8 (nb8 seed 1), .int .u8 (nb8 seed 2), .int .u8 (nb8 seed 3), .int .u8 (nb8 seed 4), .int .u8 (nb8 seed 5), .int .u8 (nb8 seed 6), .int .u8 (nb8 seed 7), .slice A 32 c] ++ Array.replicate 32 (.slice none 0 0) := by
  kernel_rfl
theorem keyC_low (seed : UInt64) (A : Option Addr) (c : Nat) (t : Nat) (ht : t < 32) : (keyC seed A c)[9 + t]? = some (.slice none 0 0) := by
  rw [keyC_app, Array.getElem?_append_right (by simp)]
  simp [ht]
theorem keyC_top (seed : UInt64) (A : Option Addr) (c : Nat) : (keyC seed A c)[8]? = some (.slice A 32 c) := by kernel_rfl
theorem keyC_seed (seed : UInt64) (A : Option Addr) (c : Nat) (i : Nat) (hi : i < 8) : (keyC seed A c)[i]? = some (.int .u8 (nb8 seed i)) := by
  have : i = 0 ∨ i = 1 ∨ i = 2 ∨ i = 3 ∨ i = 4 ∨ i = 5 ∨ i = 6 ∨ i = 7 := by omega
  rcases this with rfl | rfl | rfl | rfl | rfl | rfl | rfl | rfl <;> rfl
theorem cellsK {w : World} {B : Nat} {t : TypeId} {seed : UInt64} {A : Option Addr} {c : Nat} (h : Blk w B t (keyC seed A c)) : ∀ i, i < 8 → w.cell? ⟨B, i, none⟩ = some (.int .u8 (nb8 seed i)) := fun i hi => by
  rw [h.cell, keyC_seed seed A c i hi]
theorem cellsKs {w : World} {B k : Nat} {t : TypeId} {seed : UInt64} {A : Option Addr} {c : Nat} {u : Value} (h : Blk w B t ((keyC seed A c).setIfInBounds (9 + k) u)) : ∀ i, i < 8 → w.cell? ⟨B, i, none⟩ = some (.int .u8 (nb8 seed i)) := fun i hi => by
  rw [h.cell, Array.getElem?_setIfInBounds_ne (by omega), keyC_seed seed A c i hi]
theorem grown_set (w : World) (B i : Nat) (u : Value) : w.grownBy (w.setCell ⟨B, i, none⟩ u) (some B) :=
  ⟨rfl, rfl, rfl, by simp [World.setCell], fun k hk hne => Below.heap_setCell w _ u k (fun e => hne (by rw [e]))⟩
theorem grown_ext_set {w w1 : World} (B i : Nat) (u : Value) (h : Ext w w1) : w.grownBy (w1.setCell ⟨B, i, none⟩ u) (some B) := by
  have g := grown_set w1 B i u
  exact ⟨g.os.trans h.os, g.tape.trans h.tape, g.output.trans h.output, Nat.le_trans h.size g.size, fun k hk hne => (g.block k (Nat.lt_of_lt_of_le hk h.size) hne).trans (h.block k hk)⟩
theorem keyC_size (seed : UInt64) (A : Option Addr) (c : Nat) : (keyC seed A c).size = 41 := by kernel_rfl
/-- a literal of two bytes, both converted -/
def LitB (w : World) (base g : Nat) (a b : Int) : Prop := OwnB w base 5 (some ⟨g, 0, none⟩) 2 2 [toB a, toB b] ∧ Blk w g 5 #[.int .u8 (IntKind.u8.wrap a), .int .u8 (IntKind.u8.wrap b)]
theorem LitB.ext {w w' : World} {base g : Nat} {a b : Int} (h : LitB w base g a b) (he : Ext w w') : LitB w' base g a b := ⟨h.1.ext he, h.2.ext he⟩
theorem litB_at (wl w' : World) (base : Nat) (a b : Int) (hb : base ≤ wl.heap.size) (he : Ext (wl.alloc (.cells #[.int .u8 (IntKind.u8.wrap a), .int .u8 (IntKind.u8.wrap b)] 5)) w') : LitB w' base wl.heap.size a b :=
  LitB.ext ⟨own_lit2 wl base _ _ _ (toB a) (toB b) rfl hb (toB_eq a) (toB_eq b), Blk.new _ _ _⟩ he
theorem namesB_yes {w : World} {base g : Nat} {a b : Int} {N : Option Addr} {c1 : Nat} {ns : List UInt64} (hL : LitB w base g a b) (hN : SlN w N 18 c1 ns) (hb : base ≤ w.heap.size) :
    Calls Try.prog 56 #[.slice (some ⟨g, 0, none⟩) 2 2, .slice N 18 c1] w fun e w' => ∃ A' c', e = .returned (.slice A' 146 c') ∧ OwnB w' base 5 A' 146 c' ([toB a, toB b] ++ ns.flatMap nmb) ∧ Below base w w' := by
  refine (nmsAt 2 18 146 rfl base _ _ _ N c1 ns w hL.1 hN (by omega) hb (fun b o hNb => by
    have := SlN.ne_small hN hL.2 (by simp) b o hNb
    exact this)).mono ?_
  rintro e w' ⟨A', c', rfl, hO, hG, _⟩
  exact ⟨A', c', rfl, hO, Below.grown (Below.refl _ _) hG hb (fun k hk => (World.ownsRow.lt hL.1 k hk).1)⟩
/-- names, appended to a row of one's own, out of a slice that lies elsewhere -/
theorem namesG_yes (n k r : Nat) (hr : n + k * 8 = r) (hk : k ≤ 1000 ∧ n ≤ 1000000) {w : World} {base : Nat} {A : Option Addr} {c : Nat} {l : List UInt8} {N : Option Addr} {c1 : Nat} {ns : List UInt64} (hO : OwnB w base 5 A n c l) (hN : SlN w N k c1 ns) (hb : base ≤ w.heap.size) (hne : ∀ b o, N = some ⟨b, o, none⟩ → Value.ownBlock (.slice A n c) ≠ some b) :
    Calls Try.prog 56 #[.slice A n c, .slice N k c1] w fun e w' => ∃ A' c', e = .returned (.slice A' r c') ∧ OwnB w' base 5 A' r c' (l ++ ns.flatMap nmb) ∧ Below base w w' := by
  refine (nmsAt n k r hr base _ _ _ N c1 ns w hO hN hk hb hne).mono ?_
  rintro e w' ⟨A', c', rfl, hO', hG, _⟩
  exact ⟨A', c', rfl, hO', Below.grown (Below.refl _ _) hG hb (fun k hk => (World.ownsRow.lt hO k hk).1)⟩
/-- what is new does not lie in a row that is older -/
theorem ne_new {w9 wS w5 : World} {base n c m c5 : Nat} {e e' : TypeId} {A A5 : Option Addr} {l : List UInt8} {xs : List Value} (hO : OwnB w9 base e A n c l) (hx : Ext w9.drew wS) (ho : w5.ownsRow wS.heap.size e' 8 (.slice A5 m c5) m xs) (hm : 0 < m) : ∀ b o, A5 = some ⟨b, o, none⟩ → Value.ownBlock (.slice A n c) ≠ some b := by
  intro b o hA hk
  have h1 := (World.ownsRow.lt hO b hk).2
  obtain ⟨g, hg, hge, _⟩ := own_at ho hm
  rw [hA] at hg
  injection hg with hg
  injection hg with e1 e2
  have h3 : w9.heap.size ≤ wS.heap.size := hx.size
  omega
theorem grown_then {w w1 w2 : World} {row : Option Nat} (g : w.grownBy w1 row) (h : Ext w1 w2) : w.grownBy w2 row :=
  ⟨h.os.trans g.os, h.tape.trans g.tape, h.output.trans g.output, Nat.le_trans g.size h.size, fun k hk hne => (h.block k (Nat.lt_of_lt_of_le hk g.size)).trans (g.block k hk hne)⟩
theorem names3_yes {w : World} {base : Nat} {A : Option Addr} {c : Nat} {l : List UInt8} {N : Option Addr} {c1 : Nat} {ns : List UInt64} (hO : OwnB w base 5 A 330 c l) (hN : SlN w N 5 c1 ns) (hb : base ≤ w.heap.size) (hlow : ∀ b o, N = some ⟨b, o, none⟩ → b < base) :
    Calls Try.prog 56 #[.slice A 330 c, .slice N 5 c1] w fun e w' => ∃ A' c', e = .returned (.slice A' 370 c') ∧ OwnB w' base 5 A' 370 c' (l ++ ns.flatMap nmb) ∧ Below base w w' :=
  namesG_yes 330 5 370 rfl (by omega) hO hN hb (fun b o hNb hk => by
    have h1 := (World.ownsRow.lt hO b hk).1
    have h2 := hlow b o hNb
    omega)
set_option maxRecDepth 100000 in
set_option maxHeartbeats 4000000 in
theorem refKSign_yes (seed m : UInt64) (leaf t r : Nat) (ht : t < 32) (hr : r < 32) (hleaf : leaf = 32 * t + r) (B : Nat) (AT : Option Addr) (cT : Nat) (w : World) (hK : Blk w B 108 (keyC seed AT cT)) (hT : SlN w AT 32 cT (leavesU seed 2 0)) :
    Calls Try.prog 53 #[.pointer (some ⟨B, 0, none⟩), .int .i64 (leaf : Int), .agg (nmc m)] w fun e w' => ∃ A c, e = .returned (.tuple #[.slice A 370 c, .bool true]) ∧ SlB w' A 370 c (sig2 seed leaf m) ∧ w.grownBy w' (some B) := by
  have l0 : (0 : Int) ≤ (leaf : Int) := by omega
  have l1 : (leaf : Int) < 1024 := by omega
  have hd : (leaf : Int) / 32 = (t : Int) := by omega
  have hrm : (leaf : Int) % 32 = (r : Int) := by omega
  have t0 : (0 : Int) ≤ (t : Int) := by omega
  have t1 : (t : Int) < 32 := by omega
  have HK := Lib.hid hK
  have HT := Lib.hid hT
  have hdn : leaf / 32 = t := by omega
  have HLF := Lib.hid hleaf
  clear hleaf
  have hK1 := hK.alloc (.cells (nmc m) 61)
  have hcB : (w.alloc (.cells (nmc m) 61)).cell? ⟨B, 9 + t, none⟩ = some (.slice none 0 0) := by
    rw [hK1.cell, keyC_low seed AT cT _ ht]
  have HK1 := Lib.hid hK1
  have HBM := Lib.hid (Blk.new w 61 (nmc m))
  clear hK hT hK1
  go_enter Try.func53, Try.ntmps53
  go_wp2_with fail
  clear hcB
  have HSS := Lib.hid (fun (w' : World) (hx : Ext (w.alloc (.cells (nmc m) 61)).drew w') => cellsK (HK1.out.drew.ext hx))
  have HST := Lib.hid (fun (w' : World) (hx : Ext (w.alloc (.cells (nmc m) 61)).drew w') (u : Value) => cellsKs ((HK1.out.drew.ext hx).set (9 + t) u))
  have HCF := Lib.hid (fun (w' : World) (hx : Ext (w.alloc (.cells (nmc m) 61)).drew w') => (⟨by rw [(HK1.out.drew.ext hx).cell, keyC_low seed AT cT _ (by omega)], (HK1.out.drew.ext hx).frozen _⟩ : w'.cell? ⟨B, 9 + t, none⟩ = some (.slice none 0 0) ∧ w'.frozen? ⟨B, 9 + t, none⟩ = false))
  have hX := Ext.refl (w.alloc (.cells (nmc m) 61)).drew
  have HZ0 := Lib.hid (show (0 : Int) ≤ (t : Int) ∧ (t : Int) ≤ 100000 from by omega)
  go_region_held3 (fun w' => (∀ i, i < 8 → w'.cell? ⟨B, i, none⟩ = some (.int .u8 (nb8 seed i)))) (first | (with_reducible exact HSS.out _ hX) | (with_reducible exact HST.out _ hX _) | fail "CELLS") (first | (go_at_call 55; (with_reducible refine (refLeaves_any seed 1 _ HZ0.out.1 HZ0.out.2 _).mono ?_); rintro e w1 ⟨A1, c1, rfl, hs1, he1⟩; have hX := hX.trans he1; obtain ⟨hc1, hf1⟩ := HCF.out _ hX) | fail "LEAVES")
  have HEW := Lib.hid (show Ext w w1 from (((Ext.refl w).alloc' (.cells (nmc m) 61)).drew').trans hX)
  have hk1 := HK1.out.drew.ext hX
  have hbm1 := HBM.out.drew.ext hX
  have hneB : w.heap.size ≠ B := by have := HK.out.lt; omega
  have HG5 := Lib.hid (grown_ext_set B (9 + t) (.slice A1 32 c1) HEW.out)
  have HS5 := Lib.hid (hs1.grown (grown_set w1 B (9 + t) (.slice A1 32 c1)) (SlN.ne_small hs1 hk1 (by rw [keyC_size]; omega)))
  have hT1 := HT.out.ext HEW.out
  have HT5 := Lib.hid (hT1.grown (grown_set w1 B (9 + t) (.slice A1 32 c1)) (SlN.ne_small hT1 hk1 (by rw [keyC_size]; omega)))
  have HBM5 := Lib.hid (Blk.far hbm1 (p := ⟨B, 9 + t, none⟩) hneB (.slice A1 32 c1))
  have HK5 := Lib.hid (hk1.set (9 + t) (.slice A1 32 c1))
  generalize w1.setCell ⟨B, 9 + t, none⟩ (.slice A1 32 c1) = w5 at *
  have hcB5 : w5.cell? ⟨B, 9 + t, none⟩ = some (.slice A1 32 c1) := by
    rw [HK5.out.cell, Array.getElem?_setIfInBounds_self_of_lt (by rw [keyC_size]; omega)]
  have hcT5 : w5.cell? ⟨B, 8, none⟩ = some (.slice AT 32 cT) := by
    rw [HK5.out.cell, Array.getElem?_setIfInBounds_ne (by omega), keyC_top]
  clear hc1 hf1 hk1 hbm1 hs1 hT1
  go_wp2_with fail
  refine (refPath_any 32 32 r A1 c1 _ _ (by omega) (by omega) hr HS5.out).mono ?_
  rintro e w6 ⟨A6, c6, rfl, ho6, he6⟩
  rw [dep32 r hr] at ho6 ⊢
  have HP6 := Lib.hid (SlN.of_own ho6)
  have hcT6 : w6.cell? ⟨B, 8, none⟩ = some (.slice AT 32 cT) := by
    rw [(HK5.out.ext he6).cell, Array.getElem?_setIfInBounds_ne (by omega), keyC_top]
  have HE6 := Lib.hid he6
  clear ho6 he6 hcB5 hcT5
  go_wp2_with fail
  refine (refPath_any 32 32 t AT cT _ _ (by omega) (by omega) ht (HT5.out.ext HE6.out)).mono ?_
  rintro e w7 ⟨A7, c7, rfl, ho7, he7⟩
  rw [dep32 t ht] at ho7 ⊢
  have HP7 := Lib.hid (SlN.of_own ho7)
  have HE7 := Lib.hid (HE6.out.trans he7)
  have HP6' := Lib.hid (HP6.out.ext he7)
  clear ho7 he7 hcT6
  go_wp2_with fail
  have HB7 := Lib.hid (HK5.out.ext HE7.out)
  have HM7 := Lib.hid (HBM5.out.ext HE7.out)
  have HS8 := Lib.hid (fun (w' : World) (hx : Ext w7.drew w') => (⟨cellsKs (HB7.out.drew.ext hx), cells8 (HM7.out.drew.ext hx)⟩ : (∀ i, i < 8 → w'.cell? ⟨B, i, none⟩ = some (.int .u8 (nb8 seed i))) ∧ (∀ i, i < 8 → w'.cell? ⟨w.heap.size, i, none⟩ = some (.int .u8 (nb8 m i)))))
  clear hX
  have hX := Ext.refl w7.drew
  have HAD := Lib.hid (fun (o : Obj) => (show Ext w7.drew (w7.alloc o).drew from ((Ext.refl w7.drew).alloc' o : Ext w7.drew (w7.drew.alloc o))))
  have HSP2 := Lib.hid (fun (w' : World) (hx : Ext w7.drew w') => HP6'.out.ext ((Ext.refl w7).drew'.trans hx))
  have HPL := Lib.hid (show ∀ b o, A6 = some ⟨b, o, none⟩ → b < w7.heap.size from fun b o e => by
    obtain ⟨b', o', e', _, hlt⟩ := HP6'.out.at (by omega)
    rw [e] at e'; injection e' with e'; injection e' with e1 _
    rw [e1]; exact hlt)
  go_region_held3 (fun w' => (∀ i, i < 8 → w'.cell? ⟨B, i, none⟩ = some (.int .u8 (nb8 seed i))) ∧ (∀ i, i < 8 → w'.cell? ⟨w.heap.size, i, none⟩ = some (.int .u8 (nb8 m i)))) (first | (with_reducible exact HS8.out _ hX) | (with_reducible exact HS8.out _ (HAD.out _)) | (with_reducible exact HS8.out _ (hX.alloc' _)) | fail "CELLS") (first | (go_at_call 58; (with_reducible refine (refKey_any seed 1 _ _ HZ0.out.1 HZ0.out.2 _).mono ?_); rintro e w3 ⟨rfl, he3⟩; first | (have hL := litB_at w7 _ w7.heap.size ((leaf : Int) / 256) (leaf : Int) (Nat.le_refl _) ((Ext.refl _).drew'.trans he3); have hX := (HAD.out _).trans he3) | (have hX := hX.trans he3) | fail "KEY") | (go_at_call 57; (with_reducible refine (refOneSign_any _ m _).mono ?_); rintro e w4 ⟨A4, c4, rfl, hs4, he4⟩; have hX4 := Lib.hid (fun (o : Obj) => (Ext.refl w4).alloc' o); first | (have hL := hL.ext he4; have hX := hX.trans he4) | (have hL := litB_at w3 _ w7.heap.size ((leaf : Int) / 256) (leaf : Int) hX.size he4; have hX := (hX.alloc' _).trans he4) | (have hX := hX.trans he4) | fail "SIGN") | (go_at_call 56; first | (have hb5 : w7.heap.size ≤ w4.heap.size := hX.size; (with_reducible refine (namesB_yes hL hs4 hb5).mono ?_); rintro e w8 ⟨A8, c8, rfl, hO8, hB8⟩; have hX := Below.trans hX hB8) | (have hL := litB_at w4 _ w7.heap.size ((leaf : Int) / 256) (leaf : Int) hX.size (Ext.refl _); have hb5 := Lib.hid (fun (o : Obj) => (show w7.heap.size ≤ (w4.alloc o).heap.size from (hX.alloc' o).size)); (with_reducible refine (namesB_yes hL (hs4.ext (hX4.out _)) (hb5.out _)).mono ?_); rintro e w8 ⟨A8, c8, rfl, hO8, hB8⟩; have hX := Below.trans (hX.alloc' _) hB8) | (have hb6 : w7.heap.size ≤ w8.heap.size := hX.size; (with_reducible refine (names2_yes hO8 (HSP2.out _ hX) hb6 HPL.out).mono ?_); rintro e w9 ⟨A9, c9, rfl, hO9, hB9⟩; have hX := Below.trans hX hB9) | fail "NAMES") | fail "ARM")
  all_goals (
    clear hL
    have HO9 := Lib.hid hO9
    have HXY := Lib.hid (fun (w' : World) (hy : Ext w9.drew w') => Ext.trans (Ext.drew' hX) hy)
    have HS9 := Lib.hid (fun (w' : World) (hx : Ext w7.drew w') => (⟨cellsKs (HB7.out.drew.ext hx), by rw [(HB7.out.drew.ext hx).cell, Array.getElem?_setIfInBounds_self_of_lt (by rw [keyC_size]; omega)]⟩ : (∀ i, i < 8 → w'.cell? ⟨B, i, none⟩ = some (.int .u8 (nb8 seed i))) ∧ w'.cell? ⟨B, 9 + t, none⟩ = some (.slice A1 32 c1)))
    have HSR := Lib.hid (fun (w' : World) (hx : Ext w7.drew w') => (HS5.out.ext HE7.out).ext ((Ext.refl w7).drew'.trans hx))
    have HPQ := Lib.hid (fun (w' : World) (hx : Ext w7.drew w') => HP7.out.ext ((Ext.refl w7).drew'.trans hx))
    have HZ2 := Lib.hid (show (0 : Int) ≤ (0 : Int) ∧ (0 : Int) ≤ 100000 from by omega)
    have H32 := Lib.hid (show 32 ≤ 32 ∧ 32 ≤ 1000000 from by omega)
    have HQL := Lib.hid (show ∀ b o, A7 = some ⟨b, o, none⟩ → b < w7.heap.size from fun b o e => by
      obtain ⟨b', o', e', _, hlt⟩ := HP7.out.at (by omega)
      rw [e] at e'; injection e' with e'; injection e' with e1 _
      rw [e1]; exact hlt)
    have hb9 : w7.heap.size ≤ w9.heap.size := hX.size
    clear hX hO9
    go_wp2_with fail
    have hY := Ext.refl w9.drew
    have HK18 := Lib.hid (show 18 ≤ 1000 ∧ 186 ≤ 1000000 from by omega)
    have HK5b := Lib.hid (show 5 ≤ 1000 ∧ 330 ≤ 1000000 from by omega)
    have H180 := Lib.hid (show 0 < 18 from by omega)
    go_region_held3 (fun w' => (∀ i, i < 8 → w'.cell? ⟨B, i, none⟩ = some (.int .u8 (nb8 seed i))) ∧ w'.cell? ⟨B, 9 + t, none⟩ = some (.slice A1 32 c1)) (first | (with_reducible exact HS9.out _ hX) | (with_reducible exact HS9.out _ (HXY.out _ hY)) | fail "CELLS") (first | (go_at_call 58; (with_reducible refine (refKey_any seed 2 0 _ HZ2.out.1 HZ2.out.2 _).mono ?_); rintro e w3 ⟨rfl, he3⟩; have hY := hY.trans he3) | (go_at_call 59; (with_reducible refine (refRoot_any 32 32 A1 c1 _ _ H32.out.1 H32.out.2 (HSR.out _ (HXY.out _ hY))).mono ?_); rintro e w4 ⟨rfl, he4⟩; have hY := hY.trans he4) | (go_at_call 57; (with_reducible refine (refOneSign_own _ _ _).mono ?_); rintro e w5 ⟨A5, c5, rfl, hs5, he5⟩; have HNE := Lib.hid (ne_new HO9.out hY hs5 H180.out); have hN5 := SlN.of_own hs5; have hY := hY.trans he5; have hO5 := HO9.out.ext ((Ext.refl w9).drew'.trans hY); clear hs5) | (go_at_call 56; first | (have hb5 : w7.heap.size ≤ w5.heap.size := Nat.le_trans hb9 hY.size; (with_reducible refine (namesG_yes 186 18 330 rfl HK18.out hO5 hN5 hb5 HNE.out).mono ?_); rintro e w10 ⟨A10, c10, rfl, hO10, hB10⟩; have hX := Below.trans (HXY.out _ hY) hB10) | (have hb6 : w7.heap.size ≤ w10.heap.size := hX.size; (with_reducible refine (names3_yes hO10 (HPQ.out _ hX) hb6 HQL.out).mono ?_); rintro e w11 ⟨A11, c11, rfl, hO11, hB11⟩; have hX := Below.trans hX hB11) | fail "NAMES") | fail "ARM")
    all_goals (
      go_wp2_with fail
      go_ret2
      refine ⟨A11, c11, rfl, ?_, grown_then HG5.out (HE7.out.trans ((Ext.refl w7).drew'.trans hX))⟩
      rw [← sig2_eq seed m leaf t r hr HLF.out]
      exact hO11.sl))
end Go.Proofs.Ytengpfpeeihaoaa
