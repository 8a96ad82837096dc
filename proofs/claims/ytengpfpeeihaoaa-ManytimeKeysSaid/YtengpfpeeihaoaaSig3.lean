/- Sign (the reference's) at one level. -/
import Derived.Test.YtengpfpeeihaoaaSig2
namespace Go.Proofs.Ytengpfpeeihaoaa
open Go.RowKit
set_option linter.unusedVariables false
set_option linter.unusedSimpArgs false

/-- names at lengths that are known -/
theorem nmsAt (n k r : Nat) (hr : n + k * 8 = r) (base : Nat) (A : Option Addr) (c : Nat) (l : List UInt8) (N : Option Addr) (c1 : Nat) (ns : List UInt64) (w : World) (hO : OwnB w base 5 A n c l) (hN : SlN w N k c1 ns) (hk : k ≤ 1000 ∧ n ≤ 1000000) (hb : base ≤ w.heap.size)
    (hne : ∀ b o, N = some ⟨b, o, none⟩ → Value.ownBlock (.slice A n c) ≠ some b) :
    Calls Try.prog 56 #[.slice A n c, .slice N k c1] w fun e w' => ∃ A' c', e = .returned (.slice A' r c') ∧ OwnB w' base 5 A' r c' (l ++ ns.flatMap nmb) ∧ w.grownBy w' (Value.ownBlock (.slice A n c)) ∧ (∀ g, Value.ownBlock (.slice A' r c') = some g → Value.ownBlock (.slice A n c) = some g ∨ w.heap.size ≤ g) := by
  subst hr; exact refNames_any base A n c l N k c1 ns w hO hN hk.1 hk.2 hb hne
def sig1 (seed : UInt64) (leaf : Nat) (m : UInt64) : List UInt8 := [0, toB (leaf : Int)] ++ (oneSig (keyU seed 1 0 (leaf : Int)) m).flatMap nmb ++ (pathU (leavesU seed 1 0) leaf).flatMap nmb
/-- a world that has only grown, but for a block that is new -/
theorem ext_own {w0 w w' : World} {e : TypeId} {size : Nat} {v : Value} {n : Nat} {xs : List Value} (hX : Ext w0 w) (hO : w.ownsRow w0.heap.size e size v n xs) (hG : w.grownBy w' (Value.ownBlock v)) : Ext w0 w' :=
  Below.grown hX hG hX.size (fun k hk => (World.ownsRow.lt hO k hk).1)
/-- a literal of two bytes -/
def Lit2 (w : World) (base g : Nat) (leaf : Int) : Prop := OwnB w base 5 (some ⟨g, 0, none⟩) 2 2 [0, toB leaf] ∧ Blk w g 5 #[.int .u8 0, .int .u8 (IntKind.u8.wrap leaf)]
theorem Lit2.ext {w w' : World} {base g : Nat} {leaf : Int} (h : Lit2 w base g leaf) (he : Ext w w') : Lit2 w' base g leaf := ⟨h.1.ext he, h.2.ext he⟩
theorem lit2_at (wl w' : World) (base : Nat) (leaf : Int) (hb : base ≤ wl.heap.size) (he : Ext (wl.alloc (.cells #[.int .u8 0, .int .u8 (IntKind.u8.wrap leaf)] 5)) w') : Lit2 w' base wl.heap.size leaf :=
  Lit2.ext ⟨own_lit2 wl base _ 0 _ 0 (toB leaf) rfl hb rfl (toB_eq leaf), Blk.new _ _ _⟩ he
theorem names1_yes {w : World} {base g : Nat} {leaf : Int} {N : Option Addr} {c1 : Nat} {ns : List UInt64} (hL : Lit2 w base g leaf) (hN : SlN w N 18 c1 ns) (hb : base ≤ w.heap.size) :
    Calls Try.prog 56 #[.slice (some ⟨g, 0, none⟩) 2 2, .slice N 18 c1] w fun e w' => ∃ A' c', e = .returned (.slice A' 146 c') ∧ OwnB w' base 5 A' 146 c' ([0, toB leaf] ++ ns.flatMap nmb) ∧ Below base w w' := by
  refine (nmsAt 2 18 146 rfl base _ _ _ N c1 ns w hL.1 hN (by omega) hb (fun b o hNb => by
    have := SlN.ne_small hN hL.2 (by simp) b o hNb
    exact this)).mono ?_
  rintro e w' ⟨A', c', rfl, hO, hG, _⟩
  exact ⟨A', c', rfl, hO, Below.grown (Below.refl _ _) hG hb (fun k hk => (World.ownsRow.lt hL.1 k hk).1)⟩
theorem names2_yes {w : World} {base : Nat} {A : Option Addr} {c : Nat} {l : List UInt8} {N : Option Addr} {c1 : Nat} {ns : List UInt64} (hO : OwnB w base 5 A 146 c l) (hN : SlN w N 5 c1 ns) (hb : base ≤ w.heap.size) (hlow : ∀ b o, N = some ⟨b, o, none⟩ → b < base) :
    Calls Try.prog 56 #[.slice A 146 c, .slice N 5 c1] w fun e w' => ∃ A' c', e = .returned (.slice A' 186 c') ∧ OwnB w' base 5 A' 186 c' (l ++ ns.flatMap nmb) ∧ Below base w w' := by
  refine (nmsAt 146 5 186 rfl base _ _ _ N c1 ns w hO hN (by omega) hb (fun b o hNb hk => by
    have h1 := (World.ownsRow.lt hO b hk).1
    have h2 := hlow b o hNb
    omega)).mono ?_
  rintro e w' ⟨A', c', rfl, hO', hG, _⟩
  exact ⟨A', c', rfl, hO', Below.grown (Below.refl _ _) hG hb (fun k hk => (World.ownsRow.lt hO k hk).1)⟩
set_option maxRecDepth 100000 in
set_option maxHeartbeats 4000000 in
theorem refSign1_yes (seed m : UInt64) (leaf : Nat) (hlf : leaf < 32) (w : World) :
    Calls Try.prog 36 #[.agg (nmc seed), .int .i64 1, .int .i64 (leaf : Int), .agg (nmc m)] w fun e w' => ∃ A c, e = .returned (.tuple #[.slice A 186 c, .bool true]) ∧ SlB w' A 186 c (sig1 seed leaf m) ∧ Ext w w' := by
  have hbs := (Blk.new w 61 (nmc seed)).alloc (.cells (nmc m) 61)
  have hbm : Blk ((w.alloc (.cells (nmc seed) 61)).alloc (.cells (nmc m) 61)) (w.heap.size + 1) 61 (nmc m) := Blk.newAt _ _ _ _ (by simp)
  have HE0 := Lib.hid (((Ext.refl w).alloc' (.cells (nmc seed) 61)).alloc' (.cells (nmc m) 61))
  have HBS := Lib.hid hbs
  have HBM := Lib.hid hbm
  have hrs := rangeN hbs
  have l0 : (0 : Int) ≤ (leaf : Int) := by omega
  have l1 : (leaf : Int) < 32 := by omega
  have HDP := Lib.hid (dep32 leaf hlf)
  have HT := Lib.hid (toB_eq (leaf : Int))
  clear hbs hbm
  go_enter Try.func36, Try.ntmps36
  go_wp2_with (with_reducible refine wpList_loadN rfl (.tmp 4) rfl w.heap.size 0 rfl seed hrs ?_)
  refine (refLeaves_any seed 1 0 (by omega) (by omega) _).mono ?_
  rintro e w1 ⟨A1, c1, rfl, hs1, he1⟩
  clear hrs
  go_wp2_with fail
  refine (refPath_any 32 32 leaf A1 c1 _ _ (by omega) (by omega) hlf hs1).mono ?_
  rintro e w2 ⟨A2, c2, rfl, ho2, he2⟩
  rw [HDP.out] at ho2 ⊢
  have hsp := SlN.of_own ho2
  have HSP := Lib.hid hsp
  have HE2 := Lib.hid (HE0.out.trans (he1.trans he2))
  have HBS2 := Lib.hid (HBS.out.ext (he1.trans he2))
  have HBM2 := Lib.hid (HBM.out.ext (he1.trans he2))
  have HPL := Lib.hid (show ∀ b o, A2 = some ⟨b, o, none⟩ → b < w2.heap.size from fun b o e => by
    obtain ⟨b', o', e', _, hlt⟩ := hsp.at (by omega)
    rw [e] at e'; injection e' with e'; injection e' with e1 _
    rw [e1]; exact hlt)
  clear ho2 he1 he2 hs1 hsp HBS HBM HE0
  go_wp2_with fail
  have HSS := Lib.hid (fun (w' : World) (hx : Ext w2.drew w') => (⟨cells8 (HBS2.out.drew.ext hx), cells8 (HBM2.out.drew.ext hx)⟩ : (∀ i, i < 8 → w'.cell? ⟨w.heap.size, i, none⟩ = some (.int .u8 (nb8 seed i))) ∧ (∀ i, i < 8 → w'.cell? ⟨w.heap.size + 1, i, none⟩ = some (.int .u8 (nb8 m i)))))
  have hX := Ext.refl w2.drew
  have HAD := Lib.hid (fun (o : Obj) => (show Ext w2.drew (w2.alloc o).drew from ((Ext.refl w2.drew).alloc' o : Ext w2.drew (w2.drew.alloc o))))
  have HZ0 := Lib.hid (show (0 : Int) ≤ 0 ∧ (0 : Int) ≤ 100000 from by omega)
  have H18 := Lib.hid (show 18 ≤ 1000 ∧ 2 ≤ 1000000 from by omega)
  have H5 := Lib.hid (show 5 ≤ 1000 ∧ 146 ≤ 1000000 from by omega)
  have HLB := Lib.hid (show (0 : Int) = ((0 : UInt8).toNat : Int) from rfl)
  have HSP2 := Lib.hid (fun (w' : World) (hx : Ext w2.drew w') => HSP.out.ext ((Ext.refl w2).drew'.trans hx))
  go_region_held3 (fun w' => (∀ i, i < 8 → w'.cell? ⟨w.heap.size, i, none⟩ = some (.int .u8 (nb8 seed i))) ∧ (∀ i, i < 8 → w'.cell? ⟨w.heap.size + 1, i, none⟩ = some (.int .u8 (nb8 m i)))) (first | (with_reducible exact HSS.out _ hX) | (with_reducible exact HSS.out _ (HAD.out _)) | (with_reducible exact HSS.out _ (hX.alloc' _)) | (with_reducible exact HSS.out _ HW9.out)) (first | (go_at_call 58; (with_reducible refine (refKey_any seed 1 0 _ HZ0.out.1 HZ0.out.2 _).mono ?_); rintro e w3 ⟨rfl, he3⟩; first | (have hL := lit2_at w2 _ w2.heap.size (leaf : Int) (Nat.le_refl _) ((Ext.refl _).drew'.trans he3); have hX := (HAD.out _).trans he3) | (have hX := hX.trans he3)) | (go_at_call 57; (with_reducible refine (refOneSign_any _ m _).mono ?_); rintro e w4 ⟨A4, c4, rfl, hs4, he4⟩; have hX4 := Lib.hid (fun (o : Obj) => (Ext.refl w4).alloc' o); first | (have hL := hL.ext he4; have hX := hX.trans he4) | (have hL := lit2_at w3 _ w2.heap.size (leaf : Int) hX.size he4; have hX := (hX.alloc' _).trans he4) | (have hX := hX.trans he4)) | (go_at_call 56; first | (have hb5 : w2.heap.size ≤ w4.heap.size := hX.size; (with_reducible refine (names1_yes hL hs4 hb5).mono ?_); rintro e w5 ⟨A5, c5, rfl, hO5, hB5⟩; have hX := Below.trans hX hB5) | (have hL := lit2_at w4 _ w2.heap.size (leaf : Int) hX.size (Ext.refl _); have hb5 := Lib.hid (fun (o : Obj) => (show w2.heap.size ≤ (w4.alloc o).heap.size from (hX.alloc' o).size)); (with_reducible refine (names1_yes hL (hs4.ext (hX4.out _)) (hb5.out _)).mono ?_); rintro e w5 ⟨A5, c5, rfl, hO5, hB5⟩; have hX := Below.trans (hX.alloc' _) hB5) | (have hb6 : w2.heap.size ≤ w5.heap.size := hX.size; (with_reducible refine (names2_yes hO5 (HSP2.out _ hX) hb6 HPL.out).mono ?_); rintro e w6 ⟨A6, c6, rfl, hO6, hB6⟩; have hX := Below.trans hX hB6) | fail "NAMES"))
  all_goals (go_wp2_with fail; go_ret2; exact ⟨A6, c6, rfl, hO6.sl, HE2.out.trans ((Ext.refl w2).drew'.trans hX)⟩)
end Go.Proofs.Ytengpfpeeihaoaa
