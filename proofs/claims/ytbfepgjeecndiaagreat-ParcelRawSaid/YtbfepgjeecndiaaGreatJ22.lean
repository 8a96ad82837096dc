/- The vote that bytes tell (the reference's Decode). -/
import Derived.Test.YtbfepgjeecndiaaGreatJ16
import Derived.Test.YtbfepgjeecndiaaGreatJ19
namespace Go.Proofs.YtbfepgjeecndiaaGreat
set_option maxRecDepth 100000
set_option maxHeartbeats 8000000
open Go.RowKit
set_option linter.unusedVariables false
set_option linter.unusedSimpArgs false
attribute [local go_sem ↓] Go.wp_at_zero Go.wp_at_succ
theorem or2v (x y : UInt8) : bits .or .i64 ((x.toNat : Int) * 256) (y.toNat : Int) = ((x.toNat * 256 + y.toNat : Nat) : Int) := by
 have h1 := x.toNat_lt
 have h2 := y.toNat_lt
 have f : ∀ n : Nat, n < 9223372036854775808 → (BitVec.ofInt 64 (n : Int)).toNat = n := fun n hn => by rw [BitVec.toNat_ofInt]; omega
 have ho : x.toNat * 256 ||| y.toNat = x.toNat * 256 + y.toNat := by
  rw [show x.toNat * 256 = x.toNat <<< 8 from by rw [Nat.shiftLeft_eq], ← Nat.shiftLeft_add_eq_or_of_lt (by omega)]
 show IntKind.i64.wrap ((BitVec.ofInt 64 ((x.toNat : Int) * 256) ||| BitVec.ofInt 64 (y.toNat : Int)).toNat : Int) = _
 have e : (x.toNat : Int) * 256 = ((x.toNat * 256 : Nat) : Int) := by omega
 rw [e, BitVec.toNat_or, f _ (by omega), f _ (by omega), ho, IntKind.wrap_i64]
 omega
theorem num52 {l : List UInt8} (h : l.length = 23) : numAt l 5 2 = (byt l 5).toNat * 256 + (byt l 6).toNat := by
 have hb : ∀ a b : UInt8, beNat [a, b] = a.toNat * 256 + b.toNat := fun a b => by simp [beNat]
 have e : (l.drop 5).take 2 = [byt l 5, byt l 6] := by
  apply List.ext_getElem
  ·rw [List.length_take, List.length_drop]; simp; omega
  ·intro i h1 h2
   have hi : i < 2 := by simpa using h2
   unfold byt
   rcases (by omega : i = 0 ∨ i = 1) with rfl | rfl <;> simp [List.getD_eq_getElem?_getD, List.getElem?_eq_getElem, h]
 unfold numAt
 rw [e, hb]
abbrev b7 (W : World) (b o : Nat) (l : List UInt8) : Prop := b5 W b o l ∧ W.cell? ⟨b, o + 5, none⟩ = some (.int .u8 ((byt l 5).toNat : Int)) ∧ W.cell? ⟨b, o + 6, none⟩ = some (.int .u8 ((byt l 6).toNat : Int))
theorem b7_of {w : World} {b o : Nat} {l : List UInt8} (h : w.rangeAt b o (bcs l)) (hl : l.length = 23) : b7 w b o l := ⟨b5_of h hl, byt_at h (i := 5) (by omega), byt_at h (i := 6) (by omega)⟩
theorem rVtDec_yes (A : Option Addr) (c : Nat) (l : List UInt8) (w : World) (hS : SlB w A 23 c l) : Calls Tryz.prog 85 #[.slice A 23 c] w fun e w' => e = .returned (.tuple #[.agg (vtA (vdV l)), .int .i64 (vdC l)]) ∧ Ext w w' := by
 have hl := hS.len
 have hcap := hS.cap
 have hle := hS.le
 obtain ⟨b, o, rfl, hr, hb⟩ := hS.at (by omega)
 have HE := Lib.hid ((Ext.refl w).alloc' (.cells (vtZ 0 0 0 0 0 0) 46))
 have HB := Lib.hid (Blk.new w 46 (vtZ 0 0 0 0 0 0))
 have HR := Lib.hid (fun (W : World) (h : Ext w W) => rangeAt_keep hr (h.block b hb))
 have HL := Lib.hid hl
 have hwr : IntKind.i64.wrap (((byt l 5).toNat : Int) * 256) = ((byt l 5).toNat : Int) * 256 := by
  have := (byt l 5).toNat_lt
  rw [IntKind.wrap_i64]; omega
 have hor : bits .or .i64 (((byt l 5).toNat : Int) * 256) ((byt l 6).toNat : Int) = ((numAt l 5 2 : Nat) : Int) := by rw [num52 hl]; exact or2v _ _
 have hck : ¬ c = 7 := by omega
 have i15 : (15 : Int) ≤ (c : Int) := by omega
 have i23 : (23 : Int) ≤ (c : Int) := by omega
 have hck2 : ¬ c = 15 := by omega
 clear hS hr hl
 go_enter Tryz.func85, Tryz.ntmps85
 go_upto_region 5 with (fail)
 obtain ⟨W1, hW1⟩ : ∃ W1, w.alloc (.cells (vtZ 0 0 0 0 0 0) 46) = W1 := ⟨_, rfl⟩
 rw [hW1] at HE HB
 have HSS := Lib.hid (fun (W : World) (h : Ext W1 W) => b7_of (HR.out W (HE.out.trans h)) HL.out)
 have i0 : (0 : Int) < 23 := by omega
 rw [hW1]
 refine wp_region_held_drew (S := fun W => Ext W1 W) (by kernel_rfl) ((Ext.refl W1).drew') (fun hHeld => ?_)
 (refine wr 0 (oi := ⟨some 13, .move (.tmp 0), 28, "ref.go:117", #[], none⟩) (v := ?_) rfl (by kernel_rfl) (by rfl) (fun _ _ _ h => h) ?h hHeld ?_; case h => (intro W hSW; go_simp <;> with_reducible rfl))
 try simp only [lays]
 (refine wr 1 (oi := ⟨some 14, .indexAddr 28 (.tmp 13) (.const (.int .i64 0)), 0, "ref.go:117", #[⟨0, .data⟩], none⟩) (v := ?_) rfl (by kernel_rfl) (by rfl) (fun _ _ _ h => h) ?h hHeld ?_; case h => (intro W hSW; go_simp <;> with_reducible rfl))
 try simp only [lays]
 (refine wr 2 (oi := ⟨some 15, .load 5 (.tmp 14), 5, "ref.go:117", #[⟨1, .data⟩], none⟩) (v := ?_) rfl (by kernel_rfl) (by rfl) (fun _ _ _ h => h) ?h hHeld ?_; case h => (intro W hSW; obtain ⟨⟨s0, s1, s2, s3, s4⟩, s5, s6⟩ := HSS.out W hSW; go_simp <;> with_reducible rfl))
 try simp only [lays]
 (refine wr 3 (oi := ⟨some 16, .convert 5 3 (.tmp 15), 3, "ref.go:117", #[⟨2, .data⟩], none⟩) (v := ?_) rfl (by kernel_rfl) (by rfl) (fun _ _ _ h => h) ?h hHeld ?_; case h => (intro W hSW; obtain ⟨⟨s0, s1, s2, s3, s4⟩, s5, s6⟩ := HSS.out W hSW; go_simp <;> with_reducible rfl))
 try simp only [lays]
 (refine wr 4 (oi := ⟨some 17, .move (.tmp 0), 28, "ref.go:117", #[], none⟩) (v := ?_) rfl (by kernel_rfl) (by rfl) (fun _ _ _ h => h) ?h hHeld ?_; case h => (intro W hSW; go_simp <;> with_reducible rfl))
 try simp only [lays]
 (refine wr 5 (oi := ⟨some 18, .indexAddr 28 (.tmp 17) (.const (.int .i64 1)), 0, "ref.go:117", #[⟨4, .data⟩], none⟩) (v := ?_) rfl (by kernel_rfl) (by rfl) (fun _ _ _ h => h) ?h hHeld ?_; case h => (intro W hSW; go_simp <;> with_reducible rfl))
 try simp only [lays]
 (refine wr 6 (oi := ⟨some 19, .load 5 (.tmp 18), 5, "ref.go:117", #[⟨5, .data⟩], none⟩) (v := ?_) rfl (by kernel_rfl) (by rfl) (fun _ _ _ h => h) ?h hHeld ?_; case h => (intro W hSW; obtain ⟨⟨s0, s1, s2, s3, s4⟩, s5, s6⟩ := HSS.out W hSW; go_simp <;> with_reducible rfl))
 try simp only [lays]
 (refine wr 7 (oi := ⟨some 20, .convert 5 3 (.tmp 19), 3, "ref.go:117", #[⟨6, .data⟩], none⟩) (v := ?_) rfl (by kernel_rfl) (by rfl) (fun _ _ _ h => h) ?h hHeld ?_; case h => (intro W hSW; obtain ⟨⟨s0, s1, s2, s3, s4⟩, s5, s6⟩ := HSS.out W hSW; go_simp <;> with_reducible rfl))
 try simp only [lays]
 (refine wr 8 (oi := ⟨some 21, .move (.tmp 0), 28, "ref.go:117", #[], none⟩) (v := ?_) rfl (by kernel_rfl) (by rfl) (fun _ _ _ h => h) ?h hHeld ?_; case h => (intro W hSW; go_simp <;> with_reducible rfl))
 try simp only [lays]
 (refine wr 9 (oi := ⟨some 22, .indexAddr 28 (.tmp 21) (.const (.int .i64 2)), 0, "ref.go:117", #[⟨8, .data⟩], none⟩) (v := ?_) rfl (by kernel_rfl) (by rfl) (fun _ _ _ h => h) ?h hHeld ?_; case h => (intro W hSW; go_simp <;> with_reducible rfl))
 try simp only [lays]
 (refine wr 10 (oi := ⟨some 23, .load 5 (.tmp 22), 5, "ref.go:117", #[⟨9, .data⟩], none⟩) (v := ?_) rfl (by kernel_rfl) (by rfl) (fun _ _ _ h => h) ?h hHeld ?_; case h => (intro W hSW; obtain ⟨⟨s0, s1, s2, s3, s4⟩, s5, s6⟩ := HSS.out W hSW; go_simp <;> with_reducible rfl))
 try simp only [lays]
 (refine wr 11 (oi := ⟨some 24, .convert 5 3 (.tmp 23), 3, "ref.go:117", #[⟨10, .data⟩], none⟩) (v := ?_) rfl (by kernel_rfl) (by rfl) (fun _ _ _ h => h) ?h hHeld ?_; case h => (intro W hSW; obtain ⟨⟨s0, s1, s2, s3, s4⟩, s5, s6⟩ := HSS.out W hSW; go_simp <;> with_reducible rfl))
 try simp only [lays]
 (refine wr 12 (oi := ⟨some 25, .move (.tmp 0), 28, "ref.go:117", #[], none⟩) (v := ?_) rfl (by kernel_rfl) (by rfl) (fun _ _ _ h => h) ?h hHeld ?_; case h => (intro W hSW; go_simp <;> with_reducible rfl))
 try simp only [lays]
 (refine wr 13 (oi := ⟨some 26, .indexAddr 28 (.tmp 25) (.const (.int .i64 3)), 0, "ref.go:117", #[⟨12, .data⟩], none⟩) (v := ?_) rfl (by kernel_rfl) (by rfl) (fun _ _ _ h => h) ?h hHeld ?_; case h => (intro W hSW; go_simp <;> with_reducible rfl))
 try simp only [lays]
 (refine wr 14 (oi := ⟨some 27, .load 5 (.tmp 26), 5, "ref.go:117", #[⟨13, .data⟩], none⟩) (v := ?_) rfl (by kernel_rfl) (by rfl) (fun _ _ _ h => h) ?h hHeld ?_; case h => (intro W hSW; obtain ⟨⟨s0, s1, s2, s3, s4⟩, s5, s6⟩ := HSS.out W hSW; go_simp <;> with_reducible rfl))
 try simp only [lays]
 (refine wr 15 (oi := ⟨some 28, .convert 5 3 (.tmp 27), 3, "ref.go:117", #[⟨14, .data⟩], none⟩) (v := ?_) rfl (by kernel_rfl) (by rfl) (fun _ _ _ h => h) ?h hHeld ?_; case h => (intro W hSW; obtain ⟨⟨s0, s1, s2, s3, s4⟩, s5, s6⟩ := HSS.out W hSW; go_simp <;> with_reducible rfl))
 try simp only [lays]
 (refine wr 16 (oi := ⟨some 29, .move (.tmp 0), 28, "ref.go:117", #[], none⟩) (v := ?_) rfl (by kernel_rfl) (by rfl) (fun _ _ _ h => h) ?h hHeld ?_; case h => (intro W hSW; go_simp <;> with_reducible rfl))
 try simp only [lays]
 (refine wr 17 (oi := ⟨some 30, .indexAddr 28 (.tmp 29) (.const (.int .i64 4)), 0, "ref.go:117", #[⟨16, .data⟩], none⟩) (v := ?_) rfl (by kernel_rfl) (by rfl) (fun _ _ _ h => h) ?h hHeld ?_; case h => (intro W hSW; go_simp <;> with_reducible rfl))
 try simp only [lays]
 (refine wr 18 (oi := ⟨some 31, .load 5 (.tmp 30), 5, "ref.go:117", #[⟨17, .data⟩], none⟩) (v := ?_) rfl (by kernel_rfl) (by rfl) (fun _ _ _ h => h) ?h hHeld ?_; case h => (intro W hSW; obtain ⟨⟨s0, s1, s2, s3, s4⟩, s5, s6⟩ := HSS.out W hSW; go_simp <;> with_reducible rfl))
 try simp only [lays]
 (refine wr 19 (oi := ⟨some 32, .convert 5 3 (.tmp 31), 3, "ref.go:117", #[⟨18, .data⟩], none⟩) (v := ?_) rfl (by kernel_rfl) (by rfl) (fun _ _ _ h => h) ?h hHeld ?_; case h => (intro W hSW; obtain ⟨⟨s0, s1, s2, s3, s4⟩, s5, s6⟩ := HSS.out W hSW; go_simp <;> with_reducible rfl))
 try simp only [lays]
 (refine wr 20 (oi := ⟨some 33, .move (.tmp 0), 28, "ref.go:117", #[], none⟩) (v := ?_) rfl (by kernel_rfl) (by rfl) (fun _ _ _ h => h) ?h hHeld ?_; case h => (intro W hSW; go_simp <;> with_reducible rfl))
 try simp only [lays]
 (refine wr 21 (oi := ⟨some 34, .indexAddr 28 (.tmp 33) (.const (.int .i64 5)), 0, "ref.go:117", #[⟨20, .data⟩], none⟩) (v := ?_) rfl (by kernel_rfl) (by rfl) (fun _ _ _ h => h) ?h hHeld ?_; case h => (intro W hSW; go_simp <;> with_reducible rfl))
 try simp only [lays]
 (refine wr 22 (oi := ⟨some 35, .load 5 (.tmp 34), 5, "ref.go:117", #[⟨21, .data⟩], none⟩) (v := ?_) rfl (by kernel_rfl) (by rfl) (fun _ _ _ h => h) ?h hHeld ?_; case h => (intro W hSW; obtain ⟨⟨s0, s1, s2, s3, s4⟩, s5, s6⟩ := HSS.out W hSW; go_simp <;> with_reducible rfl))
 try simp only [lays]
 (refine wr 23 (oi := ⟨some 36, .convert 5 42 (.tmp 35), 42, "ref.go:117", #[⟨22, .data⟩], none⟩) (v := ?_) rfl (by kernel_rfl) (by rfl) (fun _ _ _ h => h) ?h hHeld ?_; case h => (intro W hSW; obtain ⟨⟨s0, s1, s2, s3, s4⟩, s5, s6⟩ := HSS.out W hSW; go_simp <;> with_reducible rfl))
 try simp only [lays]
 (refine wr 24 (oi := ⟨some 37, .binOp .shl 42 (.tmp 36) (.const (.int .u64 8)) 96, 42, "ref.go:117", #[⟨23, .data⟩], none⟩) (v := ?_) rfl (by kernel_rfl) (by rfl) (fun _ _ _ h => h) ?h hHeld ?_; case h => (intro W hSW; go_simp <;> with_reducible rfl))
 try simp only [lays]
 (refine wr 25 (oi := ⟨some 38, .move (.tmp 0), 28, "ref.go:117", #[], none⟩) (v := ?_) rfl (by kernel_rfl) (by rfl) (fun _ _ _ h => h) ?h hHeld ?_; case h => (intro W hSW; go_simp <;> with_reducible rfl))
 try simp only [lays]
 (refine wr 26 (oi := ⟨some 39, .indexAddr 28 (.tmp 38) (.const (.int .i64 6)), 0, "ref.go:117", #[⟨25, .data⟩], none⟩) (v := ?_) rfl (by kernel_rfl) (by rfl) (fun _ _ _ h => h) ?h hHeld ?_; case h => (intro W hSW; go_simp <;> with_reducible rfl))
 try simp only [lays]
 (refine wr 27 (oi := ⟨some 40, .load 5 (.tmp 39), 5, "ref.go:117", #[⟨26, .data⟩], none⟩) (v := ?_) rfl (by kernel_rfl) (by rfl) (fun _ _ _ h => h) ?h hHeld ?_; case h => (intro W hSW; obtain ⟨⟨s0, s1, s2, s3, s4⟩, s5, s6⟩ := HSS.out W hSW; go_simp <;> with_reducible rfl))
 try simp only [lays]
 (refine wr 28 (oi := ⟨some 41, .convert 5 42 (.tmp 40), 42, "ref.go:117", #[⟨27, .data⟩], none⟩) (v := ?_) rfl (by kernel_rfl) (by rfl) (fun _ _ _ h => h) ?h hHeld ?_; case h => (intro W hSW; obtain ⟨⟨s0, s1, s2, s3, s4⟩, s5, s6⟩ := HSS.out W hSW; go_simp <;> with_reducible rfl))
 try simp only [lays]
 (refine wr 29 (oi := ⟨some 42, .binOp .or 42 (.tmp 37) (.tmp 41) 42, 42, "ref.go:117", #[⟨24, .data⟩, ⟨28, .data⟩], none⟩) (v := ?_) rfl (by kernel_rfl) (by rfl) (fun _ _ _ h => h) ?h hHeld ?_; case h => (intro W hSW; go_simp <;> with_reducible rfl))
 try simp only [lays]
 (refine wr 30 (oi := ⟨some 43, .build 46 #[(0, .tmp 16), (1, .tmp 20), (2, .tmp 24), (3, .tmp 28), (4, .tmp 32), (5, .tmp 42)], 46, "ref.go:117", #[⟨3, .data⟩, ⟨7, .data⟩, ⟨11, .data⟩, ⟨15, .data⟩, ⟨19, .data⟩, ⟨29, .data⟩], none⟩) (v := ?_) rfl (by kernel_rfl) (by rfl) (fun _ _ _ h => h) ?h hHeld ?_; case h => (intro W hSW; go_simp <;> with_reducible rfl))
 try simp only [lays]
 refine wpAnyH_ready (rs := [31]) (by kernel_rfl) (by simp) ?_
 refine AllReadyH.cons (o := ⟨some 4, .alloc 46, 0, "ref.go:117", #[], none⟩) rfl (fun K hK => ?_) AllReadyH.nil
 refine Eq.mpr (if_pos (by rfl)) ?_
 go_simp
 refine hK.out _ _ (by first | exact (Ext.refl W1).drew'.alloc' _ | exact ((Ext.refl W1).alloc' _).drew') (fun hHeld => ?_)
 clear hK K
 try simp only [lays]
 refine wpAnyH_ready (rs := [32]) (by kernel_rfl) (by simp) ?_
 refine AllReadyH.cons (o := ⟨none, .store 46 (.tmp 4) (.tmp 43), 0, "ref.go:117", #[⟨31, .data⟩, ⟨30, .data⟩, ⟨0, .phase⟩, ⟨1, .phase⟩, ⟨2, .phase⟩, ⟨3, .phase⟩, ⟨4, .phase⟩, ⟨5, .phase⟩, ⟨6, .phase⟩, ⟨7, .phase⟩, ⟨8, .phase⟩, ⟨9, .phase⟩, ⟨10, .phase⟩, ⟨11, .phase⟩, ⟨12, .phase⟩, ⟨13, .phase⟩, ⟨14, .phase⟩, ⟨15, .phase⟩, ⟨16, .phase⟩, ⟨17, .phase⟩, ⟨18, .phase⟩, ⟨19, .phase⟩, ⟨20, .phase⟩, ⟨21, .phase⟩, ⟨22, .phase⟩, ⟨23, .phase⟩, ⟨24, .phase⟩, ⟨25, .phase⟩, ⟨26, .phase⟩, ⟨27, .phase⟩, ⟨28, .phase⟩, ⟨29, .phase⟩, ⟨30, .phase⟩, ⟨31, .phase⟩], none⟩) rfl (fun K hK => ?_) AllReadyH.nil
 refine Eq.mpr (if_pos (by rfl)) ?_
 refine wp_store_mid 46 (.tmp 4) (.tmp 43) rfl W1.heap.size 0 (vtZ ((byt l 0).toNat : Int) ((byt l 1).toNat : Int) ((byt l 2).toNat : Int) ((byt l 3).toNat : Int) ((byt l 4).toNat : Int) ((numAt l 5 2 : Nat) : Int)) rfl ?hy (show ((W1.alloc (.cells (vtZ 0 0 0 0 0 0) 46)).drew).there W1.heap.size 0 22 from there_of_blk (Blk.drew (Blk.new W1 46 (vtZ 0 0 0 0 0 0)))) (by kernel_rfl) (vtZ_all _ _ _ _ _ _) ?_
 case hy => rfl
 refine hK.out _ _ (Below.setCells' (((Ext.refl W1).alloc' (.cells (vtZ 0 0 0 0 0 0) 46)).drew') (Nat.le_refl _) _ _) (fun hHeld => ?_)
 clear hK K
 try simp only [lays]
 refine wpAnyH_done (by kernel_rfl) ?_ _
 have HE2 := Lib.hid (show Ext W1 (((W1.alloc (.cells (vtZ 0 0 0 0 0 0) 46)).drew).setCells W1.heap.size 0 (vtZ ((byt l 0).toNat : Int) ((byt l 1).toNat : Int) ((byt l 2).toNat : Int) ((byt l 3).toNat : Int) ((byt l 4).toNat : Int) ((numAt l 5 2 : Nat) : Int)).toList) from Below.setCells' (((Ext.refl W1).alloc' (.cells (vtZ 0 0 0 0 0 0) 46)).drew') (Nat.le_refl _) _ _)
 have HB2 := Lib.hid (show Blk (((W1.alloc (.cells (vtZ 0 0 0 0 0 0) 46)).drew).setCells W1.heap.size 0 (vtZ ((byt l 0).toNat : Int) ((byt l 1).toNat : Int) ((byt l 2).toNat : Int) ((byt l 3).toNat : Int) ((byt l 4).toNat : Int) ((numAt l 5 2 : Nat) : Int)).toList) W1.heap.size 46 (vtZ ((byt l 0).toNat : Int) ((byt l 1).toNat : Int) ((byt l 2).toNat : Int) ((byt l 3).toNat : Int) ((byt l 4).toNat : Int) ((numAt l 5 2 : Nat) : Int)) from blk_whole (Blk.drew (Blk.new W1 46 (vtZ 0 0 0 0 0 0))) rfl)
 generalize (((W1.alloc (.cells (vtZ 0 0 0 0 0 0) 46)).drew).setCells W1.heap.size 0 (vtZ ((byt l 0).toNat : Int) ((byt l 1).toNat : Int) ((byt l 2).toNat : Int) ((byt l 3).toNat : Int) ((byt l 4).toNat : Int) ((numAt l 5 2 : Nat) : Int)).toList) = W2 at HE2 HB2 ⊢
 rw [vtZ_eq] at HB2
 have HSRC := Lib.hid (fun (W : World) (hW : Below W1.heap.size W1 W) (k m : Nat) => show ∀ j v, (bcs ((l.drop k).take m))[j]? = some v → W.cell? ((⟨b, o + k, none⟩ : Addr).add j) = some v from by
  intro j v hv
  have hy := rangeAt_take (k := m) (rangeAt_drop (k := k) (HR.out W (HE.out.trans hW)))
  rw [Addr.add_mid]
  refine hy j v ?_
  rw [← hv]
  simp [bcs])
 obtain ⟨n1, hn1⟩ : ∃ n1, ofNm ((l.drop 7).take 8) = n1 := ⟨_, rfl⟩
 obtain ⟨n2, hn2⟩ : ∃ n2, ofNm ((l.drop 15).take 8) = n2 := ⟨_, rfl⟩
 have N1 := Lib.hid (show bcs ((l.drop 7).take 8) = bcs (nmb n1) by rw [← hn1, nmb_ofNm _ (by rw [List.length_take, List.length_drop, HL.out]; omega)])
 have N2 := Lib.hid (show bcs ((l.drop 15).take 8) = bcs (nmb n2) by rw [← hn2, nmb_ofNm _ (by rw [List.length_take, List.length_drop, HL.out]; omega)])
 have HD := Lib.hid (show decVt l = ⟨((byt l 0).toNat : Int), ((byt l 1).toNat : Int), ((byt l 2).toNat : Int), ((byt l 3).toNat : Int), ((byt l 4).toNat : Int), ((numAt l 5 2 : Nat) : Int), n1, n2⟩ by unfold decVt; rw [hn1, hn2])
 clear hn1 hn2 HSS hor hwr
 have HL8 := Lib.hid (fun (n : UInt64) => show (bcs (nmb n)).length = 8 by rw [bcs_length, nmb_length])
 go_wp2_with fail
 have HZ := Lib.hid (show Below W1.heap.size W1 W2.drew from HE2.out.drew')
 refine wp_region_held_drew (S := fun W => Below W1.heap.size W1 W) (by kernel_rfl) (HE2.out.drew') (fun hHeld => ?_)
 (refine wr 0 (oi := ⟨some 44, .fieldAddr 46 (.tmp 4) 6, 0, "ref.go:118", #[], none⟩) (v := ?_) rfl (by kernel_rfl) (by rfl) (fun _ _ _ h => h) ?h hHeld ?_; case h => (intro W hSW; go_simp <;> with_reducible rfl))
 try simp only [lays]
 (refine wr 1 (oi := ⟨some 45, .slice 44 (.tmp 44) none none none, 28, "ref.go:118", #[⟨0, .data⟩], none⟩) (v := ?_) rfl (by kernel_rfl) (by rfl) (fun _ _ _ h => h) ?h hHeld ?_; case h => (intro W hSW; go_simp <;> with_reducible rfl))
 try simp only [lays]
 (refine wr 2 (oi := ⟨some 46, .move (.tmp 0), 28, "ref.go:118", #[], none⟩) (v := ?_) rfl (by kernel_rfl) (by rfl) (fun _ _ _ h => h) ?h hHeld ?_; case h => (intro W hSW; go_simp <;> with_reducible rfl))
 try simp only [lays]
 (refine wr 3 (oi := ⟨some 47, .slice 28 (.tmp 46) (some (.const (.int .i64 7))) (some (.const (.int .i64 15))) none, 28, "ref.go:118", #[⟨2, .data⟩], none⟩) (v := ?_) rfl (by kernel_rfl) (by rfl) (fun _ _ _ h => h) ?h hHeld ?_; case h => (intro W hSW; go_simp <;> with_reducible rfl))
 try simp only [lays]
 refine wpAnyH_ready (rs := [4]) (by kernel_rfl) (by simp) ?_
 refine AllReadyH.cons (o := ⟨some 48, .call { callee := .builtin .copy, args := #[.tmp 45, .tmp 47], argTypes := #[28, 28] }, 3, "ref.go:118", #[⟨1, .data⟩, ⟨3, .data⟩], none⟩) rfl (fun K hK => ?_) AllReadyH.nil
 refine step_copy_splice rfl (.tmp 45) (.tmp 47) 28 28 rfl 5 Tryz.underlying28 (by kernel_rfl) (some ⟨W1.heap.size, 6, none⟩) (some ⟨b, o + 7, none⟩) 8 8 8 (c - 7) rfl rfl W1.heap.size 6 _ 46 HB2.out.drew (bcs (nmb n1)) (HL8.out _) (fun _ => ⟨rfl, _, rfl, by rw [← N1.out]; exact HSRC.out _ HZ.out _ _⟩) (by rw [HL8.out]; exact Nat.le_of_ble_eq_true rfl) (bcs_one _) W1.heap.size W1 HZ.out (Nat.le_refl _) ?_
 intro w1 hb1 he1
 refine hK.out _ _ (he1) (fun hHeld => ?_)
 clear hK K
 try simp only [lays]
 refine wpAnyH_done (by kernel_rfl) ?_ _
 have HB3 := Lib.hid (show Blk w1 W1.heap.size 46 (vtA ⟨_, _, _, _, _, _, n1, 0⟩) from by have := hb1.out; rwa [vt_splice6] at this)
 have HE3 := Lib.hid he1
 clear hb1 he1 HB2 HE2 HZ
 go_wp2_with fail
 have HZ := Lib.hid (show Below W1.heap.size W1 w1.drew from HE3.out.drew)
 refine wp_region_held_drew (S := fun W => Below W1.heap.size W1 W) (by kernel_rfl) (HE3.out.drew) (fun hHeld => ?_)
 (refine wr 0 (oi := ⟨some 49, .fieldAddr 46 (.tmp 4) 7, 0, "ref.go:119", #[], none⟩) (v := ?_) rfl (by kernel_rfl) (by rfl) (fun _ _ _ h => h) ?h hHeld ?_; case h => (intro W hSW; go_simp <;> with_reducible rfl))
 try simp only [lays]
 (refine wr 1 (oi := ⟨some 50, .slice 44 (.tmp 49) none none none, 28, "ref.go:119", #[⟨0, .data⟩], none⟩) (v := ?_) rfl (by kernel_rfl) (by rfl) (fun _ _ _ h => h) ?h hHeld ?_; case h => (intro W hSW; go_simp <;> with_reducible rfl))
 try simp only [lays]
 (refine wr 2 (oi := ⟨some 51, .move (.tmp 0), 28, "ref.go:119", #[], none⟩) (v := ?_) rfl (by kernel_rfl) (by rfl) (fun _ _ _ h => h) ?h hHeld ?_; case h => (intro W hSW; go_simp <;> with_reducible rfl))
 try simp only [lays]
 (refine wr 3 (oi := ⟨some 52, .slice 28 (.tmp 51) (some (.const (.int .i64 15))) (some (.const (.int .i64 23))) none, 28, "ref.go:119", #[⟨2, .data⟩], none⟩) (v := ?_) rfl (by kernel_rfl) (by rfl) (fun _ _ _ h => h) ?h hHeld ?_; case h => (intro W hSW; go_simp <;> with_reducible rfl))
 try simp only [lays]
 refine wpAnyH_ready (rs := [4]) (by kernel_rfl) (by simp) ?_
 refine AllReadyH.cons (o := ⟨some 53, .call { callee := .builtin .copy, args := #[.tmp 50, .tmp 52], argTypes := #[28, 28] }, 3, "ref.go:119", #[⟨1, .data⟩, ⟨3, .data⟩], none⟩) rfl (fun K hK => ?_) AllReadyH.nil
 refine step_copy_splice rfl (.tmp 50) (.tmp 52) 28 28 rfl 5 Tryz.underlying28 (by kernel_rfl) (some ⟨W1.heap.size, 14, none⟩) (some ⟨b, o + 15, none⟩) 8 8 8 (c - 15) rfl rfl W1.heap.size 14 _ 46 HB3.out.drew (bcs (nmb n2)) (HL8.out _) (fun _ => ⟨rfl, _, rfl, by rw [← N2.out]; exact HSRC.out _ HZ.out _ _⟩) (by rw [HL8.out]; exact Nat.le_of_ble_eq_true rfl) (bcs_one _) W1.heap.size W1 HZ.out (Nat.le_refl _) ?_
 intro w4 hb1 he1
 refine hK.out _ _ (he1) (fun hHeld => ?_)
 clear hK K
 try simp only [lays]
 refine wpAnyH_done (by kernel_rfl) ?_ _
 have HB4 := Lib.hid (show Blk w4 W1.heap.size 46 (vtA (decVt l)) from by have := hb1.out; rw [vt_splice14] at this; rw [HD.out]; exact this)
 have HE4 := Lib.hid he1
 clear hb1 he1 HB3 HE3 HZ
 have hr4 : w4.rangeAt W1.heap.size 0 (vtL (decVt l)) := rangeAt_of_blk HB4.out
 have HE0 := Lib.hid (Below.trans HE.out (Below.mono HE4.out HE.out.size) : Ext w w4)
 have hlt : w.heap.size < W1.heap.size := by rw [← hW1]; simp
 have HB0 := Lib.hid (show Blk w4 w.heap.size 46 (vtZ 0 0 0 0 0 0) from HB.out.below HE4.out hlt)
 clear HB
 go_wp2_with (first | (with_reducible refine wpList_loadVt rfl (.tmp 4) rfl W1.heap.size 0 rfl (decVt l) hr4 ?_))
 refine (rVtValid_any (decVt l) w4).mono ?_
 rintro e w5 ⟨rfl, he5⟩
 have HX := Lib.hid (Ext.trans HE0.out he5)
 have HB5 := Lib.hid (HB0.out.ext he5)
 have hr5 : w5.rangeAt W1.heap.size 0 (vtL (decVt l)) := rangeAt_of_blk (HB4.out.ext he5)
 have ht : w5.there w.heap.size 0 22 := there_of_blk HB5.out
 clear he5 hr4
 cases hv : vldVt (decVt l) with
 | false =>
  have HC := Lib.hid (show vdV l = zeroV ∧ vdC l = 11 from by unfold vdV vdC; rw [hv]; exact ⟨rfl, rfl⟩)
  have hst := blk_whole (ds := vtA zeroV) HB5.out rfl
  clear hv
  go_wp2_with (first | (with_reducible refine wpList_storeVz rfl (.tmp 2) (.tmp 57) rfl w.heap.size rfl rfl ht ?_))
  rw [HC.out.1, HC.out.2]
  exact bodyPost_ret (v := .tuple #[.agg (vtA zeroV), .int .i64 11]) (retCV rfl _ _ w.heap.size _ _ rfl rfl (run_loadVar_row _ _ _ _ _ (0, 0) _ hst Tryz.underlying46 rfl (by kernel_rfl))) rfl ⟨rfl, Below.setCells' HX.out (Nat.le_refl _) _ _⟩
 | true =>
  have HC := Lib.hid (show vdV l = decVt l ∧ vdC l = 0 from by unfold vdV vdC; rw [hv]; exact ⟨rfl, rfl⟩)
  have hst := blk_whole (ds := vtA (decVt l)) HB5.out rfl
  clear hv
  go_wp2_with (first | (with_reducible refine wpList_loadVt rfl (.tmp 4) rfl W1.heap.size 0 rfl (decVt l) hr5 ?_) | (with_reducible refine wpList_storeVt rfl (.tmp 2) (.tmp 58) rfl w.heap.size (decVt l) rfl rfl ht ?_))
  rw [HC.out.1, HC.out.2]
  exact bodyPost_ret (v := .tuple #[.agg (vtA (decVt l)), .int .i64 0]) (retCV rfl _ _ w.heap.size _ _ rfl rfl (run_loadVar_row _ _ _ _ _ (0, 0) _ hst Tryz.underlying46 rfl (by kernel_rfl))) rfl ⟨rfl, Below.setCells' HX.out (Nat.le_refl _) _ _⟩
end Go.Proofs.YtbfepgjeecndiaaGreat
