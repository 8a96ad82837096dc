/- The vote that bytes tell (the program's Decode). -/
import Derived.Test.YtbfepgjeecndiaaGreatJ12
import Derived.Test.YtbfepgjeecndiaaGreatJ13
namespace Go.Proofs.YtbfepgjeecndiaaGreat
set_option maxRecDepth 100000
set_option maxHeartbeats 8000000
open Go.RowKit
set_option linter.unusedVariables false
set_option linter.unusedSimpArgs false
attribute [local go_sem ↓] Go.wp_at_zero Go.wp_at_succ
def zeroV : VtR := ⟨0, 0, 0, 0, 0, 0, 0, 0⟩
abbrev vtZ (k sl ro ch si su : Int) : Array Value := #[.int .i64 k, .int .i64 sl, .int .i64 ro, .int .i64 ch, .int .i64 si, .int .i64 su, .int .u8 0, .int .u8 0, .int .u8 0, .int .u8 0, .int .u8 0, .int .u8 0, .int .u8 0, .int .u8 0, .int .u8 0, .int .u8 0, .int .u8 0, .int .u8 0, .int .u8 0, .int .u8 0, .int .u8 0, .int .u8 0]
theorem vtZ_eq (k sl ro ch si su : Int) : vtZ k sl ro ch si su = vtA ⟨k, sl, ro, ch, si, su, 0, 0⟩ := by
 unfold vtA; simp only [nb8_nil 0 (by omega), nb8_nil 1 (by omega), nb8_nil 2 (by omega), nb8_nil 3 (by omega), nb8_nil 4 (by omega), nb8_nil 5 (by omega), nb8_nil 6 (by omega), nb8_nil 7 (by omega)]
theorem vtZ_all (k sl ro ch si su : Int) : (vtZ k sl ro ch si su).all (·.oneCell') = true := by rw [vtZ_eq]; exact vtA_all _
theorem vt_splice6 (k sl ro ch si su : Int) (n : UInt64) : splice (vtA ⟨k, sl, ro, ch, si, su, 0, 0⟩).toList 6 (bcs (nmb n)) = (vtA ⟨k, sl, ro, ch, si, su, n, 0⟩).toList := by
 have e : bcs (nmb n) = (nmc n).toList := by unfold nmc; rfl
 rw [e, ← nmc_nb8 n]; rfl
theorem vt_splice14 (k sl ro ch si su : Int) (p n : UInt64) : splice (vtA ⟨k, sl, ro, ch, si, su, p, 0⟩).toList 14 (bcs (nmb n)) = (vtA ⟨k, sl, ro, ch, si, su, p, n⟩).toList := by
 have e : bcs (nmb n) = (nmc n).toList := by unfold nmc; rfl
 rw [e, ← nmc_nb8 n]; rfl
section
variable {o : Oper} {a : Act} {w : World} {ops : Array Oper} {rest : List Oper} {Q : Exit → Act → World → Prop}
theorem wpList_storeVt (hgd : o.guard = none) (x y : Operand) (ho : o.op = .store 46 x y) (g : Nat) (S : VtR) (hx : a.eval x = .pointer (some ⟨g, 0, none⟩)) (hy : a.eval y = .agg (vtA S)) (ht : w.there g 0 22)
  (h : wpList Tryz.prog ops Q rest (a.put o.dst undef) (w.setCells g 0 (vtA S).toList)) : wpList Tryz.prog ops Q (o :: rest) a w :=
 wpList_store_mid hgd 46 x y ho g 0 (vtA S) hx hy ht (by kernel_rfl) (vtA_all S) h
theorem wpList_storeVz (hgd : o.guard = none) (x y : Operand) (ho : o.op = .store 46 x y) (g : Nat) (hx : a.eval x = .pointer (some ⟨g, 0, none⟩)) (hy : a.eval y = .agg (vtZ 0 0 0 0 0 0)) (ht : w.there g 0 22)
  (h : wpList Tryz.prog ops Q rest (a.put o.dst undef) (w.setCells g 0 (vtA zeroV).toList)) : wpList Tryz.prog ops Q (o :: rest) a w := by
 refine wpList_storeVt hgd x y ho g zeroV hx (by rw [hy, vtZ_eq]; rfl) ht h
end
theorem byt_at {w : World} {b o : Nat} {l : List UInt8} (h : w.rangeAt b o (bcs l)) {i : Nat} (hi : i < l.length) : w.cell? ⟨b, o + i, none⟩ = some (.int .u8 ((byt l i).toNat : Int)) := by
 refine h i _ ?_
 unfold bcs byt
 rw [List.getElem?_map, List.getD_eq_getElem?_getD, List.getElem?_eq_getElem hi]
 rfl
abbrev b5 (W : World) (b o : Nat) (l : List UInt8) : Prop := W.cell? ⟨b, o, none⟩ = some (.int .u8 ((byt l 0).toNat : Int)) ∧ W.cell? ⟨b, o + 1, none⟩ = some (.int .u8 ((byt l 1).toNat : Int)) ∧ W.cell? ⟨b, o + 2, none⟩ = some (.int .u8 ((byt l 2).toNat : Int)) ∧ W.cell? ⟨b, o + 3, none⟩ = some (.int .u8 ((byt l 3).toNat : Int)) ∧ W.cell? ⟨b, o + 4, none⟩ = some (.int .u8 ((byt l 4).toNat : Int))
theorem b5_of {w : World} {b o : Nat} {l : List UInt8} (h : w.rangeAt b o (bcs l)) (hl : l.length = 23) : b5 w b o l := ⟨byt_at h (i := 0) (by omega), byt_at h (i := 1) (by omega), byt_at h (i := 2) (by omega), byt_at h (i := 3) (by omega), byt_at h (i := 4) (by omega)⟩
def vdV (l : List UInt8) : VtR := if vldVt (decVt l) = true then decVt l else zeroV
def vdC (l : List UInt8) : Int := if vldVt (decVt l) = true then 0 else 11
theorem voteDec_yes (A : Option Addr) (c : Nat) (l : List UInt8) (w : World) (hS : SlB w A 23 c l) : Calls Tryz.prog 83 #[.slice A 23 c] w fun e w' => e = .returned (.tuple #[.agg (vtA (vdV l)), .int .i64 (vdC l)]) ∧ Ext w w' := by
 have hl := hS.len
 have hcap := hS.cap
 have hle := hS.le
 obtain ⟨b, o, rfl, hr, hb⟩ := hS.at (by omega)
 have HE := Lib.hid ((Ext.refl w).alloc' (.cells (vtZ 0 0 0 0 0 0) 46))
 have HB := Lib.hid (Blk.new w 46 (vtZ 0 0 0 0 0 0))
 have HS := Lib.hid (hS.ext HE.out)
 have HR := Lib.hid (fun (W : World) (h : Ext w W) => rangeAt_keep hr (h.block b hb))
 have HU := Lib.hid (fun (W : World) (h : SlB W (some ⟨b, o, none⟩) 23 c l) => uint_yes _ 23 c l 5 2 W h (by omega) (by omega) (by omega))
 have HL := Lib.hid hl
 have hwr : IntKind.i64.wrap ((numAt l 5 2 : Nat) : Int) = ((numAt l 5 2 : Nat) : Int) := by
  have h1 := beNat_lt ((l.drop 5).take 2)
  have h2 : ((l.drop 5).take 2).length ≤ 2 := List.length_take_le _ _
  have h3 : 256 ^ ((l.drop 5).take 2).length ≤ 256 ^ 2 := Nat.pow_le_pow_right (by omega) h2
  have h4 : numAt l 5 2 = beNat ((l.drop 5).take 2) := rfl
  rw [IntKind.wrap_i64]; omega
 have hck : ¬ c = 7 := by omega
 have hck2 : ¬ c = 15 := by omega
 clear hS hr hl
 go_enter Tryz.func83, Tryz.ntmps83
 go_wp2_with fail
 refine (HU.out _ HS.out).mono ?_
 rintro e w1 ⟨rfl, rfl⟩
 obtain ⟨W1, hW1⟩ : ∃ W1, w.alloc (.cells (vtZ 0 0 0 0 0 0) 46) = W1 := ⟨_, rfl⟩
 rw [hW1] at HE HB HS
 have HSS := Lib.hid (fun (W : World) (h : Ext W1 W) => b5_of (HR.out W (HE.out.trans h)) HL.out)
 have i0 : (0 : Int) < 23 := by omega
 go_wp2_with fail
 refine wp_region_held_drew (S := fun W => Ext W1 W) (by kernel_rfl) ((Ext.refl W1).drew') (fun hHeld => ?_)
 (refine wr 0 (oi := ⟨some 22, .move (.tmp 0), 28, "vote.go:60", #[], none⟩) (v := ?_) rfl (by kernel_rfl) (by rfl) (fun _ _ _ h => h) ?h hHeld ?_; case h => (intro W hSW; go_simp <;> with_reducible rfl))
 try simp only [lays]
 (refine wr 1 (oi := ⟨some 23, .indexAddr 28 (.tmp 22) (.const (.int .i64 0)), 0, "vote.go:60", #[⟨0, .data⟩], none⟩) (v := ?_) rfl (by kernel_rfl) (by rfl) (fun _ _ _ h => h) ?h hHeld ?_; case h => (intro W hSW; go_simp <;> with_reducible rfl))
 try simp only [lays]
 (refine wr 2 (oi := ⟨some 24, .load 5 (.tmp 23), 5, "vote.go:60", #[⟨1, .data⟩], none⟩) (v := ?_) rfl (by kernel_rfl) (by rfl) (fun _ _ _ h => h) ?h hHeld ?_; case h => (intro W hSW; obtain ⟨s0, s1, s2, s3, s4⟩ := HSS.out W hSW; go_simp <;> with_reducible rfl))
 try simp only [lays]
 (refine wr 3 (oi := ⟨some 25, .convert 5 3 (.tmp 24), 3, "vote.go:60", #[⟨2, .data⟩], none⟩) (v := ?_) rfl (by kernel_rfl) (by rfl) (fun _ _ _ h => h) ?h hHeld ?_; case h => (intro W hSW; obtain ⟨s0, s1, s2, s3, s4⟩ := HSS.out W hSW; go_simp <;> with_reducible rfl))
 try simp only [lays]
 (refine wr 4 (oi := ⟨some 26, .move (.tmp 0), 28, "vote.go:60", #[], none⟩) (v := ?_) rfl (by kernel_rfl) (by rfl) (fun _ _ _ h => h) ?h hHeld ?_; case h => (intro W hSW; go_simp <;> with_reducible rfl))
 try simp only [lays]
 (refine wr 5 (oi := ⟨some 27, .indexAddr 28 (.tmp 26) (.const (.int .i64 1)), 0, "vote.go:60", #[⟨4, .data⟩], none⟩) (v := ?_) rfl (by kernel_rfl) (by rfl) (fun _ _ _ h => h) ?h hHeld ?_; case h => (intro W hSW; go_simp <;> with_reducible rfl))
 try simp only [lays]
 (refine wr 6 (oi := ⟨some 28, .load 5 (.tmp 27), 5, "vote.go:60", #[⟨5, .data⟩], none⟩) (v := ?_) rfl (by kernel_rfl) (by rfl) (fun _ _ _ h => h) ?h hHeld ?_; case h => (intro W hSW; obtain ⟨s0, s1, s2, s3, s4⟩ := HSS.out W hSW; go_simp <;> with_reducible rfl))
 try simp only [lays]
 (refine wr 7 (oi := ⟨some 29, .convert 5 3 (.tmp 28), 3, "vote.go:60", #[⟨6, .data⟩], none⟩) (v := ?_) rfl (by kernel_rfl) (by rfl) (fun _ _ _ h => h) ?h hHeld ?_; case h => (intro W hSW; obtain ⟨s0, s1, s2, s3, s4⟩ := HSS.out W hSW; go_simp <;> with_reducible rfl))
 try simp only [lays]
 (refine wr 8 (oi := ⟨some 30, .move (.tmp 0), 28, "vote.go:60", #[], none⟩) (v := ?_) rfl (by kernel_rfl) (by rfl) (fun _ _ _ h => h) ?h hHeld ?_; case h => (intro W hSW; go_simp <;> with_reducible rfl))
 try simp only [lays]
 (refine wr 9 (oi := ⟨some 31, .indexAddr 28 (.tmp 30) (.const (.int .i64 2)), 0, "vote.go:60", #[⟨8, .data⟩], none⟩) (v := ?_) rfl (by kernel_rfl) (by rfl) (fun _ _ _ h => h) ?h hHeld ?_; case h => (intro W hSW; go_simp <;> with_reducible rfl))
 try simp only [lays]
 (refine wr 10 (oi := ⟨some 32, .load 5 (.tmp 31), 5, "vote.go:60", #[⟨9, .data⟩], none⟩) (v := ?_) rfl (by kernel_rfl) (by rfl) (fun _ _ _ h => h) ?h hHeld ?_; case h => (intro W hSW; obtain ⟨s0, s1, s2, s3, s4⟩ := HSS.out W hSW; go_simp <;> with_reducible rfl))
 try simp only [lays]
 (refine wr 11 (oi := ⟨some 33, .convert 5 3 (.tmp 32), 3, "vote.go:60", #[⟨10, .data⟩], none⟩) (v := ?_) rfl (by kernel_rfl) (by rfl) (fun _ _ _ h => h) ?h hHeld ?_; case h => (intro W hSW; obtain ⟨s0, s1, s2, s3, s4⟩ := HSS.out W hSW; go_simp <;> with_reducible rfl))
 try simp only [lays]
 (refine wr 12 (oi := ⟨some 34, .move (.tmp 0), 28, "vote.go:60", #[], none⟩) (v := ?_) rfl (by kernel_rfl) (by rfl) (fun _ _ _ h => h) ?h hHeld ?_; case h => (intro W hSW; go_simp <;> with_reducible rfl))
 try simp only [lays]
 (refine wr 13 (oi := ⟨some 35, .indexAddr 28 (.tmp 34) (.const (.int .i64 3)), 0, "vote.go:60", #[⟨12, .data⟩], none⟩) (v := ?_) rfl (by kernel_rfl) (by rfl) (fun _ _ _ h => h) ?h hHeld ?_; case h => (intro W hSW; go_simp <;> with_reducible rfl))
 try simp only [lays]
 (refine wr 14 (oi := ⟨some 36, .load 5 (.tmp 35), 5, "vote.go:60", #[⟨13, .data⟩], none⟩) (v := ?_) rfl (by kernel_rfl) (by rfl) (fun _ _ _ h => h) ?h hHeld ?_; case h => (intro W hSW; obtain ⟨s0, s1, s2, s3, s4⟩ := HSS.out W hSW; go_simp <;> with_reducible rfl))
 try simp only [lays]
 (refine wr 15 (oi := ⟨some 37, .convert 5 3 (.tmp 36), 3, "vote.go:60", #[⟨14, .data⟩], none⟩) (v := ?_) rfl (by kernel_rfl) (by rfl) (fun _ _ _ h => h) ?h hHeld ?_; case h => (intro W hSW; obtain ⟨s0, s1, s2, s3, s4⟩ := HSS.out W hSW; go_simp <;> with_reducible rfl))
 try simp only [lays]
 (refine wr 16 (oi := ⟨some 38, .move (.tmp 0), 28, "vote.go:60", #[], none⟩) (v := ?_) rfl (by kernel_rfl) (by rfl) (fun _ _ _ h => h) ?h hHeld ?_; case h => (intro W hSW; go_simp <;> with_reducible rfl))
 try simp only [lays]
 (refine wr 17 (oi := ⟨some 39, .indexAddr 28 (.tmp 38) (.const (.int .i64 4)), 0, "vote.go:60", #[⟨16, .data⟩], none⟩) (v := ?_) rfl (by kernel_rfl) (by rfl) (fun _ _ _ h => h) ?h hHeld ?_; case h => (intro W hSW; go_simp <;> with_reducible rfl))
 try simp only [lays]
 (refine wr 18 (oi := ⟨some 40, .load 5 (.tmp 39), 5, "vote.go:60", #[⟨17, .data⟩], none⟩) (v := ?_) rfl (by kernel_rfl) (by rfl) (fun _ _ _ h => h) ?h hHeld ?_; case h => (intro W hSW; obtain ⟨s0, s1, s2, s3, s4⟩ := HSS.out W hSW; go_simp <;> with_reducible rfl))
 try simp only [lays]
 (refine wr 19 (oi := ⟨some 41, .convert 5 3 (.tmp 40), 3, "vote.go:60", #[⟨18, .data⟩], none⟩) (v := ?_) rfl (by kernel_rfl) (by rfl) (fun _ _ _ h => h) ?h hHeld ?_; case h => (intro W hSW; obtain ⟨s0, s1, s2, s3, s4⟩ := HSS.out W hSW; go_simp <;> with_reducible rfl))
 try simp only [lays]
 (refine wr 20 (oi := ⟨some 42, .move (.tmp 4), 61, "vote.go:60", #[], none⟩) (v := ?_) rfl (by kernel_rfl) (by rfl) (fun _ _ _ h => h) ?h hHeld ?_; case h => (intro W hSW; go_simp <;> with_reducible rfl))
 try simp only [lays]
 (refine wr 21 (oi := ⟨some 43, .convert 61 42 (.tmp 42), 42, "vote.go:60", #[⟨20, .data⟩], none⟩) (v := ?_) rfl (by kernel_rfl) (by rfl) (fun _ _ _ h => h) ?h hHeld ?_; case h => (intro W hSW; obtain ⟨s0, s1, s2, s3, s4⟩ := HSS.out W hSW; go_simp <;> with_reducible rfl))
 try simp only [lays]
 (refine wr 22 (oi := ⟨some 44, .build 46 #[(0, .tmp 25), (1, .tmp 29), (2, .tmp 33), (3, .tmp 37), (4, .tmp 41), (5, .tmp 43)], 46, "vote.go:60", #[⟨3, .data⟩, ⟨7, .data⟩, ⟨11, .data⟩, ⟨15, .data⟩, ⟨19, .data⟩, ⟨21, .data⟩], none⟩) (v := ?_) rfl (by kernel_rfl) (by rfl) (fun _ _ _ h => h) ?h hHeld ?_; case h => (intro W hSW; go_simp <;> with_reducible rfl))
 try simp only [lays]
 refine wpAnyH_ready (rs := [23]) (by kernel_rfl) (by simp) ?_
 refine AllReadyH.cons (o := ⟨some 6, .alloc 46, 0, "vote.go:60", #[], none⟩) rfl (fun K hK => ?_) AllReadyH.nil
 refine Eq.mpr (if_pos (by rfl)) ?_
 go_simp
 refine hK.out _ _ (by first | exact (Ext.refl W1).drew'.alloc' _ | exact ((Ext.refl W1).alloc' _).drew') (fun hHeld => ?_)
 clear hK K
 try simp only [lays]
 refine wpAnyH_ready (rs := [24]) (by kernel_rfl) (by simp) ?_
 refine AllReadyH.cons (o := ⟨none, .store 46 (.tmp 6) (.tmp 44), 0, "vote.go:60", #[⟨23, .data⟩, ⟨22, .data⟩, ⟨0, .phase⟩, ⟨1, .phase⟩, ⟨2, .phase⟩, ⟨3, .phase⟩, ⟨4, .phase⟩, ⟨5, .phase⟩, ⟨6, .phase⟩, ⟨7, .phase⟩, ⟨8, .phase⟩, ⟨9, .phase⟩, ⟨10, .phase⟩, ⟨11, .phase⟩, ⟨12, .phase⟩, ⟨13, .phase⟩, ⟨14, .phase⟩, ⟨15, .phase⟩, ⟨16, .phase⟩, ⟨17, .phase⟩, ⟨18, .phase⟩, ⟨19, .phase⟩, ⟨20, .phase⟩, ⟨21, .phase⟩, ⟨22, .phase⟩, ⟨23, .phase⟩], none⟩) rfl (fun K hK => ?_) AllReadyH.nil
 refine Eq.mpr (if_pos (by rfl)) ?_
 refine wp_store_mid 46 (.tmp 6) (.tmp 44) rfl W1.heap.size 0 (vtZ ((byt l 0).toNat : Int) ((byt l 1).toNat : Int) ((byt l 2).toNat : Int) ((byt l 3).toNat : Int) ((byt l 4).toNat : Int) ((numAt l 5 2 : Nat) : Int)) rfl ?hy (show ((W1.alloc (.cells (vtZ 0 0 0 0 0 0) 46)).drew).there W1.heap.size 0 22 from there_of_blk (Blk.drew (Blk.new W1 46 (vtZ 0 0 0 0 0 0)))) (by kernel_rfl) (vtZ_all _ _ _ _ _ _) ?_
 case hy => rfl
 refine hK.out _ _ (Below.setCells' (((Ext.refl W1).alloc' (.cells (vtZ 0 0 0 0 0 0) 46)).drew') (Nat.le_refl _) _ _) (fun hHeld => ?_)
 clear hK K
 try simp only [lays]
 refine wpAnyH_done (by kernel_rfl) ?_ _
 have HE2 := Lib.hid (show Ext W1 (((W1.alloc (.cells (vtZ 0 0 0 0 0 0) 46)).drew).setCells W1.heap.size 0 (vtZ ((byt l 0).toNat : Int) ((byt l 1).toNat : Int) ((byt l 2).toNat : Int) ((byt l 3).toNat : Int) ((byt l 4).toNat : Int) ((numAt l 5 2 : Nat) : Int)).toList) from Below.setCells' (((Ext.refl W1).alloc' (.cells (vtZ 0 0 0 0 0 0) 46)).drew') (Nat.le_refl _) _ _)
 have HB2 := Lib.hid (show Blk (((W1.alloc (.cells (vtZ 0 0 0 0 0 0) 46)).drew).setCells W1.heap.size 0 (vtZ ((byt l 0).toNat : Int) ((byt l 1).toNat : Int) ((byt l 2).toNat : Int) ((byt l 3).toNat : Int) ((byt l 4).toNat : Int) ((numAt l 5 2 : Nat) : Int)).toList) W1.heap.size 46 (vtZ ((byt l 0).toNat : Int) ((byt l 1).toNat : Int) ((byt l 2).toNat : Int) ((byt l 3).toNat : Int) ((byt l 4).toNat : Int) ((numAt l 5 2 : Nat) : Int)) from blk_whole (Blk.drew (Blk.new W1 46 (vtZ 0 0 0 0 0 0))) rfl)
 generalize (((W1.alloc (.cells (vtZ 0 0 0 0 0 0) 46)).drew).setCells W1.heap.size 0 (vtZ ((byt l 0).toNat : Int) ((byt l 1).toNat : Int) ((byt l 2).toNat : Int) ((byt l 3).toNat : Int) ((byt l 4).toNat : Int) ((numAt l 5 2 : Nat) : Int)).toList) = W2 at HE2 HB2 ⊢
 rw [vtZ_eq] at HB2
 have HSRC := Lib.hid (fun (W : World) (hW : Below W1.heap.size W1 W) (k m : Nat) => show ∀ j v, (bcs ((l.drop k).take m))[j]? = some v → W.cell? ((⟨b, o + k, none⟩ : Addr).add j) = some v from by
  intro j v hv
  have hy := rangeAt_take (k := m) (rangeAt_drop (k := k) (HR.out W (HE.out.trans hW)))
  rw [Addr.add_mid]
  refine hy j v ?_
  rw [← hv]
  simp [bcs])
 obtain ⟨n1, hn1⟩ : ∃ n1, ofNm ((l.drop 7).take 8) = n1 := ⟨_, rfl⟩
 obtain ⟨n2, hn2⟩ : ∃ n2, ofNm ((l.drop 15).take 8) = n2 := ⟨_, rfl⟩
 have N1 := Lib.hid (show bcs ((l.drop 7).take 8) = bcs (nmb n1) by rw [← hn1, nmb_ofNm _ (by rw [List.length_take, List.length_drop, HL.out]; omega)])
 have N2 := Lib.hid (show bcs ((l.drop 15).take 8) = bcs (nmb n2) by rw [← hn2, nmb_ofNm _ (by rw [List.length_take, List.length_drop, HL.out]; omega)])
 have HD := Lib.hid (show decVt l = ⟨((byt l 0).toNat : Int), ((byt l 1).toNat : Int), ((byt l 2).toNat : Int), ((byt l 3).toNat : Int), ((byt l 4).toNat : Int), ((numAt l 5 2 : Nat) : Int), n1, n2⟩ by unfold decVt; rw [hn1, hn2])
 clear hn1 hn2 HSS
 have HL8 := Lib.hid (fun (n : UInt64) => show (bcs (nmb n)).length = 8 by rw [bcs_length, nmb_length])
 go_wp2_with fail
 have HZ := Lib.hid (show Below W1.heap.size W1 W2.drew from HE2.out.drew')
 refine wp_region_held_drew (S := fun W => Below W1.heap.size W1 W) (by kernel_rfl) (HE2.out.drew') (fun hHeld => ?_)
 (refine wr 0 (oi := ⟨some 45, .fieldAddr 46 (.tmp 6) 6, 0, "vote.go:61", #[], none⟩) (v := ?_) rfl (by kernel_rfl) (by rfl) (fun _ _ _ h => h) ?h hHeld ?_; case h => (intro W hSW; go_simp <;> with_reducible rfl))
 try simp only [lays]
 (refine wr 1 (oi := ⟨some 46, .slice 44 (.tmp 45) none none none, 28, "vote.go:61", #[⟨0, .data⟩], none⟩) (v := ?_) rfl (by kernel_rfl) (by rfl) (fun _ _ _ h => h) ?h hHeld ?_; case h => (intro W hSW; go_simp <;> with_reducible rfl))
 try simp only [lays]
 (refine wr 2 (oi := ⟨some 47, .move (.tmp 0), 28, "vote.go:61", #[], none⟩) (v := ?_) rfl (by kernel_rfl) (by rfl) (fun _ _ _ h => h) ?h hHeld ?_; case h => (intro W hSW; go_simp <;> with_reducible rfl))
 try simp only [lays]
 (refine wr 3 (oi := ⟨some 48, .slice 28 (.tmp 47) (some (.const (.int .i64 7))) none none, 28, "vote.go:61", #[⟨2, .data⟩], none⟩) (v := ?_) rfl (by kernel_rfl) (by rfl) (fun _ _ _ h => h) ?h hHeld ?_; case h => (intro W hSW; go_simp <;> with_reducible rfl))
 try simp only [lays]
 refine wpAnyH_ready (rs := [4]) (by kernel_rfl) (by simp) ?_
 refine AllReadyH.cons (o := ⟨some 49, .call { callee := .builtin .copy, args := #[.tmp 46, .tmp 48], argTypes := #[28, 28] }, 3, "vote.go:61", #[⟨1, .data⟩, ⟨3, .data⟩], none⟩) rfl (fun K hK => ?_) AllReadyH.nil
 refine step_copy_splice rfl (.tmp 46) (.tmp 48) 28 28 rfl 5 Tryz.underlying28 (by kernel_rfl) (some ⟨W1.heap.size, 6, none⟩) (some ⟨b, o + 7, none⟩) 8 8 16 (c - 7) rfl rfl W1.heap.size 6 _ 46 HB2.out.drew (bcs (nmb n1)) (HL8.out _) (fun _ => ⟨rfl, _, rfl, by rw [← N1.out]; exact HSRC.out _ HZ.out _ _⟩) (by rw [HL8.out]; exact Nat.le_of_ble_eq_true rfl) (bcs_one _) W1.heap.size W1 HZ.out (Nat.le_refl _) ?_
 intro w1 hb1 he1
 refine hK.out _ _ (he1) (fun hHeld => ?_)
 clear hK K
 try simp only [lays]
 refine wpAnyH_done (by kernel_rfl) ?_ _
 have HB3 := Lib.hid (show Blk w1 W1.heap.size 46 (vtA ⟨_, _, _, _, _, _, n1, 0⟩) from by have := hb1.out; rwa [vt_splice6] at this)
 have HE3 := Lib.hid he1
 clear hb1 he1 HB2 HE2 HZ
 go_wp2_with fail
 have HZ := Lib.hid (show Below W1.heap.size W1 w1.drew from HE3.out.drew)
 refine wp_region_held_drew (S := fun W => Below W1.heap.size W1 W) (by kernel_rfl) (HE3.out.drew) (fun hHeld => ?_)
 (refine wr 0 (oi := ⟨some 50, .fieldAddr 46 (.tmp 6) 7, 0, "vote.go:62", #[], none⟩) (v := ?_) rfl (by kernel_rfl) (by rfl) (fun _ _ _ h => h) ?h hHeld ?_; case h => (intro W hSW; go_simp <;> with_reducible rfl))
 try simp only [lays]
 (refine wr 1 (oi := ⟨some 51, .slice 44 (.tmp 50) none none none, 28, "vote.go:62", #[⟨0, .data⟩], none⟩) (v := ?_) rfl (by kernel_rfl) (by rfl) (fun _ _ _ h => h) ?h hHeld ?_; case h => (intro W hSW; go_simp <;> with_reducible rfl))
 try simp only [lays]
 (refine wr 2 (oi := ⟨some 52, .move (.tmp 0), 28, "vote.go:62", #[], none⟩) (v := ?_) rfl (by kernel_rfl) (by rfl) (fun _ _ _ h => h) ?h hHeld ?_; case h => (intro W hSW; go_simp <;> with_reducible rfl))
 try simp only [lays]
 (refine wr 3 (oi := ⟨some 53, .slice 28 (.tmp 52) (some (.const (.int .i64 15))) none none, 28, "vote.go:62", #[⟨2, .data⟩], none⟩) (v := ?_) rfl (by kernel_rfl) (by rfl) (fun _ _ _ h => h) ?h hHeld ?_; case h => (intro W hSW; go_simp <;> with_reducible rfl))
 try simp only [lays]
 refine wpAnyH_ready (rs := [4]) (by kernel_rfl) (by simp) ?_
 refine AllReadyH.cons (o := ⟨some 54, .call { callee := .builtin .copy, args := #[.tmp 51, .tmp 53], argTypes := #[28, 28] }, 3, "vote.go:62", #[⟨1, .data⟩, ⟨3, .data⟩], none⟩) rfl (fun K hK => ?_) AllReadyH.nil
 refine step_copy_splice rfl (.tmp 51) (.tmp 53) 28 28 rfl 5 Tryz.underlying28 (by kernel_rfl) (some ⟨W1.heap.size, 14, none⟩) (some ⟨b, o + 15, none⟩) 8 8 8 (c - 15) rfl rfl W1.heap.size 14 _ 46 HB3.out.drew (bcs (nmb n2)) (HL8.out _) (fun _ => ⟨rfl, _, rfl, by rw [← N2.out]; exact HSRC.out _ HZ.out _ _⟩) (by rw [HL8.out]; exact Nat.le_of_ble_eq_true rfl) (bcs_one _) W1.heap.size W1 HZ.out (Nat.le_refl _) ?_
 intro w4 hb1 he1
 refine hK.out _ _ (he1) (fun hHeld => ?_)
 clear hK K
 try simp only [lays]
 refine wpAnyH_done (by kernel_rfl) ?_ _
 have HB4 := Lib.hid (show Blk w4 W1.heap.size 46 (vtA (decVt l)) from by have := hb1.out; rw [vt_splice14] at this; rw [HD.out]; exact this)
 have HE4 := Lib.hid he1
 clear hb1 he1 HB3 HE3 HZ
 have hr4 : w4.rangeAt W1.heap.size 0 (vtL (decVt l)) := rangeAt_of_blk HB4.out
 have HE0 := Lib.hid (Below.trans HE.out (Below.mono HE4.out HE.out.size) : Ext w w4)
 have hlt : w.heap.size < W1.heap.size := by rw [← hW1]; simp
 have HB0 := Lib.hid (show Blk w4 w.heap.size 46 (vtZ 0 0 0 0 0 0) from HB.out.below HE4.out hlt)
 clear HB
 go_wp2_with (first | (with_reducible refine wpList_loadVt rfl (.tmp 6) rfl W1.heap.size 0 rfl (decVt l) hr4 ?_))
 refine (voteValid_any (decVt l) w4).mono ?_
 rintro e w5 ⟨rfl, he5⟩
 have HX := Lib.hid (Ext.trans HE0.out he5)
 have HB5 := Lib.hid (HB0.out.ext he5)
 have hr5 : w5.rangeAt W1.heap.size 0 (vtL (decVt l)) := rangeAt_of_blk (HB4.out.ext he5)
 have ht : w5.there w.heap.size 0 22 := there_of_blk HB5.out
 clear he5 hr4
 cases hv : vldVt (decVt l) with
 | false =>
  have HC := Lib.hid (show vdV l = zeroV ∧ vdC l = 11 from by unfold vdV vdC; rw [hv]; exact ⟨rfl, rfl⟩)
  have hst := blk_whole (ds := vtA zeroV) HB5.out rfl
  clear hv
  go_wp2_with (first | (with_reducible refine wpList_storeVz rfl (.tmp 2) (.tmp 58) rfl w.heap.size rfl rfl ht ?_))
  rw [HC.out.1, HC.out.2]
  exact bodyPost_ret (v := .tuple #[.agg (vtA zeroV), .int .i64 11]) (retCV rfl _ _ w.heap.size _ _ rfl rfl (run_loadVar_row _ _ _ _ _ (0, 0) _ hst Tryz.underlying46 rfl (by kernel_rfl))) rfl ⟨rfl, Below.setCells' HX.out (Nat.le_refl _) _ _⟩
 | true =>
  have HC := Lib.hid (show vdV l = decVt l ∧ vdC l = 0 from by unfold vdV vdC; rw [hv]; exact ⟨rfl, rfl⟩)
  have hst := blk_whole (ds := vtA (decVt l)) HB5.out rfl
  clear hv
  go_wp2_with (first | (with_reducible refine wpList_loadVt rfl (.tmp 6) rfl W1.heap.size 0 rfl (decVt l) hr5 ?_) | (with_reducible refine wpList_storeVt rfl (.tmp 2) (.tmp 59) rfl w.heap.size (decVt l) rfl rfl ht ?_))
  rw [HC.out.1, HC.out.2]
  exact bodyPost_ret (v := .tuple #[.agg (vtA (decVt l)), .int .i64 0]) (retCV rfl _ _ w.heap.size _ _ rfl rfl (run_loadVar_row _ _ _ _ _ (0, 0) _ hst Tryz.underlying46 rfl (by kernel_rfl))) rfl ⟨rfl, Below.setCells' HX.out (Nat.le_refl _) _ _⟩
end Go.Proofs.YtbfepgjeecndiaaGreat
