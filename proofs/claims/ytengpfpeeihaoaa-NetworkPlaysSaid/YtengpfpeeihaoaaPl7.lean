/- NetworkPlays: a round that corrupts. (Printed by gen_plays.py.) -/
import Derived.Test.YtengpfpeeihaoaaPl5
namespace Go.Proofs.Ytengpfpeeihaoaa
open Go.RowKit
set_option linter.unusedVariables false
set_option linter.unusedSimpArgs false

theorem key_parts {x y : Rec} (h : x.key = y.key) : x.1.f = y.1.f ∧ x.1.t = y.1.t ∧ x.2 = y.2 := by
  unfold Rec.key at h
  injection h with h1 h2
  injection h2 with h2 h3
  exact ⟨h1, h2, h3⟩
set_option maxRecDepth 100000 in
set_option maxHeartbeats 6000000 in
theorem case_cor (w0 : World) (B b b2 : Nat) (p ask : Int) (bl ol nl cl k : Nat) (wr : World) (u : Nat → Value) (Q0 : Exit → Act → World → Prop) (hk : k < nl) (hnl : nl ≤ 9223372036854775807) (hrel : Rel w0 B b b2 p k wr) (hp : p ≤ 62) (hB0 : w0.heap.size ≤ B)
    (i0 i1 i2 i3 y f t : Int) (a : Option Addr) (m c : Nat) (l : List UInt8) (hc : CallAt wr bl (ol + k * 8) i0 i1 i2 i3 y f t a m c) (hs : SlB w0 a m c l) (hk80 : k < 80) (hm : m ≤ 1000)
    (hd : i0 = 3) (yb : UInt8) (hyb : y = (yb.toNat : Int)) :
    Code.wp Try.prog ((Try.f5.body.bind firstLoop).getD .skip) (Exit.then (fun a' w'' => PI w0 B b b2 p ask (some ⟨bl, ol, none⟩) nl cl a' w'' ∧ Pmu nl a' w'' < nl - k) Q0) ⟨#[u 0, u 1, .int .i64 ask, u 3, u 4, u 5, u 6, .pointer (some ⟨b, 0, none⟩), .pointer (some ⟨b2, 0, none⟩), u 9, u 10, u 11, u 12, u 13, u 14, u 15, u 16, u 17, u 18, u 19, u 20, u 21, u 22, u 23, u 24, u 25, u 26, u 27, u 28, u 29, .slice (some ⟨bl, ol, none⟩) nl cl, .int .i64 (nl : Int), .int .i64 (k : Int), u 33, u 34, u 35, u 36, u 37, u 38, u 39, u 40, u 41, u 42, u 43, u 44, u 45, u 46, u 47, u 48, u 49, u 50, u 51, u 52, u 53, u 54, u 55, u 56, u 57, u 58, u 59, u 60, u 61, u 62, u 63, u 64, u 65, u 66, u 67, u 68, u 69, u 70, u 71, u 72, u 73, u 74, u 75, u 76, u 77, u 78, u 79, u 80, u 81, u 82, u 83, u 84, u 85, u 86, u 87, u 88, u 89, u 90, u 91, u 92, u 93, u 94, u 95, u 96, u 97, u 98, u 99, u 100, u 101, u 102, u 103, u 104, u 105, u 106, u 107, u 108, u 109, u 110, u 111, u 112, u 113, u 114, u 115, u 116, u 117, u 118, u 119, u 120, u 121, u 122, u 123, u 124, u 125, u 126, u 127, u 128, u 129, u 130, u 131, u 132, u 133, u 134, u 135, u 136, u 137, u 138, u 139, u 140, u 141, u 142, u 143, u 144, u 145, u 146, u 147, u 148, u 149, u 150, u 151, u 152, u 153, u 154, u 155, u 156, u 157, u 158, u 159, u 160, u 161, u 162, u 163, u 164, u 165, u 166, u 167, u 168, u 169, u 170, u 171, u 172, u 173, u 174, u 175, u 176, u 177, u 178, u 179, u 180, u 181, u 182, u 183, u 184, u 185, u 186, u 187, u 188, u 189, u 190, u 191, u 192, u 193, u 194, u 195, u 196, u 197, u 198, u 199, u 200, u 201, u 202, u 203, u 204, u 205, u 206, u 207, u 208, u 209, u 210, u 211, u 212, u 213, u 214, u 215, u 216, u 217, u 218, u 219, u 220, u 221, u 222, u 223, u 224, u 225, u 226, u 227, u 228, u 229, u 230, u 231, u 232, u 233, u 234, u 235, u 236, u 237, u 238, u 239, u 240, u 241, u 242, u 243, u 244, u 245], []⟩ wr := by
  have d0 : (i0 == 0) = false := by rw [hd]; rfl
  have d1 : (i0 == 1) = false := by rw [hd]; rfl
  have d2 : (i0 == 2) = false := by rw [hd]; rfl
  have d3 : (i0 == 3) = true := by rw [hd]; rfl
  clear hd
  have HYB := Lib.hid hyb
  clear hyb
  have hk' : (k : Int) < (nl : Int) := by omega
  have hk0 : (0 : Int) ≤ (k : Int) := by omega
  have e1 : decide ((80 : Int) ≤ (k : Int)) = false := decide_eq_false (by omega)
  have e2 : decide ((1000 : Int) < (m : Int)) = false := decide_eq_false (by omega)
  obtain ⟨X, Y, hP, hkeys, hX, h80, hE⟩ := hrel
  have hXn : X.length ≤ 4096 := by omega
  have hYn : Y.length ≤ 4096 := by rw [keys_len hkeys]; omega
  have hXn' : X.length < 4096 := by omega
  have hYn' : Y.length < 4096 := by rw [keys_len hkeys]; omega
  have HK := Lib.hid hkeys
  have hA := (Ext.refl wr).alloc' (.cells (ccs i0 i1 i2 i3 y f t a m c) 46)
  have HP0 := Lib.hid (hP.ext hA)
  have HC0 := Lib.hid (Blk.new wr 46 (ccs i0 i1 i2 i3 y f t a m c))
  have HE0 := Lib.hid (hE.alloc' (.cells (ccs i0 i1 i2 i3 y f t a m c) 46))
  have Hs := Lib.hid hs
  have HS0 := Lib.hid (hs.ext HE0.out)
  clear hP hkeys hE hA hs
  obtain ⟨c0, c1, c2, c3, c4, c5, c6, c7⟩ := hc
  conv => arg 2; whnf
  go_wp2_with fail
  clear c0 c1 c2 c3 c4 c5 c6 c7
  generalize wr.alloc (.cells (ccs i0 i1 i2 i3 y f t a m c) 46) = W at *
  have HP := Lib.hid (HP0.out.ext (Ext.refl W).drew')
  have HC := Lib.hid HC0.out.drew
  have HS := Lib.hid (HS0.out.ext (Ext.refl W).drew')
  have HED := Lib.hid HE0.out.drew'
  by_cases hr : 0 ≤ i1 ∧ i1 < (X.length : Int)
  · obtain ⟨i, rfl⟩ := Int.eq_ofNat_of_zero_le hr.1
    have hi : i < X.length := by omega
    have hi2 : i < Y.length := by rw [keys_len HK.out]; exact hi
    have HKN := Lib.hid (key_parts (keys_nth HK.out hi))
    clear hr
    by_cases hq : y = 0 ∨ i2 < 0 ∨ ((nthX X i).2.length : Int) ≤ i2
    · have HQ := Lib.hid hq
      have HQ2 := Lib.hid (show y = 0 ∨ i2 < 0 ∨ ((nthX Y i).2.length : Int) ≤ i2 from by rw [← HKN.out.2.2]; exact hq)
      clear hq
      go_region_held3 (fun w' => w'.cell? ⟨wr.heap.size, 1, none⟩ = some (.int .i64 (i : Int)) ∧ w'.cell? ⟨wr.heap.size, 2, none⟩ = some (.int .i64 i2) ∧ w'.cell? ⟨wr.heap.size, 4, none⟩ = some (.int .u8 y)) (exact ⟨HC.out.cell 1, HC.out.cell 2, HC.out.cell 4⟩) (first | (go_at_call 23; refine (pCorArg HP.out _ i2 y i rfl hi hXn HQ.out).mono ?_; rintro e w1 ⟨rfl, rfl⟩) | (go_at_call 31; refine (rCorArg HP.out _ i2 y i rfl hi2 hYn HQ2.out).mono ?_; rintro e w2 ⟨rfl, rfl⟩))
      have HF := HK
      have HP2 := HP
      have HEE := HED
      have HLE := Lib.hid (show X.length ≤ k + 1 from by omega)
      generalize W.drew = w2 at *
      obtain ⟨N, A9, c9, A8, c8, hN9, hN, hR⟩ := HP2.out.nets HF.out
      have HN := Lib.hid hN
      have z1 : w2.cell? ⟨b2, 1, none⟩ = some (.slice A8 N c8) := hR.blk.cell 1
      have HNl := Lib.hid hN9
      clear hN hR hN9
      go_wp2_with fail
      go_quiet ((go_at_call 25; refine Calls.quiet_of_same ((len_any _ _ _ _ _ _ _ _ (HN.out.ext (below_drewN (Ext.refl _) _))).mono fun _ _ h => ⟨h.1, h.2.symm⟩)))
      go_wp2_with fail
      refine ⟨⟨rfl, rfl, rfl, rfl, rfl, rfl, rfl, k + 1, by go_num, by omega, _, _, HP2.out.ext (below_drewN (Ext.refl _) _), HF.out, HLE.out, by omega, below_drewN HEE.out _⟩, ?_⟩
      simp [Pmu, intOf]; omega
    · have hy0 : yb ≠ 0 := fun e => hq (.inl (by rw [HYB.out, e]; rfl))
      obtain ⟨j, hj⟩ := Int.eq_ofNat_of_zero_le (show 0 ≤ i2 by omega)
      have hj1 : j < (nthX X i).2.length := by omega
      have hj2 : j < (nthX Y i).2.length := by rw [← HKN.out.2.2]; exact hj1
      have HJ := Lib.hid hj
      clear hq hj
      go_region_held3 (fun w' => w'.cell? ⟨wr.heap.size, 1, none⟩ = some (.int .i64 (i : Int)) ∧ w'.cell? ⟨wr.heap.size, 2, none⟩ = some (.int .i64 i2) ∧ w'.cell? ⟨wr.heap.size, 4, none⟩ = some (.int .u8 y)) (first | exact ⟨HC2.out.cell 1, HC2.out.cell 2, HC2.out.cell 4⟩ | exact ⟨HC1.out.cell 1, HC1.out.cell 2, HC1.out.cell 4⟩ | exact ⟨HC.out.cell 1, HC.out.cell 2, HC.out.cell 4⟩) (first | (go_at_call 23; refine (pCor HP.out _ i2 y i j yb rfl HJ.out HYB.out hi hXn hj1 hy0).mono ?_; rintro e w1 ⟨rfl, hP1, hB1, hk1⟩; have HP1 := Lib.hid hP1; have HE1 := Lib.hid (show Ext w0 w1 from Below.trans HED.out (Below.mono hB1 hB0)); have HC1 := Lib.hid (hk1.2 _ _ _ (by decide) HC.out); clear hP1 hB1 hk1) | (go_at_call 31; refine (rCor HP1.out _ i2 y i j yb rfl HJ.out HYB.out hi2 hYn hj2 hy0).mono ?_; rintro e w2 ⟨y', rfl, hP2, hy', hB2, hk2⟩; have HP2 := Lib.hid hP2; have HEE := Lib.hid (show Ext w0 w2 from Below.trans HE1.out (Below.mono hB2 hB0)); have HC2 := Lib.hid (HC1.out.keptT hk2 (by decide) (by decide)); have HY := Lib.hid hy'; clear hP2 hB2 hk2 hy'))
      have HF := Lib.hid (keys_set HK.out (x := ((nthX X i).1, (nthX X i).2.set j (xorB (nthB (nthX X i).2 j) yb))) (y := y') (by rw [HY.out, ← HKN.out.1, ← HKN.out.2.1, ← HKN.out.2.2]; rfl) i)
      have HLE := Lib.hid (show (X.set i ((nthX X i).1, (nthX X i).2.set j (xorB (nthB (nthX X i).2 j) yb))).length ≤ k + 1 from by rw [List.length_set]; omega)
      obtain ⟨N, A9, c9, A8, c8, hN9, hN, hR⟩ := HP2.out.nets HF.out
      have HN := Lib.hid hN
      have z1 : w2.cell? ⟨b2, 1, none⟩ = some (.slice A8 N c8) := hR.blk.cell 1
      have HNl := Lib.hid hN9
      clear hN hR hN9
      go_wp2_with fail
      go_quiet ((go_at_call 25; refine Calls.quiet_of_same ((len_any _ _ _ _ _ _ _ _ (HN.out.ext (below_drewN (Ext.refl _) _))).mono fun _ _ h => ⟨h.1, h.2.symm⟩)))
      go_wp2_with fail
      refine ⟨⟨rfl, rfl, rfl, rfl, rfl, rfl, rfl, k + 1, by go_num, by omega, _, _, HP2.out.ext (below_drewN (Ext.refl _) _), HF.out, HLE.out, by omega, below_drewN HEE.out _⟩, ?_⟩
      simp [Pmu, intOf]; omega
  · have HR := Lib.hid (show i1 < 0 ∨ (X.length : Int) ≤ i1 from by omega)
    have HR2 := Lib.hid (show i1 < 0 ∨ (Y.length : Int) ≤ i1 from by rw [keys_len HK.out]; exact HR.out)
    clear hr
    go_region_held3 (fun w' => w'.cell? ⟨wr.heap.size, 1, none⟩ = some (.int .i64 i1) ∧ w'.cell? ⟨wr.heap.size, 2, none⟩ = some (.int .i64 i2) ∧ w'.cell? ⟨wr.heap.size, 4, none⟩ = some (.int .u8 y)) (exact ⟨HC.out.cell 1, HC.out.cell 2, HC.out.cell 4⟩) (first | (go_at_call 23; refine (pCorNo HP.out i1 i2 y HR.out hXn).mono ?_; rintro e w1 ⟨rfl, rfl⟩) | (go_at_call 31; refine (rCorNo HP.out i1 i2 y HR2.out hYn).mono ?_; rintro e w2 ⟨rfl, rfl⟩))
    have HF := HK
    have HP2 := HP
    have HEE := HED
    have HLE := Lib.hid (show X.length ≤ k + 1 from by omega)
    generalize W.drew = w2 at *
    obtain ⟨N, A9, c9, A8, c8, hN9, hN, hR⟩ := HP2.out.nets HF.out
    have HN := Lib.hid hN
    have z1 : w2.cell? ⟨b2, 1, none⟩ = some (.slice A8 N c8) := hR.blk.cell 1
    have HNl := Lib.hid hN9
    clear hN hR hN9
    go_wp2_with fail
    go_quiet ((go_at_call 25; refine Calls.quiet_of_same ((len_any _ _ _ _ _ _ _ _ (HN.out.ext (below_drewN (Ext.refl _) _))).mono fun _ _ h => ⟨h.1, h.2.symm⟩)))
    go_wp2_with fail
    refine ⟨⟨rfl, rfl, rfl, rfl, rfl, rfl, rfl, k + 1, by go_num, by omega, _, _, HP2.out.ext (below_drewN (Ext.refl _) _), HF.out, HLE.out, by omega, below_drewN HEE.out _⟩, ?_⟩
    simp [Pmu, intOf]; omega
end Go.Proofs.Ytengpfpeeihaoaa
