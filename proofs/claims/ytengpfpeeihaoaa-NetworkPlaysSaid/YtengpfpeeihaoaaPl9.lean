/- NetworkPlays: a round that lets parcels flow. (Printed by gen_plays.py.) -/
import Derived.Test.YtengpfpeeihaoaaPl7
namespace Go.Proofs.Ytengpfpeeihaoaa
open Go.RowKit
set_option linter.unusedVariables false
set_option linter.unusedSimpArgs false

theorem own_len {w : World} {base : Nat} {e : TypeId} {v : Value} {n : Nat} {Z : List Rec} (h : w.ownsRow base e 3 v n (rowP (Z.map (·.1)))) : n = Z.length := by
  have := h.1; rw [rowP_length, List.length_map] at this; omega
/-- what the walk wants of the two parcels at place j -/
theorem flow_cells {w : World} {base base' : Nat} {e e' : TypeId} {A A' : Option Addr} {n c c' : Nat} {X1 Y1 : List Rec} {B : Nat} (h : w.ownsRow base e 3 (.slice A n c) n (rowP (X1.map (·.1)))) (h' : w.ownsRow base' e' 3 (.slice A' n c') n (rowP (Y1.map (·.1)))) (hk : X1.map Rec.key = Y1.map Rec.key)
    (hx : Has w B X1) (hy : Has w B Y1) {j : Nat} (hj : j < n) :
    ∃ g g' f t a m k a' m' k' l, A = some ⟨g, 0, none⟩ ∧ A' = some ⟨g', 0, none⟩ ∧ SlB w a m k l ∧ SlB w a' m' k' l ∧
      (w.cell? ⟨g, j * 3, none⟩ = some (.int .i64 f) ∧ w.cell? ⟨g, j * 3 + 1, none⟩ = some (.int .i64 t) ∧ w.cell? ⟨g, j * 3 + 2, none⟩ = some (.slice a m k)) ∧
      (w.cell? ⟨g', j * 3, none⟩ = some (.int .i64 f) ∧ w.cell? ⟨g', j * 3 + 1, none⟩ = some (.int .i64 t) ∧ w.cell? ⟨g', j * 3 + 2, none⟩ = some (.slice a' m' k')) := by
  have e1 := own_len h
  have e2 := own_len h'
  have hkn := key_parts (keys_nth hk (show j < X1.length by omega))
  have at1 : ∃ g, A = some ⟨g, 0, none⟩ := by
    rcases h.2 with ⟨hv, h0⟩ | ⟨g, cap, cur, hv, _⟩
    · omega
    · injection hv with hA; exact ⟨g, hA⟩
  have at2 : ∃ g, A' = some ⟨g, 0, none⟩ := by
    rcases h'.2 with ⟨hv, h0⟩ | ⟨g, cap, cur, hv, _⟩
    · omega
    · injection hv with hA; exact ⟨g, hA⟩
  obtain ⟨g, rfl⟩ := at1
  obtain ⟨g', rfl⟩ := at2
  have c1 := own_cells3 h (i := j) (by rw [List.length_map]; omega)
  have c2 := own_cells3 h' (i := j) (by rw [List.length_map]; omega)
  rw [nthX_map X1 (by omega)] at c1
  rw [nthX_map Y1 (by omega), ← hkn.1, ← hkn.2.1] at c2
  have s1 := (hx _ (nthX_mem X1 (i := j) (by omega))).sl
  have s2 := (hy _ (nthX_mem Y1 (i := j) (by omega))).sl
  rw [← hkn.2.2] at s2
  exact ⟨g, g', _, _, _, _, _, _, _, _, _, rfl, rfl, s1, s2, c1, c2⟩
set_option maxRecDepth 100000 in
set_option maxHeartbeats 8000000 in
theorem case_flow (w0 : World) (B b b2 : Nat) (p ask : Int) (bl ol nl cl k : Nat) (wr : World) (u : Nat → Value) (Q0 : Exit → Act → World → Prop) (hk : k < nl) (hnl : nl ≤ 9223372036854775807) (hrel : Rel w0 B b b2 p k wr) (hp : p ≤ 62) (hB0 : w0.heap.size ≤ B)
    (i0 i1 i2 i3 y f t : Int) (a : Option Addr) (m c : Nat) (l : List UInt8) (hc : CallAt wr bl (ol + k * 8) i0 i1 i2 i3 y f t a m c) (hs : SlB w0 a m c l) (hk80 : k < 80) (hm : m ≤ 1000)
    (hd : i0 = 4) :
    Code.wp Try.prog ((Try.f5.body.bind firstLoop).getD .skip) (Exit.then (fun a' w'' => PI w0 B b b2 p ask (some ⟨bl, ol, none⟩) nl cl a' w'' ∧ Pmu nl a' w'' < nl - k) Q0) ⟨#[u 0, u 1, .int .i64 ask, u 3, u 4, u 5, u 6, .pointer (some ⟨b, 0, none⟩), .pointer (some ⟨b2, 0, none⟩), u 9, u 10, u 11, u 12, u 13, u 14, u 15, u 16, u 17, u 18, u 19, u 20, u 21, u 22, u 23, u 24, u 25, u 26, u 27, u 28, u 29, .slice (some ⟨bl, ol, none⟩) nl cl, .int .i64 (nl : Int), .int .i64 (k : Int), u 33, u 34, u 35, u 36, u 37, u 38, u 39, u 40, u 41, u 42, u 43, u 44, u 45, u 46, u 47, u 48, u 49, u 50, u 51, u 52, u 53, u 54, u 55, u 56, u 57, u 58, u 59, u 60, u 61, u 62, u 63, u 64, u 65, u 66, u 67, u 68, u 69, u 70, u 71, u 72, u 73, u 74, u 75, u 76, u 77, u 78, u 79, u 80, u 81, u 82, u 83, u 84, u 85, u 86, u 87, u 88, u 89, u 90, u 91, u 92, u 93, u 94, u 95, u 96, u 97, u 98, u 99, u 100, u 101, u 102, u 103, u 104, u 105, u 106, u 107, u 108, u 109, u 110, u 111, u 112, u 113, u 114, u 115, u 116, u 117, u 118, u 119, u 120, u 121, u 122, u 123, u 124, u 125, u 126, u 127, u 128, u 129, u 130, u 131, u 132, u 133, u 134, u 135, u 136, u 137, u 138, u 139, u 140, u 141, u 142, u 143, u 144, u 145, u 146, u 147, u 148, u 149, u 150, u 151, u 152, u 153, u 154, u 155, u 156, u 157, u 158, u 159, u 160, u 161, u 162, u 163, u 164, u 165, u 166, u 167, u 168, u 169, u 170, u 171, u 172, u 173, u 174, u 175, u 176, u 177, u 178, u 179, u 180, u 181, u 182, u 183, u 184, u 185, u 186, u 187, u 188, u 189, u 190, u 191, u 192, u 193, u 194, u 195, u 196, u 197, u 198, u 199, u 200, u 201, u 202, u 203, u 204, u 205, u 206, u 207, u 208, u 209, u 210, u 211, u 212, u 213, u 214, u 215, u 216, u 217, u 218, u 219, u 220, u 221, u 222, u 223, u 224, u 225, u 226, u 227, u 228, u 229, u 230, u 231, u 232, u 233, u 234, u 235, u 236, u 237, u 238, u 239, u 240, u 241, u 242, u 243, u 244, u 245], []⟩ wr := by
  have d0 : (i0 == 0) = false := by rw [hd]; rfl
  have d1 : (i0 == 1) = false := by rw [hd]; rfl
  have d2 : (i0 == 2) = false := by rw [hd]; rfl
  have d3 : (i0 == 3) = false := by rw [hd]; rfl
  have d4 : (i0 == 4) = true := by rw [hd]; rfl
  clear hd
  have hk' : (k : Int) < (nl : Int) := by omega
  have hk0 : (0 : Int) ≤ (k : Int) := by omega
  have e1 : decide ((80 : Int) ≤ (k : Int)) = false := decide_eq_false (by omega)
  have e2 : decide ((1000 : Int) < (m : Int)) = false := decide_eq_false (by omega)
  obtain ⟨X, Y, hP, hkeys, hX, h80, hE⟩ := hrel
  have hXn : X.length ≤ 4096 := by omega
  have hYn : Y.length ≤ 4096 := by rw [keys_len hkeys]; omega
  have hXn' : X.length < 4096 := by omega
  have hYn' : Y.length < 4096 := by rw [keys_len hkeys]; omega
  have HK := Lib.hid hkeys
  have hA := (Ext.refl wr).alloc' (.cells (ccs i0 i1 i2 i3 y f t a m c) 46)
  have HP0 := Lib.hid (hP.ext hA)
  have HC0 := Lib.hid (Blk.new wr 46 (ccs i0 i1 i2 i3 y f t a m c))
  have HE0 := Lib.hid (hE.alloc' (.cells (ccs i0 i1 i2 i3 y f t a m c) 46))
  have Hs := Lib.hid hs
  have HS0 := Lib.hid (hs.ext HE0.out)
  clear hP hkeys hE hA hs
  obtain ⟨c0, c1, c2, c3, c4, c5, c6, c7⟩ := hc
  conv => arg 2; whnf
  go_wp2_with fail
  clear c0 c1 c2 c3 c4 c5 c6 c7
  generalize wr.alloc (.cells (ccs i0 i1 i2 i3 y f t a m c) 46) = W at *
  have HP := Lib.hid (HP0.out.ext (Ext.refl W).drew')
  have HC := Lib.hid HC0.out.drew
  have HS := Lib.hid (HS0.out.ext (Ext.refl W).drew')
  have HED := Lib.hid HE0.out.drew'
  have HF := Lib.hid (keys_filter HK.out (fun kk => !within i3 kk.1 kk.2.1))
  have HF1 := Lib.hid (keys_filter HK.out (fun kk => within i3 kk.1 kk.2.1))
  go_region_held3 (fun w' => w'.cell? ⟨wr.heap.size, 3, none⟩ = some (.int .i64 i3)) (first | exact HC2.out.cell 3 | exact HC1.out.cell 3 | exact HC.out.cell 3) (first | (go_at_call 32; refine (pFlow HP.out hp i3 hXn).mono ?_; rintro e w1 ⟨A1, m1, c1, rfl, hO1, hP1, hH1, hB1, hk1⟩; have HP1 := Lib.hid hP1; have HO1 := Lib.hid hO1; have HH1 := Lib.hid hH1; have HE1 := Lib.hid (show Ext w0 w1 from Below.trans HED.out (Below.mono hB1 hB0)); have HC1 := Lib.hid (HC.out.keptT hk1 (by decide) (by decide)); clear hP1 hB1 hk1 hO1 hH1) | (go_at_call 33; refine (rFlow HP1.out hp i3 hYn).mono ?_; rintro e w2 ⟨A2, m2, c2, rfl, hO2, hP2, hH2, hB2, hk2⟩; have HP2 := Lib.hid hP2; have HO2 := Lib.hid hO2; have HO1' := Lib.hid (own_keptT HO1.out hk2 (by decide) (by decide)); have HH2 := Lib.hid hH2; have HH1' := Lib.hid (HH1.out.keptT hk2 (by decide) (by decide)); have HEE := Lib.hid (show Ext w0 w2 from Below.trans HE1.out (Below.mono hB2 hB0)); have HC2 := Lib.hid (HC1.out.keptT hk2 (by decide) (by decide)); clear hP2 hB2 hk2 hO2 hH2))
  have HLE := Lib.hid (show (X.filter (fun x => !within i3 x.1.f x.1.t)).length ≤ k + 1 from Nat.le_trans (List.length_filter_le _ _) (by omega))
  obtain rfl : m1 = m2 := by rw [own_len HO1'.out, own_len HO2.out]; exact (keys_len HF1.out).symm
  have hm1 : m1 ≤ 4096 := by rw [own_len HO1'.out]; exact Nat.le_trans (List.length_filter_le _ _) (by omega)
  have HFC := Lib.hid (fun (wq : World) (hq : Ext w2 wq) (j : Nat) (hj : j < m1) => flow_cells (own_ext HO1'.out hq) (own_ext HO2.out hq) HF1.out ((fun x hx => (HH1'.out.ext hq) x ((List.mem_filter.1 hx).1)) : Has wq B _) ((fun x hx => (HH2.out.ext hq) x ((List.mem_filter.1 hx).1)) : Has wq B _) hj)
  clear HO1 HH1 HP1 HP HO1' HH1' HO2 HH2 HC1 HC2 HC HE1 HF1
  obtain ⟨wo, rfl⟩ : ∃ wo : World, wo = wr := ⟨_, rfl⟩
  go_wp2_with fail
  go_loopw [11, 18] (fun o i wq => ∃ (j : Nat), j ≤ m1 ∧ i = .int .i64 (j : Int) ∧ o = .bool true ∧ Ext w2 wq) (fun _ i _ => m1 - (intOf i).toNat)
  case atStart => exact ⟨0, by omega, rfl, rfl, Ext.refl _⟩
  case round =>
    obtain ⟨j, hj, rfl, rfl, hq⟩ := hrel
    by_cases hlt : j < m1
    · obtain ⟨g, g', f', t', a', m', k', a2, m2', k2', l', rfl, rfl, s1, s2, ⟨x0, x1, x2⟩, ⟨y0, y1, y2⟩⟩ := HFC.out wr hq j hlt
      have HQ := Lib.hid hq
      have HS1 := Lib.hid s1
      have HS2 := Lib.hid s2
      have HSS := Lib.hid (fun (w' : World) (he : Ext wr w') => (⟨hE3 he x0, hE3 he x1, hE3 he x2, hE3 he y0, hE3 he y1, hE3 he y2⟩ : w'.cell? ⟨g, j * 3, none⟩ = some (.int .i64 f') ∧ w'.cell? ⟨g, j * 3 + 1, none⟩ = some (.int .i64 t') ∧ w'.cell? ⟨g, j * 3 + 2, none⟩ = some (.slice a' m' k') ∧ w'.cell? ⟨g', j * 3, none⟩ = some (.int .i64 f') ∧ w'.cell? ⟨g', j * 3 + 1, none⟩ = some (.int .i64 t') ∧ w'.cell? ⟨g', j * 3 + 2, none⟩ = some (.slice a2 m2' k2')))
      have j0 : (0 : Int) ≤ (j : Int) := by omega
      have j1 : (j : Int) < (m1 : Int) := by omega
      clear hq s1 s2 x0 x1 x2 y0 y1 y2
      go_wp2_with fail
      go_region_held3 (fun w' => w'.cell? ⟨g, j * 3, none⟩ = some (.int .i64 f') ∧ w'.cell? ⟨g, j * 3 + 1, none⟩ = some (.int .i64 t') ∧ w'.cell? ⟨g, j * 3 + 2, none⟩ = some (.slice a' m' k') ∧ w'.cell? ⟨g', j * 3, none⟩ = some (.int .i64 f') ∧ w'.cell? ⟨g', j * 3 + 1, none⟩ = some (.int .i64 t') ∧ w'.cell? ⟨g', j * 3 + 2, none⟩ = some (.slice a2 m2' k2')) (first | exact HSS.out _ HX3.out | exact HSS.out _ (Ext.refl _).drew') ((go_at_call 29; refine (same_any f' t' a' a2 m' m2' k' k2' l' _ (HS1.out.ext (Ext.refl _).drew') (HS2.out.ext (Ext.refl _).drew')).mono ?_; rintro e w3 ⟨rfl, he3⟩; have HX3 := Lib.hid (((Ext.refl wr).drew').trans he3); clear he3))
      go_wp2_with fail
      go_roundw
      case rel => exact ⟨j + 1, by omega, by go_num, rfl, HQ.out.trans HX3.out⟩
      case measure => simp [intOf]; omega
    · have HQ := Lib.hid hq
      have HP3 := Lib.hid (HP2.out.ext hq)
      have HEE3 := Lib.hid (HEE.out.trans hq)
      clear hq HP2 HEE
      have j1 : ¬ (j : Int) < (m1 : Int) := by omega
      obtain ⟨N, A9, c9, A8, c8, hN9, hN, hR⟩ := HP3.out.nets HF.out
      have HN := Lib.hid hN
      have z1 : wr.cell? ⟨b2, 1, none⟩ = some (.slice A8 N c8) := hR.blk.cell 1
      have HNl := Lib.hid hN9
      clear hN hR hN9
      go_wp2_with fail
      go_quiet ((go_at_call 25; refine Calls.quiet_of_same ((len_any _ _ _ _ _ _ _ _ (HN.out.ext (below_drewN (Ext.refl _) _))).mono fun _ _ h => ⟨h.1, h.2.symm⟩)))
      go_wp2_with fail
      refine ⟨⟨rfl, rfl, rfl, rfl, rfl, rfl, rfl, k + 1, by go_num, by omega, _, _, HP3.out.ext (below_drewN (Ext.refl _) _), HF.out, HLE.out, by omega, below_drewN HEE3.out _⟩, ?_⟩
      simp [Pmu, intOf]; omega
end Go.Proofs.Ytengpfpeeihaoaa
