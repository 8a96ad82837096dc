import Derived.Test.YtengpfpeeihaoaaOne2
namespace Go.Proofs.Ytengpfpeeihaoaa
open Go.RowKit
set_option linter.unusedVariables false
set_option linter.unusedSimpArgs false
attribute [local go_sem ↓] Go.wp_at_zero Go.wp_at_succ

theorem dg_mem (l : List UInt8) : ∀ z ∈ dg l, 0 ≤ z ∧ z ≤ 15 := by
  intro z hz
  simp only [dg, List.mem_flatMap] at hz
  obtain ⟨c, _, hc⟩ := hz
  have := c.toNat_lt
  simp at hc
  omega
theorem digs_mem (m : UInt64) : ∀ z ∈ digs m, 0 ≤ z ∧ z ≤ 15 := by
  intro z hz
  unfold digs at hz
  rw [List.mem_append] at hz
  rcases hz with h | h
  · exact dg_mem _ z h
  · have hd := dsum_le (nmb m)
    rw [nmb_length] at hd
    simp at h
    omega
theorem dig_bd (m : UInt64) (c : Nat) (hc : c < 18) : 0 ≤ dig m c ∧ dig m c ≤ 15 := by
  have hl := digs_length m
  refine digs_mem m _ ?_
  unfold dig
  have : (digs m).getD c 0 = (digs m)[c]'(by omega) := by simp [hl, hc]
  rw [this]
  exact List.getElem_mem _
theorem ics_dig {w : World} {b o : Nat} {m : UInt64} (h : w.rangeAt b o (ics (digs m))) (k : Nat) (hk : k < 18) : w.cell? ⟨b, o + k, none⟩ = some (.int .i64 (dig m k)) := by
  have hl := digs_length m
  refine h k _ ?_
  simp [ics, iv, dig, hl, hk]
theorem walkSig (seed m : UInt64) (k : Nat) (hk : k < 18) (w : World) : Calls Try.prog 99 #[.agg (nmc (startU seed k)), .int .i64 (k : Int), .int .i64 0, .int .i64 (dig m k)] w fun e w' => e = .returned (.agg (nmc (sigF seed m k))) ∧ Ext w w' := by
  have hb := dig_bd m k hk
  have := walk_any (startU seed k) k 0 (dig m k) w (by omega) (by omega) (by omega) (by omega)
  rwa [Int.sub_zero] at this
theorem chainSig (seed m : UInt64) (k : Nat) (hk : k < 18) (w : World) : Calls Try.prog 75 #[.agg (nmc (startU seed k)), .int .i64 (k : Int), .int .i64 0, .int .i64 (dig m k)] w fun e w' => e = .returned (.agg (nmc (sigF seed m k))) ∧ Ext w w' := by
  have hb := dig_bd m k hk
  have := refChain_any (startU seed k) k 0 (dig m k) w (by omega) (by omega) (by omega) (by omega)
  rwa [Int.sub_zero] at this
theorem walkRec (m : UInt64) (sig : List UInt64) (k : Nat) (hk : k < 18) (w : World) : Calls Try.prog 99 #[.agg (nmc (nthN sig k)), .int .i64 (k : Int), .int .i64 (dig m k), .int .i64 15] w fun e w' => e = .returned (.agg (nmc (recF m sig k))) ∧ Ext w w' := by
  have hb := dig_bd m k hk
  exact walk_any _ k (dig m k) 15 w (by omega) (by omega) (by omega) (by omega)
theorem chainRec (m : UInt64) (sig : List UInt64) (k : Nat) (hk : k < 18) (w : World) : Calls Try.prog 75 #[.agg (nmc (nthN sig k)), .int .i64 (k : Int), .int .i64 (dig m k), .int .i64 15] w fun e w' => e = .returned (.agg (nmc (recF m sig k))) ∧ Ext w w' := by
  have hb := dig_bd m k hk
  exact refChain_any _ k (dig m k) 15 w (by omega) (by omega) (by omega) (by omega)
set_option maxRecDepth 100000 in
set_option maxHeartbeats 1000000 in
theorem oneSign_any (seed m : UInt64) (w : World) :
    Calls Try.prog 95 #[.agg (nmc seed), .agg (nmc m)] w fun e w' => ∃ g, e = .returned (.slice (some ⟨g, 0, none⟩) 18 18) ∧ Blk w' g 61 (ncs (oneSig seed m)).toArray ∧ w.heap.size ≤ g ∧ Ext w w' := by
  have hmk := hmkN18 (sigF seed m)
  go_enter Try.func95, Try.ntmps95
  go_wp2_with (with_reducible refine wpList_loadN rfl (.tmp 3) rfl (w.heap.size + 1) 0 rfl m ?h1 ?_)
  case h1 => exact rangeN ((Blk.newAt _ _ _ _ (by simp)).alloc _)
  go_wp2_with fail
  refine (digits_any m _).mono ?_
  rintro e w0 ⟨b, c, rfl, hra, hbg, he0⟩
  go_wp2_with fail
  have hS0 : Blk w0 w.heap.size 61 (nmc seed) := (((Blk.new w _ _).alloc _).alloc _).ext he0
  have hT0 : Blk w0 (w.heap.size + 2) 61 (ncs (tabN (sigF seed m) 18 0)).toArray := (Blk.newAt _ _ _ _ (by simp)).ext he0
  have hE0 : Ext w w0 := ((((Ext.refl w).alloc' _).alloc' _).alloc' _).trans he0
  have hbw : b ≠ w.heap.size + 2 := by simp at hbg; omega
  go_loopw [12] (fun i wr => ∃ (k : Nat), k ≤ 18 ∧ i = .int .i64 (k : Int) ∧ Blk wr w.heap.size 61 (nmc seed) ∧ Blk wr (w.heap.size + 2) 61 (ncs (tabN (sigF seed m) 18 k)).toArray ∧ wr.rangeAt b 0 (ics (digs m)) ∧ Ext w wr) (fun i _ => 18 - (intOf i).toNat)
  case atStart => exact ⟨0, by omega, rfl, hS0, hT0, hra, hE0⟩
  case round =>
    obtain ⟨k, hk, rfl, hS, hT, hra, hE⟩ := hrel
    by_cases hlt : k < 18
    · have hrs := rangeN hS
      have hcd := ics_dig hra k hlt
      rw [Nat.zero_add] at hcd
      go_wp2_with (with_reducible refine wpList_loadN rfl (.tmp 2) rfl w.heap.size 0 rfl seed hrs ?_)
      refine (startP seed k _).mono ?_
      rintro e w1 ⟨rfl, he1⟩
      go_wp2_with fail
      refine (walkSig _ _ _ hlt _).mono ?_
      rintro e w2 ⟨rfl, he2⟩
      have hE2 := Ext.trans he1 he2
      have hT2 := hT.ext hE2
      have hF := Lib.hid (tabN_set (sigF seed m) 18 k hlt)
      have hth : w2.there (w.heap.size + 2) (k * 8) 8 := there_blk hT2 (by rw [List.size_toArray, ncs_length, tabN_length _ _ _ hk]; omega)
      have hra2 := rangeAt_keep hra (hE2.block b (rangeAt_lt hra (by intro h; have := congrArg List.length h; simp [ics, digs_length] at this)))
      go_wp2_with (with_reducible refine wpList_storeN rfl _ _ rfl (w.heap.size + 2) (k * 8) _ rfl rfl hth ?_)
      go_roundw
      case rel => exact ⟨k + 1, by omega, by go_num, (hS.ext hE2).setCells_far (by omega) _ _, by rw [← hF.out]; exact blk_name hT2 (by rw [tabN_length _ _ _ hk]; exact hlt) _, World.rangeAt_setCells_apart hra2 _ _ _ (.inl hbw), Below.setCells' (Ext.trans hE hE2) (by omega) _ _⟩
      case measure => simp [intOf]; omega
    · obtain rfl : k = 18 := by omega
      rw [tabN_full] at hT
      go_wp2_with fail
      go_ret
      exact ⟨w.heap.size + 2, rfl, hT, by omega, hE⟩
set_option maxRecDepth 100000 in
set_option maxHeartbeats 1000000 in
theorem refOneSign_any (seed m : UInt64) (w : World) :
    Calls Try.prog 57 #[.agg (nmc seed), .agg (nmc m)] w fun e w' => ∃ A c, e = .returned (.slice A 18 c) ∧ SlN w' A 18 c (oneSig seed m) ∧ Ext w w' := by
  go_enter Try.func57, Try.ntmps57
  go_wp2_with (with_reducible refine wpList_loadN rfl (.tmp 3) rfl (w.heap.size + 1) 0 rfl m ?h1 ?_)
  case h1 => exact rangeN (Blk.newAt _ _ _ _ (by simp))
  go_wp2_with fail
  refine (refDigits_any m _).mono ?_
  rintro e w0 ⟨b, cd, rfl, hra, hbg, he0⟩
  go_wp2_with fail
  have hS0 : Blk w0 w.heap.size 61 (nmc seed) := ((Blk.new w _ _).alloc _).ext he0
  have hE0 : Ext w w0 := (((Ext.refl w).alloc' _).alloc' _).trans he0
  have hbl := rangeAt_lt hra (by intro h; have := congrArg List.length h; simp [ics, digs_length] at this)
  go_loopw [6, 7] (fun v i wr => ∃ (k : Nat) (A : Option Addr) (c : Nat), k ≤ 18 ∧ i = .int .i64 (k : Int) ∧ v = .slice A k c ∧ wr.ownsRow w0.heap.size 61 8 (.slice A k c) k (ncs ((List.range k).map (sigF seed m))) ∧ Ext w0 wr) (fun _ i _ => 18 - (intOf i).toNat)
  case atStart => exact ⟨0, _, _, by omega, rfl, rfl, World.ownsRow_nil _ _ _ _, Ext.refl _⟩
  case round =>
    obtain ⟨k, A, c, hk, rfl, rfl, hO, hB⟩ := hrel
    by_cases hlt : k < 18
    · have hS := hS0.ext hB
      have hrs := rangeN hS
      have hcd := ics_dig (rangeAt_keep hra (hB.block b hbl)) k hlt
      rw [Nat.zero_add] at hcd
      have HR := Lib.hid (show (List.range (k + 1)).map (sigF seed m) = (List.range k).map (sigF seed m) ++ [sigF seed m k] by rw [List.range_succ, List.map_append]; rfl)
      have hu := Try.underlying61
      have hi := size61b seed
      have hk8 : (k : Int) < 18 := by omega
      go_wp2_with fail
      have SS : ∀ w', Ext w0 w' → (∀ i, i < 8 → w'.cell? ⟨w.heap.size, i, none⟩ = some (.int .u8 (nb8 seed i))) ∧ w'.cell? ⟨b, k, none⟩ = some (.int .i64 (dig m k)) := fun w' hx => ⟨cells8 (hS0.ext hx), (hx.cell (p := ⟨b, k, none⟩) hbl).trans (by have := ics_dig hra k hlt; rwa [Nat.zero_add] at this)⟩
      have HSS := Lib.hid SS
      clear SS
      have hszr := hB.size
      have hX0 : Ext wr wr.drew := (Ext.refl wr).drew'
      have hG : ∀ (w2 : World) (o : Obj), w0.heap.size ≤ w2.heap.size → w0.heap.size ≤ (w2.alloc o).heap.size := fun w2 o h => by simp; omega
      have HG := Lib.hid hG
      clear hG
      go_region_held3 (fun w' => (∀ i, i < 8 → w'.cell? ⟨w.heap.size, i, none⟩ = some (.int .u8 (nb8 seed i))) ∧ w'.cell? ⟨b, k, none⟩ = some (.int .i64 (dig m k))) (first | exact HSS.out _ (hB.trans hX0) | exact HSS.out _ (hB.trans hX1) | exact HSS.out _ (hB.trans hX2) | exact HSS.out _ ((hB.trans hX2).alloc' _) | exact HSS.out _ hw3) (first | (go_at_call 76; refine (refStartP seed k _).mono ?_; rintro e w1 ⟨rfl, he1⟩; have hX1 := hX0.trans he1) | (go_at_call 75; refine (chainSig seed m k hlt _).mono ?_; rintro e w2 ⟨rfl, he2⟩; have hX2 := hX1.trans he2; have hO2 := own_ext hO hX2; have hsz2 := Nat.le_trans hszr hX2.size) | (refine step_app namesE rfl (.tmp 14) (.tmp 24) rfl w0.heap.size A k c (ncs ((List.range k).map (sigF seed m))) (by rfl) (hO2.alloc _) (some ⟨w2.heap.size, 0, none⟩) 1 1 (ncs [sigF seed m k]) (by rfl) (Rd.newN _ _ _ _ rfl) (by rw [ncs_length]; rfl) (ncs_one _) (by omega) (by omega) (HG.out _ _ hsz2) w0 (Below.alloc (Below.trans hB (hX2.mono hszr)) hsz2 _) ?_; intro A1 c1 w3 ho3 hw3 hs3))
      go_wp2_with fail
      go_roundw
      case rel => exact ⟨k + 1, A1, c1, by omega, by go_num, by go_num, by rw [HR.out, ncs_append]; exact ho3, hw3⟩
      case measure => simp [intOf]; omega
    · obtain rfl : k = 18 := by omega
      go_wp2_with fail
      go_ret
      exact ⟨A, c, rfl, SlN.of_own hO, hE0.trans hB⟩
end Go.Proofs.Ytengpfpeeihaoaa
