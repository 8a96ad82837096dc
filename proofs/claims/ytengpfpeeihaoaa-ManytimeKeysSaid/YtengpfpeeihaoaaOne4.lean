import Derived.Test.YtengpfpeeihaoaaOne3
namespace Go.Proofs.Ytengpfpeeihaoaa
open Go.RowKit
set_option linter.unusedVariables false
set_option linter.unusedSimpArgs false
attribute [local go_sem ↓] Go.wp_at_zero Go.wp_at_succ

/-- two results: a name in a variable, and a slot -/
theorem retNV {fn : Func} {p q : Tmp} (hres : fn.results = #[.cell p 61, .tmp q]) (tmps : Array Value) (w1 : World) (g : Nat) (r : UInt64) (v : Value) (hp : tmps.getD p undef = .pointer (some ⟨g, 0, none⟩)) (hq : tmps.getD q undef = v) (hb : Blk w1 g 61 (nmc r)) :
    (results fn tmps).run Try.prog w1 = .ok (.tuple #[.agg (nmc r), v]) w1 := by
  have hp' : tmps[p]?.getD undef = .pointer (some ⟨g, 0, none⟩) := by simpa using hp
  have hq' : tmps[q]?.getD undef = v := by simpa using hq
  simp [results, hres, hp', hq', asAddr, run_loadVar_row w1 g 61 61 (nmc r) (0, 0) _ hb Try.underlying61 rfl (size61 r)]
theorem nmc0 : nmc 0 = zcs.toArray := by unfold nmc; rw [nmb_zero]; rfl
set_option maxRecDepth 100000 in
set_option maxHeartbeats 1000000 in
theorem recover_no (m : UInt64) (A : Option Addr) (n c : Nat) (w : World) (hn : n ≠ 18) (hn2 : n ≤ 9223372036854775807) :
    Calls Try.prog 79 #[.agg (nmc m), .slice A n c] w fun e w' => e = .returned (.tuple #[.agg (nmc 0), .bool false]) ∧ Ext w w' := by
  have hb : ((n : Int) != 18) = true := by simp; omega
  go_enter Try.func79, Try.ntmps79
  go_wp2_with fail
  refine bodyPost_ret (v := .tuple #[.agg (nmc 0), .bool false]) (retNV rfl _ _ (w.heap.size + 1) 0 _ rfl rfl (by rw [nmc0]; exact Blk.newAt _ _ _ _ (by simp))) rfl ⟨rfl, ((Ext.refl w).alloc' _).alloc' _⟩
set_option maxRecDepth 100000 in
set_option maxHeartbeats 1000000 in
theorem recover_any (m : UInt64) (A : Option Addr) (c : Nat) (sig : List UInt64) (w : World) (h : SlN w A 18 c sig) :
    Calls Try.prog 79 #[.agg (nmc m), .slice A 18 c] w fun e w' => e = .returned (.tuple #[.agg (nmc (oneRec m sig)), .bool true]) ∧ Ext w w' := by
  have hmk := hmkN18 (recF m sig)
  obtain ⟨b1, o1, rfl, hr1, hb1⟩ := h.at (by omega)
  have hlen := h.len
  go_enter Try.func79, Try.ntmps79
  go_wp2_with (with_reducible refine wpList_loadN rfl (.tmp 2) rfl w.heap.size 0 rfl m ?h1 ?_)
  case h1 => exact rangeN (((Blk.new w _ _).alloc _).alloc _)
  go_wp2_with fail
  refine (digits_any m _).mono ?_
  rintro e w0 ⟨b, cd, rfl, hra, hbg, he0⟩
  go_wp2_with fail
  have hZ0 : Blk w0 (w.heap.size + 1) 61 zcs.toArray := ((Blk.newAt _ _ _ _ (by simp)).alloc _).ext he0
  have hT0 : Blk w0 (w.heap.size + 2) 61 (ncs (tabN (recF m sig) 18 0)).toArray := (Blk.newAt _ _ _ _ (by simp)).ext he0
  have hE0 : Ext w w0 := ((((Ext.refl w).alloc' _).alloc' _).alloc' _).trans he0
  have hbw : b ≠ w.heap.size + 2 := by simp at hbg; omega
  go_loopw [17] (fun i wr => ∃ (k : Nat), k ≤ 18 ∧ i = .int .i64 (k : Int) ∧ Blk wr (w.heap.size + 1) 61 zcs.toArray ∧ Blk wr (w.heap.size + 2) 61 (ncs (tabN (recF m sig) 18 k)).toArray ∧ wr.rangeAt b 0 (ics (digs m)) ∧ Ext w wr) (fun i _ => 18 - (intOf i).toNat)
  case atStart => exact ⟨0, by omega, rfl, hZ0, hT0, hra, hE0⟩
  case round =>
    obtain ⟨k, hk, rfl, hZ, hT, hra, hE⟩ := hrel
    by_cases hlt : k < 18
    · have hcd := ics_dig hra k hlt
      rw [Nat.zero_add] at hcd
      have hrs := name_nth (rangeAt_keep hr1 (hE.block b1 hb1)) (k := k) (by omega)
      go_wp2_with (with_reducible refine wpList_loadN rfl (.tmp 26) rfl b1 (o1 + k * 8) rfl (nthN sig k) hrs ?_)
      refine (walkRec m sig k hlt _).mono ?_
      rintro e w2 ⟨rfl, hE2⟩
      have hT2 := hT.ext hE2
      have hF := Lib.hid (tabN_set (recF m sig) 18 k hlt)
      have hth : w2.there (w.heap.size + 2) (k * 8) 8 := there_blk hT2 (by rw [List.size_toArray, ncs_length, tabN_length _ _ _ hk]; omega)
      have hra2 := rangeAt_keep hra (hE2.block b (rangeAt_lt hra (by intro h; have := congrArg List.length h; simp [ics, digs_length] at this)))
      go_wp2_with (with_reducible refine wpList_storeN rfl _ _ rfl (w.heap.size + 2) (k * 8) _ rfl rfl hth ?_)
      go_roundw
      case rel => exact ⟨k + 1, by omega, by go_num, (hZ.ext hE2).setCells_far (by omega) _ _, by rw [← hF.out]; exact blk_name hT2 (by rw [tabN_length _ _ _ hk]; exact hlt) _, World.rangeAt_setCells_apart hra2 _ _ _ (.inl hbw), Below.setCells' (Ext.trans hE hE2) (by omega) _ _⟩
      case measure => simp [intOf]; omega
    · obtain rfl : k = 18 := by omega
      rw [tabN_full] at hT
      have hsl : SlN wr (some ⟨w.heap.size + 2, 0, none⟩) 18 18 ((List.range 18).map (recF m sig)) := SlN.of_blk hT (by simp) (by omega)
      go_wp2_with fail
      refine (public_any _ _ _ _ _ hsl (by omega)).mono ?_
      rintro e w3 ⟨rfl, he3⟩
      have hb0 := hZ.ext he3
      go_wp2_with (with_reducible refine wpList_storeN rfl _ _ rfl (w.heap.size + 1) 0 _ rfl rfl (thereZ hb0) ?_)
      refine bodyPost_ret (v := .tuple #[.agg (nmc (oneRec m sig)), .bool true]) (retNV rfl _ _ (w.heap.size + 1) _ _ rfl rfl (blkN hb0 _)) rfl ⟨rfl, Below.setCells' (Ext.trans hE he3) (by omega) _ _⟩
set_option maxRecDepth 100000 in
set_option maxHeartbeats 1000000 in
theorem refRecover_any (m : UInt64) (A : Option Addr) (c1 : Nat) (sig : List UInt64) (w : World) (h : SlN w A 18 c1 sig) :
    Calls Try.prog 61 #[.agg (nmc m), .slice A 18 c1] w fun e w' => e = .returned (.tuple #[.agg (nmc (oneRec m sig)), .bool true]) ∧ Ext w w' := by
  obtain ⟨b1, o1, rfl, hr1, hb1⟩ := h.at (by omega)
  have hlen := h.len
  go_enter Try.func61, Try.ntmps61
  go_wp2_with (with_reducible refine wpList_loadN rfl (.tmp 2) rfl w.heap.size 0 rfl m ?h1 ?_)
  case h1 => exact rangeN ((Blk.new w _ _).alloc _)
  go_wp2_with fail
  refine (refDigits_any m _).mono ?_
  rintro e w0 ⟨b, cd, rfl, hra, hbg, he0⟩
  go_wp2_with fail
  have hZ0 : Blk w0 (w.heap.size + 1) 61 zcs.toArray := (Blk.newAt _ _ _ _ (by simp)).ext he0
  have hE0 : Ext w w0 := (((Ext.refl w).alloc' _).alloc' _).trans he0
  have hbl := rangeAt_lt hra (by intro h; have := congrArg List.length h; simp [ics, digs_length] at this)
  have hb1l : b1 < w0.heap.size := Nat.lt_of_lt_of_le hb1 hE0.size
  have hr10 := rangeAt_keep hr1 (hE0.block b1 hb1)
  go_loopw [7, 8] (fun v i wr => ∃ (k : Nat) (A : Option Addr) (c : Nat), k ≤ 18 ∧ i = .int .i64 (k : Int) ∧ v = .slice A k c ∧ wr.ownsRow w0.heap.size 61 8 (.slice A k c) k (ncs ((List.range k).map (recF m sig))) ∧ Ext w0 wr) (fun _ i _ => 18 - (intOf i).toNat)
  case atStart => exact ⟨0, _, _, by omega, rfl, rfl, World.ownsRow_nil _ _ _ _, Ext.refl _⟩
  case round =>
    obtain ⟨k, A, c, hk, rfl, rfl, hO, hB⟩ := hrel
    by_cases hlt : k < 18
    · have HR := Lib.hid (show (List.range (k + 1)).map (recF m sig) = (List.range k).map (recF m sig) ++ [recF m sig k] by rw [List.range_succ, List.map_append]; rfl)
      have hk8 : (k : Int) < 18 := by omega
      have SS : ∀ w', Ext w0 w' → (∀ i, i < 8 → w'.cell? ⟨b1, o1 + k * 8 + i, none⟩ = some (.int .u8 (nb8 (nthN sig k) i))) ∧ w'.cell? ⟨b1, o1 + k * 8, none⟩ = some (.int .u8 (nb8 (nthN sig k) 0)) ∧ w'.cell? ⟨b, k, none⟩ = some (.int .i64 (dig m k)) := fun w' hx =>
        ⟨cells8At (name_nth (rangeAt_keep hr10 (hx.block b1 hb1l)) (k := k) (by omega)), cells8At (name_nth (rangeAt_keep hr10 (hx.block b1 hb1l)) (k := k) (by omega)) 0 (by omega), (hx.cell (p := ⟨b, k, none⟩) hbl).trans (by have := ics_dig hra k hlt; rwa [Nat.zero_add] at this)⟩
      have HSS := Lib.hid SS
      clear SS
      have hszr := hB.size
      have hX0 : Ext wr wr.drew := (Ext.refl wr).drew'
      have hG : ∀ (w2 : World) (o : Obj), w0.heap.size ≤ w2.heap.size → w0.heap.size ≤ (w2.alloc o).heap.size := fun w2 o h => by simp; omega
      have HG := Lib.hid hG
      clear hG
      go_wp2_with fail
      go_region_held3 (fun w' => (∀ i, i < 8 → w'.cell? ⟨b1, o1 + k * 8 + i, none⟩ = some (.int .u8 (nb8 (nthN sig k) i))) ∧ w'.cell? ⟨b1, o1 + k * 8, none⟩ = some (.int .u8 (nb8 (nthN sig k) 0)) ∧ w'.cell? ⟨b, k, none⟩ = some (.int .i64 (dig m k))) (first | exact HSS.out _ (hB.trans hX0) | exact HSS.out _ (hB.trans hX2) | exact HSS.out _ ((hB.trans hX2).alloc' _) | exact HSS.out _ hw3) (first | (go_at_call 75; refine (chainRec m sig k hlt _).mono ?_; rintro e w2 ⟨rfl, he2⟩; have hX2 := hX0.trans he2; have hO2 := own_ext hO hX2; have hsz2 := Nat.le_trans hszr hX2.size) | (refine step_app namesE rfl (.tmp 19) (.tmp 30) rfl w0.heap.size A k c (ncs ((List.range k).map (recF m sig))) (by rfl) (hO2.alloc _) (some ⟨w2.heap.size, 0, none⟩) 1 1 (ncs [recF m sig k]) (by rfl) (Rd.newN _ _ _ _ rfl) (by rw [ncs_length]; rfl) (ncs_one _) (by omega) (by omega) (HG.out _ _ hsz2) w0 (Below.alloc (Below.trans hB (hX2.mono hszr)) hsz2 _) ?_; intro A1 c1 w3 ho3 hw3 hs3))
      go_wp2_with fail
      go_roundw
      case rel => exact ⟨k + 1, A1, c1, by omega, by go_num, by go_num, by rw [HR.out, ncs_append]; exact ho3, hw3⟩
      case measure => simp [intOf]; omega
    · obtain rfl : k = 18 := by omega
      go_wp2_with fail
      refine (refEnds_any _ _ _ _ _ (SlN.of_own hO) (by omega)).mono ?_
      rintro e w3 ⟨rfl, he3⟩
      have hb0 := (hZ0.ext hB).ext he3
      go_wp2_with (with_reducible refine wpList_storeN rfl _ _ rfl (w.heap.size + 1) 0 _ rfl rfl (thereZ hb0) ?_)
      refine bodyPost_ret (v := .tuple #[.agg (nmc (oneRec m sig)), .bool true]) (retNV rfl _ _ (w.heap.size + 1) _ _ rfl rfl (blkN hb0 _)) rfl ⟨rfl, Below.setCells' ((hE0.trans hB).trans he3) (by omega) _ _⟩
end Go.Proofs.Ytengpfpeeihaoaa
