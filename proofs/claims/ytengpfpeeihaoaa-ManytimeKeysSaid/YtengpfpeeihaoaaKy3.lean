/- tree (the program's): the walk. -/
import Derived.Test.YtengpfpeeihaoaaKy2
namespace Go.Proofs.Ytengpfpeeihaoaa
open Go.RowKit
set_option linter.unusedVariables false
set_option linter.unusedSimpArgs false
theorem hmkN32 (F : Nat → UInt64) (w : World) : (Instr.makeSlice 84 (.int .i64 32) (.int .i64 32)).run Try.prog w = .ok (.slice (some ⟨w.heap.size, 0, none⟩) 32 32) (w.alloc (.cells (ncs (tabN F 32 0)).toArray 61)) := hmkN 32 (by omega) F w
theorem zeroNs (w : World) : (zeroValue 84).run Try.prog w = .ok (.slice none 0 0) w := by kernel_rfl
def TreeOut (w : World) (B M : Nat) (seed : UInt64) (lv a b : Int) (e : Ending) (w' : World) : Prop := ∃ g, e = .returned (.slice (some ⟨g, 0, none⟩) 32 32) ∧ TreeB w' seed a b g ∧ KeyAt w' B M seed lv ∧ w.grownBy w' (some M)
set_option maxRecDepth 100000 in
set_option maxHeartbeats 1000000 in
theorem tree_any (seed : UInt64) (B M : Nat) (lv a b : Int) (ha : (Lit.int .i64 a).wf = true) (hb0 : 0 ≤ b) (hb1 : b ≤ 100000) (w : World) (hK : KeyAt w B M seed lv) :
    Calls Try.prog 66 #[.pointer (some ⟨B, 0, none⟩), .int .i64 a, .int .i64 b] w (TreeOut w B M seed lv a b) := by
  have hb : (Lit.int .i64 b).wf = true := WalkArith.wf_i64 (by omega)
  obtain ⟨l, hkey⟩ := keyPair a b ha hb
  obtain ⟨es, clock, hm, ht⟩ := hK.map
  have hks : ∀ x ∈ es.toList, ∃ l, keyOf Try.prog 116 x.key = some l := fun x hx => by
    obtain ⟨a', b', _, h1, h2, h3, _⟩ := ht x hx
    rw [h1]; exact keyPair a' b' h2 h3
  have hc9 := hK.trees
  have hne := fun (w : World) (A : Option Addr) (c : Nat) => Go.run_neq_slice_nil (P := Try.prog) w 84 61 A 32 c Try.underlying84
  rcases look_or lawPair Try.underlying97 hm hks hkey (zeroNs w) with ⟨hlk, hno⟩ | ⟨x, hx, hxk, hlk⟩
  · have hlk' : (Instr.lookup 97 (.map (some M)) (.agg #[.int .i64 a, .int .i64 b]) false).run Try.prog w = .ok (.slice none 0 0) w := hlk
    have hnz := Go.run_neq_slice_nil (P := Try.prog) w 84 61 none 0 0 Try.underlying84
    have hmk := hmkN32 (leavesF seed a b)
    have HK := Lib.hid hK
    have HT := Lib.hid ht
    have HNO := Lib.hid hno
    have HKS := Lib.hid hks
    have HKEY := Lib.hid hkey
    have HM := Lib.hid hm
    clear hK ht hno hks hkey hlk hne hm
    go_enter Try.func66, Try.ntmps66
    go_wp2_with fail
    clear hlk' hnz hmk hc9
    go_loopw [24, 9] (fun i j wr => ∃ (k : Nat), k ≤ 32 ∧ i = .int .i64 (k : Int) ∧ Blk wr w.heap.size 61 (ncs (tabN (leavesF seed a b) 32 k)).toArray ∧ Ext w wr) (fun i _ _ => 32 - (intOf i).toNat)
    case atStart => exact ⟨0, by omega, rfl, Blk.new _ _ _, (Ext.refl w).alloc' _⟩
    case round =>
      obtain ⟨k, hk, rfl, hT, hE⟩ := hrel
      have HE := Lib.hid hE
      have HTB := Lib.hid hT
      clear hT hE
      by_cases hlt : k < 32
      · have j0 : (0 : Int) ≤ (k : Int) := by omega
        have j1 : (k : Int) < 32 := by omega
        go_wp2_with fail
        refine (seedOf_any seed B a b k hb0 hb1 _ (HK.out.ext HE.out).seed).mono ?_
        rintro e w1 ⟨rfl, he1⟩
        go_wp2_with fail
        refine (onePublic_any _ _).mono ?_
        rintro e w2 ⟨rfl, he2⟩
        have HE2 := Lib.hid (Ext.trans HE.out (Ext.trans he1 he2))
        have HT2 := Lib.hid (HTB.out.ext (Ext.trans he1 he2))
        have hF := Lib.hid (tabN_set (leavesF seed a b) 32 k hlt)
        have hth : w2.there w.heap.size (k * 8) 8 := there_blk HT2.out (by rw [List.size_toArray, ncs_length, tabN_length _ _ _ hk]; omega)
        clear he1 he2
        go_wp2_with (with_reducible refine wpList_storeN rfl _ _ rfl w.heap.size (k * 8) _ rfl rfl hth ?_)
        go_roundw
        case rel => exact ⟨k + 1, by omega, by go_num, by rw [← hF.out]; exact blk_name HT2.out (by rw [tabN_length _ _ _ hk]; exact hlt) _, Below.setCells' HE2.out (Nat.le_refl _) _ _⟩
        case measure => simp [intOf]; omega
      · obtain rfl : k = 32 := by omega
        have hTB := HTB.out
        rw [tabN_full] at hTB
        have hsl : TreeB wr seed a b w.heap.size := hTB
        have hK2 := HK.out.ext HE.out
        have hc9 := hK2.trees
        have hm2 : wr.heap[M]? = some (.map es clock) := (HE.out.block M (Array.getElem?_eq_some_iff.1 HM.out).1).trans HM.out
        have HMo := Lib.hid (KeyAt.more hK2.blk hm2 (HT.out.ext HE.out) ha hb hsl)
        have hup : (Instr.mapUpdate 97 (.map (some M)) (.agg #[.int .i64 a, .int .i64 b]) (.slice (some ⟨w.heap.size, 0, none⟩) 32 32)).run Try.prog wr = .ok () (ChangeMaps.setBlock wr M (.map (es.push ⟨pairV a b, .slice (some ⟨w.heap.size, 0, none⟩) 32 32, clock⟩) (clock + 1))) := update_new lawPair Try.underlying97 hm2 HKS.out HKEY.out HNO.out _
        have HG := Lib.hid (show w.grownBy (ChangeMaps.setBlock wr M (.map (es.push ⟨pairV a b, .slice (some ⟨w.heap.size, 0, none⟩) 32 32, clock⟩) (clock + 1))) (some M) from by
          have g := grown_block wr M (.map (es.push ⟨pairV a b, .slice (some ⟨w.heap.size, 0, none⟩) 32 32, clock⟩) (clock + 1))
          exact ⟨g.os.trans HE.out.os, g.tape.trans HE.out.tape, g.output.trans HE.out.output, Nat.le_trans HE.out.size g.size, fun k hk hne => (g.block k (Nat.lt_of_lt_of_le hk HE.out.size) hne).trans (HE.out.block k hk)⟩)
        clear hTB hsl hK2 hm2
        generalize ChangeMaps.setBlock wr M (.map (es.push ⟨pairV a b, .slice (some ⟨w.heap.size, 0, none⟩) 32 32, clock⟩) (clock + 1)) = w9 at *
        go_wp2_with fail
        go_ret
        exact ⟨_, rfl, HMo.out.2, HMo.out.1, HG.out⟩
  · obtain ⟨a', b', g', h1, h2, h3, h4, h5⟩ := ht x hx
    have hab : a' = a ∧ b' = b := by
      rw [h1] at hxk
      simpa [pairV] using hxk
    obtain ⟨rfl, rfl⟩ := hab
    rw [h4] at hlk
    have hlk' : (Instr.lookup 97 (.map (some M)) (.agg #[.int .i64 a', .int .i64 b']) false).run Try.prog w = .ok (.slice (some ⟨g', 0, none⟩) 32 32) w := hlk
    have hne' := hne w (some ⟨g', 0, none⟩) 32
    have HK := Lib.hid hK
    have H5 := Lib.hid h5
    clear hK ht hks hkey hlk hne hm h1 hxk h4 h5 hx
    go_enter Try.func66, Try.ntmps66
    go_wp2_with fail
    go_ret
    exact ⟨_, rfl, H5.out, HK.out, grown_refl _ _⟩
end Go.Proofs.Ytengpfpeeihaoaa
