/- ManytimeSigns: the walk of the law. -/
import Derived.Test.YtengpfpeeihaoaaKy6
import Derived.Test.YtengpfpeeihaoaaMSizes
import Derived.Test.YtengpfpeeihaoaaOwn
namespace Go.Proofs.Ytengpfpeeihaoaa
open Go.RowKit
set_option linter.unusedVariables false
set_option linter.unusedSimpArgs false
set_option maxRecDepth 100000 in
set_option maxHeartbeats 2000000 in
theorem msigns_any (seed m : UInt64) (lv leaf : Int) (w : World) :
    Calls Try.prog 8 #[.agg (nmc seed), .int .i64 lv, .int .i64 leaf, .agg (nmc m)] w fun e w' => e = .returned (.bool true) ∧ Ext w w' := by
  have hbs := (Blk.new w 61 (nmc seed)).alloc (.cells (nmc m) 61)
  have hbm : Blk ((w.alloc (.cells (nmc seed) 61)).alloc (.cells (nmc m) 61)) (w.heap.size + 1) 61 (nmc m) := Blk.newAt _ _ _ _ (by simp)
  have HE0 := Lib.hid (((Ext.refl w).alloc' (.cells (nmc seed) 61)).alloc' (.cells (nmc m) 61))
  have HBS := Lib.hid hbs
  have HBM := Lib.hid hbm
  have hrs := rangeN hbs
  have hrm := rangeN hbm
  clear hbs hbm
  go_enter Try.func8, Try.ntmps8
  go_wp2_with (first | (with_reducible refine wpList_loadN rfl (.tmp 4) rfl w.heap.size 0 rfl seed hrs ?_) | (with_reducible refine wpList_loadN rfl (.tmp 7) rfl (w.heap.size + 1) 0 rfl m hrm ?_))
  refine (sign5_any seed m lv leaf _).mono ?_
  rintro e w1 ⟨A1, n1, c1, rfl, hs1, he1⟩
  have hrs1 := rangeN (HBS.out.ext he1)
  have hrm1 := rangeN (HBM.out.ext he1)
  clear hrs hrm
  go_wp2_with (first | (with_reducible refine wpList_loadN rfl (.tmp 4) rfl w.heap.size 0 rfl seed hrs1 ?_) | (with_reducible refine wpList_loadN rfl (.tmp 7) rfl (w.heap.size + 1) 0 rfl m hrm1 ?_))
  refine (refSign_any seed m lv leaf _).mono ?_
  rintro e w2 ⟨A2, n2, c2, rfl, hs2, he2⟩
  have HE2 := Lib.hid (HE0.out.trans (he1.trans he2))
  have hb2 := HBS.out.ext (he1.trans he2)
  have hs1' := hs1.ext he2
  clear hrs1 hrm1
  have HSS := Lib.hid (fun (w' : World) (hx : Ext w2 w') => (⟨cells8 (hb2.ext hx), run_strV (hs1'.ext hx), run_strV (hs2.ext hx)⟩ : (∀ i, i < 8 → w'.cell? ⟨w.heap.size, i, none⟩ = some (.int .u8 (nb8 seed i))) ∧ (convert 22 9 (.slice A1 n1 c1)).run Try.prog w' = .ok (.string (strV ((sigU seed lv leaf m).getD []))) w' ∧ (convert 22 9 (.slice A2 n2 c2)).run Try.prog w' = .ok (.string (strV ((sigU seed lv leaf m).getD []))) w'))
  have hq := fun w => run_eqN (pubV seed lv) (pubV seed lv) w
  have hX := (Ext.refl w2).drew'
  clear hs1 hs1' hs2 hb2 he1 he2
  generalize (sigU seed lv leaf m).isSome = ok at *
  generalize (sigU seed lv leaf m).getD [] = sg at *
  go_wp2_with fail
  go_region_held3 (fun w' => (∀ i, i < 8 → w'.cell? ⟨w.heap.size, i, none⟩ = some (.int .u8 (nb8 seed i))) ∧ (convert 22 9 (.slice A1 n1 c1)).run Try.prog w' = .ok (.string (strV sg)) w' ∧ (convert 22 9 (.slice A2 n2 c2)).run Try.prog w' = .ok (.string (strV sg)) w') (first | (with_reducible exact HSS.out _ hX) | fail "CELLS") (first | (go_at_call 41; (with_reducible refine (public5_any seed lv _).mono ?_); rintro e wv ⟨rfl, hev⟩; have hX := hX.trans hev) | (go_at_call 37; (with_reducible refine (refPublic_any seed lv _).mono ?_); rintro e wv ⟨rfl, hev⟩; have hX := hX.trans hev) | (go_at_call 17; (with_reducible refine (awake5_any _).mono ?_); rintro e wv ⟨rfl, rfl⟩) | fail "ARM")
  all_goals (
    go_wp2_with fail
    go_ret
    exact ⟨rfl, HE2.out.trans hX⟩)
end Go.Proofs.Ytengpfpeeihaoaa
