/- What another view has more (parcel.Missing). -/
import Derived.Test.YtbfepgjeecndiaaGreatJ44
import Derived.Test.YtbfepgjeecndiaaGreatJ45
namespace Go.Proofs.YtbfepgjeecndiaaGreat
set_option maxRecDepth 100000
set_option maxHeartbeats 16000000
open Go.RowKit
set_option linter.unusedVariables false
set_option linter.unusedSimpArgs false
attribute [local go_sem ↓] Go.wp_at_zero Go.wp_at_succ
structure MiS (w W : World) (a f : Array Value) (k : Nat) (S : List VtR) : Prop where
 ba : Blk W w.heap.size 25 a
 bf : Blk W (w.heap.size + 1) 25 f
 br : Blk W (w.heap.size + 1 + 1) 25 (vwA none 0 0 none 0 0)
 set : SetV (w.heap.size + 1 + 1 + 1 + 1) (w.heap.size + 1 + 1 + 1) k S W
 low : Ext w W
section
variable {w W W' : World} {a f : Array Value} {k : Nat} {S : List VtR}
theorem MiS.ext (h : MiS w W a f k S) (he : Ext W W') : MiS w W' a f k S := ⟨h.ba.ext he, h.bf.ext he, h.br.ext he, h.set.ext he, h.low.trans he⟩
theorem MiS.lt (h : MiS w W a f k S) : w.heap.size + 1 + 1 + 1 + 1 < W.heap.size := h.set.blk.lt
theorem MiS.put (h : MiS w W a f k S) {v : VtR} (hg : W.grownBy W' (some (w.heap.size + 1 + 1 + 1))) (ho : W'.ownsMap Tryz.prog 46 (plainElem Tryz.prog 4) (w.heap.size + 1 + 1 + 1) (k + 1) ((Maps.setOf yesD (S.map vtKl)).put (vtKl v) (.lit (.bool true)))) : MiS w W' a f (k + 1) (S ++ [v]) := by
 refine ⟨h.ba.grown hg (by simp; omega), h.bf.grown hg (by simp), h.br.grown hg (by simp), ⟨h.set.blk.grown hg (by simp), ?_⟩, Below.grown h.low hg h.low.size (fun j hj => by injection hj with hj; omega)⟩
 rw [List.map_append, List.map_cons, List.map_nil, Maps.setOf_snoc]
 exact ho
theorem MiS.other (h : MiS w W a f k S) {M : Nat} (hM : w.heap.size + 1 + 1 + 1 + 1 < M) (hg : W.grownBy W' (some M)) : MiS w W' a f k S :=
 ⟨h.ba.grown hg (by simp; omega), h.bf.grown hg (by simp; omega), h.br.grown hg (by simp; omega), ⟨h.set.blk.grown hg (by simp; omega), h.set.map.kept hg (by simp; omega)⟩, Below.grown h.low hg h.low.size (fun j hj => by injection hj with hj; omega)⟩
theorem SetT.put {B M n : Nat} {S : List (List UInt8)} {l : List UInt8} (h : SetT B M n S W) (hg : W.grownBy W' (some M)) (hne : B ≠ M) (ho : W'.ownsMap Tryz.prog 9 (plainElem Tryz.prog 4) M (n + 1) ((Maps.setOf yesD (S.map teKl)).put (teKl l) (.lit (.bool true)))) : SetT B M (n + 1) (S ++ [l]) W' := by
 refine ⟨h.blk.grown hg (by simpa using hne), ?_⟩
 rw [List.map_append, List.map_cons, List.map_nil, Maps.setOf_snoc]
 exact ho
end
def MiOut (w : World) (L : List SgR) (X : List TeR) (L2 : List SgR) (X2 : List TeR) (n2 m2 : Nat) (e : Ending) (w' : World) : Prop := ∃ (A' : Option Addr) (n' c' : Nat) (L' : List SgR) (B' : Option Addr) (m' d' : Nat) (X' : List TeR), e = .returned (.agg (vwA A' n' c' B' m' d')) ∧ VwO w' w.heap.size A' n' c' L' B' m' d' X' ∧ L'.map SgR.V = (canonO ltSv (L2.map SgR.V)).filter (fun v => !decide (v.1 ∈ L.map SgR.v)) ∧ X'.map TeR.l = (canonO lexB (X2.map TeR.l)).filter (fun l => !decide (l ∈ X.map TeR.l)) ∧ n' ≤ n2 ∧ m' ≤ m2 ∧ Ext w w'
theorem keep_votes (L : List SgR) (S : List VtR) : (keepL (fun x => decide (x.v ∈ S)) L).map SgR.V = (L.map SgR.V).filter (fun v => !decide (v.1 ∈ S)) := by
 unfold keepL; rw [List.filter_map]; rfl
theorem keep_texts (X : List TeR) (S : List (List UInt8)) : (keepL (fun x => decide (x.l ∈ S)) X).map TeR.l = (X.map TeR.l).filter (fun l => !decide (l ∈ S)) := by
 unfold keepL; rw [List.filter_map]; rfl
theorem missing_any (A : Option Addr) (n c : Nat) (L : List SgR) (B : Option Addr) (m d : Nat) (X : List TeR) (A2 : Option Addr) (n2 c2 : Nat) (L2 : List SgR) (B2 : Option Addr) (m2 d2 : Nat) (X2 : List TeR) (w : World)
  (hS : SlG w A n c L) (hX : SlG w B m d X) (hS2 : SlG w A2 n2 c2 L2) (hX2 : SlG w B2 m2 d2 X2) (hn : n ≤ 1000000000) (hm : m ≤ 1000000000) (hn2 : n2 ≤ 1000000000) (hm2 : m2 ≤ 1000000000) (hXn : ∀ T, T ∈ X → T.n ≤ 140737488355328) (hSn2 : ∀ S, S ∈ L2 → S.n ≤ 140737488355328) (hXn2 : ∀ T, T ∈ X2 → T.n ≤ 140737488355328) :
  Calls Tryz.prog 19 #[.agg (vwA A n c B m d), .agg (vwA A2 n2 c2 B2 m2 d2)] w (MiOut w L X L2 X2 n2 m2) := by
 have hmm := @run_makeMap Tryz.prog
 have hcap := hS.cap
 have hcap2 := hX.cap
 have hle := hS.le
 have hle2 := hX.le
 obtain ⟨W2, hW2⟩ : ∃ W2, ((((w.alloc (.cells (vwA A n c B m d) 25)).alloc (.cells (vwA A2 n2 c2 B2 m2 d2) 25)).alloc (.cells (vwA none 0 0 none 0 0) 25)).alloc (.map #[] 0)).alloc (.cells #[.map (some (w.heap.size + 1 + 1 + 1))] 55) = W2 := ⟨_, rfl⟩
 have HM := Lib.hid (show MiS w W2 (vwA A n c B m d) (vwA A2 n2 c2 B2 m2 d2) 0 [] from by
  rw [← hW2]
  refine ⟨(((Blk.new w _ _).alloc _).alloc _).alloc _ |>.alloc _, (((Blk.newAt (w.alloc _) _ _ (w.heap.size + 1) (by simp)).alloc _).alloc _).alloc _, ((Blk.newAt ((w.alloc _).alloc _) _ _ (w.heap.size + 1 + 1) (by simp)).alloc _).alloc _, ⟨Blk.newAt _ _ _ _ (by simp), ?_⟩, (((((Ext.refl w).alloc' _).alloc' _).alloc' _).alloc' _).alloc' _⟩
  have hq : (((w.alloc (.cells (vwA A n c B m d) 25)).alloc (.cells (vwA A2 n2 c2 B2 m2 d2) 25)).alloc (.cells (vwA none 0 0 none 0 0) 25)).heap.size = w.heap.size + 1 + 1 + 1 := by simp
  rw [← hq]
  exact (World.ownsMap_made _ _ _ _).alloc _)
 have HS := Lib.hid hS
 have HX := Lib.hid hX
 have HS2 := Lib.hid hS2
 have HX2 := Lib.hid hX2
 have HSA := Lib.hid (fun (h : 0 < n) => HS.out.at h)
 have HXA := Lib.hid (fun (h : 0 < m) => HX.out.at h)
 have HXn := Lib.hid hXn
 have HSn2 := Lib.hid hSn2
 have HXn2 := Lib.hid hXn2
 clear hS hX hS2 hX2 hXn hSn2 hXn2
 obtain ⟨c0, c1⟩ := vw_facts HM.out.ba
 go_enter Tryz.func19, Tryz.ntmps19
 go_wp2_with fail
 clear hW2 c0 c1
 go_loopw [16] (fun i wr => ∃ k : Nat, k ≤ n ∧ i = .int .i64 (k : Int) ∧ Hid (MiS w wr (vwA A n c B m d) (vwA A2 n2 c2 B2 m2 d2) k ((L.take k).map SgR.v))) (fun i _ => n - (intOf i).toNat)
 case atStart => exact ⟨0, Nat.zero_le _, rfl, HM⟩
 case round =>
  clear HM
  obtain ⟨k, hk, rfl, HM⟩ := hrel
  by_cases hlt : k < n
  ·obtain ⟨b, o, rfl, hr0, hb⟩ := HSA.out (by omega)
   have i1 : (k : Int) < (n : Int) := by omega
   obtain ⟨R, hR⟩ : ∃ R, nthG L k = R := ⟨_, rfl⟩
   obtain ⟨vx, hvx⟩ : ∃ v, Value.agg (sgA R) = v := ⟨_, rfl⟩
   obtain ⟨vv, hvv⟩ : ∃ v, Value.agg (vtA R.v) = v := ⟨_, rfl⟩
   have HVX := Lib.hid hvx
   have HVV := Lib.hid hvv
   have hr1 : wr.rangeAt b (o + k * 23) (sgL R) := by
    rw [← hR]; exact el_at (rangeAt_keep hr0 (HM.out.low.block b hb)) (k := k) (by rw [HS.out.len]; exact hlt)
   have HWF := Lib.hid (show R.v.wf from by rw [← hR]; exact (HS.out.nth (k := k) hlt).v)
   have HTK := Lib.hid (show (L.take (k + 1)).map SgR.v = (L.take k).map SgR.v ++ [R.v] from by rw [take_nthG (L := L) (k := k) (by rw [HS.out.len]; exact hlt), List.map_append, hR]; rfl)
   have hkey : keyOf Tryz.prog 46 vv = some (vtKl R.v) := by rw [← hvv]; exact keyOf_vt R.v HWF.out
   have HKEY := Lib.hid hkey
   clear hvx hvv hR hr0 hkey
   go_wp2_with (first | (with_reducible refine wpList_loadSgV rfl (.tmp 18) rfl b (o + k * 23) rfl R vx HVX.out hr1 ?_) | (with_reducible refine wpList_newSgV rfl (.tmp 7) (.tmp 19) rfl _ rfl R vx HVX.out rfl rfl ?_))
   intro W5 h5
   have HE5 := Lib.hid (show Ext wr W5 from by rw [← h5.out]; exact (Ext.refl wr).alloc' _)
   have HB5 := Lib.hid (show Blk W5 wr.heap.size 48 (sgA R) from by rw [← h5.out]; exact Blk.new wr _ _)
   have HM5 := Lib.hid (HM.out.ext HE5.out)
   have hr5 : W5.rangeAt wr.heap.size 0 (vtL R.v) := rangeAt_take (k := 22) (rangeAt_of_blk HB5.out)
   have cB : W5.cell? ⟨w.heap.size + 1 + 1 + 1 + 1, 0, none⟩ = some (.map (some (w.heap.size + 1 + 1 + 1))) := HM5.out.set.blk.cell 0
   clear h5 hr1 HM HE5 HB5
   go_wp2_with (first | (with_reducible refine wpList_loadVtV rfl (.tmp 21) rfl wr.heap.size 0 rfl R.v vv HVV.out hr5 ?_) | (at_mapUpdate; refine wpList_mapUpdate_own _ rfl _ _ _ 55 rfl 46 4 lawVt Tryz.underlying55 _ (w.heap.size + 1 + 1 + 1) k _ rfl HM5.out.set.map (by unfold maxLen; omega) _ _ _ rfl rfl HKEY.out _ [] (plainElem_bool Tryz.underlying4 true) ?_; intro w6 hown6 hgrow6))
   have HM6 := Lib.hid (HM5.out.put hgrow6 hown6)
   clear hown6 hgrow6 HM5 hr5 cB HKEY
   go_roundw
   case rel => exact ⟨k + 1, hlt, by go_num, by rw [HTK.out]; exact HM6⟩
   case measure => simp [intOf]; omega
  ·obtain rfl : k = n := by omega
   have i1 : ¬ (k : Int) < (k : Int) := by omega
   have HM1 := Lib.hid (show MiS w wr (vwA A k c B m d) (vwA A2 n2 c2 B2 m2 d2) k (L.map SgR.v) from by have := HM.out; rwa [List.take_of_length_le (by rw [HS.out.len]; exact Nat.le_refl _)] at this)
   obtain ⟨W7, hW7⟩ : ∃ W7, (wr.alloc (.map #[] 0)).alloc (.cells #[.map (some wr.heap.size)] 56) = W7 := ⟨_, rfl⟩
   have HM7 := Lib.hid (show MiS w W7 (vwA A k c B m d) (vwA A2 n2 c2 B2 m2 d2) k (L.map SgR.v) from by rw [← hW7]; exact HM1.out.ext (((Ext.refl wr).alloc' _).alloc' _))
   have HT7 := Lib.hid (show SetT (wr.heap.size + 1) wr.heap.size 0 ((X.take 0).map TeR.l) W7 from by
    rw [← hW7]
    exact ⟨Blk.newAt _ _ _ _ (by simp), (World.ownsMap_made _ _ _ _).alloc _⟩)
   have HLT := Lib.hid HM1.out.lt
   obtain ⟨c0, c1⟩ := vw_facts HM7.out.ba
   clear HM HSA HM1
   go_wp2_with fail
   clear hW7 c0 c1
   obtain ⟨M2, hM2⟩ : ∃ q, wr.heap.size = q := ⟨_, rfl⟩
   rw [hM2] at HT7 HLT ⊢
   clear hM2
   go_loopw [28] (fun i wt => ∃ j : Nat, j ≤ m ∧ i = .int .i64 (j : Int) ∧ Hid (MiS w wt (vwA A k c B m d) (vwA A2 n2 c2 B2 m2 d2) k (L.map SgR.v)) ∧ Hid (SetT (M2 + 1) M2 j ((X.take j).map TeR.l) wt)) (fun i _ => m - (intOf i).toNat)
   case atStart => exact ⟨0, Nat.zero_le _, rfl, HM7, HT7⟩
   case round =>
    clear HM7 HT7
    obtain ⟨j, hj, rfl, HM, HT⟩ := hrel
    by_cases hlt : j < m
    ·obtain ⟨b, o, rfl, hr0, hb⟩ := HXA.out (by omega)
     have i1 : (j : Int) < (m : Int) := by omega
     obtain ⟨T, hT⟩ : ∃ T, nthG X j = T := ⟨_, rfl⟩
     have hr1 := el_at (rangeAt_keep hr0 (HM.out.low.block b hb)) (k := j) (by rw [HX.out.len]; exact hlt)
     have hok := (HX.out.ext HM.out.low).nth (k := j) hlt
     have hTn := HXn.out _ (nthG_mem (L := X) (k := j) (by rw [HX.out.len]; exact hlt))
     have HTK := Lib.hid (show (X.take (j + 1)).map TeR.l = (X.take j).map TeR.l ++ [T.l] from by rw [take_nthG (L := X) (k := j) (by rw [HX.out.len]; exact hlt), List.map_append, hT]; rfl)
     rw [hT] at hr1 hok hTn
     obtain ⟨Ta, Tn, Tc, Tl⟩ := T
     have hc1 : wr.cell? ⟨b, o + j, none⟩ = some (.slice Ta Tn Tc) := by
      have := hr1 0 (.slice Ta Tn Tc) rfl
      simpa [show RowT.sz TeR = 1 from rfl] using this
     have hst0 := run_strV hok
     obtain ⟨vv, hvv⟩ : ∃ v, strV Tl = v := ⟨_, rfl⟩
     have HKEY := Lib.hid (show keyOf Tryz.prog 9 (.string vv) = some (teKl Tl) from by
      rw [← hvv]; exact keyOf_te Tl (by have h1 := SlB.len hok; have h2 : Tn ≤ 140737488355328 := hTn; simp only [maxLen]; simp only at h1; omega))
     have hst : (convert 28 9 (.slice Ta Tn Tc)).run Tryz.prog wr = .ok (.string vv) wr := by rw [← hvv]; exact hst0
     have cB : wr.cell? ⟨M2 + 1, 0, none⟩ = some (.map (some M2)) := HT.out.blk.cell 0
     clear hvv hok hr1 hr0 hT hst0
     go_wp2_with (first | (at_mapUpdate; refine wpList_mapUpdate_own _ rfl _ _ _ 56 rfl 9 4 lawStr Tryz.underlying56 _ M2 j _ rfl HT.out.map (by unfold maxLen; omega) _ _ _ rfl rfl HKEY.out _ [] (plainElem_bool Tryz.underlying4 true) ?_; intro w6 hown6 hgrow6))
     have HM6 := Lib.hid (HM.out.other HLT.out hgrow6)
     have HT6 := Lib.hid (HT.out.put hgrow6 (by omega) hown6)
     clear hown6 hgrow6 HM HT hc1 hst cB HKEY
     go_roundw
     case rel => exact ⟨j + 1, hlt, by go_num, HM6, by rw [HTK.out]; exact HT6⟩
     case measure => simp [intOf]; omega
    ·obtain rfl : j = m := by omega
     have i1 : ¬ (j : Int) < (j : Int) := by omega
     have HT1 := Lib.hid (show SetT (M2 + 1) M2 j (X.map TeR.l) wr from by have := HT.out; rwa [List.take_of_length_le (by rw [HX.out.len]; exact Nat.le_refl _)] at this)
     obtain ⟨c0, c1⟩ := vw_facts HM.out.bf
     have HU := Lib.hid (union_any A2 n2 c2 L2 B2 m2 d2 X2 wr (HS2.out.ext HM.out.low) (HX2.out.ext HM.out.low) hn2 hm2 HSn2.out HXn2.out)
     have HWF := Lib.hid (show ∀ x ∈ L.map SgR.v, x.wf from fun x hx => by
      obtain ⟨R, hR, rfl⟩ := List.mem_map.1 hx
      exact (HS.out.ok R hR).v)
     clear HXA HXn HT HS2 HX2 HSn2 HXn2
     go_upto_region 14 with (first | (go_at_call 29; (with_reducible refine HU.out.mono ?_); rintro e w3 ⟨A3, n3, c3, L3, B3, m3, d3, X3, rfl, hv3, hL3, hX3, hn3, hm3, he3⟩))
     obtain ⟨g, hg⟩ : ∃ q, w3.heap.size = q := ⟨_, rfl⟩
     obtain ⟨W9, hW9⟩ : ∃ W, w3.alloc (.cells (vwA A3 n3 c3 B3 m3 d3) 25) = W := ⟨_, rfl⟩
     have HE9 := Lib.hid (show Ext w3 W9 from by rw [← hW9]; exact (Ext.refl w3).alloc' _)
     have HGT := Lib.hid (show M2 + 1 < g from by rw [← hg]; exact Nat.lt_of_lt_of_le HT1.out.blk.lt he3.size)
     have HM9 := Lib.hid ((HM.out.ext he3).ext HE9.out)
     have HT9 := Lib.hid ((HT1.out.ext he3).ext HE9.out)
     have HC9 := Lib.hid (show ClS w W9 g A3 n3 c3 L3 B3 m3 d3 X3 from ⟨by rw [← hW9, ← hg]; exact Blk.new _ _ _, (hv3.mono HM.out.low.size).ext HE9.out, HM9.out.low, by have := HLT.out; have := HGT.out; omega⟩)
     have HL3 := Lib.hid hL3
     have HX3 := Lib.hid hX3
     rw [hW9, hg]
     clear hW9 hg he3 hv3 hL3 hX3 HM HT1 HE9 HU c0 c1
     obtain ⟨q0, q1⟩ := vw_facts HC9.out.blk
     have HSO := Lib.hid (deleteSg_any (miss1_tst (w.heap.size + 1 + 1 + 1 + 1) (w.heap.size + 1 + 1 + 1) k (M2 + 1) M2 j (L.map SgR.v) (X.map TeR.l) HWF.out) W9 W9 w.heap.size A3 n3 c3 L3.toArray HC9.out.rows1 ⟨HM9.out.set, HT9.out⟩ (by omega) HC9.out.vw.sl1.le HC9.out.vw.sl1.cap)
     go_upto_region 15 with (first | (go_at_call 33; (with_reducible refine HSO.out.mono ?_); rintro e w4 ⟨n4, d4, rfl, hn4, hr4, hv4, hk4⟩; have HR4 := Lib.hid hr4; have HV4 := Lib.hid hv4; have HK4 := Lib.hid hk4; clear hr4 hv4 hk4; have hb4 := HC9.out.blk1 HR4.out; have p0 : w4.cell? ⟨g, 0, none⟩ = some (.slice A3 n3 c3) := hb4.cell 0; have pf := hb4.frozen 0; have HBT := Lib.hid (show ∃ cur p, w4.heap[g]? = some (.cells cur 25 p) from ⟨_, _, hb4⟩); clear hb4))
     obtain ⟨W4, hW4⟩ : ∃ W, w4.setCell ⟨g, 0, none⟩ (.slice A3 n4 c3) = W := ⟨_, rfl⟩
     have HK5 := Lib.hid (show SetV (w.heap.size + 1 + 1 + 1 + 1) (w.heap.size + 1 + 1 + 1) k (L.map SgR.v) W4 ∧ SetT (M2 + 1) M2 j (X.map TeR.l) W4 from by
      rw [← hW4]
      exact ⟨HK4.out.1.row HBT.out (by decide) (grown_set w4 g 0 _), HK4.out.2.row HBT.out (by decide) (grown_set w4 g 0 _)⟩)
     have HC4 := Lib.hid (show ClS w W4 g A3 n4 c3 d4.toList B3 m3 d3 X3 from by rw [← hW4]; exact (HC9.out.row1S HR4.out).1)
     have HR5 := Lib.hid (show Blk W4 (w.heap.size + 1 + 1) 25 (vwA none 0 0 none 0 0) from by rw [← hW4]; exact (HC9.out.row1S HR4.out).2 _ _ (by have := HLT.out; have := HGT.out; omega) HM9.out.br)
     rw [hW4]
     clear hW4 HR4 HK4 HBT p0 pf HC9 HM9 HT9 q0 q1 HSO
     obtain ⟨q0, q1⟩ := vw_facts HC4.out.blk
     have HSO := Lib.hid (deleteTe_any (miss2_tst (w.heap.size + 1 + 1 + 1 + 1) (w.heap.size + 1 + 1 + 1) k (M2 + 1) M2 j (L.map SgR.v) (X.map TeR.l)) W4 W4 w.heap.size B3 m3 d3 X3.toArray HC4.out.rows2 HK5.out (by omega) HC4.out.vw.sl2.le HC4.out.vw.sl2.cap)
     go_upto_region 16 with (first | (go_at_call 35; (with_reducible refine HSO.out.mono ?_); rintro e w5 ⟨m5, d5, rfl, hm5, hr5, hv5, hk5⟩; have HR6 := Lib.hid hr5; have HV5 := Lib.hid hv5; clear hr5 hv5 hk5; have hb5 := HC4.out.blk2 HR6.out; have p0 : w5.cell? ⟨g, 1, none⟩ = some (.slice B3 m3 d3) := hb5.cell 1; have pf := hb5.frozen 1; clear hb5))
     obtain ⟨W5, hW5⟩ : ∃ W, w5.setCell ⟨g, 1, none⟩ (.slice B3 m5 d3) = W := ⟨_, rfl⟩
     have HC5 := Lib.hid (show ClS w W5 g A3 n4 c3 d4.toList B3 m5 d3 d5.toList from by rw [← hW5]; exact (HC4.out.row2S HR6.out).1)
     have HR7 := Lib.hid (show Blk W5 (w.heap.size + 1 + 1) 25 (vwA none 0 0 none 0 0) from by rw [← hW5]; exact (HC4.out.row2S HR6.out).2 _ _ (by have := HLT.out; have := HGT.out; omega) HR5.out)
     rw [hW5]
     clear hW5 HR6 p0 pf HC4 HK5 HR5 q0 q1 HSO
     obtain ⟨q0, q1⟩ := vw_facts HC5.out.blk
     have ht : W5.there (w.heap.size + 1 + 1) 0 2 := there_of_blk HR7.out
     have hst := blk_whole (ds := vwA A3 n4 c3 B3 m5 d3) HR7.out rfl
     go_wp2_with (first | (with_reducible refine wpList_storeVw rfl (.tmp 4) (.tmp 49) rfl (w.heap.size + 1 + 1) A3 n4 c3 B3 m5 d3 rfl rfl ht ?_))
     exact bodyPost_ret (v := .agg (vwA A3 n4 c3 B3 m5 d3)) (retC rfl _ _ (w.heap.size + 1 + 1) _ rfl (run_loadVar_row _ _ _ _ _ (0, 0) _ hst Tryz.underlying25 rfl (by kernel_rfl))) rfl ⟨A3, n4, c3, d4.toList, B3, m5, d3, d5.toList, rfl, HC5.out.vw.set HR7.out _, by rw [HV4.out, keep_votes]; show (L3.map SgR.V).filter _ = _; rw [HL3.out], by rw [HV5.out, keep_texts]; show (X3.map TeR.l).filter _ = _; rw [HX3.out], by omega, by omega, Below.setCells' HC5.out.low (by omega) _ _⟩
end Go.Proofs.YtbfepgjeecndiaaGreat
