/- The copy of a view (snapshot.Clone). -/
import Derived.Test.YtbfepgjeecndiaaGreatJ28
import Derived.Test.YtbfepgjeecndiaaGreatJ30
namespace Go.Proofs.YtbfepgjeecndiaaGreat
set_option maxRecDepth 100000
set_option maxHeartbeats 8000000
open Go.RowKit
set_option linter.unusedVariables false
set_option linter.unusedSimpArgs false
attribute [local go_sem ↓] Go.wp_at_zero Go.wp_at_succ
theorem cloneVote2 (S : SgR) (v : Value) (hv : Value.agg (sgA S) = v) (w : World) (h : S.ok w) (hn : S.n ≤ 140737488355328) :
  Calls Tryz.prog 86 #[v] w fun e w' => ∃ (v6 : Value) (S6 : SgR), e = .returned v6 ∧ Hid (Value.agg (sgA S6) = v6) ∧ Hid (S6.V = S.V) ∧ Hid (S6.v.wf) ∧ Hid (OwnB w' w.heap.size 5 S6.A S6.n S6.c S6.sig) ∧ Hid (Ext w w') := by
 rw [← hv]
 refine (cloneVote_any S w h hn).mono ?_
 rintro e w' ⟨A', c', he, hO, hE⟩
 exact ⟨_, sgC S A' c', he, Lib.hid rfl, Lib.hid rfl, Lib.hid h.v, Lib.hid hO, Lib.hid hE⟩
theorem step_buildSg {ops : Array Oper} {o : Oper} {a : Act} {w : World} {K : Act → World → Prop} {Q : Exit → Act → World → Prop} {X : Prop} (hgd : o.guard = none) (x : Operand) (ho : o.op = .buildSlice 22 1 #[(0, x)]) (R : SgR) (v : Value) (hv : Value.agg (sgA R) = v) (hx : a.eval x = v)
  (h : ∀ W2 : World, Hid (w.alloc (.cells (sgA R) 48) = W2) → K (a.put o.dst (.slice (some ⟨w.heap.size, 0, none⟩) 1 1)) W2) : if Region.wanted o (yielded ops a.tmps) = true then Oper.wp Tryz.prog o a w K Q else X := by
 have hw : Region.wanted o (yielded ops a.tmps) = true := by simp [Region.wanted, hgd]
 rw [if_pos hw]
 have this : (Instr.buildSlice 22 1 #[(0, v)]).run Tryz.prog w = .ok (.slice (some ⟨w.heap.size, 0, none⟩) 1 1) (w.alloc (.cells (sgA R) 48)) := by rw [← hv]; exact run_buildSg1 R w
 have h2 := h _ (Lib.hid rfl)
 clear h hv
 generalize w.alloc (.cells (sgA R) 48) = W2 at *
 unfold Oper.wp execOp
 simp only [ho, List.map_toArray, List.map_cons, List.map_nil, hx, Sem.run_bind, Sem.run_pure, this, Result.andThen_ok, Oper.upon]
 exact h2
theorem step_buildTe {ops : Array Oper} {o : Oper} {a : Act} {w : World} {K : Act → World → Prop} {Q : Exit → Act → World → Prop} {X : Prop} (hgd : o.guard = none) (x : Operand) (ho : o.op = .buildSlice 23 1 #[(0, x)]) (A : Option Addr) (n c : Nat) (hx : a.eval x = .slice A n c)
  (h : ∀ W2 : World, Hid (w.alloc (.cells #[.slice A n c] 28) = W2) → K (a.put o.dst (.slice (some ⟨w.heap.size, 0, none⟩) 1 1)) W2) : if Region.wanted o (yielded ops a.tmps) = true then Oper.wp Tryz.prog o a w K Q else X := by
 have hw : Region.wanted o (yielded ops a.tmps) = true := by simp [Region.wanted, hgd]
 rw [if_pos hw]
 have this := run_buildTe1 A n c w
 have h2 := h _ (Lib.hid rfl)
 clear h
 generalize w.alloc (.cells #[.slice A n c] 28) = W2 at *
 unfold Oper.wp execOp
 simp only [ho, List.map_toArray, List.map_cons, List.map_nil, hx, Sem.run_bind, Sem.run_pure, this, Result.andThen_ok, Oper.upon]
 exact h2
def ClOut (w : World) (L : List SgR) (X : List TeR) (n m : Nat) (e : Ending) (w' : World) : Prop := ∃ (A' : Option Addr) (c' : Nat) (L' : List SgR) (B' : Option Addr) (d' : Nat) (X' : List TeR), e = .returned (.agg (vwA A' n c' B' m d')) ∧ VwO w' w.heap.size A' n c' L' B' m d' X' ∧ L'.map SgR.V = L.map SgR.V ∧ X'.map TeR.l = X.map TeR.l ∧ Ext w w'
theorem snClone_any (A : Option Addr) (n c : Nat) (L : List SgR) (B : Option Addr) (m d : Nat) (X : List TeR) (w : World) (hS : SlG w A n c L) (hX : SlG w B m d X) (hn : n ≤ 1000000000) (hm : m ≤ 1000000000) (hSn : ∀ S, S ∈ L → S.n ≤ 140737488355328) (hXn : ∀ T, T ∈ X → T.n ≤ 140737488355328) :
  Calls Tryz.prog 57 #[.agg (vwA A n c B m d)] w (ClOut w L X n m) := by
 have hcap := hS.cap
 have hle := hS.le
 have hcap2 := hX.cap
 have hle2 := hX.le
 obtain ⟨W2, hW2⟩ : ∃ W2, ((w.alloc (.cells (vwA A n c B m d) 25)).alloc (.cells (vwA none 0 0 none 0 0) 25)).alloc (.cells (vwA none 0 0 none 0 0) 25) = W2 := ⟨_, rfl⟩
 have HE := Lib.hid (show Ext w W2 from by rw [← hW2]; exact (((Ext.refl w).alloc' _).alloc' _).alloc' _)
 have HP := Lib.hid (show Blk W2 w.heap.size 25 (vwA A n c B m d) from by rw [← hW2]; exact ((Blk.new w 25 (vwA A n c B m d)).alloc _).alloc _)
 have HR := Lib.hid (show Blk W2 (w.heap.size + 1) 25 (vwA none 0 0 none 0 0) from by rw [← hW2]; exact Blk.alloc (show Blk ((w.alloc (.cells (vwA A n c B m d) 25)).alloc (.cells (vwA none 0 0 none 0 0) 25)) (w.heap.size + 1) 25 (vwA none 0 0 none 0 0) from Blk.newAt _ _ _ _ (by simp)) _)
 have HV := Lib.hid (show Blk W2 (w.heap.size + 2) 25 (vwA none 0 0 none 0 0) from by rw [← hW2]; exact Blk.newAt _ _ _ _ (by simp))
 have HS := Lib.hid hS
 have HX := Lib.hid hX
 have HD2 := Lib.hid (show ClS w W2 (w.heap.size + 2) none 0 0 [] none 0 0 [] from ⟨HV.out, VwO.nil _ _, HE.out, by omega⟩)
 have HL := Lib.hid hS.len
 have HM := Lib.hid hX.len
 have HSA := Lib.hid (fun (h : 0 < n) => HS.out.at h)
 have HXA := Lib.hid (fun (h : 0 < m) => HX.out.at h)
 have HSn := Lib.hid (fun k (h : k < n) => hSn _ (nthG_mem (L := L) (k := k) (by rw [hS.len]; exact h)))
 have HXn := Lib.hid (fun k (h : k < m) => hXn _ (nthG_mem (L := X) (k := k) (by rw [hX.len]; exact h)))
 clear hS hX hSn hXn
 obtain ⟨c0, c1⟩ := vw_facts HP.out
 have hvb : w.heap.size + 2 = w.heap.size + 2 := rfl
 go_enter Tryz.func57, Tryz.ntmps57
 go_wp2_with fail
 clear hW2
 go_loopw [11] (fun i wr => ∃ (k : Nat) (A4 : Option Addr) (c4 : Nat) (L4 : List SgR), k ≤ n ∧ i = .int .i64 (k : Int) ∧ Hid (L4.map SgR.V = (L.take k).map SgR.V) ∧ Hid (ClS w wr (w.heap.size + 2) A4 k c4 L4 none 0 0 []) ∧ Hid (Blk wr w.heap.size 25 (vwA A n c B m d)) ∧ Hid (Blk wr (w.heap.size + 1) 25 (vwA none 0 0 none 0 0))) (fun i _ => n - (intOf i).toNat)
 case atStart => exact ⟨0, none, 0, [], Nat.zero_le _, rfl, Lib.hid rfl, HD2, HP, HR⟩
 case round =>
  obtain ⟨k, A4, c4, L4, hk, rfl, HLV, HD, HPr, HRr⟩ := hrel
  clear HD2 HP HR c0 c1
  by_cases hlt : k < n
  ·obtain ⟨b, o, rfl, hr0, hb⟩ := HSA.out (by omega)
   have hr1 : wr.rangeAt b (o + k * 23) (sgL (nthG L k)) := el_at (rangeAt_keep hr0 (HD.out.low.block b hb)) (k := k) (by rw [HL.out]; exact hlt)
   have HOK := Lib.hid (fun (W : World) (h : Ext w W) => show (nthG L k).ok W from (HS.out.ext h).nth (k := k) hlt)
   have HTK := Lib.hid (take_nthG (L := L) (k := k) (by rw [HL.out]; exact hlt))
   have hRn := HSn.out k hlt
   have i0 : (0 : Int) ≤ (k : Int) := by omega
   have i1 : (k : Int) < (n : Int) := by omega
   obtain ⟨R, hR⟩ : ∃ R, nthG L k = R := ⟨_, rfl⟩
   rw [hR] at hr1 HOK HTK hRn
   clear hR hr0 hb
   obtain ⟨W5, hW5⟩ : ∃ W5, wr.alloc (.cells (sgA R) 48) = W5 := ⟨_, rfl⟩
   have HE5 := Lib.hid (show Ext wr W5 from by rw [← hW5]; exact (Ext.refl wr).alloc' _)
   have HE4 := Lib.hid (HD.out.low.trans HE5.out)
   obtain ⟨v5, hv5⟩ : ∃ v, Value.agg (sgA R) = v := ⟨_, rfl⟩
   have HV5 := Lib.hid hv5
   have HCV := Lib.hid (cloneVote2 R v5 HV5.out W5.drew (HOK.out _ HE4.out.drew') hRn)
   have hnew : W5.drew.rangeAt wr.heap.size 0 (sgL R) := by rw [← hW5]; exact rangeAt_of_blk (Blk.new wr 48 (sgA R)).drew
   have HEd := Lib.hid (HE5.out.drew')
   have hB5 : Blk W5.drew wr.heap.size 48 (sgA R) := by rw [← hW5]; exact (Blk.new wr 48 (sgA R)).drew
   have HNE := Lib.hid (show some wr.heap.size ≠ Value.ownBlock (.slice A4 k c4) from fun h => by have := (World.ownsRow.lt HD.out.vw.own1 _ h.symm).2; omega)
   have HDd := Lib.hid (HD.out.ext HEd.out)
   have HPd := Lib.hid (HPr.out.ext HEd.out)
   have HRd := Lib.hid (HRr.out.ext HEd.out)
   have qd : W5.drew.cell? ⟨w.heap.size + 2, 0, none⟩ = some (.slice A4 k c4) := HDd.out.blk.cell 0
   clear HOK HPr HRr HSn HXn hRn hv5
   go_wp2_with (first | (with_reducible refine wpList_loadSg rfl (.tmp 13) rfl b (o + k * 23) rfl R hr1 ?_) | (with_reducible refine wpList_newSg rfl (.tmp 5) (.tmp 14) rfl _ rfl R rfl rfl ?_))
   rw [hW5]
   clear hW5 hr1
   refine wp_region_held_drew (S := fun W => Blk W wr.heap.size 48 (sgA R)) (by kernel_rfl) (hB5) (fun hHeld => ?_)
   (refine Go.Proofs.YtbfepgjeecndiaaGreat.wr 0 (oi := ⟨some 15, .fieldAddr 25 (.tmp 3) 0, 0, "snapshot.go:38", #[], none⟩) (v := ?_) rfl (by kernel_rfl) (by rfl) (fun _ _ _ h => h) ?h hHeld ?_; case h => (intro W hSW; go_simp <;> with_reducible rfl))
   try simp only [lays]
   (refine wpAnyH_take (i := 2) (oi := ⟨some 17, .load 48 (.tmp 5), 48, "snapshot.go:38", #[], none⟩) (v := v5) rfl (by kernel_rfl) (by kernel_rfl) (by kernel_rfl) (fun _ _ _ h => h) ?hy2 hHeld ?_; case hy2 => (exact yields_loadSgV (by rfl) (.tmp 5) (by rfl) wr.heap.size 0 (by rfl) R v5 HV5.out (fun W hS => rangeAt_of_blk hS)))
   try simp only [lays]
   refine wpAnyH_ready (rs := [1, 3]) (by kernel_rfl) (by simp) ?_
   refine (AllReadyH.cons (o := ⟨some 16, .load 22 (.tmp 15), 22, "snapshot.go:38", #[⟨0, .data⟩], none⟩) rfl (fun K hK => ?ka5_2_1) (AllReadyH.cons (o := ⟨some 18, .call { callee := .value (.func 86), args := #[.tmp 17], argTypes := #[48] }, 48, "snapshot.go:38", #[⟨2, .data⟩], none⟩) rfl (fun K hK => ?ka5_2_3) AllReadyH.nil))
   case' ka5_2_1 =>
    (go_simp)
    refine hK.out _ _ (hHeld) (fun hHeld => ?_)
    clear hK K
    try simp only [lays]
    refine wpAnyH_ready (rs := [3]) (by kernel_rfl) (by simp) ?_
    refine (AllReadyH.cons (o := ⟨some 18, .call { callee := .value (.func 86), args := #[.tmp 17], argTypes := #[48] }, 48, "snapshot.go:38", #[⟨2, .data⟩], none⟩) rfl (fun K hK => ?_) AllReadyH.nil)
    (go_simp; go_at_call 86; refine (HCV.out).mono ?_; rintro e w6 ⟨v6, S6, rfl, HV6, HW6, HWF, HO6, HE6⟩; have HD6 := Lib.hid (HDd.out.ext HE6.out); have HOW6 := Lib.hid (own_mono HO6.out HDd.out.low.size); have HP6 := Lib.hid (HPd.out.ext HE6.out); have HR6 := Lib.hid (HRd.out.ext HE6.out); have q6 : w6.cell? ⟨w.heap.size + 2, 0, none⟩ = some (.slice A4 k c4) := HD6.out.blk.cell 0; clear HO6)
    refine hK.out _ _ (hHeld.ext HE6.out) (fun hHeld => ?_)
    clear hK K
    try simp only [lays]
    refine wpAnyH_ready (rs := [4]) (by kernel_rfl) (by simp) ?_
    refine (AllReadyH.cons (o := ⟨some 19, .buildSlice 22 1 #[(0, .tmp 18)], 22, "snapshot.go:38", #[⟨3, .data⟩], none⟩) rfl (fun K hK => ?_) AllReadyH.nil)
    (refine step_buildSg rfl (.tmp 18) (by rfl) S6 v6 HV6.out (by rfl) ?_; intro W7 hW7; have HR7 := Lib.hid (show Rd W7 (some ⟨w6.heap.size, 0, none⟩) (sgL S6) from by rw [← hW7.out]; exact Rd.of_blk (Blk.new w6 48 (sgA S6))); have HE7 := Lib.hid (show Ext w6 W7 from by rw [← hW7.out]; exact (Ext.refl w6).alloc' _); have HD7 := Lib.hid (HD6.out.ext HE7.out); have HOW7 := Lib.hid (show OwnB W7 w.heap.size 5 S6.A S6.n S6.c S6.sig from by rw [← hW7.out]; exact OwnB.alloc HOW6.out _); have HP7 := Lib.hid (HP6.out.ext HE7.out); have HR8 := Lib.hid (HR6.out.ext HE7.out); have q7 : W7.cell? ⟨w.heap.size + 2, 0, none⟩ = some (.slice A4 k c4) := HD7.out.blk.cell 0; clear hW7)
    refine hK.out _ _ (hHeld.ext HE7.out) (fun hHeld => ?_)
    clear hK K
    try simp only [lays]
    refine wpAnyH_ready (rs := [5]) (by kernel_rfl) (by simp) ?_
    refine (AllReadyH.cons (o := ⟨some 20, .call { callee := .builtin .append, args := #[.tmp 16, .tmp 19], argTypes := #[22, 22] }, 22, "snapshot.go:38", #[⟨1, .data⟩, ⟨4, .data⟩, ⟨3, .chain⟩], none⟩) rfl (fun K hK => ?_) AllReadyH.nil)
    (refine step_appG' sgE rfl (.tmp 16) (.tmp 19) rfl w.heap.size A4 k c4 (gcs L4) (by rfl) HD7.out.vw.own1 (some ⟨w6.heap.size, 0, none⟩) 1 1 (sgL S6) (by rfl) HR7.out (by rfl) (sgL_one _) (by omega) (by omega) HD7.out.low.size ?_; intro A7 c7 w8 hO8 hg8; have HG8 := Lib.hid hg8; have HD8 := Lib.hid (HD7.out.push1 (S := S6) ⟨HOW7.out, HWF.out⟩ hg8 hO8); have hb8 := HD7.out.blk.grown hg8 (own_other HD7.out.vw.own1 HD7.out.blk (by decide)); have q8 : w8.cell? ⟨w.heap.size + 2, 0, none⟩ = some (.slice A4 k c4) := hb8.cell 0; have f8 := hb8.frozen 0; clear hO8 hg8 hb8)
    refine hK.out _ _ (hHeld.grown HG8.out HNE.out) (fun hHeld => ?_)
    clear hK K
    try simp only [lays]
    (refine Go.Proofs.YtbfepgjeecndiaaGreat.wr 6 (oi := ⟨some 21, .fieldAddr 25 (.tmp 3) 0, 0, "snapshot.go:38", #[⟨0, .phase⟩, ⟨1, .phase⟩, ⟨2, .phase⟩, ⟨3, .phase⟩, ⟨4, .phase⟩, ⟨5, .phase⟩], none⟩) (v := ?_) rfl (by kernel_rfl) (by rfl) (fun _ _ _ h => h) ?h hHeld ?_; case h => (intro W hSW; go_simp <;> with_reducible rfl))
    try simp only [lays]
    refine wpAnyH_ready (rs := [7]) (by kernel_rfl) (by simp) ?_
    refine (AllReadyH.cons (o := ⟨none, .store 22 (.tmp 21) (.tmp 20), 0, "snapshot.go:38", #[⟨6, .data⟩, ⟨5, .data⟩, ⟨5, .chain⟩, ⟨0, .phase⟩, ⟨1, .phase⟩, ⟨2, .phase⟩, ⟨3, .phase⟩, ⟨4, .phase⟩, ⟨5, .phase⟩], none⟩) rfl (fun K hK => ?_) AllReadyH.nil)
    (go_simp)
    refine hK.out _ _ (hHeld.far (p := ⟨w.heap.size + 2, 0, none⟩) (by have := HD.out.blk.lt; simp; omega) _) (fun hHeld => ?_)
    clear hK K
    try simp only [lays]
    refine wpAnyH_done (by kernel_rfl) ?_ _
   case' ka5_2_3 =>
    (go_simp; go_at_call 86; refine (HCV.out).mono ?_; rintro e w6 ⟨v6, S6, rfl, HV6, HW6, HWF, HO6, HE6⟩; have HD6 := Lib.hid (HDd.out.ext HE6.out); have HOW6 := Lib.hid (own_mono HO6.out HDd.out.low.size); have HP6 := Lib.hid (HPd.out.ext HE6.out); have HR6 := Lib.hid (HRd.out.ext HE6.out); have q6 : w6.cell? ⟨w.heap.size + 2, 0, none⟩ = some (.slice A4 k c4) := HD6.out.blk.cell 0; clear HO6)
    refine hK.out _ _ (hHeld.ext HE6.out) (fun hHeld => ?_)
    clear hK K
    try simp only [lays]
    refine wpAnyH_ready (rs := [1, 4]) (by kernel_rfl) (by simp) ?_
    refine (AllReadyH.cons (o := ⟨some 16, .load 22 (.tmp 15), 22, "snapshot.go:38", #[⟨0, .data⟩], none⟩) rfl (fun K hK => ?ka5_3_1_3) (AllReadyH.cons (o := ⟨some 19, .buildSlice 22 1 #[(0, .tmp 18)], 22, "snapshot.go:38", #[⟨3, .data⟩], none⟩) rfl (fun K hK => ?ka5_3_4_3) AllReadyH.nil))
    case' ka5_3_1_3 =>
     (go_simp)
     refine hK.out _ _ (hHeld) (fun hHeld => ?_)
     clear hK K
     try simp only [lays]
     refine wpAnyH_ready (rs := [4]) (by kernel_rfl) (by simp) ?_
     refine (AllReadyH.cons (o := ⟨some 19, .buildSlice 22 1 #[(0, .tmp 18)], 22, "snapshot.go:38", #[⟨3, .data⟩], none⟩) rfl (fun K hK => ?_) AllReadyH.nil)
     (refine step_buildSg rfl (.tmp 18) (by rfl) S6 v6 HV6.out (by rfl) ?_; intro W7 hW7; have HR7 := Lib.hid (show Rd W7 (some ⟨w6.heap.size, 0, none⟩) (sgL S6) from by rw [← hW7.out]; exact Rd.of_blk (Blk.new w6 48 (sgA S6))); have HE7 := Lib.hid (show Ext w6 W7 from by rw [← hW7.out]; exact (Ext.refl w6).alloc' _); have HD7 := Lib.hid (HD6.out.ext HE7.out); have HOW7 := Lib.hid (show OwnB W7 w.heap.size 5 S6.A S6.n S6.c S6.sig from by rw [← hW7.out]; exact OwnB.alloc HOW6.out _); have HP7 := Lib.hid (HP6.out.ext HE7.out); have HR8 := Lib.hid (HR6.out.ext HE7.out); have q7 : W7.cell? ⟨w.heap.size + 2, 0, none⟩ = some (.slice A4 k c4) := HD7.out.blk.cell 0; clear hW7)
     refine hK.out _ _ (hHeld.ext HE7.out) (fun hHeld => ?_)
     clear hK K
     try simp only [lays]
     refine wpAnyH_ready (rs := [5]) (by kernel_rfl) (by simp) ?_
     refine (AllReadyH.cons (o := ⟨some 20, .call { callee := .builtin .append, args := #[.tmp 16, .tmp 19], argTypes := #[22, 22] }, 22, "snapshot.go:38", #[⟨1, .data⟩, ⟨4, .data⟩, ⟨3, .chain⟩], none⟩) rfl (fun K hK => ?_) AllReadyH.nil)
     (refine step_appG' sgE rfl (.tmp 16) (.tmp 19) rfl w.heap.size A4 k c4 (gcs L4) (by rfl) HD7.out.vw.own1 (some ⟨w6.heap.size, 0, none⟩) 1 1 (sgL S6) (by rfl) HR7.out (by rfl) (sgL_one _) (by omega) (by omega) HD7.out.low.size ?_; intro A7 c7 w8 hO8 hg8; have HG8 := Lib.hid hg8; have HD8 := Lib.hid (HD7.out.push1 (S := S6) ⟨HOW7.out, HWF.out⟩ hg8 hO8); have hb8 := HD7.out.blk.grown hg8 (own_other HD7.out.vw.own1 HD7.out.blk (by decide)); have q8 : w8.cell? ⟨w.heap.size + 2, 0, none⟩ = some (.slice A4 k c4) := hb8.cell 0; have f8 := hb8.frozen 0; clear hO8 hg8 hb8)
     refine hK.out _ _ (hHeld.grown HG8.out HNE.out) (fun hHeld => ?_)
     clear hK K
     try simp only [lays]
     (refine Go.Proofs.YtbfepgjeecndiaaGreat.wr 6 (oi := ⟨some 21, .fieldAddr 25 (.tmp 3) 0, 0, "snapshot.go:38", #[⟨0, .phase⟩, ⟨1, .phase⟩, ⟨2, .phase⟩, ⟨3, .phase⟩, ⟨4, .phase⟩, ⟨5, .phase⟩], none⟩) (v := ?_) rfl (by kernel_rfl) (by rfl) (fun _ _ _ h => h) ?h hHeld ?_; case h => (intro W hSW; go_simp <;> with_reducible rfl))
     try simp only [lays]
     refine wpAnyH_ready (rs := [7]) (by kernel_rfl) (by simp) ?_
     refine (AllReadyH.cons (o := ⟨none, .store 22 (.tmp 21) (.tmp 20), 0, "snapshot.go:38", #[⟨6, .data⟩, ⟨5, .data⟩, ⟨5, .chain⟩, ⟨0, .phase⟩, ⟨1, .phase⟩, ⟨2, .phase⟩, ⟨3, .phase⟩, ⟨4, .phase⟩, ⟨5, .phase⟩], none⟩) rfl (fun K hK => ?_) AllReadyH.nil)
     (go_simp)
     refine hK.out _ _ (hHeld.far (p := ⟨w.heap.size + 2, 0, none⟩) (by have := HD.out.blk.lt; simp; omega) _) (fun hHeld => ?_)
     clear hK K
     try simp only [lays]
     refine wpAnyH_done (by kernel_rfl) ?_ _
    case' ka5_3_4_3 =>
     (refine step_buildSg rfl (.tmp 18) (by rfl) S6 v6 HV6.out (by rfl) ?_; intro W7 hW7; have HR7 := Lib.hid (show Rd W7 (some ⟨w6.heap.size, 0, none⟩) (sgL S6) from by rw [← hW7.out]; exact Rd.of_blk (Blk.new w6 48 (sgA S6))); have HE7 := Lib.hid (show Ext w6 W7 from by rw [← hW7.out]; exact (Ext.refl w6).alloc' _); have HD7 := Lib.hid (HD6.out.ext HE7.out); have HOW7 := Lib.hid (show OwnB W7 w.heap.size 5 S6.A S6.n S6.c S6.sig from by rw [← hW7.out]; exact OwnB.alloc HOW6.out _); have HP7 := Lib.hid (HP6.out.ext HE7.out); have HR8 := Lib.hid (HR6.out.ext HE7.out); have q7 : W7.cell? ⟨w.heap.size + 2, 0, none⟩ = some (.slice A4 k c4) := HD7.out.blk.cell 0; clear hW7)
     refine hK.out _ _ (hHeld.ext HE7.out) (fun hHeld => ?_)
     clear hK K
     try simp only [lays]
     refine wpAnyH_ready (rs := [1]) (by kernel_rfl) (by simp) ?_
     refine (AllReadyH.cons (o := ⟨some 16, .load 22 (.tmp 15), 22, "snapshot.go:38", #[⟨0, .data⟩], none⟩) rfl (fun K hK => ?_) AllReadyH.nil)
     (go_simp)
     refine hK.out _ _ (hHeld) (fun hHeld => ?_)
     clear hK K
     try simp only [lays]
     refine wpAnyH_ready (rs := [5]) (by kernel_rfl) (by simp) ?_
     refine (AllReadyH.cons (o := ⟨some 20, .call { callee := .builtin .append, args := #[.tmp 16, .tmp 19], argTypes := #[22, 22] }, 22, "snapshot.go:38", #[⟨1, .data⟩, ⟨4, .data⟩, ⟨3, .chain⟩], none⟩) rfl (fun K hK => ?_) AllReadyH.nil)
     (refine step_appG' sgE rfl (.tmp 16) (.tmp 19) rfl w.heap.size A4 k c4 (gcs L4) (by rfl) HD7.out.vw.own1 (some ⟨w6.heap.size, 0, none⟩) 1 1 (sgL S6) (by rfl) HR7.out (by rfl) (sgL_one _) (by omega) (by omega) HD7.out.low.size ?_; intro A7 c7 w8 hO8 hg8; have HG8 := Lib.hid hg8; have HD8 := Lib.hid (HD7.out.push1 (S := S6) ⟨HOW7.out, HWF.out⟩ hg8 hO8); have hb8 := HD7.out.blk.grown hg8 (own_other HD7.out.vw.own1 HD7.out.blk (by decide)); have q8 : w8.cell? ⟨w.heap.size + 2, 0, none⟩ = some (.slice A4 k c4) := hb8.cell 0; have f8 := hb8.frozen 0; clear hO8 hg8 hb8)
     refine hK.out _ _ (hHeld.grown HG8.out HNE.out) (fun hHeld => ?_)
     clear hK K
     try simp only [lays]
     (refine Go.Proofs.YtbfepgjeecndiaaGreat.wr 6 (oi := ⟨some 21, .fieldAddr 25 (.tmp 3) 0, 0, "snapshot.go:38", #[⟨0, .phase⟩, ⟨1, .phase⟩, ⟨2, .phase⟩, ⟨3, .phase⟩, ⟨4, .phase⟩, ⟨5, .phase⟩], none⟩) (v := ?_) rfl (by kernel_rfl) (by rfl) (fun _ _ _ h => h) ?h hHeld ?_; case h => (intro W hSW; go_simp <;> with_reducible rfl))
     try simp only [lays]
     refine wpAnyH_ready (rs := [7]) (by kernel_rfl) (by simp) ?_
     refine (AllReadyH.cons (o := ⟨none, .store 22 (.tmp 21) (.tmp 20), 0, "snapshot.go:38", #[⟨6, .data⟩, ⟨5, .data⟩, ⟨5, .chain⟩, ⟨0, .phase⟩, ⟨1, .phase⟩, ⟨2, .phase⟩, ⟨3, .phase⟩, ⟨4, .phase⟩, ⟨5, .phase⟩], none⟩) rfl (fun K hK => ?_) AllReadyH.nil)
     (go_simp)
     refine hK.out _ _ (hHeld.far (p := ⟨w.heap.size + 2, 0, none⟩) (by have := HD.out.blk.lt; simp; omega) _) (fun hHeld => ?_)
     clear hK K
     try simp only [lays]
     refine wpAnyH_done (by kernel_rfl) ?_ _
   all_goals (
    have HLV8 := Lib.hid (show (L4 ++ [S6]).map SgR.V = (L.take (k + 1)).map SgR.V by rw [HTK.out, List.map_append, List.map_append, HLV.out, List.map_cons, List.map_cons, HW6.out])
    have HD9 := Lib.hid HD8.out.1
    have HP9 := Lib.hid (HD8.out.2 _ _ (by omega) HP7.out)
    have HR9 := Lib.hid (HD8.out.2 _ _ (by omega) HR8.out)
    clear HD8 HD7 HD6 HD HDd hHeld
    go_wp2_with fail
    go_roundw
    case rel => exact ⟨k + 1, A7, c7, L4 ++ [S6], by omega, by go_num, HLV8, HD9, HP9, HR9⟩
    case measure => simp [intOf]; omega)
  ·obtain rfl : k = n := by omega
   have i1 : ¬ (k : Int) < (k : Int) := by omega
   have HLV := Lib.hid (show L4.map SgR.V = L.map SgR.V by rw [HLV.out, List.take_of_length_le (by rw [HL.out]; exact Nat.le_refl _)])
   obtain ⟨c0, c1⟩ := vw_facts HPr.out
   clear HSA HSn HS
   go_wp2_with fail
   go_loopw [26] (fun i wr => ∃ (j : Nat) (B4 : Option Addr) (d4 : Nat) (X4 : List TeR), j ≤ m ∧ i = .int .i64 (j : Int) ∧ Hid (X4.map TeR.l = (X.take j).map TeR.l) ∧ Hid (ClS w wr (w.heap.size + 2) A4 k c4 L4 B4 j d4 X4) ∧ Hid (Blk wr (w.heap.size + 1) 25 (vwA none 0 0 none 0 0))) (fun i _ => m - (intOf i).toNat)
   case atStart => exact ⟨0, none, 0, [], Nat.zero_le _, rfl, Lib.hid rfl, HD, HRr⟩
   case round =>
    clear HD HRr HPr c0 c1
    obtain ⟨j, B4, d4, X4, hj, rfl, HXV, HD, HRr⟩ := hrel
    by_cases hlt : j < m
    ·obtain ⟨b, o, rfl, hr0, hb⟩ := HXA.out (by omega)
     have hr1 := el_at (rangeAt_keep hr0 (HD.out.low.block b hb)) (k := j) (by rw [HM.out]; exact hlt)
     have HOK := Lib.hid (fun (W : World) (h : Ext w W) => show (nthG X j).ok W from (HX.out.ext h).nth (k := j) hlt)
     have HTK := Lib.hid (take_nthG (L := X) (k := j) (by rw [HM.out]; exact hlt))
     have hRn := HXn.out j hlt
     have i0 : (0 : Int) ≤ (j : Int) := by omega
     have i1 : (j : Int) < (m : Int) := by omega
     obtain ⟨T, hT⟩ : ∃ T, nthG X j = T := ⟨_, rfl⟩
     rw [hT] at hr1 HOK HTK hRn
     obtain ⟨Ta, Tn, Tc, Tl⟩ := T
     have hc1 : wr.cell? ⟨b, o + j, none⟩ = some (.slice Ta Tn Tc) := by
      have := hr1 0 (.slice Ta Tn Tc) rfl
      simpa [show RowT.sz TeR = 1 from rfl] using this
     clear hT hr0 hb hr1
     have HDd := Lib.hid (HD.out.ext (Ext.refl wr).drew')
     have HRd := Lib.hid (HRr.out.ext (Ext.refl wr).drew')
     have HCV := Lib.hid (bClone2_any Ta Tn Tc Tl wr.drew (HOK.out _ HDd.out.low) hRn)
     have qd : wr.drew.cell? ⟨w.heap.size + 2, 1, none⟩ = some (.slice B4 j d4) := HDd.out.blk.cell 1
     clear HOK HRr HD
     go_wp2_with fail
     refine wp_region_held_drew (S := fun _ => True) (by kernel_rfl) (trivial) (fun hHeld => ?_)
     (refine Go.Proofs.YtbfepgjeecndiaaGreat.wr 0 (oi := ⟨some 30, .fieldAddr 25 (.tmp 3) 1, 0, "snapshot.go:41", #[], none⟩) (v := ?_) rfl (by kernel_rfl) (by rfl) (fun _ _ _ h => h) ?h hHeld ?_; case h => (intro W hSW; go_simp <;> with_reducible rfl))
     try simp only [lays]
     (refine Go.Proofs.YtbfepgjeecndiaaGreat.wr 2 (oi := ⟨some 32, .move (.tmp 7), 28, "snapshot.go:41", #[], none⟩) (v := ?_) rfl (by kernel_rfl) (by rfl) (fun _ _ _ h => h) ?h hHeld ?_; case h => (intro W hSW; go_simp <;> with_reducible rfl))
     try simp only [lays]
     refine wpAnyH_ready (rs := [1, 3]) (by kernel_rfl) (by simp) ?_
     refine (AllReadyH.cons (o := ⟨some 31, .load 23 (.tmp 30), 23, "snapshot.go:41", #[⟨0, .data⟩], none⟩) rfl (fun K hK => ?ka10_2_1) (AllReadyH.cons (o := ⟨some 33, .call { callee := .value (.func 87), args := #[.tmp 32], argTypes := #[28] }, 28, "snapshot.go:41", #[⟨2, .data⟩], none⟩) rfl (fun K hK => ?ka10_2_3) AllReadyH.nil))
     case' ka10_2_1 =>
      (go_simp)
      refine hK.out _ _ (trivial) (fun hHeld => ?_)
      clear hK K
      try simp only [lays]
      refine wpAnyH_ready (rs := [3]) (by kernel_rfl) (by simp) ?_
      refine (AllReadyH.cons (o := ⟨some 33, .call { callee := .value (.func 87), args := #[.tmp 32], argTypes := #[28] }, 28, "snapshot.go:41", #[⟨2, .data⟩], none⟩) rfl (fun K hK => ?_) AllReadyH.nil)
      (go_simp; go_at_call 87; refine (HCV.out).mono ?_; rintro e w6 ⟨A6, c6, rfl, hO6, he6⟩; have HE6 := Lib.hid he6; have HD6 := Lib.hid (HDd.out.ext he6); have HOW6 := Lib.hid (own_mono hO6 HDd.out.low.size); have HR6 := Lib.hid (HRd.out.ext he6); have q6 : w6.cell? ⟨w.heap.size + 2, 1, none⟩ = some (.slice B4 j d4) := HD6.out.blk.cell 1; clear hO6 he6)
      refine hK.out _ _ (trivial) (fun hHeld => ?_)
      clear hK K
      try simp only [lays]
      refine wpAnyH_ready (rs := [4]) (by kernel_rfl) (by simp) ?_
      refine (AllReadyH.cons (o := ⟨some 34, .buildSlice 23 1 #[(0, .tmp 33)], 23, "snapshot.go:41", #[⟨3, .data⟩], none⟩) rfl (fun K hK => ?_) AllReadyH.nil)
      (refine step_buildTe rfl (.tmp 33) (by rfl) A6 Tn c6 (by rfl) ?_; intro W7 hW7; have HR7 := Lib.hid (show Rd W7 (some ⟨w6.heap.size, 0, none⟩) [.slice A6 Tn c6] from by rw [← hW7.out]; exact Rd.of_blk (Blk.new w6 28 #[.slice A6 Tn c6])); have HE7 := Lib.hid (show Ext w6 W7 from by rw [← hW7.out]; exact (Ext.refl w6).alloc' _); have HD7 := Lib.hid (HD6.out.ext HE7.out); have HOW7 := Lib.hid (show OwnB W7 w.heap.size 5 A6 Tn c6 Tl from by rw [← hW7.out]; exact OwnB.alloc HOW6.out _); have HR8 := Lib.hid (HR6.out.ext HE7.out); have q7 : W7.cell? ⟨w.heap.size + 2, 1, none⟩ = some (.slice B4 j d4) := HD7.out.blk.cell 1; clear hW7)
      refine hK.out _ _ (trivial) (fun hHeld => ?_)
      clear hK K
      try simp only [lays]
      refine wpAnyH_ready (rs := [5]) (by kernel_rfl) (by simp) ?_
      refine (AllReadyH.cons (o := ⟨some 35, .call { callee := .builtin .append, args := #[.tmp 31, .tmp 34], argTypes := #[23, 23] }, 23, "snapshot.go:41", #[⟨1, .data⟩, ⟨4, .data⟩, ⟨3, .chain⟩], none⟩) rfl (fun K hK => ?_) AllReadyH.nil)
      (refine step_appG' teE rfl (.tmp 31) (.tmp 34) rfl w.heap.size B4 j d4 (gcs X4) (by rfl) HD7.out.vw.own2 (some ⟨w6.heap.size, 0, none⟩) 1 1 [.slice A6 Tn c6] (by rfl) HR7.out (by rfl) (fun u hu => by rw [List.mem_singleton.1 hu]; rfl) (by omega) (by omega) HD7.out.low.size ?_; intro B7 d7 w8 hO8 hg8; have HD8 := Lib.hid (HD7.out.push2 (T := ⟨A6, Tn, c6, Tl⟩) HOW7.out hg8 hO8); have hb8 := HD7.out.blk.grown hg8 (own_other HD7.out.vw.own2 HD7.out.blk (by decide)); have q8 : w8.cell? ⟨w.heap.size + 2, 1, none⟩ = some (.slice B4 j d4) := hb8.cell 1; have f8 := hb8.frozen 1; clear hO8 hg8 hb8)
      refine hK.out _ _ (trivial) (fun hHeld => ?_)
      clear hK K
      try simp only [lays]
      (refine Go.Proofs.YtbfepgjeecndiaaGreat.wr 6 (oi := ⟨some 36, .fieldAddr 25 (.tmp 3) 1, 0, "snapshot.go:41", #[⟨0, .phase⟩, ⟨1, .phase⟩, ⟨2, .phase⟩, ⟨3, .phase⟩, ⟨4, .phase⟩, ⟨5, .phase⟩], none⟩) (v := ?_) rfl (by kernel_rfl) (by rfl) (fun _ _ _ h => h) ?h hHeld ?_; case h => (intro W hSW; go_simp <;> with_reducible rfl))
      try simp only [lays]
      refine wpAnyH_ready (rs := [7]) (by kernel_rfl) (by simp) ?_
      refine (AllReadyH.cons (o := ⟨none, .store 23 (.tmp 36) (.tmp 35), 0, "snapshot.go:41", #[⟨6, .data⟩, ⟨5, .data⟩, ⟨5, .chain⟩, ⟨0, .phase⟩, ⟨1, .phase⟩, ⟨2, .phase⟩, ⟨3, .phase⟩, ⟨4, .phase⟩, ⟨5, .phase⟩], none⟩) rfl (fun K hK => ?_) AllReadyH.nil)
      (go_simp)
      refine hK.out _ _ (trivial) (fun hHeld => ?_)
      clear hK K
      try simp only [lays]
      refine wpAnyH_done (by kernel_rfl) ?_ _
     case' ka10_2_3 =>
      (go_simp; go_at_call 87; refine (HCV.out).mono ?_; rintro e w6 ⟨A6, c6, rfl, hO6, he6⟩; have HE6 := Lib.hid he6; have HD6 := Lib.hid (HDd.out.ext he6); have HOW6 := Lib.hid (own_mono hO6 HDd.out.low.size); have HR6 := Lib.hid (HRd.out.ext he6); have q6 : w6.cell? ⟨w.heap.size + 2, 1, none⟩ = some (.slice B4 j d4) := HD6.out.blk.cell 1; clear hO6 he6)
      refine hK.out _ _ (trivial) (fun hHeld => ?_)
      clear hK K
      try simp only [lays]
      refine wpAnyH_ready (rs := [1, 4]) (by kernel_rfl) (by simp) ?_
      refine (AllReadyH.cons (o := ⟨some 31, .load 23 (.tmp 30), 23, "snapshot.go:41", #[⟨0, .data⟩], none⟩) rfl (fun K hK => ?ka10_3_1_3) (AllReadyH.cons (o := ⟨some 34, .buildSlice 23 1 #[(0, .tmp 33)], 23, "snapshot.go:41", #[⟨3, .data⟩], none⟩) rfl (fun K hK => ?ka10_3_4_3) AllReadyH.nil))
      case' ka10_3_1_3 =>
       (go_simp)
       refine hK.out _ _ (trivial) (fun hHeld => ?_)
       clear hK K
       try simp only [lays]
       refine wpAnyH_ready (rs := [4]) (by kernel_rfl) (by simp) ?_
       refine (AllReadyH.cons (o := ⟨some 34, .buildSlice 23 1 #[(0, .tmp 33)], 23, "snapshot.go:41", #[⟨3, .data⟩], none⟩) rfl (fun K hK => ?_) AllReadyH.nil)
       (refine step_buildTe rfl (.tmp 33) (by rfl) A6 Tn c6 (by rfl) ?_; intro W7 hW7; have HR7 := Lib.hid (show Rd W7 (some ⟨w6.heap.size, 0, none⟩) [.slice A6 Tn c6] from by rw [← hW7.out]; exact Rd.of_blk (Blk.new w6 28 #[.slice A6 Tn c6])); have HE7 := Lib.hid (show Ext w6 W7 from by rw [← hW7.out]; exact (Ext.refl w6).alloc' _); have HD7 := Lib.hid (HD6.out.ext HE7.out); have HOW7 := Lib.hid (show OwnB W7 w.heap.size 5 A6 Tn c6 Tl from by rw [← hW7.out]; exact OwnB.alloc HOW6.out _); have HR8 := Lib.hid (HR6.out.ext HE7.out); have q7 : W7.cell? ⟨w.heap.size + 2, 1, none⟩ = some (.slice B4 j d4) := HD7.out.blk.cell 1; clear hW7)
       refine hK.out _ _ (trivial) (fun hHeld => ?_)
       clear hK K
       try simp only [lays]
       refine wpAnyH_ready (rs := [5]) (by kernel_rfl) (by simp) ?_
       refine (AllReadyH.cons (o := ⟨some 35, .call { callee := .builtin .append, args := #[.tmp 31, .tmp 34], argTypes := #[23, 23] }, 23, "snapshot.go:41", #[⟨1, .data⟩, ⟨4, .data⟩, ⟨3, .chain⟩], none⟩) rfl (fun K hK => ?_) AllReadyH.nil)
       (refine step_appG' teE rfl (.tmp 31) (.tmp 34) rfl w.heap.size B4 j d4 (gcs X4) (by rfl) HD7.out.vw.own2 (some ⟨w6.heap.size, 0, none⟩) 1 1 [.slice A6 Tn c6] (by rfl) HR7.out (by rfl) (fun u hu => by rw [List.mem_singleton.1 hu]; rfl) (by omega) (by omega) HD7.out.low.size ?_; intro B7 d7 w8 hO8 hg8; have HD8 := Lib.hid (HD7.out.push2 (T := ⟨A6, Tn, c6, Tl⟩) HOW7.out hg8 hO8); have hb8 := HD7.out.blk.grown hg8 (own_other HD7.out.vw.own2 HD7.out.blk (by decide)); have q8 : w8.cell? ⟨w.heap.size + 2, 1, none⟩ = some (.slice B4 j d4) := hb8.cell 1; have f8 := hb8.frozen 1; clear hO8 hg8 hb8)
       refine hK.out _ _ (trivial) (fun hHeld => ?_)
       clear hK K
       try simp only [lays]
       (refine Go.Proofs.YtbfepgjeecndiaaGreat.wr 6 (oi := ⟨some 36, .fieldAddr 25 (.tmp 3) 1, 0, "snapshot.go:41", #[⟨0, .phase⟩, ⟨1, .phase⟩, ⟨2, .phase⟩, ⟨3, .phase⟩, ⟨4, .phase⟩, ⟨5, .phase⟩], none⟩) (v := ?_) rfl (by kernel_rfl) (by rfl) (fun _ _ _ h => h) ?h hHeld ?_; case h => (intro W hSW; go_simp <;> with_reducible rfl))
       try simp only [lays]
       refine wpAnyH_ready (rs := [7]) (by kernel_rfl) (by simp) ?_
       refine (AllReadyH.cons (o := ⟨none, .store 23 (.tmp 36) (.tmp 35), 0, "snapshot.go:41", #[⟨6, .data⟩, ⟨5, .data⟩, ⟨5, .chain⟩, ⟨0, .phase⟩, ⟨1, .phase⟩, ⟨2, .phase⟩, ⟨3, .phase⟩, ⟨4, .phase⟩, ⟨5, .phase⟩], none⟩) rfl (fun K hK => ?_) AllReadyH.nil)
       (go_simp)
       refine hK.out _ _ (trivial) (fun hHeld => ?_)
       clear hK K
       try simp only [lays]
       refine wpAnyH_done (by kernel_rfl) ?_ _
      case' ka10_3_4_3 =>
       (refine step_buildTe rfl (.tmp 33) (by rfl) A6 Tn c6 (by rfl) ?_; intro W7 hW7; have HR7 := Lib.hid (show Rd W7 (some ⟨w6.heap.size, 0, none⟩) [.slice A6 Tn c6] from by rw [← hW7.out]; exact Rd.of_blk (Blk.new w6 28 #[.slice A6 Tn c6])); have HE7 := Lib.hid (show Ext w6 W7 from by rw [← hW7.out]; exact (Ext.refl w6).alloc' _); have HD7 := Lib.hid (HD6.out.ext HE7.out); have HOW7 := Lib.hid (show OwnB W7 w.heap.size 5 A6 Tn c6 Tl from by rw [← hW7.out]; exact OwnB.alloc HOW6.out _); have HR8 := Lib.hid (HR6.out.ext HE7.out); have q7 : W7.cell? ⟨w.heap.size + 2, 1, none⟩ = some (.slice B4 j d4) := HD7.out.blk.cell 1; clear hW7)
       refine hK.out _ _ (trivial) (fun hHeld => ?_)
       clear hK K
       try simp only [lays]
       refine wpAnyH_ready (rs := [1]) (by kernel_rfl) (by simp) ?_
       refine (AllReadyH.cons (o := ⟨some 31, .load 23 (.tmp 30), 23, "snapshot.go:41", #[⟨0, .data⟩], none⟩) rfl (fun K hK => ?_) AllReadyH.nil)
       (go_simp)
       refine hK.out _ _ (trivial) (fun hHeld => ?_)
       clear hK K
       try simp only [lays]
       refine wpAnyH_ready (rs := [5]) (by kernel_rfl) (by simp) ?_
       refine (AllReadyH.cons (o := ⟨some 35, .call { callee := .builtin .append, args := #[.tmp 31, .tmp 34], argTypes := #[23, 23] }, 23, "snapshot.go:41", #[⟨1, .data⟩, ⟨4, .data⟩, ⟨3, .chain⟩], none⟩) rfl (fun K hK => ?_) AllReadyH.nil)
       (refine step_appG' teE rfl (.tmp 31) (.tmp 34) rfl w.heap.size B4 j d4 (gcs X4) (by rfl) HD7.out.vw.own2 (some ⟨w6.heap.size, 0, none⟩) 1 1 [.slice A6 Tn c6] (by rfl) HR7.out (by rfl) (fun u hu => by rw [List.mem_singleton.1 hu]; rfl) (by omega) (by omega) HD7.out.low.size ?_; intro B7 d7 w8 hO8 hg8; have HD8 := Lib.hid (HD7.out.push2 (T := ⟨A6, Tn, c6, Tl⟩) HOW7.out hg8 hO8); have hb8 := HD7.out.blk.grown hg8 (own_other HD7.out.vw.own2 HD7.out.blk (by decide)); have q8 : w8.cell? ⟨w.heap.size + 2, 1, none⟩ = some (.slice B4 j d4) := hb8.cell 1; have f8 := hb8.frozen 1; clear hO8 hg8 hb8)
       refine hK.out _ _ (trivial) (fun hHeld => ?_)
       clear hK K
       try simp only [lays]
       (refine Go.Proofs.YtbfepgjeecndiaaGreat.wr 6 (oi := ⟨some 36, .fieldAddr 25 (.tmp 3) 1, 0, "snapshot.go:41", #[⟨0, .phase⟩, ⟨1, .phase⟩, ⟨2, .phase⟩, ⟨3, .phase⟩, ⟨4, .phase⟩, ⟨5, .phase⟩], none⟩) (v := ?_) rfl (by kernel_rfl) (by rfl) (fun _ _ _ h => h) ?h hHeld ?_; case h => (intro W hSW; go_simp <;> with_reducible rfl))
       try simp only [lays]
       refine wpAnyH_ready (rs := [7]) (by kernel_rfl) (by simp) ?_
       refine (AllReadyH.cons (o := ⟨none, .store 23 (.tmp 36) (.tmp 35), 0, "snapshot.go:41", #[⟨6, .data⟩, ⟨5, .data⟩, ⟨5, .chain⟩, ⟨0, .phase⟩, ⟨1, .phase⟩, ⟨2, .phase⟩, ⟨3, .phase⟩, ⟨4, .phase⟩, ⟨5, .phase⟩], none⟩) rfl (fun K hK => ?_) AllReadyH.nil)
       (go_simp)
       refine hK.out _ _ (trivial) (fun hHeld => ?_)
       clear hK K
       try simp only [lays]
       refine wpAnyH_done (by kernel_rfl) ?_ _
     all_goals (
      have HXV8 := Lib.hid (show (X4 ++ [TeR.mk A6 Tn c6 Tl]).map TeR.l = (X.take (j + 1)).map TeR.l by rw [HTK.out, List.map_append, List.map_append, HXV.out]; rfl)
      have HD9 := Lib.hid HD8.out.1
      have HR9 := Lib.hid (HD8.out.2 _ _ (by omega) HR8.out)
      clear HD8 HD7 HD6 HDd hHeld
      go_wp2_with fail
      go_roundw
      case rel => exact ⟨j + 1, B7, d7, X4 ++ [TeR.mk A6 Tn c6 Tl], by omega, by go_num, HXV8, HD9, HR9⟩
      case measure => simp [intOf]; omega)
    ·obtain rfl : j = m := by omega
     have i1 : ¬ (j : Int) < (j : Int) := by omega
     have HXV := Lib.hid (show X4.map TeR.l = X.map TeR.l by rw [HXV.out, List.take_of_length_le (by rw [HM.out]; exact Nat.le_refl _)])
     obtain ⟨y0, y1⟩ := vw_facts HD.out.blk
     have ht : wr.there (w.heap.size + 1) 0 2 := there_of_blk HRr.out
     have hst := blk_whole (ds := vwA A4 k c4 B4 j d4) HRr.out rfl
     clear HXA HXn HX
     go_wp2_with (first | (with_reducible refine wpList_storeVw rfl (.tmp 2) (.tmp 38) rfl (w.heap.size + 1) A4 k c4 B4 j d4 rfl rfl ht ?_))
     exact bodyPost_ret (v := .agg (vwA A4 k c4 B4 j d4)) (retC rfl _ _ (w.heap.size + 1) _ rfl (run_loadVar_row _ _ _ _ _ (0, 0) _ hst Tryz.underlying25 rfl (by kernel_rfl))) rfl ⟨A4, c4, L4, B4, d4, X4, rfl, HD.out.vw.set HRr.out _, HLV.out, HXV.out, Below.setCells' HD.out.low (Nat.le_succ _) _ _⟩
end Go.Proofs.YtbfepgjeecndiaaGreat
