/- The reference's SameDeltas, SameNames, SameInts. -/
import Derived.Test.YtohmmcahpakokaaGreatG26
set_option maxRecDepth 100000
set_option maxHeartbeats 8000000
set_option linter.unusedVariables false
set_option linter.unusedSimpArgs false
namespace Go.Proofs.YtohmmcahpakokaaGreat
section
open Go.RowKit
attribute [local go_sem ↓] Go.wp_at_zero Go.wp_at_succ
theorem qK {α:Type} [RowT α]:∀ {L M:List α},L.length=M.length→(∀ j,j < L.length→aH L j=aH M j)→L=M
 | [],[],_,_=>rfl
 | [],_ :: _,h,_=>by simp at h
 | _ :: _,[],h,_=>by simp at h
 | x :: r,y :: q,h,hj=>by
  have h0:x=y:=hj 0 (by simp)
  rw [h0,qK (L:=r) (M:=q) (by simpa using h) (fun j hl=>hj (j+1) (by simpa using hl))]
theorem sV (A1:Option Addr) (n c1:Nat) (L:List DeR) (A2:Option Addr) (m c2:Nat) (M:List DeR) (w:World) (hL:SlG w A1 n c1 L) (hM:SlG w A2 m c2 M):Calls Tryz.prog 14 #[.slice A1 n c1,.slice A2 m c2] w fun e w'=>e=.returned (.bool (decide (L=M)))∧Ext w w':=by
 have HS:=zh hL
 have HM:=zh hM
 have hle:=hL.le
 have hcap:=hL.cap
 have hle2:=hM.le
 have hcap2:=hM.cap
 clear hL hM
 by_cases hnm:n=m
 ·subst hnm
  go_enter Tryz.func14,Tryz.ntmps14
  go_wp2_with fail
  go_loopw [5] (fun vi wr=>∃ k:Nat,vi=.int .i64 (k:Int)∧k≤n∧Hid (∀ j,j < k→aH L j=aH M j)∧Hid (Ext w wr)) (fun i _=>n - (intOf i).toNat)
  case atStart=>exact ⟨0,rfl,Nat.zero_le _,zh (fun j hj=>absurd hj (Nat.not_lt_zero _)),zh (Ext.refl w)⟩
  case round =>
   obtain ⟨k,rfl,hk,HN,HXW⟩:=hrel
   by_cases hlt:k < n
   ·have i0 : (0 : Int) ≤ (k : Int) := by omega
    have i1:(k:Int) < (n:Int):=by omega
    obtain ⟨d,hd⟩:∃ d,aH L k=d:=⟨_,rfl⟩
    obtain ⟨d2,hd2⟩:∃ d,aH M k=d:=⟨_,rfl⟩
    have hw1:deW d:=by rw [← hd];exact HS.out.nth hlt
    have hw2:deW d2:=by rw [← hd2];exact HM.out.nth hlt
    obtain ⟨b,o,hab,hrow,-⟩:=HS.out.at (by omega)
    obtain ⟨b2,o2,hab2,hrow2,-⟩:=HM.out.at (by omega)
    subst hab
    subst hab2
    have HR1:=zh (fun (V:World) (e:Ext w V)=>show V.rangeAt b (o+k * 11) (RowT.enc d) from by
     rw [← hd]
     obtain ⟨b9,o9,e2,hr2,-⟩:=(HS.out.ext e).at (by omega)
     injection e2 with e3
     injection e3 with e4 e5
     subst e4
     subst e5
     exact cO (k:=k) hr2 (by rw [HS.out.len];exact hlt))
    have HR2:=zh (fun (V:World) (e:Ext w V)=>show V.rangeAt b2 (o2+k * 11) (RowT.enc d2) from by
     rw [← hd2]
     obtain ⟨b9,o9,e2,hr2,-⟩:=(HM.out.ext e).at (by omega)
     injection e2 with e3
     injection e3 with e4 e5
     subst e4
     subst e5
     exact cO (k:=k) hr2 (by rw [HM.out.len];exact hlt))
    have HNE:=zh (fun W=>aFE d d2 hw1 hw2 W)
    obtain ⟨ne,hne⟩:∃ ne,(!decide (d=d2))=ne:=⟨_,rfl⟩
    rw [hne] at HNE
    have HDK:=zh (show (!decide (aH L k=aH M k))=ne from by rw [hd,hd2];exact hne)
    clear hrow hrow2 hd hd2 hne
    go_upto_region 6 with fail
    refine wp_region_held_drew (S:=fun V=>Ext w V) (by kernel_rfl) (HXW.out.trans ((Ext.refl _).drew')) (fun aA=>?_)
    refine zzr [0,1,2] ?_
    refine zu 3 (v:=.agg (deA d)) aA ?_ (hy:=by exact aF deP (by rfl) (.tmp 19) rfl b (o+k * 11) rfl d _ rfl (fun V h=>HR1.out V h))
    refine zzr [4,5,6] ?_
    refine zu 7 (v:=.agg (deA d2)) aA ?_ (hy:=by exact aF deP (by rfl) (.tmp 23) rfl b2 (o2+k * 11) rfl d2 _ rfl (fun V h=>HR2.out V h))
    refine zu 8 (v:=.bool ne) aA ?_ (hy:=by exact cS (by rfl) (.tmp 20) (.tmp 24) (by rfl) (vx:=.agg (deA d)) (vy:=.agg (deA d2)) (by rfl) (by rfl) (aId _ _ _ _ _) HNE.out)
    refine wpAnyH_done (by kernel_rfl) ?_ _
    have HXN:=zh aA
    clear aA
    cases ne
    ·go_wp2_with fail
     go_roundw
     case rel=>exact ⟨k+1,by go_num,hlt,zh (fun j hj=>by
      rcases (by omega:j < k ∨ j=k) with hj | rfl
      ·exact HN.out j hj
      have h9:=HDK.out
      simpa using h9),HXN⟩
     case measure=>simp [intOf];omega
    have HF:=zh (show decide (L=M)=false from decide_eq_false (fun e=>by
     have h9:=HDK.out
     rw [e] at h9
     simp at h9))
    go_wp2_with fail
    go_ret
    exact ⟨by rw [HF.out];rfl,HXN.out⟩
   obtain rfl:n=k:=by omega
   have i1:¬ (n:Int) < (n:Int):=by omega
   have HF:=zh (show decide (L=M)=true from decide_eq_true (qK (by rw [HS.out.len,HM.out.len]) (fun j hj=>HN.out j (by rw [← HS.out.len];exact hj))))
   go_wp2_with fail
   go_ret
   exact ⟨by rw [HF.out];rfl,HXW.out⟩
 have HF:=zh (show decide (L=M)=false from decide_eq_false (fun e=>hnm (by have h1:=HS.out.len;have h2:=HM.out.len;rw [e] at h1;omega)))
 have i1:((n:Int) != (m:Int))=true:=bne_iff_ne.2 (by omega)
 go_enter Tryz.func14,Tryz.ntmps14
 go_wp2_with fail
 go_ret
 exact ⟨by rw [HF.out];rfl,Ext.refl w⟩
theorem uU (A1:Option Addr) (n c1:Nat) (L:List UInt64) (A2:Option Addr) (m c2:Nat) (M:List UInt64) (w:World) (hL:SlG w A1 n c1 L) (hM:SlG w A2 m c2 M):Calls Tryz.prog 38 #[.slice A1 n c1,.slice A2 m c2] w fun e w'=>e=.returned (.bool (decide (L=M)))∧Ext w w':=by
 have HS:=zh hL
 have HM:=zh hM
 have hle:=hL.le
 have hcap:=hL.cap
 have hle2:=hM.le
 have hcap2:=hM.cap
 clear hL hM
 by_cases hnm:n=m
 ·subst hnm
  go_enter Tryz.func38,Tryz.ntmps38
  go_wp2_with fail
  go_loopw [5] (fun vi wr=>∃ k:Nat,vi=.int .i64 (k:Int)∧k≤n∧Hid (∀ j,j < k→aH L j=aH M j)∧Hid (Ext w wr)) (fun i _=>n - (intOf i).toNat)
  case atStart=>exact ⟨0,rfl,Nat.zero_le _,zh (fun j hj=>absurd hj (Nat.not_lt_zero _)),zh (Ext.refl w)⟩
  case round =>
   obtain ⟨k,rfl,hk,HN,HXW⟩:=hrel
   by_cases hlt:k < n
   ·have i0 : (0 : Int) ≤ (k : Int) := by omega
    have i1:(k:Int) < (n:Int):=by omega
    obtain ⟨d,hd⟩:∃ d,aH L k=d:=⟨_,rfl⟩
    obtain ⟨d2,hd2⟩:∃ d,aH M k=d:=⟨_,rfl⟩
    obtain ⟨b,o,hab,hrow,-⟩:=HS.out.at (by omega)
    obtain ⟨b2,o2,hab2,hrow2,-⟩:=HM.out.at (by omega)
    subst hab
    subst hab2
    have HR1:=zh (fun (V:World) (e:Ext w V)=>show V.rangeAt b (o+k * 8) (RowT.enc d) from by
     rw [← hd]
     obtain ⟨b9,o9,e2,hr2,-⟩:=(HS.out.ext e).at (by omega)
     injection e2 with e3
     injection e3 with e4 e5
     subst e4
     subst e5
     exact cO (k:=k) hr2 (by rw [HS.out.len];exact hlt))
    have HR2:=zh (fun (V:World) (e:Ext w V)=>show V.rangeAt b2 (o2+k * 8) (RowT.enc d2) from by
     rw [← hd2]
     obtain ⟨b9,o9,e2,hr2,-⟩:=(HM.out.ext e).at (by omega)
     injection e2 with e3
     injection e3 with e4 e5
     subst e4
     subst e5
     exact cO (k:=k) hr2 (by rw [HM.out.len];exact hlt))
    have HNE:=zh (fun W=>uK d d2 W)
    obtain ⟨ne,hne⟩:∃ ne,(!decide (d=d2))=ne:=⟨_,rfl⟩
    rw [hne] at HNE
    have HDK:=zh (show (!decide (aH L k=aH M k))=ne from by rw [hd,hd2];exact hne)
    clear hrow hrow2 hd hd2 hne
    go_upto_region 6 with fail
    refine wp_region_held_drew (S:=fun V=>Ext w V) (by kernel_rfl) (HXW.out.trans ((Ext.refl _).drew')) (fun aA=>?_)
    refine zzr [0,1,2] ?_
    refine zu 3 (v:=.agg (nmc d)) aA ?_ (hy:=by exact aF nmP (by rfl) (.tmp 19) rfl b (o+k * 8) rfl d _ rfl (fun V h=>HR1.out V h))
    refine zzr [4,5,6] ?_
    refine zu 7 (v:=.agg (nmc d2)) aA ?_ (hy:=by exact aF nmP (by rfl) (.tmp 23) rfl b2 (o2+k * 8) rfl d2 _ rfl (fun V h=>HR2.out V h))
    refine zu 8 (v:=.bool ne) aA ?_ (hy:=by exact cS (by rfl) (.tmp 20) (.tmp 24) (by rfl) (vx:=.agg (nmc d)) (vy:=.agg (nmc d2)) (by rfl) (by rfl) (iV _ _ _ _ _) HNE.out)
    refine wpAnyH_done (by kernel_rfl) ?_ _
    have HXN:=zh aA
    clear aA
    cases ne
    ·go_wp2_with fail
     go_roundw
     case rel=>exact ⟨k+1,by go_num,hlt,zh (fun j hj=>by
      rcases (by omega:j < k ∨ j=k) with hj | rfl
      ·exact HN.out j hj
      have h9:=HDK.out
      simpa using h9),HXN⟩
     case measure=>simp [intOf];omega
    have HF:=zh (show decide (L=M)=false from decide_eq_false (fun e=>by
     have h9:=HDK.out
     rw [e] at h9
     simp at h9))
    go_wp2_with fail
    go_ret
    exact ⟨by rw [HF.out];rfl,HXN.out⟩
   obtain rfl:n=k:=by omega
   have i1:¬ (n:Int) < (n:Int):=by omega
   have HF:=zh (show decide (L=M)=true from decide_eq_true (qK (by rw [HS.out.len,HM.out.len]) (fun j hj=>HN.out j (by rw [← HS.out.len];exact hj))))
   go_wp2_with fail
   go_ret
   exact ⟨by rw [HF.out];rfl,HXW.out⟩
 have HF:=zh (show decide (L=M)=false from decide_eq_false (fun e=>hnm (by have h1:=HS.out.len;have h2:=HM.out.len;rw [e] at h1;omega)))
 have i1:((n:Int) != (m:Int))=true:=bne_iff_ne.2 (by omega)
 go_enter Tryz.func38,Tryz.ntmps38
 go_wp2_with fail
 go_ret
 exact ⟨by rw [HF.out];rfl,Ext.refl w⟩
theorem xO (A1:Option Addr) (n c1:Nat) (L:List Int) (A2:Option Addr) (m c2:Nat) (M:List Int) (w:World) (hL:SlG w A1 n c1 L) (hM:SlG w A2 m c2 M):Calls Tryz.prog 37 #[.slice A1 n c1,.slice A2 m c2] w fun e w'=>e=.returned (.bool (decide (L=M)))∧Ext w w':=by
 have HS:=zh hL
 have HM:=zh hM
 have hle:=hL.le
 have hcap:=hL.cap
 have hle2:=hM.le
 have hcap2:=hM.cap
 clear hL hM
 by_cases hnm:n=m
 ·subst hnm
  go_enter Tryz.func37,Tryz.ntmps37
  go_wp2_with fail
  go_loopw [5] (fun vi wr=>∃ k:Nat,vi=.int .i64 (k:Int)∧k≤n∧Hid (∀ j,j < k→aH L j=aH M j)∧Hid (Ext w wr)) (fun i _=>n - (intOf i).toNat)
  case atStart=>exact ⟨0,rfl,Nat.zero_le _,zh (fun j hj=>absurd hj (Nat.not_lt_zero _)),zh (Ext.refl w)⟩
  case round =>
   obtain ⟨k,rfl,hk,HN,HXW⟩:=hrel
   by_cases hlt:k < n
   ·have i0 : (0 : Int) ≤ (k : Int) := by omega
    have i1:(k:Int) < (n:Int):=by omega
    obtain ⟨d,hd⟩:∃ d,aH L k=d:=⟨_,rfl⟩
    obtain ⟨d2,hd2⟩:∃ d,aH M k=d:=⟨_,rfl⟩
    obtain ⟨b,o,hab,hrow,-⟩:=HS.out.at (by omega)
    obtain ⟨b2,o2,hab2,hrow2,-⟩:=HM.out.at (by omega)
    subst hab
    subst hab2
    have HR1:=zh (fun (V:World) (e:Ext w V)=>show V.cell? ⟨b,o+k,none⟩=some (.int .i64 d) from by
     rw [← hd]
     obtain ⟨b9,o9,e2,hr2,-⟩:=(HS.out.ext e).at (by omega)
     injection e2 with e3
     injection e3 with e4 e5
     subst e4
     subst e5
     have h5:V.rangeAt _ (_+k * 1) _:=cO (k:=k) hr2 (by rw [HS.out.len];exact hlt)
     have h7:=h5 0 _ rfl
     rwa [show ∀ z:Nat,z+k * 1+0=z+k from fun z=>by omega] at h7)
    have HR2:=zh (fun (V:World) (e:Ext w V)=>show V.cell? ⟨b2,o2+k,none⟩=some (.int .i64 d2) from by
     rw [← hd2]
     obtain ⟨b9,o9,e2,hr2,-⟩:=(HM.out.ext e).at (by omega)
     injection e2 with e3
     injection e3 with e4 e5
     subst e4
     subst e5
     have h5:V.rangeAt _ (_+k * 1) _:=cO (k:=k) hr2 (by rw [HM.out.len];exact hlt)
     have h7:=h5 0 _ rfl
     rwa [show ∀ z:Nat,z+k * 1+0=z+k from fun z=>by omega] at h7)
    obtain ⟨ne,hne⟩:∃ ne:Bool,(d != d2)=ne:=⟨_,rfl⟩
    have HDK:=zh (show (aH L k != aH M k)=ne from by rw [hd,hd2];exact hne)
    clear hrow hrow2 hd hd2
    go_upto_region 6 with fail
    refine wp_region_held_drew (S:=fun V=>Ext w V) (by kernel_rfl) (HXW.out.trans ((Ext.refl _).drew')) (fun aA=>?_)
    refine zz0 [0,1,2,3,4,5,6,7,8] ?_;repeat first | refine zz1 ?_ (hy:=by intro W aL;have z1:=HR1.out W aL;have z2:=HR2.out W aL;go_simp <;> with_reducible rfl) | refine zz2 ?_ | refine zz9 ?_
    refine wpAnyH_done (by kernel_rfl) ?_ _
    have HXN:=zh aA
    clear aA
    cases ne
    ·go_wp2_with fail
     go_roundw
     case rel=>exact ⟨k+1,by go_num,hlt,zh (fun j hj=>by
      rcases (by omega:j < k ∨ j=k) with hj | rfl
      ·exact HN.out j hj
      have h9:=HDK.out
      simpa using h9),HXN⟩
     case measure=>simp [intOf];omega
    have HF:=zh (show decide (L=M)=false from decide_eq_false (fun e=>by
     have h9:=HDK.out
     rw [e] at h9
     simp at h9))
    go_wp2_with fail
    go_ret
    exact ⟨by rw [HF.out];rfl,HXN.out⟩
   obtain rfl:n=k:=by omega
   have i1:¬ (n:Int) < (n:Int):=by omega
   have HF:=zh (show decide (L=M)=true from decide_eq_true (qK (by rw [HS.out.len,HM.out.len]) (fun j hj=>HN.out j (by rw [← HS.out.len];exact hj))))
   go_wp2_with fail
   go_ret
   exact ⟨by rw [HF.out];rfl,HXW.out⟩
 have HF:=zh (show decide (L=M)=false from decide_eq_false (fun e=>hnm (by have h1:=HS.out.len;have h2:=HM.out.len;rw [e] at h1;omega)))
 have i1:((n:Int) != (m:Int))=true:=bne_iff_ne.2 (by omega)
 go_enter Tryz.func37,Tryz.ntmps37
 go_wp2_with fail
 go_ret
 exact ⟨by rw [HF.out];rfl,Ext.refl w⟩
theorem aGx (x:StpR) (R:OpR) (ev:OpR→Bool) (w:World) (hs:x.s.ok w) (hro:R.ok w) (hpn:R.n1≤140737488355328) (hv:vOp R=true) (hac:wfI x.ac)
  (hbl:R.k=6→∀ V,Ext w V→Calls Tryz.prog 96 #[.agg (stpA x),.agg (opA R)] V fun e w'=>e=.returned (.int .i64 (dA x.m2 x.m1 x.ht cM ev x.ac R x.s.V))∧Ext V w') :
  Calls Tryz.prog 52 #[.agg (stpA x),.agg (opA R)] w fun e w'=>e=.returned (.int .i64 (dA x.m2 x.m1 x.ht cM ev x.ac R x.s.V))∧Ext w w':=by
 have HS:=zh hs
 have HRO:=zh hro
 have HPN:=zh hpn
 have HAC:=zh hac
 obtain ⟨hkk,-,-,-,-,-,hvb,-,-⟩:=oH hv
 obtain ⟨W,hW⟩:∃ W,(w.alloc (.cells (stpA x) 86)).alloc (.cells (opA R) 69)=W:=⟨_,rfl⟩
 have HP:=zh (show Blk W w.heap.size 86 (stpA x) from by rw [← hW];exact (Blk.new w 86 (stpA x)).alloc _)
 have HO:=zh (show Blk W (w.heap.size+1) 69 (opA R) from by rw [← hW];exact Blk.newAt _ _ _ _ (by simp))
 have HX:=zh (show Ext w W from by rw [← hW];exact ((Ext.refl w).alloc' _).alloc' _)
 have rx:W.rangeAt w.heap.size 0 (RowT.enc x):=aC HP.out
 have ro:W.rangeAt (w.heap.size+1) 0 (RowT.enc R):=aC HO.out
 have p0:=HO.out.cell 0
 have p1:=HO.out.cell 1
 have p2:=HO.out.cell 2
 have p3:=HO.out.cell 3
 have p4:=HO.out.cell 4
 have g2:=HP.out.cell 2
 have g3:=HP.out.cell 3
 have g13:=HP.out.cell 13
 obtain ⟨vx,hvx⟩:∃ v,Value.agg (stpA x)=v:=⟨_,rfl⟩
 obtain ⟨vo,hvo⟩:∃ v,Value.agg (opA R)=v:=⟨_,rfl⟩
 have HVX:=zh hvx
 have HVO:=zh hvo
 obtain ⟨z,hz⟩:∃ z:Int,(if getC x.s.C (aY x.ac) < R.am then 100 else 0)=z:=⟨_,rfl⟩
 clear hs hro hpn hac hv
 rcases (by omega:R.k=1 ∨ R.k=2 ∨ R.k=3 ∨ R.k=4 ∨ R.k=5 ∨ R.k=6) with hk | hk | hk | hk | hk | hk
 ·have hk6 : R.k ≠ 5 := by omega
  have b1:(R.k == 1)=true:=by rw [hk];rfl
  have d1:decide (R.k=1)=true:=by rw [hk];rfl
  have b2:(R.k == 2)=false:=by rw [hk];rfl
  have d2:decide (R.k=2)=false:=by rw [hk];rfl
  have b3:(R.k == 3)=false:=by rw [hk];rfl
  have d3:decide (R.k=3)=false:=by rw [hk];rfl
  have b4:(R.k == 4)=false:=by rw [hk];rfl
  have d4:decide (R.k=4)=false:=by rw [hk];rfl
  have b5:(R.k == 5)=false:=by rw [hk];rfl
  have d5:decide (R.k=5)=false:=by rw [hk];rfl
  have b6:(R.k == 6)=false:=by rw [hk];rfl
  have d6:decide (R.k=6)=false:=by rw [hk];rfl
  have HFU:=zh (rI x R.am W (HS.out.ext HX.out) HAC.out)
  rw [hvx,hz] at HFU
  have HX5:=HX
  by_cases h1:(x.m2:Int)≤R.tO
  ·have HSP := zh (show dA x.m2 x.m1 x.ht cM ev x.ac R x.s.V = 1 from by unfold dA; rw [hk]; simp [h1])
   clear hk hvx hvo hz
   go_enter Tryz.func52,Tryz.ntmps52
   go_wp2_with fail
   go_ret
   exact ⟨by rw [HSP.out];rfl,HX.out⟩
  have HSP:=zh (show dA x.m2 x.m1 x.ht cM ev x.ac R x.s.V=z from by rw [← hz];unfold dA;rw [hk];simp [h1];rfl)
  clear hk hvx hvo hz
  go_enter Tryz.func52,Tryz.ntmps52
  go_wp2_with (first | (with_reducible refine aB gP rfl (.tmp 2) rfl w.heap.size 0 rfl x vx HVX.out rx ?_) | fail "A")
  refine HFU.out.mono ?_
  rintro e w7 ⟨rfl,he7⟩
  have HX7:=zh (HX5.out.trans he7)
  clear he7
  go_wp2_with fail
  go_ret
  exact ⟨by rw [HSP.out];rfl,HX7.out⟩
 ·have hk6 : R.k ≠ 5 := by omega
  have b1:(R.k == 1)=false:=by rw [hk];rfl
  have d1:decide (R.k=1)=false:=by rw [hk];rfl
  have b2:(R.k == 2)=true:=by rw [hk];rfl
  have d2:decide (R.k=2)=true:=by rw [hk];rfl
  have b3:(R.k == 3)=false:=by rw [hk];rfl
  have d3:decide (R.k=3)=false:=by rw [hk];rfl
  have b4:(R.k == 4)=false:=by rw [hk];rfl
  have d4:decide (R.k=4)=false:=by rw [hk];rfl
  have b5:(R.k == 5)=false:=by rw [hk];rfl
  have d5:decide (R.k=5)=false:=by rw [hk];rfl
  have b6:(R.k == 6)=false:=by rw [hk];rfl
  have d6:decide (R.k=6)=false:=by rw [hk];rfl
  have HFU:=zh (rI x R.am W (HS.out.ext HX.out) HAC.out)
  rw [hvx,hz] at HFU
  have HX5:=HX
  by_cases h1:(x.m2:Int)≤R.tO
  ·have HSP := zh (show dA x.m2 x.m1 x.ht cM ev x.ac R x.s.V = 1 from by unfold dA; rw [hk]; simp [h1])
   clear hk hvx hvo hz
   go_enter Tryz.func52,Tryz.ntmps52
   go_wp2_with fail
   go_ret
   exact ⟨by rw [HSP.out];rfl,HX.out⟩
  by_cases h2:R.ul≤x.ht
  ·have HSP := zh (show dA x.m2 x.m1 x.ht cM ev x.ac R x.s.V = 102 from by unfold dA; rw [hk]; simp [h1, h2])
   clear hk hvx hvo hz
   go_enter Tryz.func52,Tryz.ntmps52
   go_wp2_with fail
   go_ret
   exact ⟨by rw [HSP.out];rfl,HX.out⟩
  have HSP:=zh (show dA x.m2 x.m1 x.ht cM ev x.ac R x.s.V=z from by rw [← hz];unfold dA;rw [hk];simp [h1,h2];rfl)
  clear hk hvx hvo hz
  go_enter Tryz.func52,Tryz.ntmps52
  go_wp2_with (first | (with_reducible refine aB gP rfl (.tmp 2) rfl w.heap.size 0 rfl x vx HVX.out rx ?_) | fail "A")
  refine HFU.out.mono ?_
  rintro e w7 ⟨rfl,he7⟩
  have HX7:=zh (HX5.out.trans he7)
  clear he7
  go_wp2_with fail
  go_ret
  exact ⟨by rw [HSP.out];rfl,HX7.out⟩
 ·have HSP := zh (show dA x.m2 x.m1 x.ht cM ev x.ac R x.s.V = oY x.s.V x.ht R from by unfold dA oY; rw [if_pos hk]; cases fdK x.s.V.K R.lk <;> rfl)
  have b1:(R.k == 1)=false:=by rw [hk];rfl
  have d1:decide (R.k=1)=false:=by rw [hk];rfl
  have b2:(R.k == 2)=false:=by rw [hk];rfl
  have d2:decide (R.k=2)=false:=by rw [hk];rfl
  have b3:(R.k == 3)=true:=by rw [hk];rfl
  have d3:decide (R.k=3)=true:=by rw [hk];rfl
  have b4:(R.k == 4)=false:=by rw [hk];rfl
  have d4:decide (R.k=4)=false:=by rw [hk];rfl
  have b5:(R.k == 5)=false:=by rw [hk];rfl
  have d5:decide (R.k=5)=false:=by rw [hk];rfl
  have b6:(R.k == 6)=false:=by rw [hk];rfl
  have d6:decide (R.k=6)=false:=by rw [hk];rfl
  have HC:=zh (aGw x R W (HS.out.ext HX.out) (HRO.out.ext HX.out) HPN.out)
  rw [hvx,hvo] at HC
  clear hk hvx hvo hz
  go_enter Tryz.func52,Tryz.ntmps52
  go_wp2_with (first | (with_reducible refine aB gP rfl (.tmp 2) rfl w.heap.size 0 rfl x vx HVX.out rx ?_) | (with_reducible refine aB opP rfl (.tmp 3) rfl (w.heap.size+1) 0 rfl R vo HVO.out ro ?_) | fail "A")
  refine HC.out.mono ?_
  rintro e w5 ⟨rfl,he5⟩
  have HX5:=zh (HX.out.trans he5)
  clear he5 rx ro p0
  go_wp2_with fail
  go_ret
  exact ⟨by rw [HSP.out];rfl,HX5.out⟩
 ·have HSP := zh (show dA x.m2 x.m1 x.ht cM ev x.ac R x.s.V = qV x.s.V x.ht R from by unfold dA qV; rw [if_neg (by omega), if_pos hk]; cases fdK x.s.V.K R.lk <;> rfl)
  have b1:(R.k == 1)=false:=by rw [hk];rfl
  have d1:decide (R.k=1)=false:=by rw [hk];rfl
  have b2:(R.k == 2)=false:=by rw [hk];rfl
  have d2:decide (R.k=2)=false:=by rw [hk];rfl
  have b3:(R.k == 3)=false:=by rw [hk];rfl
  have d3:decide (R.k=3)=false:=by rw [hk];rfl
  have b4:(R.k == 4)=true:=by rw [hk];rfl
  have d4:decide (R.k=4)=true:=by rw [hk];rfl
  have b5:(R.k == 5)=false:=by rw [hk];rfl
  have d5:decide (R.k=5)=false:=by rw [hk];rfl
  have b6:(R.k == 6)=false:=by rw [hk];rfl
  have d6:decide (R.k=6)=false:=by rw [hk];rfl
  have HC:=zh (aDN x R W (HS.out.ext HX.out))
  rw [hvx,hvo] at HC
  clear hk hvx hvo hz
  go_enter Tryz.func52,Tryz.ntmps52
  go_wp2_with (first | (with_reducible refine aB gP rfl (.tmp 2) rfl w.heap.size 0 rfl x vx HVX.out rx ?_) | (with_reducible refine aB opP rfl (.tmp 3) rfl (w.heap.size+1) 0 rfl R vo HVO.out ro ?_) | fail "A")
  refine HC.out.mono ?_
  rintro e w5 ⟨rfl,he5⟩
  have HX5:=zh (HX.out.trans he5)
  clear he5 rx ro p0
  go_wp2_with fail
  go_ret
  exact ⟨by rw [HSP.out];rfl,HX5.out⟩
 ·have ha : R.va = ((R.va.toNat : Nat) : Int) := (Int.toNat_of_nonneg hvb.1).symm
  have b1:(R.k == 1)=false:=by rw [hk];rfl
  have d1:decide (R.k=1)=false:=by rw [hk];rfl
  have b2:(R.k == 2)=false:=by rw [hk];rfl
  have d2:decide (R.k=2)=false:=by rw [hk];rfl
  have b3:(R.k == 3)=false:=by rw [hk];rfl
  have d3:decide (R.k=3)=false:=by rw [hk];rfl
  have b4:(R.k == 4)=false:=by rw [hk];rfl
  have d4:decide (R.k=4)=false:=by rw [hk];rfl
  have b5:(R.k == 5)=true:=by rw [hk];rfl
  have d5:decide (R.k=5)=true:=by rw [hk];rfl
  have b6:(R.k == 6)=false:=by rw [hk];rfl
  have d6:decide (R.k=6)=false:=by rw [hk];rfl
  by_cases h1:(x.m1:Int)≤R.va
  ·have HSP := zh (show dA x.m2 x.m1 x.ht cM ev x.ac R x.s.V = 1 from by unfold dA; rw [hk]; simp [h1])
   clear hk hvx hvo hz ha
   go_enter Tryz.func52,Tryz.ntmps52
   go_wp2_with fail
   go_ret
   exact ⟨by rw [HSP.out];rfl,HX.out⟩
  have HEX:=zh (qI x R.va.toNat W (by omega))
  rw [← ha,hvx] at HEX
  clear ha
  by_cases h2:gE x.s.G R.va.toNat=true
  ·have HSP := zh (show dA x.m2 x.m1 x.ht cM ev x.ac R x.s.V = 7 from by unfold dA; rw [hk]; simp [h1, show gE x.s.V.G R.va.toNat = true from h2])
   rw [h2] at HEX
   clear hk hvx hvo h2 hz
   go_enter Tryz.func52,Tryz.ntmps52
   go_wp2_with (first | (with_reducible refine aB gP rfl (.tmp 2) rfl w.heap.size 0 rfl x vx HVX.out rx ?_) | fail "A")
   refine HEX.out.mono ?_
   rintro e w5 ⟨rfl,he5⟩
   have HX5:=zh (HX.out.trans he5)
   clear he5 rx ro p0 p1 p2 p3 p4 g2 g3 g13
   go_wp2_with fail
   go_ret
   exact ⟨by rw [HSP.out];rfl,HX5.out⟩
  have h2':gE x.s.G R.va.toNat=false:=by simpa using h2
  have HSP:=zh (show dA x.m2 x.m1 x.ht cM ev x.ac R x.s.V=z from by rw [← hz];unfold dA;rw [hk];simp [h1,show gE x.s.V.G R.va.toNat=false from h2'];rfl)
  rw [h2'] at HEX
  have HZZ:=zh hz
  clear hk h2 h2' hvx hvo hz
  go_enter Tryz.func52,Tryz.ntmps52
  go_wp2_with (first | (with_reducible refine aB gP rfl (.tmp 2) rfl w.heap.size 0 rfl x vx HVX.out rx ?_) | fail "A")
  refine HEX.out.mono ?_
  rintro e w5 ⟨rfl,he5⟩
  have HX5:=zh (HX.out.trans he5)
  have HP5:=zh (HP.out.ext he5)
  have HO5:=zh (HO.out.ext he5)
  clear he5 rx ro p0 p1 p2 p3 p4 g2 g3 g13
  have rx5:w5.rangeAt w.heap.size 0 (RowT.enc x):=aC HP5.out
  have p2:=HO5.out.cell 2
  have HFU:=zh (rI x R.am w5 (HS.out.ext HX5.out) HAC.out)
  rw [HVX.out,HZZ.out] at HFU
  go_wp2_with (first | (with_reducible refine aB gP rfl (.tmp 2) rfl w.heap.size 0 rfl x vx HVX.out rx5 ?_) | fail "A")
  refine HFU.out.mono ?_
  rintro e w7 ⟨rfl,he7⟩
  have HX7:=zh (HX5.out.trans he7)
  clear he7
  go_wp2_with fail
  go_ret
  exact ⟨by rw [HSP.out];rfl,HX7.out⟩
 have HSP:=zh (show True from trivial)
 have b1:(R.k == 1)=false:=by rw [hk];rfl
 have d1:decide (R.k=1)=false:=by rw [hk];rfl
 have b2:(R.k == 2)=false:=by rw [hk];rfl
 have d2:decide (R.k=2)=false:=by rw [hk];rfl
 have b3:(R.k == 3)=false:=by rw [hk];rfl
 have d3:decide (R.k=3)=false:=by rw [hk];rfl
 have b4:(R.k == 4)=false:=by rw [hk];rfl
 have d4:decide (R.k=4)=false:=by rw [hk];rfl
 have b5:(R.k == 5)=false:=by rw [hk];rfl
 have d5:decide (R.k=5)=false:=by rw [hk];rfl
 have b6:(R.k == 6)=true:=by rw [hk];rfl
 have d6:decide (R.k=6)=true:=by rw [hk];rfl
 have HC:=zh (hbl hk W HX.out)
 rw [hvx,hvo] at HC
 clear hk hvx hvo hz
 go_enter Tryz.func52,Tryz.ntmps52
 go_wp2_with (first | (with_reducible refine aB gP rfl (.tmp 2) rfl w.heap.size 0 rfl x vx HVX.out rx ?_) | (with_reducible refine aB opP rfl (.tmp 3) rfl (w.heap.size+1) 0 rfl R vo HVO.out ro ?_) | fail "A")
 refine HC.out.mono ?_
 rintro e w5 ⟨rfl,he5⟩
 have HX5:=zh (HX.out.trans he5)
 clear he5 rx ro p0
 go_wp2_with fail
 go_ret
 exact ⟨rfl,HX5.out⟩
theorem vtP:RowP VtR 134 vtA:=⟨fun _=>rfl,by kernel_rfl,_,Tryz.underlying134,rfl⟩
theorem sgP:RowP SgR 136 sgA:=⟨fun _=>rfl,by kernel_rfl,_,Tryz.underlying136,rfl⟩
structure EvR where
 a:SgR
 b:SgR
abbrev evA (E:EvR):Array Value:=#[.int .i64 E.a.v.k,.int .i64 E.a.v.sl,.int .i64 E.a.v.ro,.int .i64 E.a.v.ch,.int .i64 E.a.v.si,.int .i64 E.a.v.su,.int .u8 (nb8 E.a.v.pa 0),.int .u8 (nb8 E.a.v.pa 1),.int .u8 (nb8 E.a.v.pa 2),.int .u8 (nb8 E.a.v.pa 3),.int .u8 (nb8 E.a.v.pa 4),.int .u8 (nb8 E.a.v.pa 5),.int .u8 (nb8 E.a.v.pa 6),.int .u8 (nb8 E.a.v.pa 7),.int .u8 (nb8 E.a.v.va 0),.int .u8 (nb8 E.a.v.va 1),.int .u8 (nb8 E.a.v.va 2),.int .u8 (nb8 E.a.v.va 3),.int .u8 (nb8 E.a.v.va 4),.int .u8 (nb8 E.a.v.va 5),.int .u8 (nb8 E.a.v.va 6),.int .u8 (nb8 E.a.v.va 7),.slice E.a.A E.a.n E.a.c,.int .i64 E.b.v.k,.int .i64 E.b.v.sl,.int .i64 E.b.v.ro,.int .i64 E.b.v.ch,.int .i64 E.b.v.si,.int .i64 E.b.v.su,.int .u8 (nb8 E.b.v.pa 0),.int .u8 (nb8 E.b.v.pa 1),.int .u8 (nb8 E.b.v.pa 2),.int .u8 (nb8 E.b.v.pa 3),.int .u8 (nb8 E.b.v.pa 4),.int .u8 (nb8 E.b.v.pa 5),.int .u8 (nb8 E.b.v.pa 6),.int .u8 (nb8 E.b.v.pa 7),.int .u8 (nb8 E.b.v.va 0),.int .u8 (nb8 E.b.v.va 1),.int .u8 (nb8 E.b.v.va 2),.int .u8 (nb8 E.b.v.va 3),.int .u8 (nb8 E.b.v.va 4),.int .u8 (nb8 E.b.v.va 5),.int .u8 (nb8 E.b.v.va 6),.int .u8 (nb8 E.b.v.va 7),.slice E.b.A E.b.n E.b.c]
def evL (E:EvR):List Value:=(evA E).toList
instance:RowT EvR where
 sz:=46
 z:=⟨gH,gH⟩
 enc:=evL
 ok E w:=E.a.ok w∧E.b.ok w
 pos:=by decide
 len _:=rfl
 one E u hu:=by
  rw [show evL E=sgL E.a ++ sgL E.b from rfl] at hu
  rcases List.mem_append.1 hu with h | h
  ·exact tF _ u h
  exact tF _ u h
 ext E w w' h e:=⟨h.1.ext e,h.2.ext e⟩
theorem evP:RowP EvR 138 evA:=⟨fun _=>rfl,by kernel_rfl,_,Tryz.underlying138,rfl⟩
section
variable {w:World} {b of:Nat}
theorem aLs {E:EvR} (h:w.rangeAt b of (RowT.enc E)):w.rangeAt b of (RowT.enc E.a):=aO (k:=23) h
theorem aLr {E:EvR} (h:w.rangeAt b of (RowT.enc E)):w.rangeAt b (of+23) (RowT.enc E.b):=bD (k:=23) h
theorem aIR {S:SgR} (h:w.rangeAt b of (RowT.enc S)):w.rangeAt b of (RowT.enc S.v):=aO (k:=22) h
end
def skV (a b:VtR):Bool:=decide (a.k=b.k) && (decide (a.pa=b.pa) && (decide (a.sl=b.sl) && (decide (a.ro=b.ro) && decide (a.si=b.si))))
theorem aBP (a b:VtR) (w:World):Calls Tryz.prog 243 #[.agg (vtA a),.agg (vtA b)] w fun e w'=>e=.returned (.bool (skV a b))∧Ext w w':=by
 obtain ⟨W,hW⟩:∃ W,(w.alloc (.cells (vtA a) 134)).alloc (.cells (vtA b) 134)=W:=⟨_,rfl⟩
 have HA:=zh (show Blk W w.heap.size 134 (vtA a) from by rw [← hW];exact (Blk.new w 134 (vtA a)).alloc _)
 have HB:=zh (show Blk W (w.heap.size+1) 134 (vtA b) from by rw [← hW];exact Blk.newAt _ _ _ _ (by simp))
 have HE:=zh (show Ext w W from by rw [← hW];exact ((Ext.refl w).alloc' _).alloc' _)
 have a0:W.cell? ⟨w.heap.size,0,none⟩=some (.int .i64 a.k):=HA.out.cell 0
 have a1:W.cell? ⟨w.heap.size,1,none⟩=some (.int .i64 a.sl):=HA.out.cell 1
 have a2:W.cell? ⟨w.heap.size,2,none⟩=some (.int .i64 a.ro):=HA.out.cell 2
 have a4:W.cell? ⟨w.heap.size,4,none⟩=some (.int .i64 a.si):=HA.out.cell 4
 have b0:W.cell? ⟨w.heap.size+1,0,none⟩=some (.int .i64 b.k):=HB.out.cell 0
 have b1:W.cell? ⟨w.heap.size+1,1,none⟩=some (.int .i64 b.sl):=HB.out.cell 1
 have b2:W.cell? ⟨w.heap.size+1,2,none⟩=some (.int .i64 b.ro):=HB.out.cell 2
 have b4:W.cell? ⟨w.heap.size+1,4,none⟩=some (.int .i64 b.si):=HB.out.cell 4
 have ra:W.rangeAt w.heap.size 6 (RowT.enc a.pa):=aO (k:=8) (bD (k:=6) (aC HA.out))
 have rb:W.rangeAt (w.heap.size+1) 6 (RowT.enc b.pa):=aO (k:=8) (bD (k:=6) (aC HB.out))
 obtain ⟨x1,h1⟩:∃ x,decide (a.k=b.k)=x:=⟨_,rfl⟩
 obtain ⟨x2,h2⟩:∃ x,decide (a.pa=b.pa)=x:=⟨_,rfl⟩
 obtain ⟨x3,h3⟩:∃ x,decide (a.sl=b.sl)=x:=⟨_,rfl⟩
 obtain ⟨x4,h4⟩:∃ x,decide (a.ro=b.ro)=x:=⟨_,rfl⟩
 obtain ⟨x5,h5⟩:∃ x,decide (a.si=b.si)=x:=⟨_,rfl⟩
 have HV:=zh (show skV a b=(x1 && (x2 && (x3 && (x4 && x5)))) from by unfold skV;rw [h1,h2,h3,h4,h5])
 have q7:=fun W=>bX a.pa b.pa W
 rw [h2] at q7
 have e1:(a.k == b.k)=x1:=by rw [← h1];exact Bool.beq_eq_decide_eq _ _
 have e3:(a.sl == b.sl)=x3:=by rw [← h3];exact Bool.beq_eq_decide_eq _ _
 have e4:(a.ro == b.ro)=x4:=by rw [← h4];exact Bool.beq_eq_decide_eq _ _
 have e5:(a.si == b.si)=x5:=by rw [← h5];exact Bool.beq_eq_decide_eq _ _
 clear h2
 have hcs:(x1=false) ∨ (x1=true∧x2=false) ∨ (x1=true∧x2=true∧x3=false) ∨ (x1=true∧x2=true∧x3=true∧x4=false) ∨ (x1=true∧x2=true∧x3=true∧x4=true∧x5=false) ∨ (x1=true∧x2=true∧x3=true∧x4=true∧x5=true):=by
  cases x1 <;> cases x2 <;> cases x3 <;> cases x4 <;> cases x5 <;> simp
 rcases hcs with rfl | ⟨rfl,rfl⟩ | ⟨rfl,rfl,rfl⟩ | ⟨rfl,rfl,rfl,rfl⟩ | ⟨rfl,rfl,rfl,rfl,rfl⟩ | ⟨rfl,rfl,rfl,rfl,rfl⟩
 all_goals
  go_enter Tryz.func243,Tryz.ntmps243
  go_wp2_with (first | (with_reducible refine aZ nmP (by with_unfolding_all rfl) (.tmp 11) rfl w.heap.size 6 rfl a.pa _ rfl ra ?_) | (with_reducible refine aZ nmP (by with_unfolding_all rfl) (.tmp 13) rfl (w.heap.size+1) 6 rfl b.pa _ rfl rb ?_))
  go_ret
  exact ⟨by rw [HV.out];simp,HE.out⟩
theorem aHj (a b:VtR) (ha:a.wf) (hb:b.wf) (w:World):(binOp .neq 134 (.agg (vtA a)) (.agg (vtA b))).run Tryz.prog w=.ok (.bool (decide (a ≠ b))) w:=by
 have h:=aHk a b ha hb w
 unfold binOp at h ⊢
 simp only [Sem.run_bind,Sem.run_pure] at h ⊢
 generalize (Op.equal 134 (.agg (vtA a)) (.agg (vtA b))).run Tryz.prog w=r at h ⊢
 cases r with
 | ok x w' =>
  simp only [Result.andThen_ok] at h ⊢
  injection h with h1 h2
  injection h1 with h1
  rw [h1,h2,decide_not]
 | halt x w'=>simp [Result.andThen] at h
theorem aIb (op:BinOp) (x y:Operand) (a b:VtR) (w:World):(eqGuard op 134 x y (.agg (vtA a)) (.agg (vtA b))).run Tryz.prog w=.ok () w:=run_eqGuard_agg w op _ x y _ _ (by kernel_rfl)
def cfV (a b:VtR):Bool:=decide (a ≠ b) && (skV a b && (cI a && cI b))
theorem aAY (a b:VtR) (w:World) (ha:a.wf) (hb:b.wf):Calls Tryz.prog 209 #[.agg (vtA a),.agg (vtA b)] w fun e w'=>e=.returned (.bool (cfV a b))∧Ext w w':=by
 obtain ⟨W,hW⟩:∃ W,(w.alloc (.cells (vtA a) 134)).alloc (.cells (vtA b) 134)=W:=⟨_,rfl⟩
 have HA:=zh (show Blk W w.heap.size 134 (vtA a) from by rw [← hW];exact (Blk.new w 134 (vtA a)).alloc _)
 have HB:=zh (show Blk W (w.heap.size+1) 134 (vtA b) from by rw [← hW];exact Blk.newAt _ _ _ _ (by simp))
 have HE:=zh (show Ext w W from by rw [← hW];exact ((Ext.refl w).alloc' _).alloc' _)
 obtain ⟨va,hva⟩:∃ v,Value.agg (vtA a)=v:=⟨_,rfl⟩
 obtain ⟨vb,hvb⟩:∃ v,Value.agg (vtA b)=v:=⟨_,rfl⟩
 have HVA:=zh hva
 have HVB:=zh hvb
 obtain ⟨x1,h1⟩:∃ x,decide (a ≠ b)=x:=⟨_,rfl⟩
 obtain ⟨x2,h2⟩:∃ x,skV a b=x:=⟨_,rfl⟩
 obtain ⟨x3,h3⟩:∃ x,cI a=x:=⟨_,rfl⟩
 obtain ⟨x4,h4⟩:∃ x,cI b=x:=⟨_,rfl⟩
 have HV:=zh (show cfV a b=(x1 && (x2 && (x3 && x4))) from by unfold cfV;rw [h1,h2,h3,h4])
 have HN:=zh (fun W=>aHj a b ha hb W)
 have HG:=zh (fun (W:World)=>aIb .neq (.tmp 5) (.tmp 6) a b W)
 have HSK:=zh (fun W=>aBP a b W)
 have HVA2:=zh (fun W=>fS a W)
 have HVB2:=zh (fun W=>fS b W)
 rw [h1,hva,hvb] at HN
 rw [hva,hvb] at HG
 rw [h2,hva,hvb] at HSK
 rw [h3,hva] at HVA2
 rw [h4,hvb] at HVB2
 have HRA:=zh (fun (V:World) (e:Ext W V)=>show V.rangeAt w.heap.size 0 (RowT.enc a) from aC (HA.out.ext e))
 have HRB:=zh (fun (V:World) (e:Ext W V)=>show V.rangeAt (w.heap.size+1) 0 (RowT.enc b) from aC (HB.out.ext e))
 clear h1 h2 h3 h4 ha hb hva hvb
 have HX0:=zh (Ext.refl W)
 have q8:=HG.out
 have q9:=HN.out
 have hcs:(x1=false) ∨ (x1=true∧x2=false) ∨ (x1=true∧x2=true∧x3=false) ∨ (x1=true∧x2=true∧x3=true∧x4=false) ∨ (x1=true∧x2=true∧x3=true∧x4=true):=by
  cases x1 <;> cases x2 <;> cases x3 <;> cases x4 <;> simp
 rcases hcs with rfl | ⟨rfl,rfl⟩ | ⟨rfl,rfl,rfl⟩ | ⟨rfl,rfl,rfl,rfl⟩ | ⟨rfl,rfl,rfl,rfl⟩
 all_goals
  go_enter Tryz.func209,Tryz.ntmps209
  go_wp2_with (first | (with_reducible refine aB vtP rfl (.tmp 2) rfl w.heap.size 0 rfl a va HVA.out (HRA.out _ HX0.out) ?_) | (with_reducible refine aB vtP rfl (.tmp 3) rfl (w.heap.size+1) 0 rfl b vb HVB.out (HRB.out _ HX0.out) ?_)  | (with_reducible refine aZ vtP (by with_unfolding_all rfl) (.tmp 2) rfl w.heap.size 0 rfl a va HVA.out (HRA.out _ HX0.out) ?_) | (with_reducible refine aZ vtP (by with_unfolding_all rfl) (.tmp 3) rfl (w.heap.size+1) 0 rfl b vb HVB.out (HRB.out _ HX0.out) ?_) | (go_at_call 243;(with_reducible refine (HSK.out _).mono ?_);rintro e w5 ⟨rfl,he5⟩;have HX0:=zh (HX0.out.trans he5);clear he5) | (go_at_call 244;(first | (with_reducible refine (HVA2.out _).mono ?_) | (with_reducible refine (HVB2.out _).mono ?_));rintro e w5 ⟨rfl,he5⟩;have HX0:=zh (HX0.out.trans he5);clear he5))
  go_ret
  exact ⟨by rw [HV.out];simp,HE.out.trans HX0.out⟩
def aIL (v:VtR):UInt64:=dW 64 (wG v)
theorem zN (v:VtR) (h:cI v=true) (w:World):Calls Tryz.prog 260 #[.agg (vtA v)] w fun e w'=>e=.returned (.agg (nmc (aIL v)))∧Ext w w':=by
 obtain ⟨W,hW⟩:∃ W,(w.alloc (.cells (vtA v) 134)).alloc (.cells zcs.toArray 30)=W:=⟨_,rfl⟩
 have HB2:=zh (show Blk W (w.heap.size+1) 30 zcs.toArray from by rw [← hW];exact Blk.newAt _ _ _ _ (by simp))
 have HE:=zh (show Ext w W from by rw [← hW];exact ((Ext.refl w).alloc' _).alloc' _)
 have rv:W.rangeAt w.heap.size 0 (RowT.enc v):=by rw [← hW];exact aC ((Blk.new w 134 (vtA v)).alloc _)
 obtain ⟨vv,hvv⟩:∃ x,Value.agg (vtA v)=x:=⟨_,rfl⟩
 have HVV:=zh hvv
 have HEN:=zh (fun W=>aBw v h W)
 rw [hvv] at HEN
 clear hvv h
 go_enter Tryz.func260,Tryz.ntmps260
 go_wp2_with (with_reducible refine aB vtP rfl (.tmp 1) rfl w.heap.size 0 rfl v vv HVV.out rv ?_)
 refine (HEN.out _).mono ?_
 rintro e w2 ⟨A2,c2,rfl,hO2,he2⟩
 have HX2:=zh he2
 have HS2:=zh hO2.sl
 clear hO2 he2 rv
 go_wp2_with fail
 refine (fZ 64 A2 23 c2 _ _ HS2.out (by omega)).mono ?_
 rintro e w3 ⟨rfl,he3⟩
 have hb:=HB2.out.ext (HX2.out.trans he3)
 have hst:=cC hb (dW 64 (wG v))
 go_wp2_with fail
 exact bodyPost_ret (v:=.agg (nmc (dW 64 (wG v)))) (fI rfl _ _ (w.heap.size+1) _ rfl (blkN hb _)) rfl ⟨rfl,Below.setCells' (HE.out.trans (HX2.out.trans he3)) (by omega) _ _⟩
def vfV (pub:UInt64) (v:VtR) (sig:List UInt8):Bool:=cI v && kQ pub 2 (aIL v) sig
theorem zZ (pub:UInt64) (S:SgR) (w:World) (h:S.ok w):Calls Tryz.prog 246 #[.agg (nmc pub),.agg (sgA S)] w fun e w'=>e=.returned (.bool (vfV pub S.v S.sig))∧Ext w w':=by
 obtain ⟨W,hW⟩:∃ W,(w.alloc (.cells (nmc pub) 30)).alloc (.cells (sgA S) 136)=W:=⟨_,rfl⟩
 have HB1:=zh (show Blk W w.heap.size 30 (nmc pub) from by rw [← hW];exact (Blk.new w 30 (nmc pub)).alloc _)
 have HB2:=zh (show Blk W (w.heap.size+1) 136 (sgA S) from by rw [← hW];exact Blk.newAt _ _ _ _ (by simp))
 have HE:=zh (show Ext w W from by rw [← hW];exact ((Ext.refl w).alloc' _).alloc' _)
 have HS:=zh h
 obtain ⟨vv,hvv⟩:∃ x,Value.agg (vtA S.v)=x:=⟨_,rfl⟩
 have HVV:=zh hvv
 have HVD:=zh (fun W=>fS S.v W)
 rw [hvv] at HVD
 obtain ⟨z,hz⟩:∃ z,kQ pub 2 (aIL S.v) S.sig=z:=⟨_,rfl⟩
 have HVF:=zh (fun (V:World) (e:Ext w V)=>tW pub (aIL S.v) 2 S.A S.n S.c S.sig V (HS.out.sig.ext e))
 rw [hz] at HVF
 cases hv:cI S.v with
 | false =>
  have HV:=zh (show vfV pub S.v S.sig=false from by unfold vfV;rw [hv];rfl)
  rw [hv] at HVD
  have HNM:True:=trivial
  clear h hv hvv hz
  go_enter Tryz.func246,Tryz.ntmps246
  go_upto_region 1 with fail
  refine wp_region_held_drew (S:=fun V=>Blk V w.heap.size 30 (nmc pub)∧Blk V (w.heap.size+1) 136 (sgA S)∧Ext w V) (by kernel_rfl) (⟨HB1.out.drew,HB2.out.drew,HE.out.trans ((Ext.refl _).drew')⟩) (fun aA=>?_)
  refine zt 0 aA ?_
  refine zu 1 (v:=vv) aA ?_ (hy:=by exact aF vtP (by rfl) (.tmp 5) (by rfl) (w.heap.size+1) 0 (by rfl) S.v vv HVV.out (fun V h=>aO (k:=22) (aC h.2.1)))
  refine za 2 (fun K hK=>?_)
  (go_simp;go_at_call 244;refine (HVD.out _).mono ?_;rintro e w8 ⟨rfl,he8⟩)
  refine hK.out _ _ (⟨aA.1.ext he8,aA.2.1.ext he8,aA.2.2.trans he8⟩) (fun aA=>?_)
  clear hK K
  try simp only [aX]
  refine zt 3 aA ?_
  first | refine zu 4 (v:=.agg (nmc pub)) aA ?_ (hy:=by exact aF nmP (by rfl) (.tmp 2) (by rfl) w.heap.size 0 (by rfl) pub _ rfl (fun V h=>bZ h.1)) | (refine zs 4 aA ?_)
  try simp only [aX]
  first | (refine zt 5 aA ?_) | (refine zs 5 aA ?_)
  first | refine zu 6 (v:=vv) aA ?_ (hy:=by exact aF vtP (by rfl) (.tmp 10) (by rfl) (w.heap.size+1) 0 (by rfl) S.v vv HVV.out (fun V h=>aO (k:=22) (aC h.2.1))) | (refine zs 6 aA ?_)
  try simp only [aX]
  refine zz0 [8,9] ?_;repeat first | refine zz1 ?_ (hy:=by intro W aL;have q9:W.cell? ⟨w.heap.size+1,22,none⟩=some (.slice S.A S.n S.c):=aL.2.1.cell 22;go_simp <;> with_reducible rfl) | refine zz2 ?_ | refine zz9 ?_
  refine za 7 (fun K hK=>?_)
  (go_simp;first | (go_at_call 260;refine (HNM.out _).mono ?_;rintro e w8 ⟨rfl,he8⟩) | skip)
  refine hK.out _ _ (by first | exact ⟨aA.1.ext he8,aA.2.1.ext he8,aA.2.2.trans he8⟩ | exact aA) (fun aA=>?_)
  clear hK K
  try simp only [aX]
  refine za 10 (fun K hK=>?_)
  (go_simp;first | (go_at_call 145;refine (HVF.out _ aA.2.2).mono ?_;rintro e w8 ⟨rfl,he8⟩) | skip)
  refine hK.out _ _ (by first | exact ⟨aA.1.ext he8,aA.2.1.ext he8,aA.2.2.trans he8⟩ | exact aA) (fun aA=>?_)
  clear hK K
  try simp only [aX]
  refine zzr [11,12] ?_
  refine wpAnyH_done (by kernel_rfl) ?_ _
  have HX:=zh aA.2.2
  clear aA
  go_wp2_with fail
  go_ret
  exact ⟨by rw [HV.out];rfl,HX.out⟩
 | true =>
  have HV:=zh (show vfV pub S.v S.sig=z from by unfold vfV;rw [hv,hz];rfl)
  have HNM:=zh (fun W=>zN S.v hv W)
  rw [hv] at HVD
  rw [hvv] at HNM
  clear h hv hvv hz
  go_enter Tryz.func246,Tryz.ntmps246
  go_upto_region 1 with fail
  refine wp_region_held_drew (S:=fun V=>Blk V w.heap.size 30 (nmc pub)∧Blk V (w.heap.size+1) 136 (sgA S)∧Ext w V) (by kernel_rfl) (⟨HB1.out.drew,HB2.out.drew,HE.out.trans ((Ext.refl _).drew')⟩) (fun aA=>?_)
  refine zt 0 aA ?_
  refine zu 1 (v:=vv) aA ?_ (hy:=by exact aF vtP (by rfl) (.tmp 5) (by rfl) (w.heap.size+1) 0 (by rfl) S.v vv HVV.out (fun V h=>aO (k:=22) (aC h.2.1)))
  refine za 2 (fun K hK=>?_)
  (go_simp;go_at_call 244;refine (HVD.out _).mono ?_;rintro e w8 ⟨rfl,he8⟩)
  refine hK.out _ _ (⟨aA.1.ext he8,aA.2.1.ext he8,aA.2.2.trans he8⟩) (fun aA=>?_)
  clear hK K
  try simp only [aX]
  refine zt 3 aA ?_
  first | refine zu 4 (v:=.agg (nmc pub)) aA ?_ (hy:=by exact aF nmP (by rfl) (.tmp 2) (by rfl) w.heap.size 0 (by rfl) pub _ rfl (fun V h=>bZ h.1)) | (refine zs 4 aA ?_)
  try simp only [aX]
  first | (refine zt 5 aA ?_) | (refine zs 5 aA ?_)
  first | refine zu 6 (v:=vv) aA ?_ (hy:=by exact aF vtP (by rfl) (.tmp 10) (by rfl) (w.heap.size+1) 0 (by rfl) S.v vv HVV.out (fun V h=>aO (k:=22) (aC h.2.1))) | (refine zs 6 aA ?_)
  try simp only [aX]
  refine zz0 [8,9] ?_;repeat first | refine zz1 ?_ (hy:=by intro W aL;have q9:W.cell? ⟨w.heap.size+1,22,none⟩=some (.slice S.A S.n S.c):=aL.2.1.cell 22;go_simp <;> with_reducible rfl) | refine zz2 ?_ | refine zz9 ?_
  refine za 7 (fun K hK=>?_)
  (go_simp;first | (go_at_call 260;refine (HNM.out _).mono ?_;rintro e w8 ⟨rfl,he8⟩) | skip)
  refine hK.out _ _ (by first | exact ⟨aA.1.ext he8,aA.2.1.ext he8,aA.2.2.trans he8⟩ | exact aA) (fun aA=>?_)
  clear hK K
  try simp only [aX]
  refine za 10 (fun K hK=>?_)
  (go_simp;first | (go_at_call 145;refine (HVF.out _ aA.2.2).mono ?_;rintro e w8 ⟨rfl,he8⟩) | skip)
  refine hK.out _ _ (by first | exact ⟨aA.1.ext he8,aA.2.1.ext he8,aA.2.2.trans he8⟩ | exact aA) (fun aA=>?_)
  clear hK K
  try simp only [aX]
  refine zzr [11,12] ?_
  refine wpAnyH_done (by kernel_rfl) ?_ _
  have HX:=zh aA.2.2
  clear aA
  go_wp2_with fail
  go_ret
  exact ⟨by rw [HV.out];rfl,HX.out⟩
def vfK (PN:List UInt64) (v:VtR) (sig:List UInt8):Bool:=decide (0≤v.si∧v.si < PN.length) && vfV (aH PN v.si.toNat) v sig
theorem pK (B:Option Addr) (m d:Nat) (PN:List UInt64) (S:SgR) (w:World) (hp:SlG w B m d PN) (h:S.ok w):Calls Tryz.prog 211 #[.slice B m d,.agg (sgA S)] w fun e w'=>e=.returned (.bool (vfK PN S.v S.sig))∧Ext w w':=by
 obtain ⟨W,hW⟩:∃ W,w.alloc (.cells (sgA S) 136)=W:=⟨_,rfl⟩
 have HB:=zh (show Blk W w.heap.size 136 (sgA S) from by rw [← hW];exact Blk.new w 136 (sgA S))
 have HE:=zh (show Ext w W from by rw [← hW];exact (Ext.refl w).alloc' _)
 have HS:=zh h
 have HP:=zh hp
 have HLEN:=zh hp.len
 have hle:=hp.le
 have hcap:=hp.cap
 obtain ⟨vs,hvs⟩:∃ x,Value.agg (sgA S)=x:=⟨_,rfl⟩
 have HVS:=zh hvs
 have q4:W.cell? ⟨w.heap.size,4,none⟩=some (.int .i64 S.v.si):=HB.out.cell 4
 obtain ⟨si,hsi⟩:∃ z,S.v.si=z:=⟨_,rfl⟩
 rw [hsi] at q4
 by_cases hok:0≤si∧si < (m:Int)
 ·obtain ⟨i, rfl⟩ : ∃ i : Nat, si = (i : Int) := ⟨si.toNat, by omega⟩
  have hi:i < m:=by omega
  have j0:(0:Int)≤(i:Int):=by omega
  have j1:(i:Int) < (m:Int):=by omega
  obtain ⟨b,o,hab,-,-⟩:=hp.at (show 0 < m by omega)
  have HKR:=zh (fun (V:World) (e:Ext w V)=>show V.rangeAt b (o+i * 8) (RowT.enc (aH PN i)) from by
   obtain ⟨b2,o2,e2,hr2,-⟩:=(HP.out.ext e).at (show 0 < m by omega)
   rw [hab] at e2
   injection e2 with e3
   injection e3 with e4 e5
   subst e4
   subst e5
   exact cO (k:=i) hr2 (by rw [HLEN.out];exact hi))
  subst hab
  obtain ⟨z,hz⟩:∃ z,vfV (aH PN i) S.v S.sig=z:=⟨_,rfl⟩
  have HVF:=zh (fun (V:World) (e:Ext w V)=>zZ (aH PN i) S V (HS.out.ext e))
  rw [hz,hvs] at HVF
  have HV:=zh (show vfK PN S.v S.sig=z from by
   unfold vfK
   rw [hsi,HLEN.out,decide_eq_true hok,Int.toNat_natCast,hz];rfl)
  clear h hp hvs hz hsi hok
  go_enter Tryz.func211,Tryz.ntmps211
  go_upto_region 2 with fail
  clear q4
  refine wp_region_held_drew (S:=fun V=>Blk V w.heap.size 136 (sgA S)∧Ext w V) (by kernel_rfl) (⟨HB.out.drew,HE.out.trans ((Ext.refl _).drew')⟩) (fun aA=>?_)
  refine zzr [0,1,2,3,4,5,6,7,8,9,10,11] ?_
  first | refine zu 12 (v:=.agg (nmc (aH PN i))) aA ?_ (hy:=by exact aF nmP (by rfl) (.tmp 20) (by rfl) b (o+i * 8) (by rfl) (aH PN i) _ rfl (fun V h=>HKR.out V h.2)) | (refine zs 12 aA ?_)
  try simp only [aX]
  first | refine zu 13 (v:=vs) aA ?_ (hy:=by exact aF sgP (by rfl) (.tmp 3) (by rfl) w.heap.size 0 (by rfl) S vs HVS.out (fun V h=>aC h.1)) | (refine zs 13 aA ?_)
  try simp only [aX]
  refine za 14 (fun K hK=>?_)
  (go_simp;first | (go_at_call 246;refine (HVF.out _ aA.2).mono ?_;rintro e w8 ⟨rfl,he8⟩) | skip)
  refine hK.out _ _ (by first | exact ⟨aA.1.ext he8,aA.2.trans he8⟩ | exact aA) (fun aA=>?_)
  clear hK K
  try simp only [aX]
  refine zzr [15,16] ?_
  refine wpAnyH_done (by kernel_rfl) ?_ _
  have HX:=zh aA.2
  clear aA
  go_wp2_with fail
  go_ret
  exact ⟨by rw [HV.out];rfl,HX.out⟩
 have HV:=zh (show vfK PN S.v S.sig=false from by
  unfold vfK
  rw [hsi,HLEN.out,decide_eq_false hok];rfl)
 have hcs:(¬ si ≥ 0) ∨ (si ≥ 0∧¬ si < (m:Int)):=by omega
 clear h hp hvs hsi hok
 rcases hcs with j0 | ⟨j0,j1⟩
 all_goals
  go_enter Tryz.func211,Tryz.ntmps211
  go_upto_region 2 with fail
  clear q4
  refine wp_region_held_drew (S:=fun V=>Blk V w.heap.size 136 (sgA S)∧Ext w V) (by kernel_rfl) (⟨HB.out.drew,HE.out.trans ((Ext.refl _).drew')⟩) (fun aA=>?_)
  refine zzr [0,1,2,3,4,5,6,7,8] ?_
  (refine zs 9 aA ?_)
  (refine zs 10 aA ?_)
  (refine zs 11 aA ?_)
  (refine zs 12 aA ?_)
  (refine zs 13 aA ?_)
  (refine zs 14 aA ?_)
  refine zzr [15,16] ?_
  refine wpAnyH_done (by kernel_rfl) ?_ _
  have HX:=zh aA.2
  clear aA
  go_wp2_with fail
  go_ret
  exact ⟨by rw [HV.out];rfl,HX.out⟩
def evV (PN:List UInt64) (v:VtR) (s:List UInt8) (u:VtR) (t:List UInt8):Bool:=cfV v u && (vQ v u && (vfK PN v s && vfK PN u t))
theorem aCN (B:Option Addr) (m d:Nat) (PN:List UInt64) (E:EvR) (w:World) (hp:SlG w B m d PN) (h:RowT.ok E w):Calls Tryz.prog 151 #[.slice B m d,.agg (evA E)] w fun e w'=>e=.returned (.bool (evV PN E.a.v E.a.sig E.b.v E.b.sig))∧Ext w w':=by
 obtain ⟨W,hW⟩:∃ W,w.alloc (.cells (evA E) 138)=W:=⟨_,rfl⟩
 have HB:=zh (show Blk W w.heap.size 138 (evA E) from by rw [← hW];exact Blk.new w 138 (evA E))
 have HE:=zh (show Ext w W from by rw [← hW];exact (Ext.refl w).alloc' _)
 have HS:=zh (show E.a.ok w∧E.b.ok w from h)
 have HP:=zh hp
 obtain ⟨va,hva⟩:∃ v,Value.agg (vtA E.a.v)=v:=⟨_,rfl⟩
 obtain ⟨vb,hvb⟩:∃ v,Value.agg (vtA E.b.v)=v:=⟨_,rfl⟩
 obtain ⟨sa,hsa⟩:∃ v,Value.agg (sgA E.a)=v:=⟨_,rfl⟩
 obtain ⟨sb,hsb⟩:∃ v,Value.agg (sgA E.b)=v:=⟨_,rfl⟩
 have HVA:=zh hva
 have HVB:=zh hvb
 have HSA:=zh hsa
 have HSB:=zh hsb
 obtain ⟨x1,h1⟩:∃ x,cfV E.a.v E.b.v=x:=⟨_,rfl⟩
 obtain ⟨x2,h2⟩:∃ x,vQ E.a.v E.b.v=x:=⟨_,rfl⟩
 obtain ⟨x3,h3⟩:∃ x,vfK PN E.a.v E.a.sig=x:=⟨_,rfl⟩
 obtain ⟨x4,h4⟩:∃ x,vfK PN E.b.v E.b.sig=x:=⟨_,rfl⟩
 have HV:=zh (show evV PN E.a.v E.a.sig E.b.v E.b.sig=(x1 && (x2 && (x3 && x4))) from by unfold evV;rw [h1,h2,h3,h4])
 have HC1:=zh (fun W=>aAY E.a.v E.b.v W HS.out.1.v HS.out.2.v)
 have HC2:=zh (fun W=>aDr E.a.v E.b.v W)
 have HC3:=zh (fun (V:World) (e:Ext w V)=>pK B m d PN E.a V (HP.out.ext e) (HS.out.1.ext e))
 have HC4:=zh (fun (V:World) (e:Ext w V)=>pK B m d PN E.b V (HP.out.ext e) (HS.out.2.ext e))
 rw [h1,hva,hvb] at HC1
 rw [h2,hva,hvb] at HC2
 rw [h3,hsa] at HC3
 rw [h4,hsb] at HC4
 have HRE:=zh (fun (V:World) (e:Ext W V)=>show V.rangeAt w.heap.size 0 (RowT.enc E) from aC (HB.out.ext e))
 have HX0:=zh (Ext.refl W)
 clear h1 h2 h3 h4 h hp hva hvb hsa hsb
 have hcs:(x1=false) ∨ (x1=true∧x2=false) ∨ (x1=true∧x2=true∧x3=false) ∨ (x1=true∧x2=true∧x3=true∧x4=false) ∨ (x1=true∧x2=true∧x3=true∧x4=true):=by
  cases x1 <;> cases x2 <;> cases x3 <;> cases x4 <;> simp
 rcases hcs with rfl | ⟨rfl,rfl⟩ | ⟨rfl,rfl,rfl⟩ | ⟨rfl,rfl,rfl,rfl⟩ | ⟨rfl,rfl,rfl,rfl⟩
 all_goals
  go_enter Tryz.func151,Tryz.ntmps151
  go_wp2_with (first | (with_reducible refine aB vtP rfl (.tmp 6) rfl w.heap.size 0 rfl E.a.v va HVA.out (aIR (aLs (HRE.out _ HX0.out))) ?_) | (with_reducible refine aB vtP rfl (.tmp 9) rfl w.heap.size 23 rfl E.b.v vb HVB.out (aIR (aLr (HRE.out _ HX0.out))) ?_)  | (with_reducible refine aZ vtP (by with_unfolding_all rfl) (.tmp 14) rfl w.heap.size 0 rfl E.a.v va HVA.out (aIR (aLs (HRE.out _ HX0.out))) ?_) | (with_reducible refine aZ vtP (by with_unfolding_all rfl) (.tmp 17) rfl w.heap.size 23 rfl E.b.v vb HVB.out (aIR (aLr (HRE.out _ HX0.out))) ?_)  | (with_reducible refine aZ sgP (by with_unfolding_all rfl) (.tmp 23) rfl w.heap.size 0 rfl E.a sa HSA.out (aLs (HRE.out _ HX0.out)) ?_) | (with_reducible refine aZ sgP (by with_unfolding_all rfl) (.tmp 29) rfl w.heap.size 23 rfl E.b sb HSB.out (aLr (HRE.out _ HX0.out)) ?_) | (go_at_call 209;(with_reducible refine (HC1.out _).mono ?_);rintro e w5 ⟨rfl,he5⟩;have HX0:=zh (HX0.out.trans he5);clear he5) | (go_at_call 210;(with_reducible refine (HC2.out _).mono ?_);rintro e w5 ⟨rfl,he5⟩;have HX0:=zh (HX0.out.trans he5);clear he5) | (go_at_call 211;(first | (with_reducible refine (HC3.out _ (HE.out.trans HX0.out)).mono ?_) | (with_reducible refine (HC4.out _ (HE.out.trans HX0.out)).mono ?_));rintro e w5 ⟨rfl,he5⟩;have HX0:=zh (HX0.out.trans he5);clear he5))
  go_ret
  exact ⟨by rw [HV.out];simp,HE.out.trans HX0.out⟩
end
end Go.Proofs.YtohmmcahpakokaaGreat
