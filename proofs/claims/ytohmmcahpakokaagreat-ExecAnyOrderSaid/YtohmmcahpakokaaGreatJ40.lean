/- The reference's SameDeltas, SameNames, SameInts. -/
import Derived.Test.YtohmmcahpakokaaGreatJ38
set_option maxRecDepth 100000
set_option maxHeartbeats 8000000
set_option linter.unusedVariables false
set_option linter.unusedSimpArgs false
namespace Go.Proofs.YtohmmcahpakokaaGreat
section
open Go.RowKit
attribute [local go_sem ↓] Go.wp_at_zero Go.wp_at_succ
theorem qH {α:Type} [RowT α]:∀ {L M:List α},L.length=M.length→(∀ j,j < L.length→nthG L j=nthG M j)→L=M
 | [],[],_,_=>rfl
 | [],_ :: _,h,_=>by simp at h
 | _ :: _,[],h,_=>by simp at h
 | x :: r,y :: q,h,hj=>by
  have h0:x=y:=hj 0 (by simp)
  rw [h0,qH (L:=r) (M:=q) (by simpa using h) (fun j hl=>hj (j+1) (by simpa using hl))]
theorem lU (A1:Option Addr) (n c1:Nat) (L:List DeR) (A2:Option Addr) (m c2:Nat) (M:List DeR) (w:World) (hL:SlG w A1 n c1 L) (hM:SlG w A2 m c2 M):Calls Tryz.prog 14 #[.slice A1 n c1,.slice A2 m c2] w fun e w'=>e=.returned (.bool (decide (L=M)))∧Ext w w':=by
 have HS:=zh hL
 have HM:=zh hM
 have hle:=hL.le
 have hcap:=hL.cap
 have hle2:=hM.le
 have hcap2:=hM.cap
 clear hL hM
 by_cases hnm:n=m
 ·subst hnm
  go_enter Tryz.func14,Tryz.ntmps14
  go_wp2_with fail
  go_loopw [5] (fun vi wr=>∃ k:Nat,vi=.int .i64 (k:Int)∧k≤n∧Hid (∀ j,j < k→nthG L j=nthG M j)∧Hid (Ext w wr)) (fun i _=>n - (intOf i).toNat)
  case atStart=>exact ⟨0,rfl,Nat.zero_le _,zh (fun j hj=>absurd hj (Nat.not_lt_zero _)),zh (Ext.refl w)⟩
  case round =>
   obtain ⟨k,rfl,hk,HN,HXW⟩:=hrel
   by_cases hlt:k < n
   ·have i0 : (0 : Int) ≤ (k : Int) := by omega
    have i1:(k:Int) < (n:Int):=by omega
    obtain ⟨d,hd⟩:∃ d,nthG L k=d:=⟨_,rfl⟩
    obtain ⟨d2,hd2⟩:∃ d,nthG M k=d:=⟨_,rfl⟩
    have hw1:deW d:=by rw [← hd];exact HS.out.nth hlt
    have hw2:deW d2:=by rw [← hd2];exact HM.out.nth hlt
    obtain ⟨b,o,hab,hrow,-⟩:=HS.out.at (by omega)
    obtain ⟨b2,o2,hab2,hrow2,-⟩:=HM.out.at (by omega)
    subst hab
    subst hab2
    have HR1:=zh (fun (V:World) (e:Ext w V)=>show V.rangeAt b (o+k * 11) (RowT.enc d) from by
     rw [← hd]
     obtain ⟨b9,o9,e2,hr2,-⟩:=(HS.out.ext e).at (by omega)
     injection e2 with e3
     injection e3 with e4 e5
     subst e4
     subst e5
     exact cG (k:=k) hr2 (by rw [HS.out.len];exact hlt))
    have HR2:=zh (fun (V:World) (e:Ext w V)=>show V.rangeAt b2 (o2+k * 11) (RowT.enc d2) from by
     rw [← hd2]
     obtain ⟨b9,o9,e2,hr2,-⟩:=(HM.out.ext e).at (by omega)
     injection e2 with e3
     injection e3 with e4 e5
     subst e4
     subst e5
     exact cG (k:=k) hr2 (by rw [HM.out.len];exact hlt))
    have HNE:=zh (fun W=>aET d d2 hw1 hw2 W)
    obtain ⟨ne,hne⟩:∃ ne,(!decide (d=d2))=ne:=⟨_,rfl⟩
    rw [hne] at HNE
    have HDK:=zh (show (!decide (nthG L k=nthG M k))=ne from by rw [hd,hd2];exact hne)
    clear hrow hrow2 hd hd2 hne
    go_upto_region 6 with fail
    refine wp_region_held_drew (S:=fun V=>Ext w V) (by kernel_rfl) (HXW.out.trans ((Ext.refl _).drew')) (fun aA=>?_)
    refine zzr [0,1,2] ?_
    refine zu 3 (v:=.agg (deA d)) aA ?_ (hy:=by exact aF deP (by rfl) (.tmp 19) rfl b (o+k * 11) rfl d _ rfl (fun V h=>HR1.out V h))
    refine zzr [4,5,6] ?_
    refine zu 7 (v:=.agg (deA d2)) aA ?_ (hy:=by exact aF deP (by rfl) (.tmp 23) rfl b2 (o2+k * 11) rfl d2 _ rfl (fun V h=>HR2.out V h))
    refine zu 8 (v:=.bool ne) aA ?_ (hy:=by exact cI (by rfl) (.tmp 20) (.tmp 24) (by rfl) (vx:=.agg (deA d)) (vy:=.agg (deA d2)) (by rfl) (by rfl) (aHo _ _ _ _ _) HNE.out)
    refine wpAnyH_done (by kernel_rfl) ?_ _
    have HXN:=zh aA
    clear aA
    cases ne
    ·go_wp2_with fail
     go_roundw
     case rel=>exact ⟨k+1,by go_num,hlt,zh (fun j hj=>by
      rcases (by omega:j < k ∨ j=k) with hj | rfl
      ·exact HN.out j hj
      have h9:=HDK.out
      simpa using h9),HXN⟩
     case measure=>simp [intOf];omega
    have HF:=zh (show decide (L=M)=false from decide_eq_false (fun e=>by
     have h9:=HDK.out
     rw [e] at h9
     simp at h9))
    go_wp2_with fail
    go_ret
    exact ⟨by rw [HF.out];rfl,HXN.out⟩
   obtain rfl:n=k:=by omega
   have i1:¬ (n:Int) < (n:Int):=by omega
   have HF:=zh (show decide (L=M)=true from decide_eq_true (qH (by rw [HS.out.len,HM.out.len]) (fun j hj=>HN.out j (by rw [← HS.out.len];exact hj))))
   go_wp2_with fail
   go_ret
   exact ⟨by rw [HF.out];rfl,HXW.out⟩
 have HF:=zh (show decide (L=M)=false from decide_eq_false (fun e=>hnm (by have h1:=HS.out.len;have h2:=HM.out.len;rw [e] at h1;omega)))
 have i1:((n:Int) != (m:Int))=true:=bne_iff_ne.2 (by omega)
 go_enter Tryz.func14,Tryz.ntmps14
 go_wp2_with fail
 go_ret
 exact ⟨by rw [HF.out];rfl,Ext.refl w⟩
theorem mO (A1:Option Addr) (n c1:Nat) (L:List UInt64) (A2:Option Addr) (m c2:Nat) (M:List UInt64) (w:World) (hL:SlG w A1 n c1 L) (hM:SlG w A2 m c2 M):Calls Tryz.prog 38 #[.slice A1 n c1,.slice A2 m c2] w fun e w'=>e=.returned (.bool (decide (L=M)))∧Ext w w':=by
 have HS:=zh hL
 have HM:=zh hM
 have hle:=hL.le
 have hcap:=hL.cap
 have hle2:=hM.le
 have hcap2:=hM.cap
 clear hL hM
 by_cases hnm:n=m
 ·subst hnm
  go_enter Tryz.func38,Tryz.ntmps38
  go_wp2_with fail
  go_loopw [5] (fun vi wr=>∃ k:Nat,vi=.int .i64 (k:Int)∧k≤n∧Hid (∀ j,j < k→nthG L j=nthG M j)∧Hid (Ext w wr)) (fun i _=>n - (intOf i).toNat)
  case atStart=>exact ⟨0,rfl,Nat.zero_le _,zh (fun j hj=>absurd hj (Nat.not_lt_zero _)),zh (Ext.refl w)⟩
  case round =>
   obtain ⟨k,rfl,hk,HN,HXW⟩:=hrel
   by_cases hlt:k < n
   ·have i0 : (0 : Int) ≤ (k : Int) := by omega
    have i1:(k:Int) < (n:Int):=by omega
    obtain ⟨d,hd⟩:∃ d,nthG L k=d:=⟨_,rfl⟩
    obtain ⟨d2,hd2⟩:∃ d,nthG M k=d:=⟨_,rfl⟩
    obtain ⟨b,o,hab,hrow,-⟩:=HS.out.at (by omega)
    obtain ⟨b2,o2,hab2,hrow2,-⟩:=HM.out.at (by omega)
    subst hab
    subst hab2
    have HR1:=zh (fun (V:World) (e:Ext w V)=>show V.rangeAt b (o+k * 8) (RowT.enc d) from by
     rw [← hd]
     obtain ⟨b9,o9,e2,hr2,-⟩:=(HS.out.ext e).at (by omega)
     injection e2 with e3
     injection e3 with e4 e5
     subst e4
     subst e5
     exact cG (k:=k) hr2 (by rw [HS.out.len];exact hlt))
    have HR2:=zh (fun (V:World) (e:Ext w V)=>show V.rangeAt b2 (o2+k * 8) (RowT.enc d2) from by
     rw [← hd2]
     obtain ⟨b9,o9,e2,hr2,-⟩:=(HM.out.ext e).at (by omega)
     injection e2 with e3
     injection e3 with e4 e5
     subst e4
     subst e5
     exact cG (k:=k) hr2 (by rw [HM.out.len];exact hlt))
    have HNE:=zh (fun W=>pI d d2 W)
    obtain ⟨ne,hne⟩:∃ ne,(!decide (d=d2))=ne:=⟨_,rfl⟩
    rw [hne] at HNE
    have HDK:=zh (show (!decide (nthG L k=nthG M k))=ne from by rw [hd,hd2];exact hne)
    clear hrow hrow2 hd hd2 hne
    go_upto_region 6 with fail
    refine wp_region_held_drew (S:=fun V=>Ext w V) (by kernel_rfl) (HXW.out.trans ((Ext.refl _).drew')) (fun aA=>?_)
    refine zzr [0,1,2] ?_
    refine zu 3 (v:=.agg (nmc d)) aA ?_ (hy:=by exact aF nmP (by rfl) (.tmp 19) rfl b (o+k * 8) rfl d _ rfl (fun V h=>HR1.out V h))
    refine zzr [4,5,6] ?_
    refine zu 7 (v:=.agg (nmc d2)) aA ?_ (hy:=by exact aF nmP (by rfl) (.tmp 23) rfl b2 (o2+k * 8) rfl d2 _ rfl (fun V h=>HR2.out V h))
    refine zu 8 (v:=.bool ne) aA ?_ (hy:=by exact cI (by rfl) (.tmp 20) (.tmp 24) (by rfl) (vx:=.agg (nmc d)) (vy:=.agg (nmc d2)) (by rfl) (by rfl) (gI _ _ _ _ _) HNE.out)
    refine wpAnyH_done (by kernel_rfl) ?_ _
    have HXN:=zh aA
    clear aA
    cases ne
    ·go_wp2_with fail
     go_roundw
     case rel=>exact ⟨k+1,by go_num,hlt,zh (fun j hj=>by
      rcases (by omega:j < k ∨ j=k) with hj | rfl
      ·exact HN.out j hj
      have h9:=HDK.out
      simpa using h9),HXN⟩
     case measure=>simp [intOf];omega
    have HF:=zh (show decide (L=M)=false from decide_eq_false (fun e=>by
     have h9:=HDK.out
     rw [e] at h9
     simp at h9))
    go_wp2_with fail
    go_ret
    exact ⟨by rw [HF.out];rfl,HXN.out⟩
   obtain rfl:n=k:=by omega
   have i1:¬ (n:Int) < (n:Int):=by omega
   have HF:=zh (show decide (L=M)=true from decide_eq_true (qH (by rw [HS.out.len,HM.out.len]) (fun j hj=>HN.out j (by rw [← HS.out.len];exact hj))))
   go_wp2_with fail
   go_ret
   exact ⟨by rw [HF.out];rfl,HXW.out⟩
 have HF:=zh (show decide (L=M)=false from decide_eq_false (fun e=>hnm (by have h1:=HS.out.len;have h2:=HM.out.len;rw [e] at h1;omega)))
 have i1:((n:Int) != (m:Int))=true:=bne_iff_ne.2 (by omega)
 go_enter Tryz.func38,Tryz.ntmps38
 go_wp2_with fail
 go_ret
 exact ⟨by rw [HF.out];rfl,Ext.refl w⟩
theorem nR (A1:Option Addr) (n c1:Nat) (L:List Int) (A2:Option Addr) (m c2:Nat) (M:List Int) (w:World) (hL:SlG w A1 n c1 L) (hM:SlG w A2 m c2 M):Calls Tryz.prog 37 #[.slice A1 n c1,.slice A2 m c2] w fun e w'=>e=.returned (.bool (decide (L=M)))∧Ext w w':=by
 have HS:=zh hL
 have HM:=zh hM
 have hle:=hL.le
 have hcap:=hL.cap
 have hle2:=hM.le
 have hcap2:=hM.cap
 clear hL hM
 by_cases hnm:n=m
 ·subst hnm
  go_enter Tryz.func37,Tryz.ntmps37
  go_wp2_with fail
  go_loopw [5] (fun vi wr=>∃ k:Nat,vi=.int .i64 (k:Int)∧k≤n∧Hid (∀ j,j < k→nthG L j=nthG M j)∧Hid (Ext w wr)) (fun i _=>n - (intOf i).toNat)
  case atStart=>exact ⟨0,rfl,Nat.zero_le _,zh (fun j hj=>absurd hj (Nat.not_lt_zero _)),zh (Ext.refl w)⟩
  case round =>
   obtain ⟨k,rfl,hk,HN,HXW⟩:=hrel
   by_cases hlt:k < n
   ·have i0 : (0 : Int) ≤ (k : Int) := by omega
    have i1:(k:Int) < (n:Int):=by omega
    obtain ⟨d,hd⟩:∃ d,nthG L k=d:=⟨_,rfl⟩
    obtain ⟨d2,hd2⟩:∃ d,nthG M k=d:=⟨_,rfl⟩
    obtain ⟨b,o,hab,hrow,-⟩:=HS.out.at (by omega)
    obtain ⟨b2,o2,hab2,hrow2,-⟩:=HM.out.at (by omega)
    subst hab
    subst hab2
    have HR1:=zh (fun (V:World) (e:Ext w V)=>show V.cell? ⟨b,o+k,none⟩=some (.int .i64 d) from by
     rw [← hd]
     obtain ⟨b9,o9,e2,hr2,-⟩:=(HS.out.ext e).at (by omega)
     injection e2 with e3
     injection e3 with e4 e5
     subst e4
     subst e5
     have h5:V.rangeAt _ (_+k * 1) _:=cG (k:=k) hr2 (by rw [HS.out.len];exact hlt)
     have h7:=h5 0 _ rfl
     rwa [show ∀ z:Nat,z+k * 1+0=z+k from fun z=>by omega] at h7)
    have HR2:=zh (fun (V:World) (e:Ext w V)=>show V.cell? ⟨b2,o2+k,none⟩=some (.int .i64 d2) from by
     rw [← hd2]
     obtain ⟨b9,o9,e2,hr2,-⟩:=(HM.out.ext e).at (by omega)
     injection e2 with e3
     injection e3 with e4 e5
     subst e4
     subst e5
     have h5:V.rangeAt _ (_+k * 1) _:=cG (k:=k) hr2 (by rw [HM.out.len];exact hlt)
     have h7:=h5 0 _ rfl
     rwa [show ∀ z:Nat,z+k * 1+0=z+k from fun z=>by omega] at h7)
    obtain ⟨ne,hne⟩:∃ ne:Bool,(d != d2)=ne:=⟨_,rfl⟩
    have HDK:=zh (show (nthG L k != nthG M k)=ne from by rw [hd,hd2];exact hne)
    clear hrow hrow2 hd hd2
    go_upto_region 6 with fail
    refine wp_region_held_drew (S:=fun V=>Ext w V) (by kernel_rfl) (HXW.out.trans ((Ext.refl _).drew')) (fun aA=>?_)
    refine zz0 [0,1,2,3,4,5,6,7,8] ?_;repeat first | refine zz1 ?_ (hy:=by intro W aM;have z1:=HR1.out W aM;have z2:=HR2.out W aM;go_simp <;> with_reducible rfl) | refine zz2 ?_ | refine zz9 ?_
    refine wpAnyH_done (by kernel_rfl) ?_ _
    have HXN:=zh aA
    clear aA
    cases ne
    ·go_wp2_with fail
     go_roundw
     case rel=>exact ⟨k+1,by go_num,hlt,zh (fun j hj=>by
      rcases (by omega:j < k ∨ j=k) with hj | rfl
      ·exact HN.out j hj
      have h9:=HDK.out
      simpa using h9),HXN⟩
     case measure=>simp [intOf];omega
    have HF:=zh (show decide (L=M)=false from decide_eq_false (fun e=>by
     have h9:=HDK.out
     rw [e] at h9
     simp at h9))
    go_wp2_with fail
    go_ret
    exact ⟨by rw [HF.out];rfl,HXN.out⟩
   obtain rfl:n=k:=by omega
   have i1:¬ (n:Int) < (n:Int):=by omega
   have HF:=zh (show decide (L=M)=true from decide_eq_true (qH (by rw [HS.out.len,HM.out.len]) (fun j hj=>HN.out j (by rw [← HS.out.len];exact hj))))
   go_wp2_with fail
   go_ret
   exact ⟨by rw [HF.out];rfl,HXW.out⟩
 have HF:=zh (show decide (L=M)=false from decide_eq_false (fun e=>hnm (by have h1:=HS.out.len;have h2:=HM.out.len;rw [e] at h1;omega)))
 have i1:((n:Int) != (m:Int))=true:=bne_iff_ne.2 (by omega)
 go_enter Tryz.func37,Tryz.ntmps37
 go_wp2_with fail
 go_ret
 exact ⟨by rw [HF.out];rfl,Ext.refl w⟩
theorem aFO (x:StpR) (R:OpR) (ev:OpR→Bool) (w:World) (hs:x.s.ok w) (hro:R.ok w) (hpn:R.n1≤140737488355328) (hv:vOp R=true) (hac:wfI x.ac)
  (hbl:R.k=6→∀ V,Ext w V→Calls Tryz.prog 96 #[.agg (stpA x),.agg (opA R)] V fun e w'=>e=.returned (.int .i64 (gS x.m2 x.m1 x.ht dO ev x.ac R x.s.V))∧Ext V w') :
  Calls Tryz.prog 52 #[.agg (stpA x),.agg (opA R)] w fun e w'=>e=.returned (.int .i64 (gS x.m2 x.m1 x.ht dO ev x.ac R x.s.V))∧Ext w w':=by
 have HS:=zh hs
 have HRO:=zh hro
 have HPN:=zh hpn
 have HAC:=zh hac
 obtain ⟨hkk,-,-,-,-,-,hvb,-,-⟩:=qR hv
 obtain ⟨W,hW⟩:∃ W,(w.alloc (.cells (stpA x) 86)).alloc (.cells (opA R) 69)=W:=⟨_,rfl⟩
 have HP:=zh (show Blk W w.heap.size 86 (stpA x) from by rw [← hW];exact (Blk.new w 86 (stpA x)).alloc _)
 have HO:=zh (show Blk W (w.heap.size+1) 69 (opA R) from by rw [← hW];exact Blk.newAt _ _ _ _ (by simp))
 have HX:=zh (show Ext w W from by rw [← hW];exact ((Ext.refl w).alloc' _).alloc' _)
 have rx:W.rangeAt w.heap.size 0 (RowT.enc x):=aD HP.out
 have ro:W.rangeAt (w.heap.size+1) 0 (RowT.enc R):=aD HO.out
 have p0:=HO.out.cell 0
 have p1:=HO.out.cell 1
 have p2:=HO.out.cell 2
 have p3:=HO.out.cell 3
 have p4:=HO.out.cell 4
 have g2:=HP.out.cell 2
 have g3:=HP.out.cell 3
 have g13:=HP.out.cell 13
 obtain ⟨vx,hvx⟩:∃ v,Value.agg (stpA x)=v:=⟨_,rfl⟩
 obtain ⟨vo,hvo⟩:∃ v,Value.agg (opA R)=v:=⟨_,rfl⟩
 have HVX:=zh hvx
 have HVO:=zh hvo
 obtain ⟨z,hz⟩:∃ z:Int,(if bW x.s.C (aZ x.ac) < R.am then 100 else 0)=z:=⟨_,rfl⟩
 clear hs hro hpn hac hv
 rcases (by omega:R.k=1 ∨ R.k=2 ∨ R.k=3 ∨ R.k=4 ∨ R.k=5 ∨ R.k=6) with hk | hk | hk | hk | hk | hk
 ·have hk6 : R.k ≠ 5 := by omega
  have b1:(R.k == 1)=true:=by rw [hk];rfl
  have d1:decide (R.k=1)=true:=by rw [hk];rfl
  have b2:(R.k == 2)=false:=by rw [hk];rfl
  have d2:decide (R.k=2)=false:=by rw [hk];rfl
  have b3:(R.k == 3)=false:=by rw [hk];rfl
  have d3:decide (R.k=3)=false:=by rw [hk];rfl
  have b4:(R.k == 4)=false:=by rw [hk];rfl
  have d4:decide (R.k=4)=false:=by rw [hk];rfl
  have b5:(R.k == 5)=false:=by rw [hk];rfl
  have d5:decide (R.k=5)=false:=by rw [hk];rfl
  have b6:(R.k == 6)=false:=by rw [hk];rfl
  have d6:decide (R.k=6)=false:=by rw [hk];rfl
  have HFU:=zh (rD x R.am W (HS.out.ext HX.out) HAC.out)
  rw [hvx,hz] at HFU
  have HX5:=HX
  by_cases h1:(x.m2:Int)≤R.tO
  ·have HSP := zh (show gS x.m2 x.m1 x.ht dO ev x.ac R x.s.V = 1 from by unfold gS; rw [hk]; simp [h1])
   clear hk hvx hvo hz
   go_enter Tryz.func52,Tryz.ntmps52
   go_wp2_with fail
   go_ret
   exact ⟨by rw [HSP.out];rfl,HX.out⟩
  have HSP:=zh (show gS x.m2 x.m1 x.ht dO ev x.ac R x.s.V=z from by rw [← hz];unfold gS;rw [hk];simp [h1];rfl)
  clear hk hvx hvo hz
  go_enter Tryz.func52,Tryz.ntmps52
  go_wp2_with (first | (with_reducible refine aB gP rfl (.tmp 2) rfl w.heap.size 0 rfl x vx HVX.out rx ?_) | fail "A")
  refine HFU.out.mono ?_
  rintro e w7 ⟨rfl,he7⟩
  have HX7:=zh (HX5.out.trans he7)
  clear he7
  go_wp2_with fail
  go_ret
  exact ⟨by rw [HSP.out];rfl,HX7.out⟩
 ·have hk6 : R.k ≠ 5 := by omega
  have b1:(R.k == 1)=false:=by rw [hk];rfl
  have d1:decide (R.k=1)=false:=by rw [hk];rfl
  have b2:(R.k == 2)=true:=by rw [hk];rfl
  have d2:decide (R.k=2)=true:=by rw [hk];rfl
  have b3:(R.k == 3)=false:=by rw [hk];rfl
  have d3:decide (R.k=3)=false:=by rw [hk];rfl
  have b4:(R.k == 4)=false:=by rw [hk];rfl
  have d4:decide (R.k=4)=false:=by rw [hk];rfl
  have b5:(R.k == 5)=false:=by rw [hk];rfl
  have d5:decide (R.k=5)=false:=by rw [hk];rfl
  have b6:(R.k == 6)=false:=by rw [hk];rfl
  have d6:decide (R.k=6)=false:=by rw [hk];rfl
  have HFU:=zh (rD x R.am W (HS.out.ext HX.out) HAC.out)
  rw [hvx,hz] at HFU
  have HX5:=HX
  by_cases h1:(x.m2:Int)≤R.tO
  ·have HSP := zh (show gS x.m2 x.m1 x.ht dO ev x.ac R x.s.V = 1 from by unfold gS; rw [hk]; simp [h1])
   clear hk hvx hvo hz
   go_enter Tryz.func52,Tryz.ntmps52
   go_wp2_with fail
   go_ret
   exact ⟨by rw [HSP.out];rfl,HX.out⟩
  by_cases h2:R.ul≤x.ht
  ·have HSP := zh (show gS x.m2 x.m1 x.ht dO ev x.ac R x.s.V = 102 from by unfold gS; rw [hk]; simp [h1, h2])
   clear hk hvx hvo hz
   go_enter Tryz.func52,Tryz.ntmps52
   go_wp2_with fail
   go_ret
   exact ⟨by rw [HSP.out];rfl,HX.out⟩
  have HSP:=zh (show gS x.m2 x.m1 x.ht dO ev x.ac R x.s.V=z from by rw [← hz];unfold gS;rw [hk];simp [h1,h2];rfl)
  clear hk hvx hvo hz
  go_enter Tryz.func52,Tryz.ntmps52
  go_wp2_with (first | (with_reducible refine aB gP rfl (.tmp 2) rfl w.heap.size 0 rfl x vx HVX.out rx ?_) | fail "A")
  refine HFU.out.mono ?_
  rintro e w7 ⟨rfl,he7⟩
  have HX7:=zh (HX5.out.trans he7)
  clear he7
  go_wp2_with fail
  go_ret
  exact ⟨by rw [HSP.out];rfl,HX7.out⟩
 ·have HSP := zh (show gS x.m2 x.m1 x.ht dO ev x.ac R x.s.V = oU x.s.V x.ht R from by unfold gS oU; rw [if_pos hk]; cases fdK x.s.V.K R.lk <;> rfl)
  have b1:(R.k == 1)=false:=by rw [hk];rfl
  have d1:decide (R.k=1)=false:=by rw [hk];rfl
  have b2:(R.k == 2)=false:=by rw [hk];rfl
  have d2:decide (R.k=2)=false:=by rw [hk];rfl
  have b3:(R.k == 3)=true:=by rw [hk];rfl
  have d3:decide (R.k=3)=true:=by rw [hk];rfl
  have b4:(R.k == 4)=false:=by rw [hk];rfl
  have d4:decide (R.k=4)=false:=by rw [hk];rfl
  have b5:(R.k == 5)=false:=by rw [hk];rfl
  have d5:decide (R.k=5)=false:=by rw [hk];rfl
  have b6:(R.k == 6)=false:=by rw [hk];rfl
  have d6:decide (R.k=6)=false:=by rw [hk];rfl
  have HC:=zh (aFN x R W (HS.out.ext HX.out) (HRO.out.ext HX.out) HPN.out)
  rw [hvx,hvo] at HC
  clear hk hvx hvo hz
  go_enter Tryz.func52,Tryz.ntmps52
  go_wp2_with (first | (with_reducible refine aB gP rfl (.tmp 2) rfl w.heap.size 0 rfl x vx HVX.out rx ?_) | (with_reducible refine aB opP rfl (.tmp 3) rfl (w.heap.size+1) 0 rfl R vo HVO.out ro ?_) | fail "A")
  refine HC.out.mono ?_
  rintro e w5 ⟨rfl,he5⟩
  have HX5:=zh (HX.out.trans he5)
  clear he5 rx ro p0
  go_wp2_with fail
  go_ret
  exact ⟨by rw [HSP.out];rfl,HX5.out⟩
 ·have HSP := zh (show gS x.m2 x.m1 x.ht dO ev x.ac R x.s.V = qU x.s.V x.ht R from by unfold gS qU; rw [if_neg (by omega), if_pos hk]; cases fdK x.s.V.K R.lk <;> rfl)
  have b1:(R.k == 1)=false:=by rw [hk];rfl
  have d1:decide (R.k=1)=false:=by rw [hk];rfl
  have b2:(R.k == 2)=false:=by rw [hk];rfl
  have d2:decide (R.k=2)=false:=by rw [hk];rfl
  have b3:(R.k == 3)=false:=by rw [hk];rfl
  have d3:decide (R.k=3)=false:=by rw [hk];rfl
  have b4:(R.k == 4)=true:=by rw [hk];rfl
  have d4:decide (R.k=4)=true:=by rw [hk];rfl
  have b5:(R.k == 5)=false:=by rw [hk];rfl
  have d5:decide (R.k=5)=false:=by rw [hk];rfl
  have b6:(R.k == 6)=false:=by rw [hk];rfl
  have d6:decide (R.k=6)=false:=by rw [hk];rfl
  have HC:=zh (aDd x R W (HS.out.ext HX.out))
  rw [hvx,hvo] at HC
  clear hk hvx hvo hz
  go_enter Tryz.func52,Tryz.ntmps52
  go_wp2_with (first | (with_reducible refine aB gP rfl (.tmp 2) rfl w.heap.size 0 rfl x vx HVX.out rx ?_) | (with_reducible refine aB opP rfl (.tmp 3) rfl (w.heap.size+1) 0 rfl R vo HVO.out ro ?_) | fail "A")
  refine HC.out.mono ?_
  rintro e w5 ⟨rfl,he5⟩
  have HX5:=zh (HX.out.trans he5)
  clear he5 rx ro p0
  go_wp2_with fail
  go_ret
  exact ⟨by rw [HSP.out];rfl,HX5.out⟩
 ·have ha : R.va = ((R.va.toNat : Nat) : Int) := (Int.toNat_of_nonneg hvb.1).symm
  have b1:(R.k == 1)=false:=by rw [hk];rfl
  have d1:decide (R.k=1)=false:=by rw [hk];rfl
  have b2:(R.k == 2)=false:=by rw [hk];rfl
  have d2:decide (R.k=2)=false:=by rw [hk];rfl
  have b3:(R.k == 3)=false:=by rw [hk];rfl
  have d3:decide (R.k=3)=false:=by rw [hk];rfl
  have b4:(R.k == 4)=false:=by rw [hk];rfl
  have d4:decide (R.k=4)=false:=by rw [hk];rfl
  have b5:(R.k == 5)=true:=by rw [hk];rfl
  have d5:decide (R.k=5)=true:=by rw [hk];rfl
  have b6:(R.k == 6)=false:=by rw [hk];rfl
  have d6:decide (R.k=6)=false:=by rw [hk];rfl
  by_cases h1:(x.m1:Int)≤R.va
  ·have HSP := zh (show gS x.m2 x.m1 x.ht dO ev x.ac R x.s.V = 1 from by unfold gS; rw [hk]; simp [h1])
   clear hk hvx hvo hz ha
   go_enter Tryz.func52,Tryz.ntmps52
   go_wp2_with fail
   go_ret
   exact ⟨by rw [HSP.out];rfl,HX.out⟩
  have HEX:=zh (aAs x R.va.toNat W (by omega))
  rw [← ha,hvx] at HEX
  clear ha
  by_cases h2:iV x.s.G R.va.toNat=true
  ·have HSP := zh (show gS x.m2 x.m1 x.ht dO ev x.ac R x.s.V = 7 from by unfold gS; rw [hk]; simp [h1, show iV x.s.V.G R.va.toNat = true from h2])
   rw [h2] at HEX
   clear hk hvx hvo h2 hz
   go_enter Tryz.func52,Tryz.ntmps52
   go_wp2_with (first | (with_reducible refine aB gP rfl (.tmp 2) rfl w.heap.size 0 rfl x vx HVX.out rx ?_) | fail "A")
   refine HEX.out.mono ?_
   rintro e w5 ⟨rfl,he5⟩
   have HX5:=zh (HX.out.trans he5)
   clear he5 rx ro p0 p1 p2 p3 p4 g2 g3 g13
   go_wp2_with fail
   go_ret
   exact ⟨by rw [HSP.out];rfl,HX5.out⟩
  have h2':iV x.s.G R.va.toNat=false:=by simpa using h2
  have HSP:=zh (show gS x.m2 x.m1 x.ht dO ev x.ac R x.s.V=z from by rw [← hz];unfold gS;rw [hk];simp [h1,show iV x.s.V.G R.va.toNat=false from h2'];rfl)
  rw [h2'] at HEX
  have HZZ:=zh hz
  clear hk h2 h2' hvx hvo hz
  go_enter Tryz.func52,Tryz.ntmps52
  go_wp2_with (first | (with_reducible refine aB gP rfl (.tmp 2) rfl w.heap.size 0 rfl x vx HVX.out rx ?_) | fail "A")
  refine HEX.out.mono ?_
  rintro e w5 ⟨rfl,he5⟩
  have HX5:=zh (HX.out.trans he5)
  have HP5:=zh (HP.out.ext he5)
  have HO5:=zh (HO.out.ext he5)
  clear he5 rx ro p0 p1 p2 p3 p4 g2 g3 g13
  have rx5:w5.rangeAt w.heap.size 0 (RowT.enc x):=aD HP5.out
  have p2:=HO5.out.cell 2
  have HFU:=zh (rD x R.am w5 (HS.out.ext HX5.out) HAC.out)
  rw [HVX.out,HZZ.out] at HFU
  go_wp2_with (first | (with_reducible refine aB gP rfl (.tmp 2) rfl w.heap.size 0 rfl x vx HVX.out rx5 ?_) | fail "A")
  refine HFU.out.mono ?_
  rintro e w7 ⟨rfl,he7⟩
  have HX7:=zh (HX5.out.trans he7)
  clear he7
  go_wp2_with fail
  go_ret
  exact ⟨by rw [HSP.out];rfl,HX7.out⟩
 have HSP:=zh (show True from trivial)
 have b1:(R.k == 1)=false:=by rw [hk];rfl
 have d1:decide (R.k=1)=false:=by rw [hk];rfl
 have b2:(R.k == 2)=false:=by rw [hk];rfl
 have d2:decide (R.k=2)=false:=by rw [hk];rfl
 have b3:(R.k == 3)=false:=by rw [hk];rfl
 have d3:decide (R.k=3)=false:=by rw [hk];rfl
 have b4:(R.k == 4)=false:=by rw [hk];rfl
 have d4:decide (R.k=4)=false:=by rw [hk];rfl
 have b5:(R.k == 5)=false:=by rw [hk];rfl
 have d5:decide (R.k=5)=false:=by rw [hk];rfl
 have b6:(R.k == 6)=true:=by rw [hk];rfl
 have d6:decide (R.k=6)=true:=by rw [hk];rfl
 have HC:=zh (hbl hk W HX.out)
 rw [hvx,hvo] at HC
 clear hk hvx hvo hz
 go_enter Tryz.func52,Tryz.ntmps52
 go_wp2_with (first | (with_reducible refine aB gP rfl (.tmp 2) rfl w.heap.size 0 rfl x vx HVX.out rx ?_) | (with_reducible refine aB opP rfl (.tmp 3) rfl (w.heap.size+1) 0 rfl R vo HVO.out ro ?_) | fail "A")
 refine HC.out.mono ?_
 rintro e w5 ⟨rfl,he5⟩
 have HX5:=zh (HX.out.trans he5)
 clear he5 rx ro p0
 go_wp2_with fail
 go_ret
 exact ⟨rfl,HX5.out⟩
end
end Go.Proofs.YtohmmcahpakokaaGreat
