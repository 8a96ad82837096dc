/- exec.effect: what one operation of a valid transaction moves. -/
import Derived.Test.YtohmmcahpakokaaGreatJ29
set_option maxRecDepth 100000
set_option maxHeartbeats 8000000
set_option linter.unusedVariables false
set_option linter.unusedSimpArgs false
namespace Go.Proofs.YtohmmcahpakokaaGreat
section
open Go.RowKit
attribute [local go_sem ↓] Go.wp_at_zero Go.wp_at_succ
instance:RowT OpR where
 sz:=23
 z:=aLg
 enc:=opL
 ok R w:=R.ok w
 pos:=by decide
 len:=eX
 one:=aEj
 ext _ _ _ h e:=h.ext e
theorem opP:RowP OpR 69 opA:=⟨aAc,by kernel_rfl,_,Tryz.underlying69,rfl⟩
theorem SlO.g {w:World} {A:Option Addr} {n c:Nat} {L:List OpR} (h:SlO w A n c L):SlG w A n c L:=⟨h.len,h.le,h.cap,h.rd,h.ok⟩
theorem uN (L:List OpR) (k:Nat):aY L k=nthG L k:=rfl
theorem rA {w:World} {g:Nat} {t:TypeId} {R:OpR} (h:Blk w g t (opA R)):w.rangeAt g 5 (nmL R.lk):=by
 have:=aU (k:=8) (bR (k:=5) (aD h))
 rw [show nmL R.lk=bcs (nmb R.lk) from rfl,fF]
 rw [Nat.zero_add] at this
 exact this
theorem aJW {w:World} {g:Nat} {t:TypeId} {R:OpR} (h:Blk w g t (opA R)):w.rangeAt g 13 (nmL R.hs):=by
 have:=aU (k:=8) (bR (k:=13) (aD h))
 rw [show nmL R.hs=bcs (nmb R.hs) from rfl,fF]
 rw [Nat.zero_add] at this
 exact this
theorem fO {k i:Int} {l:UInt64} (h1:wfI k) (h2:wfI i):ceW ⟨k,i,l⟩:=⟨h1,h2⟩
theorem wfS {z:Int} (h:-1000000000000000≤z∧z≤1000000000000000):wfI z:=fH.2 ⟨by omega,by omega⟩
theorem qR {R:OpR} (h:vOp R=true):(1≤R.k∧R.k≤6)∧wfI R.tO∧wfI R.am∧wfI R.va∧wfI R.ul∧(0≤R.tO∧R.tO≤15)∧(0≤R.va∧R.va≤9)∧(0≤R.am∧R.am≤1099511627776)∧(0≤R.ul∧R.ul≤1000):=by
 unfold vOp aQ at h
 simp only [Bool.and_eq_true,decide_eq_true_eq] at h
 obtain ⟨h1,h2,h3,h4,h5,_⟩:=h
 have a1:0≤R.tO∧R.tO≤15:=by split at h2 <;> simp only [decide_eq_true_eq] at h2 <;> omega
 have a2:0≤R.am∧R.am≤1099511627776:=by split at h3 <;> simp only [decide_eq_true_eq] at h3 <;> omega
 have a3:0≤R.ul∧R.ul≤1000:=by split at h4 <;> simp only [decide_eq_true_eq] at h4 <;> omega
 have a4:0≤R.va∧R.va≤9:=by split at h5 <;> simp only [decide_eq_true_eq] at h5 <;> omega
 exact ⟨h1,wfS ⟨by omega,by omega⟩,wfS ⟨by omega,by omega⟩,wfS ⟨by omega,by omega⟩,wfS ⟨by omega,by omega⟩,a1,a4,a2,a3⟩
theorem oQ (ac sq:Int) (A:Option Addr) (n c:Nat) (L:List OpR) (i:Nat) (w:World) (hS:SlO w A n c L) (hi:i < n) (hv:vTx ac sq L=true) :
  Calls Tryz.prog 45 #[.agg (txA ac sq A n c),.int .i64 (i:Int)] w (aJL w (dL ac sq L i)):=by
 obtain ⟨⟨q1,q2,q3,q4,q5,q6⟩,hop⟩:=eO hv
 have hLEN:=hS.len
 have hle:=hS.le
 have hcap:=hS.cap
 obtain ⟨hkk,hto,ham,hva,-,-,-,-,-⟩:=qR (hop i (by omega))
 have hac:wfI ac:=wfS ⟨by omega,by omega⟩
 obtain ⟨W,hW⟩:∃ W,w.alloc (.cells (txA ac sq A n c) 24)=W:=⟨_,rfl⟩
 have HB:=zh (show Blk W w.heap.size 24 (txA ac sq A n c) from by rw [← hW];exact Blk.new w 24 (txA ac sq A n c))
 have HE:=zh (show Ext w W from by rw [← hW];exact (Ext.refl w).alloc' _)
 have HS:=zh (hS.ext HE.out)
 obtain ⟨b,o,hA,hrow,-⟩:=HS.out.g.at (by omega)
 subst hA
 have t0:=HB.out.cell 0
 have t1:=HB.out.cell 1
 have t2:=HB.out.cell 2
 obtain ⟨R,hR⟩:∃ R,aY L i=R:=⟨_,rfl⟩
 rw [hR] at hkk hto ham hva
 have HK:=zh hR
 have hr:W.rangeAt b (o+i * 23) (RowT.enc R):=by rw [← hR,uN];exact cG hrow (by omega)
 have HAM:=zh ham
 have i0:(0:Int)≤(i:Int):=by omega
 have i1:(i:Int) < (n:Int):=by omega
 obtain ⟨v,hv⟩:∃ v,Value.agg (opA R)=v:=⟨_,rfl⟩
 have HV:=zh hv
 obtain ⟨X,hX⟩:∃ X,W.heap.size=X:=⟨_,rfl⟩
 have HXS:=zh hX
 clear hrow hR hv hX hop hLEN hS ham q1 q2 q3 q4 q5 q6
 rcases (by omega:R.k=1 ∨ R.k=2 ∨ R.k=3 ∨ R.k=4 ∨ R.k=5 ∨ R.k=6) with hk | hk | hk | hk | hk | hk
 ·have HSP := zh (show dL ac sq L i = dQ (aZ ac) (aZ R.tO) R.am from by unfold dL; rw [HK.out, hk]; rfl)
  have b1:(R.k == 1)=true:=by rw [hk];rfl
  have d1:decide (R.k=1)=true:=by rw [hk];rfl
  have b2:(R.k == 2)=false:=by rw [hk];rfl
  have d2:decide (R.k=2)=false:=by rw [hk];rfl
  have b3:(R.k == 3)=false:=by rw [hk];rfl
  have d3:decide (R.k=3)=false:=by rw [hk];rfl
  have b4:(R.k == 4)=false:=by rw [hk];rfl
  have d4:decide (R.k=4)=false:=by rw [hk];rfl
  have b5:(R.k == 5)=false:=by rw [hk];rfl
  have d5:decide (R.k=5)=false:=by rw [hk];rfl
  have b6:(R.k == 6)=false:=by rw [hk];rfl
  have d6:decide (R.k=6)=false:=by rw [hk];rfl
  have HCX:=zh (show ceW (aZ ac) from fO (wfS (by decide)) hac)
  have HCY:=zh (show ceW (aZ R.tO) from fO (wfS (by decide)) hto)
  clear hk
  go_enter Tryz.func45,Tryz.ntmps45
  go_upto_region 2 with (first | (with_reducible refine aB opP rfl (.tmp 9) rfl b (o+i * 23) rfl R v HV.out hr ?_) | ((with_reducible refine aP opP rfl (.tmp 5) (.tmp 10) rfl jU rfl R v HV.out rfl rfl ?_);intro W4 h4))
  have HX4:=zh (show Ext W W4 from by rw [← h4.out];exact (Ext.refl W).alloc' _)
  have HD:=zh (show Blk W4 X 69 (opA R) from by rw [← h4.out,← HXS.out];exact Blk.new W 69 (opA R))
  have HB:=zh (HB.out.ext HX4.out)
  have HS:=zh (HS.out.ext HX4.out)
  have HEX:=zh (HE.out.trans HX4.out)
  have k0:W4.cell? ⟨X,0,none⟩=some (.int .i64 R.k):=HD.out.cell 0
  clear h4 hr t0 t1 t2 hW
  rw [HXS.out]
  go_upto_region 4 with (fail)
  refine wp_region_held_drew (S:=fun V=>Blk V w.heap.size 24 (txA ac sq (some ⟨b,o,none⟩) n c)∧Blk V X 69 (opA R)∧SlO V (some ⟨b,o,none⟩) n c L) (by kernel_rfl) (⟨HB.out.drew,HD.out.drew,HS.out.ext ((Ext.refl _).drew')⟩) (fun aA=>?_)
  refine zz0 [0,1,3,4,6,7] ?_;repeat first | refine zz1 ?_ (hy:=by intro W aM;have t0:=aM.1.cell 0;have t1:=aM.1.cell 1;have t2:=aM.1.cell 2;have p0:=aM.2.1.cell 0;have p1:=aM.2.1.cell 1;have p2:=aM.2.1.cell 2;have p3:=aM.2.1.cell 3;have p4:=aM.2.1.cell 4;go_simp <;> with_reducible rfl) | refine zz2 ?_ | refine zz9 ?_
  refine zzj (VE 2 (.agg (ceA (aZ ac))) (VE 5 (.agg (ceA (aZ R.tO))) (VV 8 (fun v V=>∃ A9 n9 c9,v=.slice A9 n9 c9∧SlG V A9 n9 c9 (dQ (aZ ac) (aZ R.tO) R.am)) VN))) [(2,some 17),(5,some 20),(8,some 23)] 1 (fun V V' h e=>⟨h.1.ext e,h.2.1.ext e,h.2.2.ext e⟩) (ve (ve (VV.ext (fun v w w' ⟨A9,n9,c9,h1,h2⟩ e=>⟨A9,n9,c9,h1,h2.ext e⟩) VN.ext))) (zzc ?_ (zzc ?_ (zzc ?_ zzn))) ?_
  ·refine zzp fun W hE hS K hK => ?_
   go_simp
   go_at_call 82
   refine (eF ac _).mono ?_
   rintro e w5 ⟨rfl,he5⟩
   exact zzK (hK.out (.agg (ceA (aZ ac))) _ (he5) (rfl))
  ·refine zzp fun W hE hS K hK => ?_
   go_simp
   go_at_call 82
   refine (eF R.tO _).mono ?_
   rintro e w5 ⟨rfl,he5⟩
   exact zzK (hK.out (.agg (ceA (aZ R.tO))) _ (he5) (rfl))
  ·refine zm [(2, some 17), (5, some 20)] fun env W hE hS hD K hK => ?_
   obtain ⟨h2,h5,-⟩:=zzV hD
   clear hD
   simp only [aO,h2,h5] at hK ⊢
   clear h2
   clear h5
   go_simp
   go_at_call 69
   refine (iQ (aZ ac) (aZ R.tO) R.am _ (HCX.out) (HCY.out) HAM.out).mono ?_
   rintro e w5 ⟨A9,n9,c9,rfl,hs9,he5⟩
   exact zzK (hK.out (.slice A9 n9 c9) _ (he5) (⟨A9,n9,c9,rfl,hs9⟩))
  intro env W hE hS hV
  obtain ⟨h2,h5,h8,-⟩:=zzV hV
  clear hV
  simp only [aO,h2,h5]
  clear h2
  clear h5
  generalize env 8=x8 at h8 ⊢
  obtain ⟨A9,n9,c9,rfl,hs9⟩:=h8
  have aA:=hS
  refine zt 9 aA ?_
  refine wpAnyH_done (by kernel_rfl) ?_ _
  have HSL:=zh hs9
  have HXX:=zh (HEX.out.trans ((Ext.refl _).drew'.trans hE))
  clear hs9 hE hS aA
  go_wp2_with fail
  go_ret
  exact ⟨A9,n9,c9,rfl,by rw [HSP.out];exact HSL.out,HXX.out⟩
 ·have HSP := zh (show dL ac sq L i = dQ (aZ ac) (dS (cB ac sq L (i : Int))) R.am from by unfold dL; rw [HK.out, hk]; rfl)
  have b1:(R.k == 1)=false:=by rw [hk];rfl
  have d1:decide (R.k=1)=false:=by rw [hk];rfl
  have b2:(R.k == 2)=true:=by rw [hk];rfl
  have d2:decide (R.k=2)=true:=by rw [hk];rfl
  have b3:(R.k == 3)=false:=by rw [hk];rfl
  have d3:decide (R.k=3)=false:=by rw [hk];rfl
  have b4:(R.k == 4)=false:=by rw [hk];rfl
  have d4:decide (R.k=4)=false:=by rw [hk];rfl
  have b5:(R.k == 5)=false:=by rw [hk];rfl
  have d5:decide (R.k=5)=false:=by rw [hk];rfl
  have b6:(R.k == 6)=false:=by rw [hk];rfl
  have d6:decide (R.k=6)=false:=by rw [hk];rfl
  have HCX:=zh (show ceW (aZ ac) from fO (wfS (by decide)) hac)
  have HCY:=zh (show ceW (dS (cB ac sq L (i:Int))) from fO (wfS (by decide)) (wfS (by decide)))
  clear hk
  go_enter Tryz.func45,Tryz.ntmps45
  go_upto_region 2 with (first | (with_reducible refine aB opP rfl (.tmp 9) rfl b (o+i * 23) rfl R v HV.out hr ?_) | ((with_reducible refine aP opP rfl (.tmp 5) (.tmp 10) rfl jU rfl R v HV.out rfl rfl ?_);intro W4 h4))
  have HX4:=zh (show Ext W W4 from by rw [← h4.out];exact (Ext.refl W).alloc' _)
  have HD:=zh (show Blk W4 X 69 (opA R) from by rw [← h4.out,← HXS.out];exact Blk.new W 69 (opA R))
  have HB:=zh (HB.out.ext HX4.out)
  have HS:=zh (HS.out.ext HX4.out)
  have HEX:=zh (HE.out.trans HX4.out)
  have k0:W4.cell? ⟨X,0,none⟩=some (.int .i64 R.k):=HD.out.cell 0
  clear h4 hr t0 t1 t2 hW
  rw [HXS.out]
  go_upto_region 6 with (fail)
  refine wp_region_held_drew (S:=fun V=>Blk V w.heap.size 24 (txA ac sq (some ⟨b,o,none⟩) n c)∧Blk V X 69 (opA R)∧SlO V (some ⟨b,o,none⟩) n c L) (by kernel_rfl) (⟨HB.out.drew,HD.out.drew,HS.out.ext ((Ext.refl _).drew')⟩) (fun aA=>?_)
  refine zz0 [0,1,3,4,7,8] ?_;repeat first | refine zz1 ?_ (hy:=by intro W aM;have t0:=aM.1.cell 0;have t1:=aM.1.cell 1;have t2:=aM.1.cell 2;have p0:=aM.2.1.cell 0;have p1:=aM.2.1.cell 1;have p2:=aM.2.1.cell 2;have p3:=aM.2.1.cell 3;have p4:=aM.2.1.cell 4;go_simp <;> with_reducible rfl) | refine zz2 ?_ | refine zz9 ?_
  refine zzj (VE 2 (.agg (ceA (aZ ac))) (VE 5 (.agg (nmc (cB ac sq L (i:Int)))) (VE 6 (.agg (ceA (dS (cB ac sq L (i:Int))))) (VV 9 (fun v V=>∃ A9 n9 c9,v=.slice A9 n9 c9∧SlG V A9 n9 c9 (dQ (aZ ac) (dS (cB ac sq L (i:Int))) R.am)) VN)))) [(2,some 28),(5,some 31),(6,some 32),(9,some 35)] 1 (fun V V' h e=>⟨h.1.ext e,h.2.1.ext e,h.2.2.ext e⟩) (ve (ve (ve (VV.ext (fun v w w' ⟨A9,n9,c9,h1,h2⟩ e=>⟨A9,n9,c9,h1,h2.ext e⟩) VN.ext)))) (zzc ?_ (zzc ?_ (zzc ?_ (zzc ?_ zzn)))) ?_
  ·refine zzp fun W hE hS K hK => ?_
   go_simp
   go_at_call 82
   refine (eF ac _).mono ?_
   rintro e w5 ⟨rfl,he5⟩
   exact zzK (hK.out (.agg (ceA (aZ ac))) _ (he5) (rfl))
  ·refine zzp fun W hE hS K hK => ?_
   go_simp
   go_at_call 84
   refine (pX ac sq (some ⟨b,o,none⟩) n c L (i:Int) _ hS.2.2).mono ?_
   rintro e w5 ⟨rfl,he5⟩
   exact zzK (hK.out (.agg (nmc (cB ac sq L (i:Int)))) _ (he5) (rfl))
  ·refine zm [(5, some 31)] fun env W hE hS hD K hK => ?_
   obtain ⟨h5,-⟩:=zzV hD
   clear hD
   simp only [aO,h5] at hK ⊢
   clear h5
   go_simp
   go_at_call 83
   refine (lN (cB ac sq L (i:Int)) _).mono ?_
   rintro e w5 ⟨rfl,he5⟩
   exact zzK (hK.out (.agg (ceA (dS (cB ac sq L (i:Int))))) _ (he5) (rfl))
  ·refine zm [(2, some 28), (6, some 32)] fun env W hE hS hD K hK => ?_
   obtain ⟨h2,h6,-⟩:=zzV hD
   clear hD
   simp only [aO,h2,h6] at hK ⊢
   clear h2
   clear h6
   go_simp
   go_at_call 69
   refine (iQ (aZ ac) (dS (cB ac sq L (i:Int))) R.am _ (HCX.out) (HCY.out) HAM.out).mono ?_
   rintro e w5 ⟨A9,n9,c9,rfl,hs9,he5⟩
   exact zzK (hK.out (.slice A9 n9 c9) _ (he5) (⟨A9,n9,c9,rfl,hs9⟩))
  intro env W hE hS hV
  obtain ⟨h2,h5,h6,h9,-⟩:=zzV hV
  clear hV
  simp only [aO,h2,h5,h6]
  clear h2
  clear h5
  clear h6
  generalize env 9=x9 at h9 ⊢
  obtain ⟨A9,n9,c9,rfl,hs9⟩:=h9
  have aA:=hS
  refine zt 10 aA ?_
  refine wpAnyH_done (by kernel_rfl) ?_ _
  have HSL:=zh hs9
  have HXX:=zh (HEX.out.trans ((Ext.refl _).drew'.trans hE))
  clear hs9 hE hS aA
  go_wp2_with fail
  go_ret
  exact ⟨A9,n9,c9,rfl,by rw [HSP.out];exact HSL.out,HXX.out⟩
 ·have HSP := zh (show dL ac sq L i = dQ (dS R.lk) (aZ R.tO) R.am from by unfold dL; rw [HK.out, hk]; rfl)
  have b1:(R.k == 1)=false:=by rw [hk];rfl
  have d1:decide (R.k=1)=false:=by rw [hk];rfl
  have b2:(R.k == 2)=false:=by rw [hk];rfl
  have d2:decide (R.k=2)=false:=by rw [hk];rfl
  have b3:(R.k == 3)=true:=by rw [hk];rfl
  have d3:decide (R.k=3)=true:=by rw [hk];rfl
  have b4:(R.k == 4)=false:=by rw [hk];rfl
  have d4:decide (R.k=4)=false:=by rw [hk];rfl
  have b5:(R.k == 5)=false:=by rw [hk];rfl
  have d5:decide (R.k=5)=false:=by rw [hk];rfl
  have b6:(R.k == 6)=false:=by rw [hk];rfl
  have d6:decide (R.k=6)=false:=by rw [hk];rfl
  have HCX:=zh (show ceW (dS R.lk) from fO (wfS (by decide)) (wfS (by decide)))
  have HCY:=zh (show ceW (aZ R.tO) from fO (wfS (by decide)) hto)
  clear hk
  go_enter Tryz.func45,Tryz.ntmps45
  go_upto_region 2 with (first | (with_reducible refine aB opP rfl (.tmp 9) rfl b (o+i * 23) rfl R v HV.out hr ?_) | ((with_reducible refine aP opP rfl (.tmp 5) (.tmp 10) rfl jU rfl R v HV.out rfl rfl ?_);intro W4 h4))
  have HX4:=zh (show Ext W W4 from by rw [← h4.out];exact (Ext.refl W).alloc' _)
  have HD:=zh (show Blk W4 X 69 (opA R) from by rw [← h4.out,← HXS.out];exact Blk.new W 69 (opA R))
  have HB:=zh (HB.out.ext HX4.out)
  have HS:=zh (HS.out.ext HX4.out)
  have HEX:=zh (HE.out.trans HX4.out)
  have k0:W4.cell? ⟨X,0,none⟩=some (.int .i64 R.k):=HD.out.cell 0
  clear h4 hr t0 t1 t2 hW
  rw [HXS.out]
  go_upto_region 9 with (fail)
  refine wp_region_held_drew (S:=fun V=>Blk V w.heap.size 24 (txA ac sq (some ⟨b,o,none⟩) n c)∧Blk V X 69 (opA R)∧SlO V (some ⟨b,o,none⟩) n c L) (by kernel_rfl) (⟨HB.out.drew,HD.out.drew,HS.out.ext ((Ext.refl _).drew')⟩) (fun aA=>?_)
  refine zt 0 aA ?_
  refine zu 1 (v:=.agg (nmc R.lk)) aA ?_ (hy:=by exact aF nmP (by rfl) (.tmp 39) rfl X 5 rfl R.lk _ rfl (fun V h=>rA h.2.1))
  refine zz0 [3,4,6,7] ?_;repeat first | refine zz1 ?_ (hy:=by intro W aM;have t0:=aM.1.cell 0;have t1:=aM.1.cell 1;have t2:=aM.1.cell 2;have p0:=aM.2.1.cell 0;have p1:=aM.2.1.cell 1;have p2:=aM.2.1.cell 2;have p3:=aM.2.1.cell 3;have p4:=aM.2.1.cell 4;go_simp <;> with_reducible rfl) | refine zz2 ?_ | refine zz9 ?_
  refine zzj (VE 2 (.agg (ceA (dS R.lk))) (VE 5 (.agg (ceA (aZ R.tO))) (VV 8 (fun v V=>∃ A9 n9 c9,v=.slice A9 n9 c9∧SlG V A9 n9 c9 (dQ (dS R.lk) (aZ R.tO) R.am)) VN))) [(2,some 41),(5,some 44),(8,some 47)] 1 (fun V V' h e=>⟨h.1.ext e,h.2.1.ext e,h.2.2.ext e⟩) (ve (ve (VV.ext (fun v w w' ⟨A9,n9,c9,h1,h2⟩ e=>⟨A9,n9,c9,h1,h2.ext e⟩) VN.ext))) (zzc ?_ (zzc ?_ (zzc ?_ zzn))) ?_
  ·refine zzp fun W hE hS K hK => ?_
   go_simp
   go_at_call 83
   refine (lN R.lk _).mono ?_
   rintro e w5 ⟨rfl,he5⟩
   exact zzK (hK.out (.agg (ceA (dS R.lk))) _ (he5) (rfl))
  ·refine zzp fun W hE hS K hK => ?_
   go_simp
   go_at_call 82
   refine (eF R.tO _).mono ?_
   rintro e w5 ⟨rfl,he5⟩
   exact zzK (hK.out (.agg (ceA (aZ R.tO))) _ (he5) (rfl))
  ·refine zm [(2, some 41), (5, some 44)] fun env W hE hS hD K hK => ?_
   obtain ⟨h2,h5,-⟩:=zzV hD
   clear hD
   simp only [aO,h2,h5] at hK ⊢
   clear h2
   clear h5
   go_simp
   go_at_call 69
   refine (iQ (dS R.lk) (aZ R.tO) R.am _ (HCX.out) (HCY.out) HAM.out).mono ?_
   rintro e w5 ⟨A9,n9,c9,rfl,hs9,he5⟩
   exact zzK (hK.out (.slice A9 n9 c9) _ (he5) (⟨A9,n9,c9,rfl,hs9⟩))
  intro env W hE hS hV
  obtain ⟨h2,h5,h8,-⟩:=zzV hV
  clear hV
  simp only [aO,h2,h5]
  clear h2
  clear h5
  generalize env 8=x8 at h8 ⊢
  obtain ⟨A9,n9,c9,rfl,hs9⟩:=h8
  have aA:=hS
  refine zt 9 aA ?_
  refine wpAnyH_done (by kernel_rfl) ?_ _
  have HSL:=zh hs9
  have HXX:=zh (HEX.out.trans ((Ext.refl _).drew'.trans hE))
  clear hs9 hE hS aA
  go_wp2_with fail
  go_ret
  exact ⟨A9,n9,c9,rfl,by rw [HSP.out];exact HSL.out,HXX.out⟩
 ·have HSP := zh (show dL ac sq L i = dQ (dS R.lk) (aZ R.tO) R.am from by unfold dL; rw [HK.out, hk]; rfl)
  have b1:(R.k == 1)=false:=by rw [hk];rfl
  have d1:decide (R.k=1)=false:=by rw [hk];rfl
  have b2:(R.k == 2)=false:=by rw [hk];rfl
  have d2:decide (R.k=2)=false:=by rw [hk];rfl
  have b3:(R.k == 3)=false:=by rw [hk];rfl
  have d3:decide (R.k=3)=false:=by rw [hk];rfl
  have b4:(R.k == 4)=true:=by rw [hk];rfl
  have d4:decide (R.k=4)=true:=by rw [hk];rfl
  have b5:(R.k == 5)=false:=by rw [hk];rfl
  have d5:decide (R.k=5)=false:=by rw [hk];rfl
  have b6:(R.k == 6)=false:=by rw [hk];rfl
  have d6:decide (R.k=6)=false:=by rw [hk];rfl
  have HCX:=zh (show ceW (dS R.lk) from fO (wfS (by decide)) (wfS (by decide)))
  have HCY:=zh (show ceW (aZ R.tO) from fO (wfS (by decide)) hto)
  clear hk
  go_enter Tryz.func45,Tryz.ntmps45
  go_upto_region 2 with (first | (with_reducible refine aB opP rfl (.tmp 9) rfl b (o+i * 23) rfl R v HV.out hr ?_) | ((with_reducible refine aP opP rfl (.tmp 5) (.tmp 10) rfl jU rfl R v HV.out rfl rfl ?_);intro W4 h4))
  have HX4:=zh (show Ext W W4 from by rw [← h4.out];exact (Ext.refl W).alloc' _)
  have HD:=zh (show Blk W4 X 69 (opA R) from by rw [← h4.out,← HXS.out];exact Blk.new W 69 (opA R))
  have HB:=zh (HB.out.ext HX4.out)
  have HS:=zh (HS.out.ext HX4.out)
  have HEX:=zh (HE.out.trans HX4.out)
  have k0:W4.cell? ⟨X,0,none⟩=some (.int .i64 R.k):=HD.out.cell 0
  clear h4 hr t0 t1 t2 hW
  rw [HXS.out]
  go_upto_region 9 with (fail)
  refine wp_region_held_drew (S:=fun V=>Blk V w.heap.size 24 (txA ac sq (some ⟨b,o,none⟩) n c)∧Blk V X 69 (opA R)∧SlO V (some ⟨b,o,none⟩) n c L) (by kernel_rfl) (⟨HB.out.drew,HD.out.drew,HS.out.ext ((Ext.refl _).drew')⟩) (fun aA=>?_)
  refine zt 0 aA ?_
  refine zu 1 (v:=.agg (nmc R.lk)) aA ?_ (hy:=by exact aF nmP (by rfl) (.tmp 39) rfl X 5 rfl R.lk _ rfl (fun V h=>rA h.2.1))
  refine zz0 [3,4,6,7] ?_;repeat first | refine zz1 ?_ (hy:=by intro W aM;have t0:=aM.1.cell 0;have t1:=aM.1.cell 1;have t2:=aM.1.cell 2;have p0:=aM.2.1.cell 0;have p1:=aM.2.1.cell 1;have p2:=aM.2.1.cell 2;have p3:=aM.2.1.cell 3;have p4:=aM.2.1.cell 4;go_simp <;> with_reducible rfl) | refine zz2 ?_ | refine zz9 ?_
  refine zzj (VE 2 (.agg (ceA (dS R.lk))) (VE 5 (.agg (ceA (aZ R.tO))) (VV 8 (fun v V=>∃ A9 n9 c9,v=.slice A9 n9 c9∧SlG V A9 n9 c9 (dQ (dS R.lk) (aZ R.tO) R.am)) VN))) [(2,some 41),(5,some 44),(8,some 47)] 1 (fun V V' h e=>⟨h.1.ext e,h.2.1.ext e,h.2.2.ext e⟩) (ve (ve (VV.ext (fun v w w' ⟨A9,n9,c9,h1,h2⟩ e=>⟨A9,n9,c9,h1,h2.ext e⟩) VN.ext))) (zzc ?_ (zzc ?_ (zzc ?_ zzn))) ?_
  ·refine zzp fun W hE hS K hK => ?_
   go_simp
   go_at_call 83
   refine (lN R.lk _).mono ?_
   rintro e w5 ⟨rfl,he5⟩
   exact zzK (hK.out (.agg (ceA (dS R.lk))) _ (he5) (rfl))
  ·refine zzp fun W hE hS K hK => ?_
   go_simp
   go_at_call 82
   refine (eF R.tO _).mono ?_
   rintro e w5 ⟨rfl,he5⟩
   exact zzK (hK.out (.agg (ceA (aZ R.tO))) _ (he5) (rfl))
  ·refine zm [(2, some 41), (5, some 44)] fun env W hE hS hD K hK => ?_
   obtain ⟨h2,h5,-⟩:=zzV hD
   clear hD
   simp only [aO,h2,h5] at hK ⊢
   clear h2
   clear h5
   go_simp
   go_at_call 69
   refine (iQ (dS R.lk) (aZ R.tO) R.am _ (HCX.out) (HCY.out) HAM.out).mono ?_
   rintro e w5 ⟨A9,n9,c9,rfl,hs9,he5⟩
   exact zzK (hK.out (.slice A9 n9 c9) _ (he5) (⟨A9,n9,c9,rfl,hs9⟩))
  intro env W hE hS hV
  obtain ⟨h2,h5,h8,-⟩:=zzV hV
  clear hV
  simp only [aO,h2,h5]
  clear h2
  clear h5
  generalize env 8=x8 at h8 ⊢
  obtain ⟨A9,n9,c9,rfl,hs9⟩:=h8
  have aA:=hS
  refine zt 9 aA ?_
  refine wpAnyH_done (by kernel_rfl) ?_ _
  have HSL:=zh hs9
  have HXX:=zh (HEX.out.trans ((Ext.refl _).drew'.trans hE))
  clear hs9 hE hS aA
  go_wp2_with fail
  go_ret
  exact ⟨A9,n9,c9,rfl,by rw [HSP.out];exact HSL.out,HXX.out⟩
 ·have HSP := zh (show dL ac sq L i = dQ (aZ ac) (cK R.va) R.am from by unfold dL; rw [HK.out, hk]; rfl)
  have b1:(R.k == 1)=false:=by rw [hk];rfl
  have d1:decide (R.k=1)=false:=by rw [hk];rfl
  have b2:(R.k == 2)=false:=by rw [hk];rfl
  have d2:decide (R.k=2)=false:=by rw [hk];rfl
  have b3:(R.k == 3)=false:=by rw [hk];rfl
  have d3:decide (R.k=3)=false:=by rw [hk];rfl
  have b4:(R.k == 4)=false:=by rw [hk];rfl
  have d4:decide (R.k=4)=false:=by rw [hk];rfl
  have b5:(R.k == 5)=true:=by rw [hk];rfl
  have d5:decide (R.k=5)=true:=by rw [hk];rfl
  have b6:(R.k == 6)=false:=by rw [hk];rfl
  have d6:decide (R.k=6)=false:=by rw [hk];rfl
  have HCX:=zh (show ceW (aZ ac) from fO (wfS (by decide)) hac)
  have HCY:=zh (show ceW (cK R.va) from fO (wfS (by decide)) hva)
  clear hk
  go_enter Tryz.func45,Tryz.ntmps45
  go_upto_region 2 with (first | (with_reducible refine aB opP rfl (.tmp 9) rfl b (o+i * 23) rfl R v HV.out hr ?_) | ((with_reducible refine aP opP rfl (.tmp 5) (.tmp 10) rfl jU rfl R v HV.out rfl rfl ?_);intro W4 h4))
  have HX4:=zh (show Ext W W4 from by rw [← h4.out];exact (Ext.refl W).alloc' _)
  have HD:=zh (show Blk W4 X 69 (opA R) from by rw [← h4.out,← HXS.out];exact Blk.new W 69 (opA R))
  have HB:=zh (HB.out.ext HX4.out)
  have HS:=zh (HS.out.ext HX4.out)
  have HEX:=zh (HE.out.trans HX4.out)
  have k0:W4.cell? ⟨X,0,none⟩=some (.int .i64 R.k):=HD.out.cell 0
  clear h4 hr t0 t1 t2 hW
  rw [HXS.out]
  go_upto_region 11 with (fail)
  refine wp_region_held_drew (S:=fun V=>Blk V w.heap.size 24 (txA ac sq (some ⟨b,o,none⟩) n c)∧Blk V X 69 (opA R)∧SlO V (some ⟨b,o,none⟩) n c L) (by kernel_rfl) (⟨HB.out.drew,HD.out.drew,HS.out.ext ((Ext.refl _).drew')⟩) (fun aA=>?_)
  refine zz0 [0,1,3,4,6,7] ?_;repeat first | refine zz1 ?_ (hy:=by intro W aM;have t0:=aM.1.cell 0;have t1:=aM.1.cell 1;have t2:=aM.1.cell 2;have p0:=aM.2.1.cell 0;have p1:=aM.2.1.cell 1;have p2:=aM.2.1.cell 2;have p3:=aM.2.1.cell 3;have p4:=aM.2.1.cell 4;go_simp <;> with_reducible rfl) | refine zz2 ?_ | refine zz9 ?_
  refine zzj (VE 2 (.agg (ceA (aZ ac))) (VE 5 (.agg (ceA (cK R.va))) (VV 8 (fun v V=>∃ A9 n9 c9,v=.slice A9 n9 c9∧SlG V A9 n9 c9 (dQ (aZ ac) (cK R.va) R.am)) VN))) [(2,some 52),(5,some 55),(8,some 58)] 1 (fun V V' h e=>⟨h.1.ext e,h.2.1.ext e,h.2.2.ext e⟩) (ve (ve (VV.ext (fun v w w' ⟨A9,n9,c9,h1,h2⟩ e=>⟨A9,n9,c9,h1,h2.ext e⟩) VN.ext))) (zzc ?_ (zzc ?_ (zzc ?_ zzn))) ?_
  ·refine zzp fun W hE hS K hK => ?_
   go_simp
   go_at_call 82
   refine (eF ac _).mono ?_
   rintro e w5 ⟨rfl,he5⟩
   exact zzK (hK.out (.agg (ceA (aZ ac))) _ (he5) (rfl))
  ·refine zzp fun W hE hS K hK => ?_
   go_simp
   go_at_call 80
   refine (qS R.va _).mono ?_
   rintro e w5 ⟨rfl,he5⟩
   exact zzK (hK.out (.agg (ceA (cK R.va))) _ (he5) (rfl))
  ·refine zm [(2, some 52), (5, some 55)] fun env W hE hS hD K hK => ?_
   obtain ⟨h2,h5,-⟩:=zzV hD
   clear hD
   simp only [aO,h2,h5] at hK ⊢
   clear h2
   clear h5
   go_simp
   go_at_call 69
   refine (iQ (aZ ac) (cK R.va) R.am _ (HCX.out) (HCY.out) HAM.out).mono ?_
   rintro e w5 ⟨A9,n9,c9,rfl,hs9,he5⟩
   exact zzK (hK.out (.slice A9 n9 c9) _ (he5) (⟨A9,n9,c9,rfl,hs9⟩))
  intro env W hE hS hV
  obtain ⟨h2,h5,h8,-⟩:=zzV hV
  clear hV
  simp only [aO,h2,h5]
  clear h2
  clear h5
  generalize env 8=x8 at h8 ⊢
  obtain ⟨A9,n9,c9,rfl,hs9⟩:=h8
  have aA:=hS
  refine zt 9 aA ?_
  refine wpAnyH_done (by kernel_rfl) ?_ _
  have HSL:=zh hs9
  have HXX:=zh (HEX.out.trans ((Ext.refl _).drew'.trans hE))
  clear hs9 hE hS aA
  go_wp2_with fail
  go_ret
  exact ⟨A9,n9,c9,rfl,by rw [HSP.out];exact HSL.out,HXX.out⟩
 have HSP:=zh (show dL ac sq L i=[] from by unfold dL;rw [HK.out,hk];rfl)
 have b1:(R.k == 1)=false:=by rw [hk];rfl
 have d1:decide (R.k=1)=false:=by rw [hk];rfl
 have b2:(R.k == 2)=false:=by rw [hk];rfl
 have d2:decide (R.k=2)=false:=by rw [hk];rfl
 have b3:(R.k == 3)=false:=by rw [hk];rfl
 have d3:decide (R.k=3)=false:=by rw [hk];rfl
 have b4:(R.k == 4)=false:=by rw [hk];rfl
 have d4:decide (R.k=4)=false:=by rw [hk];rfl
 have b5:(R.k == 5)=false:=by rw [hk];rfl
 have d5:decide (R.k=5)=false:=by rw [hk];rfl
 have b6:(R.k == 6)=true:=by rw [hk];rfl
 have d6:decide (R.k=6)=true:=by rw [hk];rfl
 clear hk
 go_enter Tryz.func45,Tryz.ntmps45
 go_upto_region 2 with (first | (with_reducible refine aB opP rfl (.tmp 9) rfl b (o+i * 23) rfl R v HV.out hr ?_) | ((with_reducible refine aP opP rfl (.tmp 5) (.tmp 10) rfl jU rfl R v HV.out rfl rfl ?_);intro W4 h4))
 have HX4:=zh (show Ext W W4 from by rw [← h4.out];exact (Ext.refl W).alloc' _)
 have HD:=zh (show Blk W4 X 69 (opA R) from by rw [← h4.out,← HXS.out];exact Blk.new W 69 (opA R))
 have HB:=zh (HB.out.ext HX4.out)
 have HS:=zh (HS.out.ext HX4.out)
 have HEX:=zh (HE.out.trans HX4.out)
 have k0:W4.cell? ⟨X,0,none⟩=some (.int .i64 R.k):=HD.out.cell 0
 clear h4 hr t0 t1 t2 hW
 rw [HXS.out]
 go_wp2_with fail
 go_ret
 exact ⟨_,_,_,rfl,by rw [HSP.out];exact SlG.nil _,HEX.out⟩
end
end Go.Proofs.YtohmmcahpakokaaGreat
