import Derived.Test.YtgmnmjeccfnmbaaGreatE14
set_option maxRecDepth 100000
set_option maxHeartbeats 8000000
set_option linter.unusedVariables false
set_option linter.unusedSimpArgs false
namespace Go.Proofs.YtgmnmjeccfnmbaaGreat
theorem ua {p:Prop} (h:p:=by
 go_enter func70,ntmps70
 go_upto_region 1 with fail
 refine wp_region_held_drew (S:=fun V=>Blk V w.heap.size 70 (stpA x)∧Ext w V) ab (⟨HP.out.drew,HX.out.trans ((Ext.refl _).drew')⟩) (fun aA=>?_)
 refine zz0 [0,1,2,3,4,7] ?_;repeat first | refine zz1 ?_ (hy:=jv) | refine zz2 ?_ | refine zz9 ?_
 refine zzj (VE 5 (.agg (ceA (aV x.ac))) (VE 6 (.int .i64 (cX x.s.C (aV x.ac))) VN)) [(5,some 10),(6,some 11)] 1 (fun V V' h e=>⟨h.1.ext e,h.2.trans e⟩) (ve (ve VN.ext)) (zzc ?_ (zzc ?_ zzn)) ?_
 ·refine zzp fun W hE hS K hK => ?_
  go_simp
  go_at_call 79
  refine zcl (fF x.ac _) fun w5 he5=>?_
  exact zzK (hK.out (.agg (ceA (aV x.ac))) _ (he5) (rfl))
 ·refine zm [(5, some 10)] fun env W hE hS hD K hK => ?_
  obtain ⟨h5,-⟩:=zzV hD
  clear hD
  simp only [aR,h5] at hK ⊢
  clear h5
  go_simp
  go_at_call 54
  refine zcl (jJ x.s (aV x.ac) _ (HS.out.ext hS.2) HC.out) fun w5 he5=>?_
  exact zzK (hK.out (.int .i64 (cX x.s.C (aV x.ac))) _ (he5) (rfl))
 intro env W hE hS hV
 obtain ⟨h5,h6,-⟩:=zzV hV
 clear hV
 simp only [aR,h5,h6]
 clear h5 h6
 have aA:=hS
 refine zt 8 aA ?_
 refine wpd ?_
 have HXX:=zh aA.2
 clear aA hE hS
 go_wp2_with fail
 go_ret
 exact ⟨rfl,HXX.out⟩):p:=h
theorem tm {p:Prop} (h:p:=by
 have HCX:=zh (show ceW (bZ R.lk) from dP (wfS ae) (wfS ae))
 have HCY:=zh (show ceW (aV R.tO) from dP (wfS ae) hto)
 clear hk
 go_enter func29,ntmps29
 go_upto_region 2 with (first | (with_reducible refine aD opP rfl (.tmp 9) rfl b (o+i * 23) rfl R v HV.out hr ?_) | ((with_reducible refine aU opP rfl (.tmp 5) (.tmp 10) rfl jX rfl R v HV.out rfl rfl ?_);intro W4 h4))
 have HX4:=zh (show Ext W W4 from bi)
 have HD:=zh (show Blk W4 X 52 (opA R) from ax)
 have HB:=zh (HB.out.ext HX4.out)
 have HS:=zh (HS.out.ext HX4.out)
 have HEX:=zh (HE.out.trans HX4.out)
 have k0:W4.cell? ⟨X,0,none⟩=some (.int .i64 R.k):=HD.out.cell 0
 clear h4 hr t0 t1 t2 hW
 rw [HXS.out]
 go_upto_region 9 with (fail)
 refine wp_region_held_drew (S:=fun V=>Blk V w.heap.size 33 (txA ac sq (some ⟨b,o,none⟩) n c)∧Blk V X 52 (opA R)∧SlO V (some ⟨b,o,none⟩) n c L) ab (⟨HB.out.drew,HD.out.drew,HS.out.ext ((Ext.refl _).drew')⟩) (fun aA=>?_)
 refine zt 0 aA ?_
 refine zu 1 (v:=.agg (nmc R.lk)) aA ?_ (hy:=mb)
 refine zz0 [3,4,6,7] ?_;repeat first | refine zz1 ?_ (hy:=aq) | refine zz2 ?_ | refine zz9 ?_
 refine zzj (VE 2 (.agg (ceA (bZ R.lk))) (VE 5 (.agg (ceA (aV R.tO))) (VV 8 (fun v V=>∃ A9 n9 c9,v=.slice A9 n9 c9∧SlG V A9 n9 c9 (dF (bZ R.lk) (aV R.tO) R.am)) VN))) [(2,some 41),(5,some 44),(8,some 47)] 1 (fun V V' h e=>⟨h.1.ext e,h.2.1.ext e,h.2.2.ext e⟩) (ve (ve (VV.ext (fun v w w' ⟨A9,n9,c9,h1,h2⟩ e=>⟨A9,n9,c9,h1,h2.ext e⟩) VN.ext))) (zzc ?_ (zzc ?_ (zzc ?_ zzn))) ?_
 ·exact BB
 ·exact B7
 ·refine zm [(2, some 41), (5, some 44)] fun env W hE hS hD K hK => ?_
  obtain ⟨h2,h5,-⟩:=zzV hD
  clear hD
  simp only [aR,h2,h5] at hK ⊢
  clear h2 h5
  go_simp
  go_at_call 56
  refine (kB (bZ R.lk) (aV R.tO) R.am _ (HCX.out) (HCY.out) HAM.out).mono ?_
  exact CD
 exact Aq):p:=h
open Go.Proofs.Tryz
section
open Go.RowKit
attribute [local go_sem ↓] Go.wp_at_zero Go.wp_at_succ
instance:RowT OpR where
 sz:=23
 z:=aNg
 enc:=opL
 ok R w:=R.ok w
 pos:=by decide
 len:=iE
 one:=aFZ
 ext _ _ _ h e:=h.ext e
theorem opP:RowP OpR 52 opA:=⟨aGa,by kernel_rfl,_,underlying52,rfl⟩
theorem SlO.g {w:World} {A:Option Addr} {n c:Nat} {L:List OpR} (h:SlO w A n c L):SlG w A n c L:=⟨h.len,h.le,h.cap,h.rd,h.ok⟩
theorem mC (L:List OpR) (k:Nat):bR L k=aS L k:=rfl
theorem kJ {w:World} {g:Nat} {t:TypeId} {R:OpR} (h:Blk w g t (opA R)):w.rangeAt g 5 (nmL R.lk):=by
 have:=aQ (k:=8) (bG (k:=5) (aC h))
 rw [show nmL R.lk=bcs (nmb R.lk) from rfl,eJ]
 rw [Nat.zero_add] at this
 exact this
theorem aIP {w:World} {g:Nat} {t:TypeId} {R:OpR} (h:Blk w g t (opA R)):w.rangeAt g 13 (nmL R.hs):=by
 have:=aQ (k:=8) (bG (k:=13) (aC h))
 rw [show nmL R.hs=bcs (nmb R.hs) from rfl,eJ]
 rw [Nat.zero_add] at this
 exact this
theorem dP {k i:Int} {l:UInt64} (h1:wfI k) (h2:wfI i):ceW ⟨k,i,l⟩:=⟨h1,h2⟩
theorem wfS {z:Int} (h:-1000000000000000≤z∧z≤1000000000000000):wfI z:=fU.2 ⟨by omega,by omega⟩
theorem jI {R:OpR} (h:vOp R=true):(1≤R.k∧R.k≤6)∧wfI R.tO∧wfI R.am∧wfI R.va∧wfI R.ul∧(0≤R.tO∧R.tO≤15)∧(0≤R.va∧R.va≤9)∧(0≤R.am∧R.am≤1099511627776)∧(0≤R.ul∧R.ul≤1000):=by
 unfold vOp cQ at h
 simp only [Bool.and_eq_true,decide_eq_true_eq] at h
 obtain ⟨h1,h2,h3,h4,h5,_⟩:=h
 have a1:0≤R.tO∧R.tO≤15:=by split at h2 <;> simp only [decide_eq_true_eq] at h2 <;> omega
 have a2:0≤R.am∧R.am≤1099511627776:=by split at h3 <;> simp only [decide_eq_true_eq] at h3 <;> omega
 have a3:0≤R.ul∧R.ul≤1000:=by split at h4 <;> simp only [decide_eq_true_eq] at h4 <;> omega
 have a4:0≤R.va∧R.va≤9:=by split at h5 <;> simp only [decide_eq_true_eq] at h5 <;> omega
 exact ⟨h1,wfS ⟨aa,aa⟩,wfS ⟨aa,aa⟩,wfS ⟨aa,aa⟩,wfS ⟨aa,aa⟩,a1,a4,a2,a3⟩
theorem qS (ac sq:Int) (A:Option Addr) (n c:Nat) (L:List OpR) (i:Nat) (w:World) (hS:SlO w A n c L) (hi:i < n) (hv:vTx ac sq L=true) :
  Calls prog 29 #[.agg (txA ac sq A n c),.int .i64 (i:Int)] w (aJI w (cP ac sq L i)):=by
 obtain ⟨⟨q1,q2,q3,q4,q5,q6⟩,hop⟩:=dX hv
 have hLEN:=hS.len
 have hle:=hS.le
 have hcap:=hS.cap
 obtain ⟨hkk,hto,ham,hva,-,-,-,-,-⟩:=jI (hop i aa)
 have hac:wfI ac:=wfS ⟨aa,aa⟩
 obtain ⟨W,hW⟩:=gx (w.alloc (.cells (txA ac sq A n c) 33))
 have HB:=zh (show Blk W w.heap.size 33 (txA ac sq A n c) from cw)
 have HE:=zh (show Ext w W from be)
 have HS:=zh (hS.ext HE.out)
 obtain ⟨b,o,hA,hrow,-⟩:=HS.out.g.at aa
 subst hA
 have t0:=HB.out.cell 0
 have t1:=HB.out.cell 1
 have t2:=HB.out.cell 2
 obtain ⟨R,hR⟩:=gx (bR L i)
 rw [hR] at hkk hto ham hva
 have HK:=zh hR
 have hr:W.rangeAt b (o+i * 23) (RowT.enc R):=mr
 have HAM:=zh ham
 have i0:(0:Int)≤(i:Int):=aa
 have i1:(i:Int) < (n:Int):=aa
 obtain ⟨v,hv⟩:=gx (Value.agg (opA R))
 have HV:=zh hv
 obtain ⟨X,hX⟩:=gx (W.heap.size)
 have HXS:=zh hX
 clear hrow hR hv hX hop hLEN hS ham q1 q2 q3 q4 q5 q6
 rcases (by omega:R.k=1 ∨ R.k=2 ∨ R.k=3 ∨ R.k=4 ∨ R.k=5 ∨ R.k=6) with hk | hk | hk | hk | hk | hk
 ·have HSP := zh (show cP ac sq L i = dF (aV ac) (aV R.tO) R.am from jc)
  obtain ⟨b1,d1,b2,d2,b3,d3,b4,d4,b5,d5,b6,d6⟩:=kd1 hk
  have HCX:=zh (show ceW (aV ac) from dP (wfS ae) hac)
  have HCY:=zh (show ceW (aV R.tO) from dP (wfS ae) hto)
  clear hk
  go_enter func29,ntmps29
  go_upto_region 2 with (first | (with_reducible refine aD opP rfl (.tmp 9) rfl b (o+i * 23) rfl R v HV.out hr ?_) | ((with_reducible refine aU opP rfl (.tmp 5) (.tmp 10) rfl jX rfl R v HV.out rfl rfl ?_);intro W4 h4))
  have HX4:=zh (show Ext W W4 from bi)
  have HD:=zh (show Blk W4 X 52 (opA R) from ax)
  have HB:=zh (HB.out.ext HX4.out)
  have HS:=zh (HS.out.ext HX4.out)
  have HEX:=zh (HE.out.trans HX4.out)
  have k0:W4.cell? ⟨X,0,none⟩=some (.int .i64 R.k):=HD.out.cell 0
  clear h4 hr t0 t1 t2 hW
  rw [HXS.out]
  go_upto_region 4 with (fail)
  refine wp_region_held_drew (S:=fun V=>Blk V w.heap.size 33 (txA ac sq (some ⟨b,o,none⟩) n c)∧Blk V X 52 (opA R)∧SlO V (some ⟨b,o,none⟩) n c L) ab (⟨HB.out.drew,HD.out.drew,HS.out.ext ((Ext.refl _).drew')⟩) (fun aA=>?_)
  refine zz0 [0,1,3,4,6,7] ?_;repeat first | refine zz1 ?_ (hy:=aq) | refine zz2 ?_ | refine zz9 ?_
  refine zzj (VE 2 (.agg (ceA (aV ac))) (VE 5 (.agg (ceA (aV R.tO))) (VV 8 (fun v V=>∃ A9 n9 c9,v=.slice A9 n9 c9∧SlG V A9 n9 c9 (dF (aV ac) (aV R.tO) R.am)) VN))) [(2,some 17),(5,some 20),(8,some 23)] 1 (fun V V' h e=>⟨h.1.ext e,h.2.1.ext e,h.2.2.ext e⟩) (ve (ve (VV.ext (fun v w w' ⟨A9,n9,c9,h1,h2⟩ e=>⟨A9,n9,c9,h1,h2.ext e⟩) VN.ext))) (zzc ?_ (zzc ?_ (zzc ?_ zzn))) ?_
  ·exact Cq
  ·exact B7
  ·refine zm [(2, some 17), (5, some 20)] fun env W hE hS hD K hK => ?_
   obtain ⟨h2,h5,-⟩:=zzV hD
   clear hD
   simp only [aR,h2,h5] at hK ⊢
   clear h2 h5
   go_simp
   go_at_call 56
   refine (kB (aV ac) (aV R.tO) R.am _ (HCX.out) (HCY.out) HAM.out).mono ?_
   exact CD
  exact Aq
 ·have HSP := zh (show cP ac sq L i = dF (aV ac) (bZ (bI ac sq L (i : Int))) R.am from jc)
  obtain ⟨b1,d1,b2,d2,b3,d3,b4,d4,b5,d5,b6,d6⟩:=kd2 hk
  have HCX:=zh (show ceW (aV ac) from dP (wfS ae) hac)
  have HCY:=zh (show ceW (bZ (bI ac sq L (i:Int))) from dP (wfS ae) (wfS ae))
  clear hk
  go_enter func29,ntmps29
  go_upto_region 2 with (first | (with_reducible refine aD opP rfl (.tmp 9) rfl b (o+i * 23) rfl R v HV.out hr ?_) | ((with_reducible refine aU opP rfl (.tmp 5) (.tmp 10) rfl jX rfl R v HV.out rfl rfl ?_);intro W4 h4))
  have HX4:=zh (show Ext W W4 from bi)
  have HD:=zh (show Blk W4 X 52 (opA R) from ax)
  have HB:=zh (HB.out.ext HX4.out)
  have HS:=zh (HS.out.ext HX4.out)
  have HEX:=zh (HE.out.trans HX4.out)
  have k0:W4.cell? ⟨X,0,none⟩=some (.int .i64 R.k):=HD.out.cell 0
  clear h4 hr t0 t1 t2 hW
  rw [HXS.out]
  go_upto_region 6 with (fail)
  refine wp_region_held_drew (S:=fun V=>Blk V w.heap.size 33 (txA ac sq (some ⟨b,o,none⟩) n c)∧Blk V X 52 (opA R)∧SlO V (some ⟨b,o,none⟩) n c L) ab (⟨HB.out.drew,HD.out.drew,HS.out.ext ((Ext.refl _).drew')⟩) (fun aA=>?_)
  refine zz0 [0,1,3,4,7,8] ?_;repeat first | refine zz1 ?_ (hy:=aq) | refine zz2 ?_ | refine zz9 ?_
  refine zzj (VE 2 (.agg (ceA (aV ac))) (VE 5 (.agg (nmc (bI ac sq L (i:Int)))) (VE 6 (.agg (ceA (bZ (bI ac sq L (i:Int))))) (VV 9 (fun v V=>∃ A9 n9 c9,v=.slice A9 n9 c9∧SlG V A9 n9 c9 (dF (aV ac) (bZ (bI ac sq L (i:Int))) R.am)) VN)))) [(2,some 28),(5,some 31),(6,some 32),(9,some 35)] 1 (fun V V' h e=>⟨h.1.ext e,h.2.1.ext e,h.2.2.ext e⟩) (ve (ve (ve (VV.ext (fun v w w' ⟨A9,n9,c9,h1,h2⟩ e=>⟨A9,n9,c9,h1,h2.ext e⟩) VN.ext)))) (zzc ?_ (zzc ?_ (zzc ?_ (zzc ?_ zzn)))) ?_
  ·exact Cq
  ·refine zzp fun W hE hS K hK => ?_
   go_simp
   go_at_call 72
   refine zcl (sF ac sq (some ⟨b,o,none⟩) n c L (i:Int) _ hS.2.2) fun w5 he5=>?_
   exact zzK (hK.out (.agg (nmc (bI ac sq L (i:Int)))) _ (he5) (rfl))
  ·refine zm [(5, some 31)] fun env W hE hS hD K hK => ?_
   obtain ⟨h5,-⟩:=zzV hD
   clear hD
   simp only [aR,h5] at hK ⊢
   clear h5
   go_simp
   go_at_call 80
   refine zcl (nJ (bI ac sq L (i:Int)) _) fun w5 he5=>?_
   exact zzK (hK.out (.agg (ceA (bZ (bI ac sq L (i:Int))))) _ (he5) (rfl))
  ·refine zm [(2, some 28), (6, some 32)] fun env W hE hS hD K hK => ?_
   obtain ⟨h2,h6,-⟩:=zzV hD
   clear hD
   simp only [aR,h2,h6] at hK ⊢
   clear h2 h6
   go_simp
   go_at_call 56
   refine (kB (aV ac) (bZ (bI ac sq L (i:Int))) R.am _ (HCX.out) (HCY.out) HAM.out).mono ?_
   exact CD
  intro env W hE hS hV
  obtain ⟨h2,h5,h6,h9,-⟩:=zzV hV
  clear hV
  simp only [aR,h2,h5,h6]
  clear h2 h5 h6
  generalize env 9=x9 at h9 ⊢
  obtain ⟨A9,n9,c9,rfl,hs9⟩:=h9
  have aA:=hS
  refine zt 10 aA ?_
  exact Bz
 ·have HSP := zh (show cP ac sq L i = dF (bZ R.lk) (aV R.tO) R.am from jc)
  obtain ⟨b1,d1,b2,d2,b3,d3,b4,d4,b5,d5,b6,d6⟩:=kd3 hk
  exact tm
 ·have HSP := zh (show cP ac sq L i = dF (bZ R.lk) (aV R.tO) R.am from jc)
  obtain ⟨b1,d1,b2,d2,b3,d3,b4,d4,b5,d5,b6,d6⟩:=kd4 hk
  exact tm
 ·have HSP := zh (show cP ac sq L i = dF (aV ac) (bY R.va) R.am from jc)
  obtain ⟨b1,d1,b2,d2,b3,d3,b4,d4,b5,d5,b6,d6⟩:=kd5 hk
  have HCX:=zh (show ceW (aV ac) from dP (wfS ae) hac)
  have HCY:=zh (show ceW (bY R.va) from dP (wfS ae) hva)
  clear hk
  go_enter func29,ntmps29
  go_upto_region 2 with (first | (with_reducible refine aD opP rfl (.tmp 9) rfl b (o+i * 23) rfl R v HV.out hr ?_) | ((with_reducible refine aU opP rfl (.tmp 5) (.tmp 10) rfl jX rfl R v HV.out rfl rfl ?_);intro W4 h4))
  have HX4:=zh (show Ext W W4 from bi)
  have HD:=zh (show Blk W4 X 52 (opA R) from ax)
  have HB:=zh (HB.out.ext HX4.out)
  have HS:=zh (HS.out.ext HX4.out)
  have HEX:=zh (HE.out.trans HX4.out)
  have k0:W4.cell? ⟨X,0,none⟩=some (.int .i64 R.k):=HD.out.cell 0
  clear h4 hr t0 t1 t2 hW
  rw [HXS.out]
  go_upto_region 11 with (fail)
  refine wp_region_held_drew (S:=fun V=>Blk V w.heap.size 33 (txA ac sq (some ⟨b,o,none⟩) n c)∧Blk V X 52 (opA R)∧SlO V (some ⟨b,o,none⟩) n c L) ab (⟨HB.out.drew,HD.out.drew,HS.out.ext ((Ext.refl _).drew')⟩) (fun aA=>?_)
  refine zz0 [0,1,3,4,6,7] ?_;repeat first | refine zz1 ?_ (hy:=aq) | refine zz2 ?_ | refine zz9 ?_
  refine zzj (VE 2 (.agg (ceA (aV ac))) (VE 5 (.agg (ceA (bY R.va))) (VV 8 (fun v V=>∃ A9 n9 c9,v=.slice A9 n9 c9∧SlG V A9 n9 c9 (dF (aV ac) (bY R.va) R.am)) VN))) [(2,some 52),(5,some 55),(8,some 58)] 1 (fun V V' h e=>⟨h.1.ext e,h.2.1.ext e,h.2.2.ext e⟩) (ve (ve (VV.ext (fun v w w' ⟨A9,n9,c9,h1,h2⟩ e=>⟨A9,n9,c9,h1,h2.ext e⟩) VN.ext))) (zzc ?_ (zzc ?_ (zzc ?_ zzn))) ?_
  ·exact Cq
  ·refine zzp fun W hE hS K hK => ?_
   go_simp
   go_at_call 59
   refine zcl (sY R.va _) fun w5 he5=>?_
   exact zzK (hK.out (.agg (ceA (bY R.va))) _ (he5) (rfl))
  ·refine zm [(2, some 52), (5, some 55)] fun env W hE hS hD K hK => ?_
   obtain ⟨h2,h5,-⟩:=zzV hD
   clear hD
   simp only [aR,h2,h5] at hK ⊢
   clear h2 h5
   go_simp
   go_at_call 56
   refine (kB (aV ac) (bY R.va) R.am _ (HCX.out) (HCY.out) HAM.out).mono ?_
   exact CD
  exact Aq
 have HSP:=zh (show cP ac sq L i=[] from by unfold cP;rw [HK.out,hk];rfl)
 obtain ⟨b1,d1,b2,d2,b3,d3,b4,d4,b5,d5,b6,d6⟩:=kd6 hk
 clear hk
 go_enter func29,ntmps29
 go_upto_region 2 with (first | (with_reducible refine aD opP rfl (.tmp 9) rfl b (o+i * 23) rfl R v HV.out hr ?_) | ((with_reducible refine aU opP rfl (.tmp 5) (.tmp 10) rfl jX rfl R v HV.out rfl rfl ?_);intro W4 h4))
 have HX4:=zh (show Ext W W4 from bi)
 have HD:=zh (show Blk W4 X 52 (opA R) from ax)
 have HB:=zh (HB.out.ext HX4.out)
 have HS:=zh (HS.out.ext HX4.out)
 have HEX:=zh (HE.out.trans HX4.out)
 have k0:W4.cell? ⟨X,0,none⟩=some (.int .i64 R.k):=HD.out.cell 0
 clear h4 hr t0 t1 t2 hW
 rw [HXS.out]
 go_wp2_with fail
 go_ret
 exact ⟨_,_,_,rfl,by rw [HSP.out];exact SlG.nil _,HEX.out⟩
theorem aBO (g:Int) (S:StV) (n:Nat):(expN g S n).C.length≤S.C.length+2 * n:=by
 induction n with
 | zero=>exact Nat.le_refl _
 | succ n ih =>
  rw [gM];unfold oV;split
  ·have := mW (dF (bY (n : Int)) cA (cX (expN g S n).C (bY (n : Int)))) (expN g S n).C
   simp only [dF,List.length_cons,List.length_nil] at this ⊢
   omega
  omega
theorem aJm (g:Int) (S:StV) (n:Nat):(expN g S n).K=S.K:=by
 induction n with
 | zero=>rfl
 | succ n ih=>rw [gM];unfold oV;split <;> exact ih
theorem tG {k:Nat} (hk:k≤9):oU ((2:Int) ^ k):=by
 unfold oU
 obtain rfl | rfl | rfl | rfl | rfl | rfl | rfl | rfl | rfl | rfl:k=0 ∨ k=1 ∨ k=2 ∨ k=3 ∨ k=4 ∨ k=5 ∨ k=6 ∨ k=7 ∨ k=8 ∨ k=9:=aa
 all_goals decide
theorem vS {C:List DeR} {c:CeR} (h:∀ d ∈ C,deW d):wfI (cX C c):=by
 cases e:fdC C c with
 | none=>rw [kN e];exact wfS ⟨ae,ae⟩
 | some d=>rw [kN e];exact (h d (aJk e).1).2
structure ExpS (w wr:World) (g:Nat) (z:Int) (S0:StV) (k:Nat) (s:StR):Prop where
 st:StB w wr g s
 res:Blk wr (w.heap.size+1) 30 (ssA ss0)
 v:s.V=expN z S0 k
theorem ExpS.ext {w wr w':World} {g:Nat} {z:Int} {S0:StV} {k:Nat} {s:StR} (h:ExpS w wr g z S0 k s) (e:Ext wr w'):ExpS w w' g z S0 k s:=⟨h.st.ext e,h.res.ext e,h.v⟩
theorem aAN (s0:StR) (z:Int) (w:World) (h:s0.ok w) (hz:wfI z) (hn:s0.n1≤900000∧s0.n2≤1000000∧s0.n3≤1000000∧s0.n4≤1000000):Calls prog 19 #[.agg (ssA s0),.int .i64 z] w (jB w (yE z s0.V)):=by
 have HS0:=zh h
 have HZ:=zh hz
 obtain ⟨W,hW⟩:=gx ((w.alloc (.cells (ssA s0) 30)).alloc (.cells #[.slice none 0 0,.slice none 0 0,.slice none 0 0,.slice none 0 0,.int .i64 0] 30))
 have HB:=zh (show Blk W w.heap.size 30 (ssA s0) from ge)
 have HD:=zh (show Blk W (w.heap.size+1) 30 (ssA ss0) from ag)
 have HE:=zh (show Ext w W from ai)
 have HN:=zh hn
 obtain ⟨q0,q1,q2,q3,q4⟩:=aE HB.out
 clear h hn hz
 go_enter func19,ntmps19
 go_upto_region 2 with (first | (go_at_call 25;refine (dH s0 W (HS0.out.ext HE.out) ⟨du,HN.out.2⟩).mono ?_;rintro e w5 ⟨s1,rfl,ho1,hv1,he1⟩;have HB1:=zh (HB.out.ext he1);have HD1:=zh (HD.out.ext he1);have HO1:=zh (bO ho1 HE.out.size);have HV1:=zh hv1;have HX1:=zh (HE.out.trans he1);clear ho1 hv1 he1) | ((with_reducible refine aH rfl (.tmp 2) (.tmp 8) rfl w.heap.size s1 rfl rfl HB1.out ?_);intro W2 h2))
 have HA0:=zh (show ExpS w W2 w.heap.size z s0.V 0 s1 from by
  exact BI)
 clear h2 HB1 HD1 HO1 HV1 HX1 HB HD q0 q1 q2 q3 q4 hW HE
 go_wp2_with fail
 go_loopw [9] (fun vi wr=>∃ (k:Nat) (s:StR),vi=.int .i64 (k:Int)∧k≤10∧Hid (ExpS w wr w.heap.size z s0.V k s)) (fun i _=>10 - (intOf i).toNat)
 case atStart=>exact ⟨0,s1,rfl,Nat.zero_le _,HA0⟩
 case round =>
  clear HA0
  obtain ⟨k,s,rfl,hk,HA⟩:=hrel
  by_cases hlt:k < 10
  ·have i0 : (0 : Int) ≤ (k : Int) := aa
   have i1:(k:Int) < 10:=aa
   have i2:(k:Int)≤64:=aa
   have HLT:=zh hlt
   obtain ⟨q0,q1,q2,q3,q4⟩:=aE HA.out.st.blk
   go_upto_region 6 with fail
   have HBK:=zh (show wrap64 (2 ^ k)=(2:Int) ^ k from by
    rw [← rB];exact kT (tG aa))
   obtain ⟨B,hB⟩:∃ B:Int,wrap64 (2 ^ k)=B:=⟨_,rfl⟩
   rw [hB] at HBK ⊢
   have HP1:=zh (show (2:Int) ^ k ≠ 0 from Int.ne_of_gt (Int.pow_pos ae))
   have HB1:=zh (show bits .and .i64 z B=if fA z k=true then 2 ^ k else 0 from by rw [HBK.out];exact kQ z aa)
   have HB2:=zh (show bits .and .i64 s.G B=if fA s.G k=true then 2 ^ k else 0 from by rw [HBK.out];exact kQ s.G aa)
   have HB3:=zh (show bits .or .i64 s.G B=nN s.G k from by rw [HBK.out];exact uX HA.out.st.own.g aa)
   clear hB
   by_cases c1:fA z k=true
   ·have b1 : (bits .and .i64 z B != 0) = true := by rw [HB1.out, if_pos c1]; exact bne_iff_ne.2 HP1.out
    by_cases c2:fA s.G k=true
    ·have b2 : (bits .and .i64 s.G B == 0) = false := by rw [HB2.out, if_pos c2]; exact beq_false_of_ne HP1.out
     have HF:=zh (show ExpS w wr w.heap.size z s0.V (k+1) s from ⟨HA.out.st,HA.out.res,by
      rw [gM,← HA.out.v];unfold oV;rw [if_neg (fun h=>by have:=h.2;rw [show s.V.G=s.G from rfl,c2] at this;cases this)]⟩)
     clear c1 c2
     exact CI
    have b2:(bits .and .i64 s.G B == 0)=true:=by rw [HB2.out,if_neg c2];rfl
    have HC1:=zh c1
    have HC2:=zh c2
    clear c1 c2
    go_upto_region 7 with fail
    clear b1 b2
    have HAW:=zh (HA.out.ext ((Ext.refl wr).drew'))
    have HCE:=zh (show ceW (bY (k:Int)) from dP (k:=3) (i:=(k:Int)) (wfS ⟨aa,aa⟩) (wfS ⟨aa,aa⟩))
    have HCP:=zh (show ceW cA from dP (k:=4) (i:=0) (wfS ⟨aa,aa⟩) (wfS ⟨aa,aa⟩))
    have HGW:=zh (show wfI (cX s.C (bY (k:Int))) from vS HA.out.st.own.k1)
    have HBD:=zh (show s.n1≤1000000∧s.n2≤1000000∧s.n3≤1000000∧s.n4≤1000000 from by
     have hv:=HA.out.v
     have h5:=HN.out
     have l1:=HA.out.st.own.l1
     have l2:=HA.out.st.own.l2
     have l3:=HA.out.st.own.l3
     have l4:=HA.out.st.own.l4
     have m1:=HS0.out.s1.len
     have m2:=HS0.out.s2.len
     have m3:=HS0.out.s3.len
     have m4:=HS0.out.s4.len
     have e1:s.C=(expN z s0.V k).C:=congrArg StV.C hv
     have e2:s.Q=s0.Q:=(congrArg StV.Q hv).trans (sL z s0.V k).1
     have e3:s.K=s0.K:=(congrArg StV.K hv).trans (aJm z s0.V k)
     have e4:s.P=s0.P:=(congrArg StV.P hv).trans (sL z s0.V k).2
     have e5:=aBO z s0.V k
     rw [e1] at l1;rw [e2] at l2;rw [e3] at l3;rw [e4] at l4
     have e6:s0.V.C=s0.C:=rfl
     rw [e6] at e5
     omega)
    clear q0 q1 q2 q3 q4
    refine wp_region_held_drew (S:=fun _=>True) ab (trivial) (fun aA=>?_)
    refine zzr [1,5] ?_
    refine zzj (VE 0 (.agg (ssA s)) (VE 2 (.agg (ceA (bY (k:Int)))) (VE 3 (.agg (ceA cA)) (VE 4 (.agg (ssA s)) (VE 6 (.agg (ceA (bY (k:Int)))) (VE 7 (.int .i64 (cX s.C (bY (k:Int)))) (VV 8 (fun v V=>∃ A n c,v=.slice A n c∧SlG V A n c (dF (bY (k:Int)) cA (cX s.C (bY (k:Int))))) (VV 9 (fun v V=>∃ s2,v=.agg (ssA s2)∧OwnS V w.heap.size s2∧s2.V=⟨addL s.C (dF (bY (k:Int)) cA (cX s.C (bY (k:Int)))),s.Q,s.K,s.P,s.G⟩) VN)))))))) [(0,some 25),(2,some 27),(3,some 28),(4,some 29),(6,some 31),(7,some 32),(8,some 33),(9,some 34)] 1 (fun _ _ h _=>h) (ve (ve (ve (ve (ve (ve (VV.ext (fun v w w' ⟨A,n,c,h1,h2⟩ e=>⟨A,n,c,h1,h2.ext e⟩) (VV.ext (fun v w w' ⟨s2,h1,h2,h3⟩ e=>⟨s2,h1,h2.ext e,h3⟩) VN.ext)))))))) (zzc ?_ (zzc ?_ (zzc ?_ (zzc ?_ (zzc ?_ (zzc ?_ (zzc ?_ (zzc ?_ zzn)))))))) ?_
    ·exact AW
    ·exact xw
    ·refine zzp fun W5 hE hS K hK => ?_
     exact Ch
    ·exact AW
    ·exact xw
    ·refine zm [(4, some 29), (6, some 31)] fun env W5 hE hS hD K hK => ?_
     obtain ⟨h4,h6,-⟩:=zzV hD
     clear hD
     simp only [aR,h4,h6] at hK ⊢
     clear h4 h6
     go_simp
     go_at_call 54
     refine zcl (jJ s (bY (k:Int)) _ (HAW.out.st.own.ok.ext hE) HCE.out) fun w5 he5=>?_
     exact zzK (hK.out (.int .i64 (cX s.C (bY (k:Int)))) _ (he5) (rfl))
    ·refine zm [(2, some 27), (3, some 28), (7, some 32)] fun env W5 hE hS hD K hK => ?_
     obtain ⟨h2,h3,h7,-⟩:=zzV hD
     clear hD
     simp only [aR,h2,h3,h7] at hK ⊢
     clear h2 h3 h7
     go_simp
     go_at_call 56
     refine (kB (bY (k:Int)) cA (cX s.C (bY (k:Int))) _ HCE.out HCP.out HGW.out).mono ?_
     exact Cs
    ·refine zm [(0, some 25), (8, some 33)] fun env W5 hE hS hD K hK => ?_
     obtain ⟨h0,h8,-⟩:=zzV hD
     clear hD
     simp only [aR,h0] at hK ⊢
     clear h0
     generalize env 8=x8 at h8 hK ⊢
     obtain ⟨A8,n8,c8,rfl,hs8⟩:=h8
     go_simp
     go_at_call 28
     refine (mK s A8 n8 c8 (dF (bY (k:Int)) cA (cX s.C (bY (k:Int)))) _ (HAW.out.st.own.ok.ext hE) hs8 ⟨by rw [← hs8.len];show 2≤100000;omega,HBD.out⟩).mono ?_
     rintro e w5 ⟨s2,rfl,ho2,hv2,he5⟩
     exact zzK (hK.out (.agg (ssA s2)) _ (he5) (⟨s2,rfl,bO ho2 (Nat.le_trans HAW.out.st.low.size hE.size),hv2⟩))
    intro env W5 hE hS hV
    obtain ⟨h0,h2,h3,h4,h6,h7,h8,h9,-⟩:=zzV hV
    clear hV
    simp only [aR,h0,h2,h3,h4,h6,h7]
    clear h0 h2 h3 h4 h6 h7
    generalize env 8=x8 at h8 ⊢
    generalize env 9=x9 at h9 ⊢
    obtain ⟨A8,n8,c8,rfl,hs8⟩:=h8
    obtain ⟨s2,rfl,ho2,hv2⟩:=h9
    clear hs8
    have aA:=hS
    refine za 10 (fun K hK=>?_)
    (refine bQ rfl (.tmp 2) (.tmp 34) dp w.heap.size (.agg (ssA s2)) s2 rfl dp dp (HAW.out.st.blk.ext hE) ?_;intro W6 h6)
    refine hK.out _ _ (trivial) (fun aA=>?_)
    clear hK K
    try simp only [bB]
    refine wpd ?_
    have HS2:=zh (show StB w W6 w.heap.size s2 from by rw [← h6.out.1];exact StB.start ho2 (HAW.out.st.blk.ext hE) (HAW.out.st.low.trans hE) (Nat.le_refl _))
    have HR2:=zh (show Blk W6 (w.heap.size+1) 30 (ssA ss0) from by rw [← h6.out.1];exact (HAW.out.res.ext hE).grown (aB _ _ _ _) (fun e=>dq))
    have HV2:=zh hv2
    clear h6 ho2 hv2 hE hS aA HAW
    obtain ⟨q0,q1,q2,q3,q4⟩:=aE HS2.out.blk
    have e4:s2.G=s.G:=congrArg StV.G HV2.out
    rw [e4] at q4
    have f4:=HS2.out.blk.frozen 4
    have HST:=zh (HS2.out.guilty (nN s.G k) (wF HA.out.st.own.g aa))
    have HF:=zh (show ExpS w (W6.setCell ⟨w.heap.size,4,none⟩ (.int .i64 (nN s.G k))) w.heap.size z s0.V (k+1) { s2 with G:=nN s.G k } from ⟨HST.out,HR2.out.far (p:=⟨w.heap.size,4,none⟩) dr _,by
     rw [gM,← HA.out.v];unfold oV
     have c2':fA s.V.G k=false:=by show fA s.G k=false;simpa using HC2.out
     rw [if_pos ⟨HC1.out,c2'⟩]
     have hv:=HV2.out
     unfold StR.V at hv ⊢
     injection hv with e1 e2 e3 e4 e5
     simp only [e1,e2,e3,e4]⟩)
    rw [← HB3.out] at HF
    clear HST HS2 HR2 e4
    go_wp2_with fail
    go_roundw
    case rel=>exact ⟨k+1,_,ar,hlt,HF⟩
    case measure=>simp [intOf];omega
   have b1:(bits .and .i64 z B != 0)=false:=by rw [HB1.out,if_neg c1];rfl
   have HF:=zh (show ExpS w wr w.heap.size z s0.V (k+1) s from ⟨HA.out.st,HA.out.res,by
    rw [gM,← HA.out.v];unfold oV;rw [if_neg (fun h=>c1 h.1)]⟩)
   clear c1
   exact CI
  obtain rfl:k=10:=aa
  have i1:¬ (10:Int) < 10:=aa
  obtain ⟨q0,q1,q2,q3,q4⟩:=aE HA.out.st.blk
  go_wp2_with (first | ((with_reducible refine aH rfl (.tmp 4) (.tmp 41) rfl (w.heap.size+1) s rfl rfl HA.out.res ?_);intro W9 h9))
  have hst:Blk W9 (w.heap.size+1) 30 (ssA s):=jm
  have HOW:=zh (show OwnS W9 w.heap.size s from by
   exact CP)
  have HXE:=zh (show Ext w W9 from by rw [← h9.out];exact Below.setCells' HA.out.st.low (Nat.le_succ _) _ _)
  clear h9
  exact bodyPost_ret (v:=.agg (ssA s)) (fP rfl _ _ (w.heap.size+1) _ rfl (run_loadVar_row _ _ _ _ _ (0,0) _ hst underlying30 rfl ab)) rfl ⟨s,rfl,HOW.out,HA.out.v,HXE.out⟩
structure StpR where
 gN:Int
 gZ:Int
 B1:Option Addr
 m1:Nat
 d1:Nat
 B2:Option Addr
 m2:Nat
 d2:Nat
 B3:Option Addr
 m3:Nat
 d3:Nat
 s:StR
 ac:Int
 sq:Int
 A:Option Addr
 n:Nat
 c:Nat
 ht:Int
abbrev stpA (x:StpR):Array Value:=#[.int .i64 x.gN,.int .i64 x.gZ,.slice x.B1 x.m1 x.d1,.slice x.B2 x.m2 x.d2,.slice x.B3 x.m3 x.d3,.slice x.s.A1 x.s.n1 x.s.c1,.slice x.s.A2 x.s.n2 x.s.c2,.slice x.s.A3 x.s.n3 x.s.c3,.slice x.s.A4 x.s.n4 x.s.c4,.int .i64 x.s.G,.int .i64 x.ac,.int .i64 x.sq,.slice x.A x.n x.c,.int .i64 x.ht]
def aLR (x:StpR):List Value:=(stpA x).toList
theorem aIg (x:StpR):∀ u ∈ aLR x,u.oneCell'=true:=by
 intro u hu
 simp only [aLR,List.mem_cons,List.not_mem_nil,or_false] at hu
 rcases hu with rfl | rfl | rfl | rfl | rfl | rfl | rfl | rfl | rfl | rfl | rfl | rfl | rfl | rfl <;> rfl
instance:RowT StpR where
 sz:=14
 z:=⟨0,0,none,0,0,none,0,0,none,0,0,ss0,0,0,none,0,0,0⟩
 enc:=aLR
 ok _ _:=True
 pos:=by decide
 len _:=rfl
 one:=aIg
 ext _ _ _ h _:=h
theorem iQ:RowP StpR 70 stpA:=⟨fun _=>rfl,by kernel_rfl,_,underlying70,rfl⟩
theorem mI {w:World} {g:Nat} {t:TypeId} {x:StpR} (h:Blk w g t (stpA x)):w.cell? ⟨g,5,none⟩=some (.slice x.s.A1 x.s.n1 x.s.c1)∧w.cell? ⟨g,6,none⟩=some (.slice x.s.A2 x.s.n2 x.s.c2)∧w.cell? ⟨g,7,none⟩=some (.slice x.s.A3 x.s.n3 x.s.c3)∧w.cell? ⟨g,8,none⟩=some (.slice x.s.A4 x.s.n4 x.s.c4)∧w.cell? ⟨g,9,none⟩=some (.int .i64 x.s.G) :=
 ⟨h.cell 5,h.cell 6,h.cell 7,h.cell 8,h.cell 9⟩
theorem sK (x:StpR) (i:Nat) (w:World) (hi:i≤9):Calls prog 69 #[.agg (stpA x),.int .i64 (i:Int)] w fun e w'=>e=.returned (.bool (fA x.s.G i))∧Ext w w':=by
 have HP:=zh (Blk.new w 70 (stpA x))
 have HX:=zh ((Ext.refl w).alloc' (.cells (stpA x) 70))
 have i0:(0:Int)≤(i:Int):=aa
 have i1:(i:Int)≤64:=aa
 obtain ⟨B,hB⟩:∃ B:Int,IntKind.i64.wrap (2 ^ i)=B:=⟨_,rfl⟩
 have HBB:=zh hB
 have HB2:=zh (show B=(2:Int) ^ i from by rw [← hB];exact kT (tG hi))
 have HB1:=zh (show (bits .and .i64 x.s.G B != 0)=fA x.s.G i from by
  rw [HB2.out,kQ x.s.G hi]
  by_cases h:fA x.s.G i=true
  ·rw [if_pos h,h];exact bne_iff_ne.2 (Int.ne_of_gt (Int.pow_pos ae))
  rw [if_neg h];simp only [Bool.not_eq_true] at h;rw [h];rfl)
 obtain ⟨b,hb⟩:=gx (bits .and .i64 x.s.G B != 0)
 rw [hb] at HB1
 clear hB
 obtain ⟨W,hW⟩:=gx (w.alloc (.cells (stpA x) 70))
 rw [hW] at HP HX
 go_enter func69,ntmps69
 go_upto_region 1 with fail
 refine wp_region_held_drew (S:=fun V=>Blk V w.heap.size 70 (stpA x)) ab (HP.out.drew) (fun aA=>?_)
 refine zz0 [0,1,2,3] ?_;repeat first | refine zz1 ?_ (hy:=by intro W aP;obtain ⟨q0,q1,q2,q3,q4⟩:=mI aP;go_simp <;> with_reducible rfl) | refine zz2 ?_ | refine zz9 ?_
 refine zu 4 (v:=.int .i64 B) aA ?_ (hy:=mm)
 refine zt 5 aA ?_
 refine zu 6 (v:=.bool b) aA ?_ (hy:=by refine .inl ⟨dp,fun V _=>?_⟩;rw [← hb];go_simp;try rfl)
 refine zt 7 aA ?_
 refine wpd ?_
 have HXX:=zh (HX.out.trans ((Ext.refl _).drew'))
 clear aA
 go_wp2_with fail
 go_ret
 exact ⟨by rw [HB1.out];rfl,HXX.out⟩
theorem tP (x:StpR) (n:Int) (w:World) (hs:x.s.ok w) (hac:wfI x.ac):Calls prog 70 #[.agg (stpA x),.int .i64 n] w fun e w'=>e=.returned (.int .i64 (if cX x.s.C (aV x.ac) < n then 100 else 0))∧Ext w w':=by
 have HS:=zh hs
 have HC:=zh (show ceW (aV x.ac) from dP (k:=1) (wfS ⟨aa,aa⟩) hac)
 have HP:=zh (Blk.new w 70 (stpA x))
 have HX:=zh ((Ext.refl w).alloc' (.cells (stpA x) 70))
 obtain ⟨W,hW⟩:=gx (w.alloc (.cells (stpA x) 70))
 rw [hW] at HP HX
 clear hs hac
 by_cases hlt:cX x.s.C (aV x.ac) < n
 ·rw [if_pos hlt]
  exact ua
 rw [if_neg hlt]
 exact ua
theorem jN (x:StpR) (R:OpR) (w:World) (hs:x.s.ok w):Calls prog 125 #[.agg (stpA x),.agg (opA R)] w fun e w'=>e=.returned (.bool (R.am == cX x.s.C (bZ R.lk)))∧Ext w w':=by
 have HS:=zh hs
 have HC:=zh (show ceW (bZ R.lk) from dP (k:=2) (i:=0) (wfS ⟨aa,aa⟩) (wfS ⟨aa,aa⟩))
 obtain ⟨W,hW⟩:=gx ((w.alloc (.cells (stpA x) 70)).alloc (.cells (opA R) 52))
 have HP:=zh (show Blk W w.heap.size 70 (stpA x) from dj)
 have HO:=zh (show Blk W (w.heap.size+1) 52 (opA R) from ag)
 have HX:=zh (show Ext w W from ai)
 clear hs
 go_enter func125,ntmps125
 go_upto_region 1 with fail
 refine wp_region_held_drew (S:=fun V=>Blk V w.heap.size 70 (stpA x)∧Blk V (w.heap.size+1) 52 (opA R)∧Ext w V) ab (⟨HP.out.drew,HO.out.drew,HX.out.trans ((Ext.refl _).drew')⟩) (fun aA=>?_)
 refine zz0 [0,1,2,3,4] ?_;repeat first | refine zz1 ?_ (hy:=by intro W aP;obtain ⟨q0,q1,q2,q3,q4⟩:=mI aP.1;have a0:=aP.2.1.cell 2;go_simp <;> with_reducible rfl) | refine zz2 ?_ | refine zz9 ?_
 refine zu 5 (v:=.agg (nmc R.lk)) aA ?_ (hy:=by exact aG nmP dp (.tmp 9) rfl (w.heap.size+1) 5 rfl R.lk _ rfl (fun V h=>kJ h.2.1))
 refine zzj (VE 6 (.agg (ceA (bZ R.lk))) (VE 7 (.int .i64 (cX x.s.C (bZ R.lk))) VN)) [(6,some 11),(7,some 12)] 2 (fun V V' h e=>⟨h.1.ext e,h.2.1.ext e,h.2.2.trans e⟩) (ve (ve VN.ext)) (zzc ?_ (zzc ?_ zzn)) ?_
 ·exact BB
 ·refine zm [(6, some 11)] fun env W hE hS hD K hK => ?_
  obtain ⟨h6,-⟩:=zzV hD
  clear hD
  simp only [aR,h6] at hK ⊢
  clear h6
  go_simp
  go_at_call 54
  refine zcl (jJ x.s (bZ R.lk) _ (HS.out.ext hS.2.2) HC.out) fun w5 he5=>?_
  exact zzK (hK.out (.int .i64 (cX x.s.C (bZ R.lk))) _ (he5) (rfl))
 intro env W hE hS hV
 obtain ⟨h6,h7,-⟩:=zzV hV
 clear hV
 simp only [aR,h6,h7]
 clear h6 h7
 have aA:=hS
 refine zzr [8,9] ?_
 refine wpd ?_
 have HXX:=zh aA.2.2
 clear aA hE hS
 go_wp2_with fail
 go_ret
 exact ⟨rfl,HXX.out⟩
theorem rK (x:StpR) (R:OpR) (w:World) (hs:x.s.ok w):Calls prog 124 #[.agg (stpA x),.agg (opA R)] w fun e w'=>e=.returned (.tuple #[.agg (lkA (lkO (fdK x.s.K R.lk))),.int .i64 (if (fdK x.s.K R.lk).isSome=true then 0 else 6)])∧Ext w w':=by
 obtain ⟨W,hW⟩:=gx (((w.alloc (.cells (stpA x) 70)).alloc (.cells (opA R) 52)).alloc (.cells lk0 81))
 have HP:=zh (show Blk W w.heap.size 70 (stpA x) from by rw [← hW];exact ((Blk.new w 70 (stpA x)).alloc _).alloc _)
 have HO:=zh (show Blk W (w.heap.size+1) 52 (opA R) from aw)
 have HR:=zh (show Blk W (w.heap.size+2) 81 lk0 from ag)
 have HX:=zh (show Ext w W from bc)
 have HF:=zh (aEz x.s R.lk W (hs.ext HX.out))
 obtain ⟨q0,q1,q2,q3,q4⟩:=mI HP.out
 have r5:W.rangeAt (w.heap.size+1) 5 (RowT.enc R.lk):=kJ HO.out
 obtain ⟨l,hl⟩:=gx (lkO (fdK x.s.K R.lk))
 obtain ⟨b,hb⟩:=gx ((fdK x.s.K R.lk).isSome)
 obtain ⟨v,hv⟩:=gx (Value.agg (lkA l))
 have HV:=zh hv
 rw [hl,hb,hv] at HF
 rw [hl,hb,hv]
 clear hl hb hv hs
 cases b
 ·go_enter func124, ntmps124
  go_wp2_with (first | (with_reducible refine aD nmP rfl (.tmp 11) rfl (w.heap.size+1) 5 rfl R.lk _ rfl r5 ?_) | fail "A")
  refine zcl HF.out fun w5 he5=>?_
  have HXX:=zh (HX.out.trans he5)
  have HR5:=zh (HR.out.ext he5)
  clear he5 q0 q1 q2 q3 q4 r5
  obtain ⟨X,hX⟩:=gx (w5.heap.size)
  have HXS:=zh hX
  clear hX
  go_upto_region 2 with ((with_reducible refine aU lkP rfl (.tmp 6) (.tmp 14) rfl lk0 rfl l v HV.out rfl rfl ?_);intro W6 h6)
  have HX6:=zh (show Ext w5 W6 from a8)
  have HB6:=zh (show Blk W6 X 81 (lkA l) from ba)
  have HR6:=zh (HR5.out.ext HX6.out)
  have ht:W6.there (w.heap.size+2) 0 (RowT.sz LkR):=aI HR6.out
  have r6:W6.rangeAt X 0 (RowT.enc l):=aC HB6.out
  rw [HXS.out]
  clear h6
  go_wp2_with (first | (with_reducible refine aD lkP rfl (.tmp 6) rfl X 0 rfl l v HV.out r6 ?_) | (with_reducible refine bX lkP rfl (.tmp 4) (.tmp 18) rfl (w.heap.size+2) 0 rfl l v HV.out rfl ht ?_))
  exact wy
 go_enter func124,ntmps124
 go_wp2_with (first | (with_reducible refine aD nmP rfl (.tmp 11) rfl (w.heap.size+1) 5 rfl R.lk _ rfl r5 ?_) | fail "A")
 refine zcl HF.out fun w5 he5=>?_
 have HXX:=zh (HX.out.trans he5)
 have HR5:=zh (HR.out.ext he5)
 clear he5 q0 q1 q2 q3 q4 r5
 obtain ⟨X,hX⟩:=gx (w5.heap.size)
 have HXS:=zh hX
 clear hX
 go_upto_region 2 with ((with_reducible refine aU lkP rfl (.tmp 6) (.tmp 14) rfl lk0 rfl l v HV.out rfl rfl ?_);intro W6 h6)
 have HX6:=zh (show Ext w5 W6 from a8)
 have HB6:=zh (show Blk W6 X 81 (lkA l) from ba)
 have HR6:=zh (HR5.out.ext HX6.out)
 have ht:W6.there (w.heap.size+2) 0 (RowT.sz LkR):=aI HR6.out
 have r6:W6.rangeAt X 0 (RowT.enc l):=aC HB6.out
 rw [HXS.out]
 clear h6
 go_wp2_with (first | (with_reducible refine aD lkP rfl (.tmp 6) rfl X 0 rfl l v HV.out r6 ?_) | (with_reducible refine bX lkP rfl (.tmp 4) (.tmp 19) rfl (w.heap.size+2) 0 rfl l v HV.out rfl ht ?_))
 exact wy
end
end Go.Proofs.YtgmnmjeccfnmbaaGreat
