/- The reference's does. -/
import Derived.Test.YtohmmcahpakokaaGreatH42
import Derived.Test.YtohmmcahpakokaaGreatH47
set_option maxRecDepth 100000
set_option maxHeartbeats 8000000
set_option linter.unusedVariables false
set_option linter.unusedSimpArgs false
namespace Go.Proofs.YtohmmcahpakokaaGreat
section
open Go.RowKit
attribute [local go_sem ↓] Go.wp_at_zero Go.wp_at_succ
theorem aEv (s0:StR) (ac sq:Int) (A:Option Addr) (n c:Nat) (L:List OpR) (i:Nat) (w:World) (h:s0.ok w) (hS:SlO w A n c L) (hi:i < n) (hv:vTx ac sq L=true) (hn:s0.n1≤800000∧s0.n2≤1000000∧s0.n3≤1000000∧s0.n4≤1000000) :
  Calls Tryz.prog 61 #[.agg (ssA s0),.agg (txA ac sq A n c),.int .i64 (i:Int)] w (gW w (doO ac sq L s0.V i)):=by
 have HS0:=zh h
 have HN:=zh hn
 have HIN:=zh hi
 have HVT:=zh hv
 obtain ⟨⟨q1,q2,q3,q4,q5,q6⟩,hop⟩:=dT hv
 have hLEN:=hS.len
 have hle:=hS.le
 have hcap:=hS.cap
 obtain ⟨hkk,hto,ham,hva,hul,-,hvb,-,-⟩:=kJ (hop i (by omega))
 have hac:wfI ac:=wfS ⟨by omega,by omega⟩
 have HS:=zh hS
 obtain ⟨W,hW⟩:∃ W,((w.alloc (.cells (ssA s0) 44)).alloc (.cells (txA ac sq A n c) 24)).alloc (.cells #[.slice none 0 0,.slice none 0 0,.slice none 0 0,.slice none 0 0,.int .i64 0] 44)=W:=⟨_,rfl⟩
 have HB0:=zh (show Blk W w.heap.size 44 (ssA s0) from by rw [← hW];exact ((Blk.new w 44 (ssA s0)).alloc _).alloc _)
 have HT0:=zh (show Blk W (w.heap.size+1) 24 (txA ac sq A n c) from by rw [← hW];exact Blk.alloc (Blk.newAt _ _ _ _ (by simp)) _)
 have HR0:=zh (show Blk W (w.heap.size+2) 44 (ssA ss0) from by rw [← hW];exact Blk.newAt _ _ _ _ (by simp))
 have HE:=zh (show Ext w W from by rw [← hW];exact (((Ext.refl w).alloc' _).alloc' _).alloc' _)
 have HX9:W.heap.size=w.heap.size+3:=by rw [← hW];simp
 obtain ⟨b,o,hA,hrow,-⟩:=(HS.out.ext HE.out).g.at (by omega)
 subst hA
 have t0:=HT0.out.cell 0
 have t1:=HT0.out.cell 1
 have t2:=HT0.out.cell 2
 obtain ⟨R,hR⟩:∃ R,bM L i=R:=⟨_,rfl⟩
 rw [hR] at hkk hto ham hva hul hvb
 have HK:=zh hR
 have hr:W.rangeAt b (o+i * 23) (RowT.enc R):=by rw [← hR,mR];exact cP hrow (by omega)
 have HLW:=zh (show lkW (⟨bA ac sq L (i:Int),R.hs,ac,R.tO,R.ul⟩:LkR) from ⟨hac,hto,hul⟩)
 obtain ⟨B,hB⟩:∃ B:Int,(2:Int) ^ R.va.toNat=B:=⟨_,rfl⟩
 have HW2:=zh hB
 have HVW:=zh (show wfI B from by rw [← hB];exact eZ.2 (rA (by omega)))
 have HBIT:=zh (fun (V:World)=>show Calls Tryz.prog 122 #[.int .i64 R.va] V fun e w'=>e=.returned (.int .i64 B)∧Ext V w' from by
  have h1:=aBb R.va.toNat V (by omega)
  rw [show ((R.va.toNat:Nat):Int)=R.va by omega,hB] at h1
  exact h1)
 clear hB
 have i0:(0:Int)≤(i:Int):=by omega
 have i1:(i:Int) < (n:Int):=by omega
 obtain ⟨v,hv⟩:∃ v,Value.agg (opA R)=v:=⟨_,rfl⟩
 have HV:=zh hv
 obtain ⟨X,hX⟩:∃ X,W.heap.size=X:=⟨_,rfl⟩
 have HXS:=zh hX
 have HX0:=zh (show X=w.heap.size+3 from by omega)
 clear hrow hR hv hX hop hLEN hS ham hul hva hto hac hvb q1 q2 q3 q4 q5 q6 HX9 h hn
 go_enter Tryz.func61,Tryz.ntmps61
 go_upto_region 2 with (first | (with_reducible refine aC opP rfl (.tmp 11) rfl b (o+i * 23) rfl R v HV.out hr ?_) | ((with_reducible refine aS opP rfl (.tmp 7) (.tmp 12) rfl jD rfl R v HV.out rfl rfl ?_);intro W4 h4))
 have HX4:=zh (show Ext W W4 from by rw [← h4.out];exact (Ext.refl W).alloc' _)
 have HD:=zh (show Blk W4 X 69 (opA R) from by rw [← h4.out,← HXS.out];exact Blk.new W 69 (opA R))
 rw [HXS.out]
 have HB6:=zh ((HB0.out.ext HX4.out).drew)
 have HT6:=zh ((HT0.out.ext HX4.out).drew)
 have HR6:=zh ((HR0.out.ext HX4.out).drew)
 have HD6:=zh HD.out.drew
 have HX6:=zh ((HE.out.trans HX4.out).trans ((Ext.refl W4).drew'))
 clear h4 hr t0 t1 t2 hW HB0 HT0 HR0 HE HX4 HD
 refine wp_region_held_drew (S:=fun _=>True) (by kernel_rfl) (trivial) (fun aA=>?_)
 refine zt 2 aA ?_
 refine zzj (VE 0 (.agg (ssA s0)) (VE 1 (.agg (txA ac sq (some ⟨b,o,none⟩) n c)) (VV 3 (fun v V=>∃ A5 n5 c5,v=.slice A5 n5 c5∧SlG V A5 n5 c5 (cJ ac sq L i)) (VV 4 (fun v V=>∃ s2,v=.agg (ssA s2)∧OwnS V w.heap.size s2∧s2.V=lE s0.V (cJ ac sq L i)) VN)))) [(0,some 13),(1,some 14),(3,some 16),(4,some 17)] 1 (fun _ _ h _=>h) (ve (ve (VV.ext (fun v w w' ⟨A,n,c,h1,h2⟩ e=>⟨A,n,c,h1,h2.ext e⟩) (VV.ext (fun v w w' ⟨s2,h1,h2,h3⟩ e=>⟨s2,h1,h2.ext e,h3⟩) VN.ext)))) (zzc ?_ (zzc ?_ (zzc ?_ (zzc ?_ zzn)))) ?_
 ·refine zzp fun W5 hE hS K hK => ?_
  obtain ⟨q0,q1,q2,q3,q4⟩:=aE (HB6.out.ext hE)
  go_simp
  exact zzF hK (.agg (ssA s0))
 ·refine zzp fun W5 hE hS K hK => ?_
  have t0:=(HT6.out.ext hE).cell 0
  have t1:=(HT6.out.ext hE).cell 1
  have t2:=(HT6.out.ext hE).cell 2
  go_simp
  exact zzF hK (.agg (txA ac sq (some ⟨b,o,none⟩) n c))
 ·refine zm [(1, some 14)] fun env W5 hE hS hD K hK => ?_
  obtain ⟨h1,-⟩:=zzV hD
  clear hD
  simp only [aJ,h1] at hK ⊢
  clear h1
  go_simp
  go_at_call 118
  refine (aCC ac sq (some ⟨b,o,none⟩) n c L i _ (HS.out.ext (HX6.out.trans hE)) HIN.out HVT.out).mono ?_
  rintro e w5 ⟨A5,n5,c5,rfl,hs5,he5⟩
  exact zzK (hK.out (.slice A5 n5 c5) _ (he5) (⟨A5,n5,c5,rfl,hs5⟩))
 ·refine zm [(0, some 13), (3, some 16)] fun env W5 hE hS hD K hK => ?_
  obtain ⟨h0,h3,-⟩:=zzV hD
  clear hD
  simp only [aJ,h0] at hK ⊢
  clear h0
  generalize env 3=x3 at h3 hK ⊢
  obtain ⟨A8,n8,c8,rfl,hs8⟩:=h3
  go_simp
  go_at_call 117
  refine (aFO s0 A8 n8 c8 (cJ ac sq L i) _ (HS0.out.ext (HX6.out.trans hE)) hs8 ⟨by have:=HN.out;omega,by have:=HN.out;omega⟩ (by have h7:=jB ac sq L i;rw [hs8.len] at h7;omega)).mono ?_
  rintro e w5 ⟨s2,rfl,ho2,hv2,he5⟩
  exact zzK (hK.out (.agg (ssA s2)) _ (he5) (⟨s2,rfl,aX ho2 (HX6.out.trans hE).size,hv2⟩))
 intro env W5 hE hS hV
 obtain ⟨h0,h1,h3,h4,-⟩:=zzV hV
 clear hV
 simp only [aJ,h0,h1]
 clear h0
 clear h1
 generalize env 3=x3 at h3 ⊢
 generalize env 4=x4 at h4 ⊢
 obtain ⟨A8,n8,c8,rfl,hs8⟩:=h3
 obtain ⟨s2,rfl,ho2,hv2⟩:=h4
 clear hs8
 have aA:=hS
 refine za 5 (fun K hK=>?_)
 (refine bE rfl (.tmp 3) (.tmp 17) (by rfl) w.heap.size (.agg (ssA s2)) s2 rfl (by rfl) (by rfl) (HB6.out.ext hE) ?_;intro W9 h9)
 refine hK.out _ _ (trivial) (fun aA=>?_)
 clear hK K
 try simp only [bH]
 refine wpAnyH_done (by kernel_rfl) ?_ _
 have HV1:=zh hv2
 have HOW:=zh (show OwnS W9 w.heap.size s2 from by rw [← h9.out.1];exact ho2.kept (aB _ _ _ _) (HB6.out.ext hE) (by decide) (by decide) (by decide) (by decide))
 have HB7:=zh h9.out.2
 have HT7:=zh (show Blk W9 (w.heap.size+1) 24 (txA ac sq (some ⟨b,o,none⟩) n c) from by rw [← h9.out.1];exact (HT6.out.ext hE).grown (aB _ _ _ _) (fun e=>by injection e;omega))
 have HZ7:=zh (show Blk W9 (w.heap.size+2) 44 (ssA ss0) from by rw [← h9.out.1];exact (HR6.out.ext hE).grown (aB _ _ _ _) (fun e=>by injection e;omega))
 have HR7:=zh (show Blk W9 X 69 (opA R) from by rw [← h9.out.1];exact (HD6.out.ext hE).grown (aB _ _ _ _) (fun e=>by injection e;have:=HX0.out;omega))
 have HX7:=zh (show Ext w W9 from by rw [← h9.out.1];exact Below.setCells' (HX6.out.trans hE) (Nat.le_refl _) _ _)
 have HN8:=zh (show s2.n1≤900000∧s2.n2≤1000000∧s2.n3≤1000000∧s2.n4≤1000000 from by
  have e1:s2.C=addL s0.C (cJ ac sq L i):=congrArg StV.C hv2
  have e2:s2.Q=s0.Q:=congrArg StV.Q hv2
  have e3:s2.K=s0.K:=congrArg StV.K hv2
  have e4:s2.P=s0.P:=congrArg StV.P hv2
  have m1:=ho2.l1;have m2:=ho2.l2;have m3:=ho2.l3;have m4:=ho2.l4
  have l1:=HS0.out.s1.len;have l2:=HS0.out.s2.len;have l3:=HS0.out.s3.len;have l4:=HS0.out.s4.len
  rw [e1] at m1;rw [e2] at m2;rw [e3] at m3;rw [e4] at m4
  have h5:=lF (cJ ac sq L i) s0.C
  have h6:=jB ac sq L i
  have:=HN.out
  omega)
 have HN9:=zh (show s2.n1≤1000000∧s2.n2≤1000000∧s2.n3≤1000000∧s2.n4≤1000000 from by have:=HN8.out;omega)
 clear h9 ho2 hv2 hE hS aA HB6 HT6 HR6 HD6 HX6
 obtain ⟨s1,hs1⟩:∃ s1,s1=s2:=⟨_,rfl⟩
 subst hs1
 obtain ⟨W7,hW7⟩:∃ W7,W7=W9:=⟨_,rfl⟩
 subst hW7
 have HD7:=zh ((Ext.refl W7).drew')
 have k0:W7.cell? ⟨X,0,none⟩=some (.int .i64 R.k):=HR7.out.cell 0
 rcases (by omega:R.k=1 ∨ R.k=2 ∨ R.k=3 ∨ R.k=4 ∨ R.k=5 ∨ R.k=6) with hk | hk | hk | hk | hk | hk
 ·have HSP:=zh (show s1.V=doO ac sq L s0.V i from by
   have hh:doO ac sq L s0.V i=gA ac sq L s1.V i:=by rw [HV1.out];rfl
   rw [hh]
   unfold gA
   rw [HK.out,hk];rfl)
  have b1:(R.k == 1)=true:=by rw [hk];rfl
  have d1:decide (R.k=1)=true:=by rw [hk];rfl
  have b2:(R.k == 2)=false:=by rw [hk];rfl
  have d2:decide (R.k=2)=false:=by rw [hk];rfl
  have b3:(R.k == 3)=false:=by rw [hk];rfl
  have d3:decide (R.k=3)=false:=by rw [hk];rfl
  have b4:(R.k == 4)=false:=by rw [hk];rfl
  have d4:decide (R.k=4)=false:=by rw [hk];rfl
  have b5:(R.k == 5)=false:=by rw [hk];rfl
  have d5:decide (R.k=5)=false:=by rw [hk];rfl
  have b6:(R.k == 6)=false:=by rw [hk];rfl
  have d6:decide (R.k=6)=false:=by rw [hk];rfl
  clear hk
  obtain ⟨q0,q1,q2,q3,q4⟩:=aE HB7.out
  go_wp2_with (first | ((with_reducible refine aF rfl (.tmp 6) (.tmp 50) rfl (w.heap.size+2) s1 rfl rfl HZ7.out ?_);intro W9 h9))
  have hst:Blk W9 (w.heap.size+2) 44 (ssA s1):=by rw [← h9.out];exact aQ (ds:=ssA s1) HZ7.out rfl
  have HOW2:=zh (show OwnS W9 w.heap.size s1 from by
   rw [← h9.out]
   exact HOW.out.kept (aB _ _ _ _) HZ7.out (by decide) (by decide) (by decide) (by decide))
  have HXE:=zh (show Ext w W9 from by rw [← h9.out];exact Below.setCells' HX7.out (by omega) _ _)
  clear h9
  exact bodyPost_ret (v:=.agg (ssA s1)) (eI rfl _ _ (w.heap.size+2) _ rfl (run_loadVar_row _ _ _ _ _ (0,0) _ hst Tryz.underlying44 rfl (by kernel_rfl))) rfl ⟨s1,rfl,HOW2.out,by rw [HSP.out],HXE.out⟩
 ·have HSP:=zh (show (⟨s1.C,s1.Q,eT s1.K (⟨(bA ac sq L (i:Int)),R.hs,ac,R.tO,R.ul⟩:LkR),s1.P,s1.G⟩:StV)=doO ac sq L s0.V i from by
   have hh:doO ac sq L s0.V i=gA ac sq L s1.V i:=by rw [HV1.out];rfl
   rw [hh]
   unfold gA
   rw [HK.out,hk];rfl)
  have b1:(R.k == 1)=false:=by rw [hk];rfl
  have d1:decide (R.k=1)=false:=by rw [hk];rfl
  have b2:(R.k == 2)=true:=by rw [hk];rfl
  have d2:decide (R.k=2)=true:=by rw [hk];rfl
  have b3:(R.k == 3)=false:=by rw [hk];rfl
  have d3:decide (R.k=3)=false:=by rw [hk];rfl
  have b4:(R.k == 4)=false:=by rw [hk];rfl
  have d4:decide (R.k=4)=false:=by rw [hk];rfl
  have b5:(R.k == 5)=false:=by rw [hk];rfl
  have d5:decide (R.k=5)=false:=by rw [hk];rfl
  have b6:(R.k == 6)=false:=by rw [hk];rfl
  have d6:decide (R.k=6)=false:=by rw [hk];rfl
  clear hk
  go_upto_region 5 with fail
  refine wp_region_held_drew (S:=fun V=>Blk V w.heap.size 44 (ssA s1)∧Blk V (w.heap.size+1) 24 (txA ac sq (some ⟨b,o,none⟩) n c)∧Blk V X 69 (opA R)∧(∃ z,Blk V (w.heap.size+2) 44 (ssA z))∧Ext w V) (by kernel_rfl) (⟨HB7.out.drew,HT7.out.drew,HR7.out.drew,⟨_,HZ7.out.drew⟩,HX7.out.trans ((Ext.refl _).drew')⟩) (fun aA=>?_)
  refine zz0 [0,1,2,4] ?_;repeat first | refine zz1 ?_ (hy:=by intro W aI;obtain ⟨q0,q1,q2,q3,q4⟩:=aE aI.1;have t0:=aI.2.1.cell 0;have t1:=aI.2.1.cell 1;have t2:=aI.2.1.cell 2;have p0:=aI.2.2.1.cell 0;have p1:=aI.2.2.1.cell 1;have p2:=aI.2.2.1.cell 2;have p3:=aI.2.2.1.cell 3;have p4:=aI.2.2.1.cell 4;go_simp <;> with_reducible rfl) | refine zz2 ?_ | refine zz9 ?_
  refine zu 5 (v:=.agg (nmc R.hs)) aA ?_ (hy:=by exact aG nmP (by rfl) (.tmp 26) rfl X 13 rfl R.hs _ rfl (fun V h=>aGh h.2.2.1))
  refine zz0 [6,7,8,9,10,11] ?_;repeat first | refine zz1 ?_ (hy:=by intro W aI;obtain ⟨q0,q1,q2,q3,q4⟩:=aE aI.1;have t0:=aI.2.1.cell 0;have t1:=aI.2.1.cell 1;have t2:=aI.2.1.cell 2;have p0:=aI.2.2.1.cell 0;have p1:=aI.2.2.1.cell 1;have p2:=aI.2.2.1.cell 2;have p3:=aI.2.2.1.cell 3;have p4:=aI.2.2.1.cell 4;go_simp <;> with_reducible rfl) | refine zz2 ?_ | refine zz9 ?_
  refine bR (VV 3 (fun v V=>v=.agg (nmc (bA ac sq L (i:Int)))) (VV 12 (fun v V=>v=.agg (lkA (⟨(bA ac sq L (i:Int)),R.hs,ac,R.tO,R.ul⟩:LkR))) (VV 13 (fun v V=>∃ s2,v=.agg (ssA s2)∧OwnS V w.heap.size s2∧s2.V=⟨s1.C,s1.Q,eT s1.K (⟨(bA ac sq L (i:Int)),R.hs,ac,R.tO,R.ul⟩:LkR),s1.P,s1.G⟩) (VN)))) [(3,some 25),(12,some 34),(13,some 35)] (fuel:=1) (by kernel_rfl) (by kernel_rfl) (fun V V' h e=>⟨h.1.ext e,h.2.1.ext e,h.2.2.1.ext e,(by obtain ⟨z,hz⟩:=h.2.2.2.1;exact ⟨z,hz.ext e⟩),h.2.2.2.2.trans e⟩) (VV.ext (fun v w w' h e=>h) (VV.ext (fun v w w' h e=>h) (VV.ext (fun v w w' ⟨s2,h1,h2,h3⟩ e=>⟨s2,h1,h2.ext e,h3⟩) (VN.ext)))) aA ?hm2 rfl ?hr2
  case hm2 =>
   refine Members.cons ?mm2_3 (Members.cons ?mm2_12 (Members.cons ?mm2_13 (Members.nil _)))
   case mm2_3 =>
    refine zm [] (fun env W hE hS hD K hK=>?_)
    clear hD
    try simp only [aJ]
    go_simp
    go_at_call 48
    refine (lX ac sq (some ⟨b,o,none⟩) n c L (i:Int) _ (HS.out.ext hS.2.2.2.2)).mono ?_
    rintro e w5 ⟨rfl,he5⟩
    have hk:=hK.out (.agg (nmc (bA ac sq L (i:Int)))) _ (he5) (rfl)
    try simp only [aJ] at hk
    exact hk
   case mm2_12 =>
    refine zm [(3,some 25)] (fun env W hE hS hD K hK=>?_)
    have h3:(fun v V=>v=.agg (nmc (bA ac sq L (i:Int)))) (env 3) W:=hD (3,some 25) (by simp)
    clear hD
    try simp only [aJ] at hK ⊢
    generalize env 3=x3 at h3 hK ⊢
    subst h3
    refine xH (.tmp 25) (.tmp 27) (.tmp 29) (.tmp 31) (.tmp 33) rfl (v1:=.agg (nmc (bA ac sq L (i:Int)))) (v2:=.agg (nmc R.hs)) (v3:=.int .i64 ac) (v4:=.int .i64 R.tO) (v5:=.int .i64 R.ul) rfl rfl rfl rfl rfl (xO (⟨(bA ac sq L (i:Int)),R.hs,ac,R.tO,R.ul⟩:LkR) _) ?_
    have hk:=hK.out (.agg (lkA (⟨(bA ac sq L (i:Int)),R.hs,ac,R.tO,R.ul⟩:LkR))) _ (Ext.refl _) (rfl)
    try simp only [aJ] at hk
    exact hk
   case mm2_13 =>
    refine zm [(12,some 34)] (fun env W hE hS hD K hK=>?_)
    have h12:(fun v V=>v=.agg (lkA (⟨(bA ac sq L (i:Int)),R.hs,ac,R.tO,R.ul⟩:LkR))) (env 12) W:=hD (12,some 34) (by simp)
    clear hD
    try simp only [aJ] at hK ⊢
    generalize env 12=x12 at h12 hK ⊢
    subst h12
    go_simp
    go_at_call 119
    refine (aEt s1 (⟨(bA ac sq L (i:Int)),R.hs,ac,R.tO,R.ul⟩:LkR) _ (HOW.out.ext (HD7.out.trans hE)).ok HLW.out HN9.out).mono ?_
    rintro e w5 ⟨s2,rfl,ho2,hv2,he5⟩
    have hk:=hK.out (.agg (ssA s2)) _ (he5) (⟨s2,rfl,aX ho2 hS.2.2.2.2.size,hv2⟩)
    try simp only [aJ] at hk
    exact hk
  case hr2 =>
   intro env W hE hS hV
   have h3:(fun v V=>v=.agg (nmc (bA ac sq L (i:Int)))) (env 3) W:=hV (3,some 25) (by simp)
   have h12:(fun v V=>v=.agg (lkA (⟨(bA ac sq L (i:Int)),R.hs,ac,R.tO,R.ul⟩:LkR))) (env 12) W:=hV (12,some 34) (by simp)
   have h13:(fun v V=>∃ s2,v=.agg (ssA s2)∧OwnS V w.heap.size s2∧s2.V=⟨s1.C,s1.Q,eT s1.K (⟨(bA ac sq L (i:Int)),R.hs,ac,R.tO,R.ul⟩:LkR),s1.P,s1.G⟩) (env 13) W:=hV (13,some 35) (by simp)
   clear hV
   try simp only [aJ]
   generalize env 3=x3 at h3 ⊢
   generalize env 12=x12 at h12 ⊢
   generalize env 13=x13 at h13 ⊢
   subst h3
   subst h12
   obtain ⟨s2,rfl,ho2,hv2⟩:=h13
   have aA:=hS
   refine za 14 (fun K hK=>?_)
   (obtain ⟨z6,hz6⟩:=aA.2.2.2.1;refine bE rfl (.tmp 6) (.tmp 35) (by rfl) (w.heap.size+2) (.agg (ssA s2)) s2 rfl (by rfl) (by rfl) hz6 ?_;intro W6 h6)
   refine hK.out _ _ (⟨aA.1.grown (by rw [← h6.out.1];exact aB _ _ _ _) (fun e=>by injection e;omega),aA.2.1.grown (by rw [← h6.out.1];exact aB _ _ _ _) (fun e=>by injection e;omega),aA.2.2.1.grown (by rw [← h6.out.1];exact aB _ _ _ _) (fun e=>by injection e;have:=HX0.out;omega),⟨_,h6.out.2⟩,by rw [← h6.out.1];exact Below.setCells' aA.2.2.2.2 (by omega) _ _⟩) (fun aA=>?_)
   clear hK K
   try simp only [bH]
   refine wpAnyH_done (by kernel_rfl) ?_ _
   have HOW2:=zh (show OwnS W6 w.heap.size s2 from by
    rw [← h6.out.1]
    exact ho2.kept (aB _ _ _ _) hz6 (by decide) (by decide) (by decide) (by decide))
   have HV2:=zh hv2
   have HXE:=zh aA.2.2.2.2
   have hst:=h6.out.2
   clear h6 ho2 hv2 hE hS aA hz6
   go_wp2_with fail
   exact bodyPost_ret (v:=.agg (ssA s2)) (eI rfl _ _ (w.heap.size+2) _ rfl (run_loadVar_row _ _ _ _ _ (0,0) _ hst Tryz.underlying44 rfl (by kernel_rfl))) rfl ⟨s2,rfl,HOW2.out,by rw [HV2.out,HSP.out],HXE.out⟩
 ·have HSP:=zh (show (⟨s1.C,s1.Q,eG R.lk s1.K,s1.P,s1.G⟩:StV)=doO ac sq L s0.V i from by
   have hh:doO ac sq L s0.V i=gA ac sq L s1.V i:=by rw [HV1.out];rfl
   rw [hh]
   unfold gA
   rw [HK.out,hk];rfl)
  have b1:(R.k == 1)=false:=by rw [hk];rfl
  have d1:decide (R.k=1)=false:=by rw [hk];rfl
  have b2:(R.k == 2)=false:=by rw [hk];rfl
  have d2:decide (R.k=2)=false:=by rw [hk];rfl
  have b3:(R.k == 3)=true:=by rw [hk];rfl
  have d3:decide (R.k=3)=true:=by rw [hk];rfl
  have b4:(R.k == 4)=false:=by rw [hk];rfl
  have d4:decide (R.k=4)=false:=by rw [hk];rfl
  have b5:(R.k == 5)=false:=by rw [hk];rfl
  have d5:decide (R.k=5)=false:=by rw [hk];rfl
  have b6:(R.k == 6)=false:=by rw [hk];rfl
  have d6:decide (R.k=6)=false:=by rw [hk];rfl
  clear hk
  obtain ⟨q0,q1,q2,q3,q4⟩:=aE HB7.out
  have r5:W7.rangeAt X 5 (RowT.enc R.lk):=kN HR7.out
  go_wp2_with (first | (with_reducible refine aC nmP rfl (.tmp 40) rfl X 5 rfl R.lk _ rfl r5 ?_) | fail "A")
  refine (uB s1 R.lk W7 HOW.out.ok HN9.out).mono ?_
  rintro e w5 ⟨s2,rfl,ho2,hv2,he5⟩
  have HO2:=zh (aX ho2 HX7.out.size)
  have HV2:=zh hv2
  have HX5:=zh (HX7.out.trans he5)
  have HR5:=zh (HZ7.out.ext he5)
  clear ho2 hv2 he5 r5 q0 q1 q2 q3 q4
  go_wp2_with ((with_reducible refine aF rfl (.tmp 6) (.tmp 42) rfl (w.heap.size+2) s2 rfl rfl HR5.out ?_);intro W9 h9)
  have hst:Blk W9 (w.heap.size+2) 44 (ssA s2):=by rw [← h9.out];exact aQ (ds:=ssA s2) HR5.out rfl
  have HOW2:=zh (show OwnS W9 w.heap.size s2 from by
   rw [← h9.out]
   exact HO2.out.kept (aB _ _ _ _) HR5.out (by decide) (by decide) (by decide) (by decide))
  have HXE:=zh (show Ext w W9 from by rw [← h9.out];exact Below.setCells' HX5.out (by omega) _ _)
  clear h9
  exact bodyPost_ret (v:=.agg (ssA s2)) (eI rfl _ _ (w.heap.size+2) _ rfl (run_loadVar_row _ _ _ _ _ (0,0) _ hst Tryz.underlying44 rfl (by kernel_rfl))) rfl ⟨s2,rfl,HOW2.out,by rw [HV2.out,HSP.out],HXE.out⟩
 ·have HSP:=zh (show (⟨s1.C,s1.Q,eG R.lk s1.K,s1.P,s1.G⟩:StV)=doO ac sq L s0.V i from by
   have hh:doO ac sq L s0.V i=gA ac sq L s1.V i:=by rw [HV1.out];rfl
   rw [hh]
   unfold gA
   rw [HK.out,hk];rfl)
  have b1:(R.k == 1)=false:=by rw [hk];rfl
  have d1:decide (R.k=1)=false:=by rw [hk];rfl
  have b2:(R.k == 2)=false:=by rw [hk];rfl
  have d2:decide (R.k=2)=false:=by rw [hk];rfl
  have b3:(R.k == 3)=false:=by rw [hk];rfl
  have d3:decide (R.k=3)=false:=by rw [hk];rfl
  have b4:(R.k == 4)=true:=by rw [hk];rfl
  have d4:decide (R.k=4)=true:=by rw [hk];rfl
  have b5:(R.k == 5)=false:=by rw [hk];rfl
  have d5:decide (R.k=5)=false:=by rw [hk];rfl
  have b6:(R.k == 6)=false:=by rw [hk];rfl
  have d6:decide (R.k=6)=false:=by rw [hk];rfl
  clear hk
  obtain ⟨q0,q1,q2,q3,q4⟩:=aE HB7.out
  have r5:W7.rangeAt X 5 (RowT.enc R.lk):=kN HR7.out
  go_wp2_with (first | (with_reducible refine aC nmP rfl (.tmp 40) rfl X 5 rfl R.lk _ rfl r5 ?_) | fail "A")
  refine (uB s1 R.lk W7 HOW.out.ok HN9.out).mono ?_
  rintro e w5 ⟨s2,rfl,ho2,hv2,he5⟩
  have HO2:=zh (aX ho2 HX7.out.size)
  have HV2:=zh hv2
  have HX5:=zh (HX7.out.trans he5)
  have HR5:=zh (HZ7.out.ext he5)
  clear ho2 hv2 he5 r5 q0 q1 q2 q3 q4
  go_wp2_with ((with_reducible refine aF rfl (.tmp 6) (.tmp 42) rfl (w.heap.size+2) s2 rfl rfl HR5.out ?_);intro W9 h9)
  have hst:Blk W9 (w.heap.size+2) 44 (ssA s2):=by rw [← h9.out];exact aQ (ds:=ssA s2) HR5.out rfl
  have HOW2:=zh (show OwnS W9 w.heap.size s2 from by
   rw [← h9.out]
   exact HO2.out.kept (aB _ _ _ _) HR5.out (by decide) (by decide) (by decide) (by decide))
  have HXE:=zh (show Ext w W9 from by rw [← h9.out];exact Below.setCells' HX5.out (by omega) _ _)
  clear h9
  exact bodyPost_ret (v:=.agg (ssA s2)) (eI rfl _ _ (w.heap.size+2) _ rfl (run_loadVar_row _ _ _ _ _ (0,0) _ hst Tryz.underlying44 rfl (by kernel_rfl))) rfl ⟨s2,rfl,HOW2.out,by rw [HV2.out,HSP.out],HXE.out⟩
 ·have HSP:=zh (show s1.V=doO ac sq L s0.V i from by
   have hh:doO ac sq L s0.V i=gA ac sq L s1.V i:=by rw [HV1.out];rfl
   rw [hh]
   unfold gA
   rw [HK.out,hk];rfl)
  have b1:(R.k == 1)=false:=by rw [hk];rfl
  have d1:decide (R.k=1)=false:=by rw [hk];rfl
  have b2:(R.k == 2)=false:=by rw [hk];rfl
  have d2:decide (R.k=2)=false:=by rw [hk];rfl
  have b3:(R.k == 3)=false:=by rw [hk];rfl
  have d3:decide (R.k=3)=false:=by rw [hk];rfl
  have b4:(R.k == 4)=false:=by rw [hk];rfl
  have d4:decide (R.k=4)=false:=by rw [hk];rfl
  have b5:(R.k == 5)=true:=by rw [hk];rfl
  have d5:decide (R.k=5)=true:=by rw [hk];rfl
  have b6:(R.k == 6)=false:=by rw [hk];rfl
  have d6:decide (R.k=6)=false:=by rw [hk];rfl
  clear hk
  obtain ⟨q0,q1,q2,q3,q4⟩:=aE HB7.out
  go_wp2_with (first | ((with_reducible refine aF rfl (.tmp 6) (.tmp 50) rfl (w.heap.size+2) s1 rfl rfl HZ7.out ?_);intro W9 h9))
  have hst:Blk W9 (w.heap.size+2) 44 (ssA s1):=by rw [← h9.out];exact aQ (ds:=ssA s1) HZ7.out rfl
  have HOW2:=zh (show OwnS W9 w.heap.size s1 from by
   rw [← h9.out]
   exact HOW.out.kept (aB _ _ _ _) HZ7.out (by decide) (by decide) (by decide) (by decide))
  have HXE:=zh (show Ext w W9 from by rw [← h9.out];exact Below.setCells' HX7.out (by omega) _ _)
  clear h9
  exact bodyPost_ret (v:=.agg (ssA s1)) (eI rfl _ _ (w.heap.size+2) _ rfl (run_loadVar_row _ _ _ _ _ (0,0) _ hst Tryz.underlying44 rfl (by kernel_rfl))) rfl ⟨s1,rfl,HOW2.out,by rw [HSP.out],HXE.out⟩
 have HSP:=zh (show vD B s1.V=doO ac sq L s0.V i from by
  have hh:doO ac sq L s0.V i=gA ac sq L s1.V i:=by rw [HV1.out];rfl
  rw [hh]
  unfold gA
  rw [HK.out,hk,← HW2.out];rfl)
 have b1:(R.k == 1)=false:=by rw [hk];rfl
 have d1:decide (R.k=1)=false:=by rw [hk];rfl
 have b2:(R.k == 2)=false:=by rw [hk];rfl
 have d2:decide (R.k=2)=false:=by rw [hk];rfl
 have b3:(R.k == 3)=false:=by rw [hk];rfl
 have d3:decide (R.k=3)=false:=by rw [hk];rfl
 have b4:(R.k == 4)=false:=by rw [hk];rfl
 have d4:decide (R.k=4)=false:=by rw [hk];rfl
 have b5:(R.k == 5)=false:=by rw [hk];rfl
 have d5:decide (R.k=5)=false:=by rw [hk];rfl
 have b6:(R.k == 6)=true:=by rw [hk];rfl
 have d6:decide (R.k=6)=true:=by rw [hk];rfl
 clear hk
 go_upto_region 10 with fail
 refine wp_region_held_drew (S:=fun V=>Blk V w.heap.size 44 (ssA s1)∧Blk V (w.heap.size+1) 24 (txA ac sq (some ⟨b,o,none⟩) n c)∧Blk V X 69 (opA R)∧(∃ z,Blk V (w.heap.size+2) 44 (ssA z))∧Ext w V) (by kernel_rfl) (⟨HB7.out.drew,HT7.out.drew,HR7.out.drew,⟨_,HZ7.out.drew⟩,HX7.out.trans ((Ext.refl _).drew')⟩) (fun aA=>?_)
 refine zz0 [0,1,2] ?_;repeat first | refine zz1 ?_ (hy:=by intro W aI;obtain ⟨q0,q1,q2,q3,q4⟩:=aE aI.1;have t0:=aI.2.1.cell 0;have t1:=aI.2.1.cell 1;have t2:=aI.2.1.cell 2;have p0:=aI.2.2.1.cell 0;have p1:=aI.2.2.1.cell 1;have p2:=aI.2.2.1.cell 2;have p3:=aI.2.2.1.cell 3;have p4:=aI.2.2.1.cell 4;go_simp <;> with_reducible rfl) | refine zz2 ?_ | refine zz9 ?_
 refine bR (VV 3 (fun v V=>v=.int .i64 B) (VV 4 (fun v V=>∃ s2,v=.agg (ssA s2)∧OwnS V w.heap.size s2∧s2.V=vD B s1.V) (VN))) [(3,some 48),(4,some 49)] (fuel:=1) (by kernel_rfl) (by kernel_rfl) (fun V V' h e=>⟨h.1.ext e,h.2.1.ext e,h.2.2.1.ext e,(by obtain ⟨z,hz⟩:=h.2.2.2.1;exact ⟨z,hz.ext e⟩),h.2.2.2.2.trans e⟩) (VV.ext (fun v w w' h e=>h) (VV.ext (fun v w w' ⟨s2,h1,h2,h3⟩ e=>⟨s2,h1,h2.ext e,h3⟩) (VN.ext))) aA ?hm3 rfl ?hr3
 case hm3 =>
  refine Members.cons ?mm3_3 (Members.cons ?mm3_4 (Members.nil _))
  case mm3_3 =>
   refine zm [] (fun env W hE hS hD K hK=>?_)
   clear hD
   try simp only [aJ]
   go_simp
   go_at_call 122
   refine (HBIT.out _).mono ?_
   rintro e w5 ⟨rfl,he5⟩
   have hk:=hK.out (.int .i64 B) _ (he5) (rfl)
   try simp only [aJ] at hk
   exact hk
  case mm3_4 =>
   refine zm [(3,some 48)] (fun env W hE hS hD K hK=>?_)
   have h3:(fun v V=>v=.int .i64 B) (env 3) W:=hD (3,some 48) (by simp)
   clear hD
   try simp only [aJ] at hK ⊢
   generalize env 3=x3 at h3 hK ⊢
   subst h3
   go_simp
   go_at_call 121
   refine (aCD s1 B _ (HOW.out.ext (HD7.out.trans hE)).ok HVW.out HN8.out).mono ?_
   rintro e w5 ⟨s2,rfl,ho2,hv2,he5⟩
   have hk:=hK.out (.agg (ssA s2)) _ (he5) (⟨s2,rfl,aX ho2 hS.2.2.2.2.size,hv2⟩)
   try simp only [aJ] at hk
   exact hk
 case hr3 =>
  intro env W hE hS hV
  have h3:(fun v V=>v=.int .i64 B) (env 3) W:=hV (3,some 48) (by simp)
  have h4:(fun v V=>∃ s2,v=.agg (ssA s2)∧OwnS V w.heap.size s2∧s2.V=vD B s1.V) (env 4) W:=hV (4,some 49) (by simp)
  clear hV
  try simp only [aJ]
  generalize env 3=x3 at h3 ⊢
  generalize env 4=x4 at h4 ⊢
  subst h3
  obtain ⟨s2,rfl,ho2,hv2⟩:=h4
  have aA:=hS
  refine za 5 (fun K hK=>?_)
  (obtain ⟨z6,hz6⟩:=aA.2.2.2.1;refine bE rfl (.tmp 6) (.tmp 49) (by rfl) (w.heap.size+2) (.agg (ssA s2)) s2 rfl (by rfl) (by rfl) hz6 ?_;intro W6 h6)
  refine hK.out _ _ (⟨aA.1.grown (by rw [← h6.out.1];exact aB _ _ _ _) (fun e=>by injection e;omega),aA.2.1.grown (by rw [← h6.out.1];exact aB _ _ _ _) (fun e=>by injection e;omega),aA.2.2.1.grown (by rw [← h6.out.1];exact aB _ _ _ _) (fun e=>by injection e;have:=HX0.out;omega),⟨_,h6.out.2⟩,by rw [← h6.out.1];exact Below.setCells' aA.2.2.2.2 (by omega) _ _⟩) (fun aA=>?_)
  clear hK K
  try simp only [bH]
  refine wpAnyH_done (by kernel_rfl) ?_ _
  have HOW2:=zh (show OwnS W6 w.heap.size s2 from by
   rw [← h6.out.1]
   exact ho2.kept (aB _ _ _ _) hz6 (by decide) (by decide) (by decide) (by decide))
  have HV2:=zh hv2
  have HXE:=zh aA.2.2.2.2
  have hst:=h6.out.2
  clear h6 ho2 hv2 hE hS aA hz6
  go_wp2_with fail
  exact bodyPost_ret (v:=.agg (ssA s2)) (eI rfl _ _ (w.heap.size+2) _ rfl (run_loadVar_row _ _ _ _ _ (0,0) _ hst Tryz.underlying44 rfl (by kernel_rfl))) rfl ⟨s2,rfl,HOW2.out,by rw [HV2.out,HSP.out],HXE.out⟩
end
end Go.Proofs.YtohmmcahpakokaaGreat
