import Derived.Test.YtgmnmjeccfnmbaaGreatE25
set_option maxRecDepth 100000
set_option maxHeartbeats 8000000
set_option linter.unusedVariables false
set_option linter.unusedSimpArgs false
namespace Go.Proofs.YtgmnmjeccfnmbaaGreat
open Go.Proofs.Tryz
section
open Go.RowKit
attribute [local go_sem ↓] Go.wp_at_zero Go.wp_at_succ
theorem aGX (s0:StR) (ac sq:Int) (A:Option Addr) (n c:Nat) (L:List OpR) (i:Nat) (w:World) (h:s0.ok w) (hS:SlO w A n c L) (hi:i < n) (hv:vTx ac sq L=true) (hn:s0.n1≤800000∧s0.n2≤1000000∧s0.n3≤1000000∧s0.n4≤1000000) :
  Calls prog 39 #[.agg (ssA s0),.agg (txA ac sq A n c),.int .i64 (i:Int)] w (jB w (doO ac sq L s0.V i)):=by
 have HS0:=zh h
 have HN:=zh hn
 have HIN:=zh hi
 have HVT:=zh hv
 obtain ⟨⟨q1,q2,q3,q4,q5,q6⟩,hop⟩:=dX hv
 have hLEN:=hS.len
 have hle:=hS.le
 have hcap:=hS.cap
 obtain ⟨hkk,hto,ham,hva,hul,-,hvb,-,-⟩:=jI (hop i aa)
 have hac:wfI ac:=wfS ⟨aa,aa⟩
 have HS:=zh hS
 obtain ⟨W,hW⟩:=gx (((w.alloc (.cells (ssA s0) 30)).alloc (.cells (txA ac sq A n c) 33)).alloc (.cells #[.slice none 0 0,.slice none 0 0,.slice none 0 0,.slice none 0 0,.int .i64 0] 30))
 have HB0:=zh (show Blk W w.heap.size 30 (ssA s0) from cf)
 have HT0:=zh (show Blk W (w.heap.size+1) 33 (txA ac sq A n c) from aw)
 have HR0:=zh (show Blk W (w.heap.size+2) 30 (ssA ss0) from ag)
 have HE:=zh (show Ext w W from bc)
 have HX9:W.heap.size=w.heap.size+3:=kf
 obtain ⟨b,o,hA,hrow,-⟩:=(HS.out.ext HE.out).g.at aa
 subst hA
 have t0:=HT0.out.cell 0
 have t1:=HT0.out.cell 1
 have t2:=HT0.out.cell 2
 obtain ⟨R,hR⟩:=gx (bR L i)
 rw [hR] at hkk hto ham hva hul hvb
 have HK:=zh hR
 have hr:W.rangeAt b (o+i * 23) (RowT.enc R):=mr
 have HLW:=zh (show lkW (⟨bI ac sq L (i:Int),R.hs,ac,R.tO,R.ul⟩:LkR) from ⟨hac,hto,hul⟩)
 obtain ⟨B,hB⟩:∃ B:Int,(2:Int) ^ R.va.toNat=B:=⟨_,rfl⟩
 have HW2:=zh hB
 have HVW:=zh (show wfI B from by rw [← hB];exact fU.2 (tG aa))
 have HBIT:=zh (fun (V:World)=>show Calls prog 103 #[.int .i64 R.va] V fun e w'=>e=.returned (.int .i64 B)∧Ext V w' from by
  have h1:=aDe R.va.toNat V aa
  rw [show ((R.va.toNat:Nat):Int)=R.va by omega,hB] at h1
  exact h1)
 clear hB
 have i0:(0:Int)≤(i:Int):=aa
 have i1:(i:Int) < (n:Int):=aa
 obtain ⟨v,hv⟩:=gx (Value.agg (opA R))
 have HV:=zh hv
 obtain ⟨X,hX⟩:=gx (W.heap.size)
 have HXS:=zh hX
 have HX0:=zh (show X=w.heap.size+3 from aa)
 clear hrow hR hv hX hop hLEN hS ham hul hva hto hac hvb q1 q2 q3 q4 q5 q6 HX9 h hn
 go_enter func39,ntmps39
 go_upto_region 2 with (first | (with_reducible refine aD opP rfl (.tmp 11) rfl b (o+i * 23) rfl R v HV.out hr ?_) | ((with_reducible refine aU opP rfl (.tmp 7) (.tmp 12) rfl jX rfl R v HV.out rfl rfl ?_);intro W4 h4))
 have HX4:=zh (show Ext W W4 from bi)
 have HD:=zh (show Blk W4 X 52 (opA R) from ax)
 rw [HXS.out]
 have HB6:=zh ((HB0.out.ext HX4.out).drew)
 have HT6:=zh ((HT0.out.ext HX4.out).drew)
 have HR6:=zh ((HR0.out.ext HX4.out).drew)
 have HD6:=zh HD.out.drew
 have HX6:=zh ((HE.out.trans HX4.out).trans ((Ext.refl W4).drew'))
 clear h4 hr t0 t1 t2 hW HB0 HT0 HR0 HE HX4 HD
 refine wp_region_held_drew (S:=fun _=>True) ab (trivial) (fun aA=>?_)
 refine zt 2 aA ?_
 refine zzj (VE 0 (.agg (ssA s0)) (VE 1 (.agg (txA ac sq (some ⟨b,o,none⟩) n c)) (VV 3 (fun v V=>∃ A5 n5 c5,v=.slice A5 n5 c5∧SlG V A5 n5 c5 (cP ac sq L i)) (VV 4 (fun v V=>∃ s2,v=.agg (ssA s2)∧OwnS V w.heap.size s2∧s2.V=mV s0.V (cP ac sq L i)) VN)))) [(0,some 13),(1,some 14),(3,some 16),(4,some 17)] 1 (fun _ _ h _=>h) (ve (ve (VV.ext (fun v w w' ⟨A,n,c,h1,h2⟩ e=>⟨A,n,c,h1,h2.ext e⟩) (VV.ext (fun v w w' ⟨s2,h1,h2,h3⟩ e=>⟨s2,h1,h2.ext e,h3⟩) VN.ext)))) (zzc ?_ (zzc ?_ (zzc ?_ (zzc ?_ zzn)))) ?_
 ·refine zzp fun W5 hE hS K hK => ?_
  obtain ⟨q0,q1,q2,q3,q4⟩:=aE (HB6.out.ext hE)
  go_simp
  exact zzF hK (.agg (ssA s0))
 ·refine zzp fun W5 hE hS K hK => ?_
  have t0:=(HT6.out.ext hE).cell 0
  have t1:=(HT6.out.ext hE).cell 1
  have t2:=(HT6.out.ext hE).cell 2
  go_simp
  exact zzF hK (.agg (txA ac sq (some ⟨b,o,none⟩) n c))
 ·refine zm [(1, some 14)] fun env W5 hE hS hD K hK => ?_
  obtain ⟨h1,-⟩:=zzV hD
  clear hD
  simp only [aR,h1] at hK ⊢
  clear h1
  go_simp
  go_at_call 98
  refine (aES ac sq (some ⟨b,o,none⟩) n c L i _ (HS.out.ext (HX6.out.trans hE)) HIN.out HVT.out).mono ?_
  exact Cs
 ·refine zm [(0, some 13), (3, some 16)] fun env W5 hE hS hD K hK => ?_
  obtain ⟨h0,h3,-⟩:=zzV hD
  clear hD
  simp only [aR,h0] at hK ⊢
  clear h0
  generalize env 3=x3 at h3 hK ⊢
  obtain ⟨A8,n8,c8,rfl,hs8⟩:=h3
  go_simp
  go_at_call 97
  refine (aIv s0 A8 n8 c8 (cP ac sq L i) _ (HS0.out.ext (HX6.out.trans hE)) hs8 ⟨du,du⟩ (by have h7:=kE ac sq L i;rw [hs8.len] at h7;omega)).mono ?_
  rintro e w5 ⟨s2,rfl,ho2,hv2,he5⟩
  exact zzK (hK.out (.agg (ssA s2)) _ (he5) (⟨s2,rfl,bO ho2 (HX6.out.trans hE).size,hv2⟩))
 intro env W5 hE hS hV
 obtain ⟨h0,h1,h3,h4,-⟩:=zzV hV
 clear hV
 simp only [aR,h0,h1]
 clear h0 h1
 generalize env 3=x3 at h3 ⊢
 generalize env 4=x4 at h4 ⊢
 obtain ⟨A8,n8,c8,rfl,hs8⟩:=h3
 obtain ⟨s2,rfl,ho2,hv2⟩:=h4
 clear hs8
 have aA:=hS
 refine za 5 (fun K hK=>?_)
 (refine bQ rfl (.tmp 3) (.tmp 17) dp w.heap.size (.agg (ssA s2)) s2 rfl dp dp (HB6.out.ext hE) ?_;intro W9 h9)
 refine hK.out _ _ (trivial) (fun aA=>?_)
 clear hK K
 try simp only [bB]
 refine wpd ?_
 have HV1:=zh hv2
 have HOW:=zh (show OwnS W9 w.heap.size s2 from by rw [← h9.out.1];exact ho2.kept (aB _ _ _ _) (HB6.out.ext hE) ae ae ae ae)
 have HB7:=zh h9.out.2
 have HT7:=zh (show Blk W9 (w.heap.size+1) 33 (txA ac sq (some ⟨b,o,none⟩) n c) from by rw [← h9.out.1];exact (HT6.out.ext hE).grown (aB _ _ _ _) (fun e=>dq))
 have HZ7:=zh (show Blk W9 (w.heap.size+2) 30 (ssA ss0) from gn)
 have HR7:=zh (show Blk W9 X 52 (opA R) from by rw [← h9.out.1];exact (HD6.out.ext hE).grown (aB _ _ _ _) (fun e=>fi))
 have HX7:=zh (show Ext w W9 from by rw [← h9.out.1];exact Below.setCells' (HX6.out.trans hE) (Nat.le_refl _) _ _)
 have HN8:=zh (show s2.n1≤900000∧s2.n2≤1000000∧s2.n3≤1000000∧s2.n4≤1000000 from by
  have e1:s2.C=addL s0.C (cP ac sq L i):=congrArg StV.C hv2
  have e2:s2.Q=s0.Q:=congrArg StV.Q hv2
  have e3:s2.K=s0.K:=congrArg StV.K hv2
  have e4:s2.P=s0.P:=congrArg StV.P hv2
  have m1:=ho2.l1;have m2:=ho2.l2;have m3:=ho2.l3;have m4:=ho2.l4
  have l1:=HS0.out.s1.len;have l2:=HS0.out.s2.len;have l3:=HS0.out.s3.len;have l4:=HS0.out.s4.len
  rw [e1] at m1;rw [e2] at m2;rw [e3] at m3;rw [e4] at m4
  have h5:=mW (cP ac sq L i) s0.C
  have h6:=kE ac sq L i
  have:=HN.out
  omega)
 have HN9:=zh (show s2.n1≤1000000∧s2.n2≤1000000∧s2.n3≤1000000∧s2.n4≤1000000 from by have:=HN8.out;omega)
 clear h9 ho2 hv2 hE hS aA HB6 HT6 HR6 HD6 HX6
 obtain ⟨s1,hs1⟩:∃ s1,s1=s2:=⟨_,rfl⟩
 subst hs1
 obtain ⟨W7,hW7⟩:∃ W7,W7=W9:=⟨_,rfl⟩
 subst hW7
 have HD7:=zh ((Ext.refl W7).drew')
 have k0:W7.cell? ⟨X,0,none⟩=some (.int .i64 R.k):=HR7.out.cell 0
 rcases (by omega:R.k=1 ∨ R.k=2 ∨ R.k=3 ∨ R.k=4 ∨ R.k=5 ∨ R.k=6) with hk | hk | hk | hk | hk | hk
 ·have HSP:=zh (show s1.V=doO ac sq L s0.V i from by
   exact CJ)
  obtain ⟨b1,d1,b2,d2,b3,d3,b4,d4,b5,d5,b6,d6⟩:=kd1 hk
  exact Bp
 ·have HSP:=zh (show (⟨s1.C,s1.Q,fL s1.K (⟨(bI ac sq L (i:Int)),R.hs,ac,R.tO,R.ul⟩:LkR),s1.P,s1.G⟩:StV)=doO ac sq L s0.V i from by
   exact CJ)
  obtain ⟨b1,d1,b2,d2,b3,d3,b4,d4,b5,d5,b6,d6⟩:=kd2 hk
  clear hk
  go_upto_region 5 with fail
  refine wp_region_held_drew (S:=fun V=>Blk V w.heap.size 30 (ssA s1)∧Blk V (w.heap.size+1) 33 (txA ac sq (some ⟨b,o,none⟩) n c)∧Blk V X 52 (opA R)∧(∃ z,Blk V (w.heap.size+2) 30 (ssA z))∧Ext w V) ab (⟨HB7.out.drew,HT7.out.drew,HR7.out.drew,⟨_,HZ7.out.drew⟩,HX7.out.trans ((Ext.refl _).drew')⟩) (fun aA=>?_)
  refine zz0 [0,1,2,4] ?_;repeat first | refine zz1 ?_ (hy:=aj) | refine zz2 ?_ | refine zz9 ?_
  refine zu 5 (v:=.agg (nmc R.hs)) aA ?_ (hy:=by exact aG nmP dp (.tmp 26) rfl X 13 rfl R.hs _ rfl (fun V h=>aIP h.2.2.1))
  refine zz0 [6,7,8,9,10,11] ?_;repeat first | refine zz1 ?_ (hy:=aj) | refine zz2 ?_ | refine zz9 ?_
  refine cC (VV 3 (fun v V=>v=.agg (nmc (bI ac sq L (i:Int)))) (VV 12 (fun v V=>v=.agg (lkA (⟨(bI ac sq L (i:Int)),R.hs,ac,R.tO,R.ul⟩:LkR))) (VV 13 (fun v V=>∃ s2,v=.agg (ssA s2)∧OwnS V w.heap.size s2∧s2.V=⟨s1.C,s1.Q,fL s1.K (⟨(bI ac sq L (i:Int)),R.hs,ac,R.tO,R.ul⟩:LkR),s1.P,s1.G⟩) (VN)))) [(3,some 25),(12,some 34),(13,some 35)] (fuel:=1) ab ab (fun V V' h e=>⟨h.1.ext e,h.2.1.ext e,h.2.2.1.ext e,cq,h.2.2.2.2.trans e⟩) (VV.ext (fun v w w' h e=>h) (VV.ext (fun v w w' h e=>h) (VV.ext (fun v w w' ⟨s2,h1,h2,h3⟩ e=>⟨s2,h1,h2.ext e,h3⟩) (VN.ext)))) aA ?hm2 rfl ?hr2
  case hm2 =>
   refine Members.cons ?mm2_3 (Members.cons ?mm2_12 (Members.cons ?mm2_13 (Members.nil _)))
   case mm2_3 =>
    refine zm [] (fun env W hE hS hD K hK=>?_)
    clear hD
    try simp only [aR]
    go_simp
    go_at_call 100
    refine zcl (nR ac sq (some ⟨b,o,none⟩) n c L (i:Int) _ (HS.out.ext hS.2.2.2.2)) fun w5 he5=>?_
    have hk:=hK.out (.agg (nmc (bI ac sq L (i:Int)))) _ (he5) (rfl)
    try simp only [aR] at hk
    exact hk
   case mm2_12 =>
    refine zm [(3,some 25)] (fun env W hE hS hD K hK=>?_)
    have h3:(fun v V=>v=.agg (nmc (bI ac sq L (i:Int)))) (env 3) W:=hD (3,some 25) dr
    clear hD
    try simp only [aR] at hK ⊢
    generalize env 3=x3 at h3 hK ⊢
    subst h3
    refine aAn (.tmp 25) (.tmp 27) (.tmp 29) (.tmp 31) (.tmp 33) rfl (v1:=.agg (nmc (bI ac sq L (i:Int)))) (v2:=.agg (nmc R.hs)) (v3:=.int .i64 ac) (v4:=.int .i64 R.tO) (v5:=.int .i64 R.ul) rfl rfl rfl rfl rfl (aAy (⟨(bI ac sq L (i:Int)),R.hs,ac,R.tO,R.ul⟩:LkR) _) ?_
    have hk:=hK.out (.agg (lkA (⟨(bI ac sq L (i:Int)),R.hs,ac,R.tO,R.ul⟩:LkR))) _ (Ext.refl _) (rfl)
    try simp only [aR] at hk
    exact hk
   case mm2_13 =>
    refine zm [(12,some 34)] (fun env W hE hS hD K hK=>?_)
    have h12:(fun v V=>v=.agg (lkA (⟨(bI ac sq L (i:Int)),R.hs,ac,R.tO,R.ul⟩:LkR))) (env 12) W:=hD (12,some 34) dr
    clear hD
    try simp only [aR] at hK ⊢
    generalize env 12=x12 at h12 hK ⊢
    subst h12
    go_simp
    go_at_call 99
    refine (aGU s1 (⟨(bI ac sq L (i:Int)),R.hs,ac,R.tO,R.ul⟩:LkR) _ (HOW.out.ext (HD7.out.trans hE)).ok HLW.out HN9.out).mono ?_
    exact B8
  case hr2 =>
   intro env W hE hS hV
   have h3:(fun v V=>v=.agg (nmc (bI ac sq L (i:Int)))) (env 3) W:=hV (3,some 25) dr
   have h12:(fun v V=>v=.agg (lkA (⟨(bI ac sq L (i:Int)),R.hs,ac,R.tO,R.ul⟩:LkR))) (env 12) W:=hV (12,some 34) dr
   have h13:(fun v V=>∃ s2,v=.agg (ssA s2)∧OwnS V w.heap.size s2∧s2.V=⟨s1.C,s1.Q,fL s1.K (⟨(bI ac sq L (i:Int)),R.hs,ac,R.tO,R.ul⟩:LkR),s1.P,s1.G⟩) (env 13) W:=hV (13,some 35) dr
   clear hV
   try simp only [aR]
   generalize env 3=x3 at h3 ⊢
   generalize env 12=x12 at h12 ⊢
   generalize env 13=x13 at h13 ⊢
   subst h3
   subst h12
   obtain ⟨s2,rfl,ho2,hv2⟩:=h13
   have aA:=hS
   refine za 14 (fun K hK=>?_)
   (obtain ⟨z6,hz6⟩:=aA.2.2.2.1;refine bQ rfl (.tmp 6) (.tmp 35) dp (w.heap.size+2) (.agg (ssA s2)) s2 rfl dp dp hz6 ?_;intro W6 h6)
   exact Aj
 ·have HSP:=zh (show (⟨s1.C,s1.Q,fC R.lk s1.K,s1.P,s1.G⟩:StV)=doO ac sq L s0.V i from by
   exact CJ)
  obtain ⟨b1,d1,b2,d2,b3,d3,b4,d4,b5,d5,b6,d6⟩:=kd3 hk
  exact ud
 ·have HSP:=zh (show (⟨s1.C,s1.Q,fC R.lk s1.K,s1.P,s1.G⟩:StV)=doO ac sq L s0.V i from by
   exact CJ)
  obtain ⟨b1,d1,b2,d2,b3,d3,b4,d4,b5,d5,b6,d6⟩:=kd4 hk
  exact ud
 ·have HSP:=zh (show s1.V=doO ac sq L s0.V i from by
   exact CJ)
  obtain ⟨b1,d1,b2,d2,b3,d3,b4,d4,b5,d5,b6,d6⟩:=kd5 hk
  exact Bp
 have HSP:=zh (show yE B s1.V=doO ac sq L s0.V i from by
  have hh:doO ac sq L s0.V i=gY ac sq L s1.V i:=ki
  rw [hh]
  unfold gY
  rw [HK.out,hk,← HW2.out];rfl)
 obtain ⟨b1,d1,b2,d2,b3,d3,b4,d4,b5,d5,b6,d6⟩:=kd6 hk
 clear hk
 go_upto_region 10 with fail
 refine wp_region_held_drew (S:=fun V=>Blk V w.heap.size 30 (ssA s1)∧Blk V (w.heap.size+1) 33 (txA ac sq (some ⟨b,o,none⟩) n c)∧Blk V X 52 (opA R)∧(∃ z,Blk V (w.heap.size+2) 30 (ssA z))∧Ext w V) ab (⟨HB7.out.drew,HT7.out.drew,HR7.out.drew,⟨_,HZ7.out.drew⟩,HX7.out.trans ((Ext.refl _).drew')⟩) (fun aA=>?_)
 refine zz0 [0,1,2] ?_;repeat first | refine zz1 ?_ (hy:=aj) | refine zz2 ?_ | refine zz9 ?_
 refine cC (VV 3 (fun v V=>v=.int .i64 B) (VV 4 (fun v V=>∃ s2,v=.agg (ssA s2)∧OwnS V w.heap.size s2∧s2.V=yE B s1.V) (VN))) [(3,some 48),(4,some 49)] (fuel:=1) ab ab (fun V V' h e=>⟨h.1.ext e,h.2.1.ext e,h.2.2.1.ext e,cq,h.2.2.2.2.trans e⟩) (VV.ext (fun v w w' h e=>h) (VV.ext (fun v w w' ⟨s2,h1,h2,h3⟩ e=>⟨s2,h1,h2.ext e,h3⟩) (VN.ext))) aA ?hm3 rfl ?hr3
 case hm3 =>
  refine Members.cons ?mm3_3 (Members.cons ?mm3_4 (Members.nil _))
  case mm3_3 =>
   refine zm [] (fun env W hE hS hD K hK=>?_)
   clear hD
   try simp only [aR]
   go_simp
   go_at_call 103
   refine zcl (HBIT.out _) fun w5 he5=>?_
   have hk:=hK.out (.int .i64 B) _ (he5) (rfl)
   try simp only [aR] at hk
   exact hk
  case mm3_4 =>
   refine zm [(3,some 48)] (fun env W hE hS hD K hK=>?_)
   have h3:(fun v V=>v=.int .i64 B) (env 3) W:=hD (3,some 48) dr
   clear hD
   try simp only [aR] at hK ⊢
   generalize env 3=x3 at h3 hK ⊢
   subst h3
   go_simp
   go_at_call 102
   refine (aET s1 B _ (HOW.out.ext (HD7.out.trans hE)).ok HVW.out HN8.out).mono ?_
   exact B8
 case hr3 =>
  intro env W hE hS hV
  have h3:(fun v V=>v=.int .i64 B) (env 3) W:=hV (3,some 48) dr
  have h4:(fun v V=>∃ s2,v=.agg (ssA s2)∧OwnS V w.heap.size s2∧s2.V=yE B s1.V) (env 4) W:=hV (4,some 49) dr
  clear hV
  try simp only [aR]
  generalize env 3=x3 at h3 ⊢
  generalize env 4=x4 at h4 ⊢
  subst h3
  obtain ⟨s2,rfl,ho2,hv2⟩:=h4
  have aA:=hS
  refine za 5 (fun K hK=>?_)
  (obtain ⟨z6,hz6⟩:=aA.2.2.2.1;refine bQ rfl (.tmp 6) (.tmp 49) dp (w.heap.size+2) (.agg (ssA s2)) s2 rfl dp dp hz6 ?_;intro W6 h6)
  exact Aj
structure ExF (w V:World) (P:Nat) (x:StpR) (S:Option Addr) (m d:Nat) (s1:StR):Prop where
 g:Blk V w.heap.size 25 (genC x.gN x.gZ x.B1 x.m1 x.d1 x.B2 x.m2 x.d2 x.B3 x.m3 x.d3)
 s:Blk V (w.heap.size+1) 30 (ssA x.s)
 t:Blk V (w.heap.size+2) 36 (stA x.ac x.sq x.A x.n x.c S m d)
 r1:Blk V (w.heap.size+3) 30 (ssA ss0)
 r2:Blk V (w.heap.size+4) 43 (rcA rc0)
 o:Blk V P 30 (ssA s1)
 ho:OwnS V w.heap.size s1
 v:s1.V=x.s.V
 far:w.heap.size+4 < P
 low:Ext w V
section
variable {w V V':World} {P:Nat} {x:StpR} {S:Option Addr} {m d:Nat} {s1:StR}
theorem ExF.ext (h:ExF w V P x S m d s1) (e:Ext V V'):ExF w V' P x S m d s1:=⟨h.g.ext e,h.s.ext e,h.t.ext e,h.r1.ext e,h.r2.ext e,h.o.ext e,h.ho.ext e,h.v,h.far,h.low.trans e⟩
theorem ExF.f (h:ExF w V P x S m d s1) {a:Int} (ha:x.ac=a):V.cell? ⟨w.heap.size,0,none⟩=some (.int .i64 x.gN)∧V.cell? ⟨w.heap.size,1,none⟩=some (.int .i64 x.gZ)∧V.cell? ⟨w.heap.size,2,none⟩=some (.slice x.B1 x.m1 x.d1)∧V.cell? ⟨w.heap.size,3,none⟩=some (.slice x.B2 x.m2 x.d2)∧V.cell? ⟨w.heap.size,4,none⟩=some (.slice x.B3 x.m3 x.d3)∧V.cell? ⟨w.heap.size+1,0,none⟩=some (.slice x.s.A1 x.s.n1 x.s.c1)∧V.cell? ⟨w.heap.size+1,1,none⟩=some (.slice x.s.A2 x.s.n2 x.s.c2)∧V.cell? ⟨w.heap.size+1,2,none⟩=some (.slice x.s.A3 x.s.n3 x.s.c3)∧V.cell? ⟨w.heap.size+1,3,none⟩=some (.slice x.s.A4 x.s.n4 x.s.c4)∧V.cell? ⟨w.heap.size+1,4,none⟩=some (.int .i64 x.s.G)∧V.cell? ⟨w.heap.size+2,0,none⟩=some (.int .i64 a)∧V.cell? ⟨w.heap.size+2,1,none⟩=some (.int .i64 x.sq)∧V.cell? ⟨w.heap.size+2,2,none⟩=some (.slice x.A x.n x.c)∧V.cell? ⟨w.heap.size+2,3,none⟩=some (.slice S m d)∧V.cell? ⟨P,0,none⟩=some (.slice s1.A1 s1.n1 s1.c1)∧V.cell? ⟨P,1,none⟩=some (.slice s1.A2 s1.n2 s1.c2)∧V.cell? ⟨P,2,none⟩=some (.slice s1.A3 s1.n3 s1.c3)∧V.cell? ⟨P,3,none⟩=some (.slice s1.A4 s1.n4 s1.c4)∧V.cell? ⟨P,4,none⟩=some (.int .i64 s1.G) :=
 ⟨h.g.cell 0,h.g.cell 1,h.g.cell 2,h.g.cell 3,h.g.cell 4,h.s.cell 0,h.s.cell 1,h.s.cell 2,h.s.cell 3,h.s.cell 4,ha ▸ h.t.cell 0,h.t.cell 1,h.t.cell 2,h.t.cell 3,h.o.cell 0,h.o.cell 1,h.o.cell 2,h.o.cell 3,h.o.cell 4⟩
theorem ExF.put (h:ExF w V P x S m d s1) {Q:Nat} {cs:Array Value} (hq:Blk V Q 30 cs) (h1:w.heap.size+4 < Q) (h2:Q ≠ P) (l:List Value):ExF w (V.setCells Q 0 l) P x S m d s1:=by
 have hf:=h.far
 have hg:=aB V Q l 0
 exact ⟨h.g.grown hg (fun e=>dq),h.s.grown hg (fun e=>dq),h.t.grown hg (fun e=>dq),h.r1.grown hg (fun e=>dq),h.r2.grown hg (fun e=>dq),h.o.grown hg (fun e=>h2 ms),h.ho.kept hg hq ae ae ae ae,h.v,h.far,Below.setCells' h.low aa _ _⟩
theorem ExF.th (h:ExF w V P x S m d s1) {l:List Value} (h9:Hid (V.setCells (w.heap.size+3) 0 l=V')):V'.there (w.heap.size+4) 0 (RowT.sz RcR):=by
 rw [← h9.out]
 exact aI (h.r2.grown (aB _ _ _ _) (fun e=>dq))
end
theorem vX {chk:OpR→StV→Int} {okG:Bool} {na:Nat} {sg:Bool} {S:StV} {ac sq:Int} {L:List OpR} (h:vTx ac sq L=false ∨ okG=false ∨ (na:Int)≤ac ∨ S.Q.length ≠ na):iX chk okG na sg S ac sq L=1:=by
 have e:lM okG na sg S ac sq L=1:=if_pos h
 exact (aBP (by rw [e];decide)).trans e
theorem aFo {chk:OpR→StV→Int} {okG:Bool} {na:Nat} {sg:Bool} {S:StV} {ac sq:Int} {L:List OpR} {z:Int} (h:lM okG na sg S ac sq L=z) (h0:z ≠ 0):iX chk okG na sg S ac sq L=z:=(aBP (by rw [h];exact h0)).trans h
theorem aHx {o:Oper} {a:Act} {ty:TypeId} {i j k:Nat} (x y z:Operand) (ho:o.op=.build ty #[(i,x),(j,y),(k,z)]) {vx vy vz v:Value} (hx:a.eval x=vx) (hy:a.eval y=vy) (hz:a.eval z=vz) (hr:∀ w,(Instr.build ty #[(i,vx),(j,vy),(k,vz)]).run prog w=.ok v w) (w:World):(execOp a.eval o).run prog w=.ok (.value v) w:=by
 unfold execOp
 simp only [ho,List.map_toArray,List.map_cons,List.map_nil,hx,hy,hz,Sem.run_bind,hr,Result.andThen_ok,Sem.run_pure]
theorem aEJ (x:RcR) (h:x.cd=0) (w:World):(Instr.build 43 #[(1,.slice x.A x.n x.c),(2,.int .i64 x.o),(3,.int .i64 x.g)]).run prog w=.ok (.agg (rcA x)) w:=by
 obtain ⟨cd,A,n,c,o,g⟩:=x
 subst h
 kernel_rfl
abbrev RxP (w:World) (x:StpR) (L:List OpR) (chk:OpR→StV→Int) (okG sg:Bool):Ending→World→Prop :=
 aJJ w (nX chk okG x.m2 sg x.s.V x.ac x.sq L) (iX chk okG x.m2 sg x.s.V x.ac x.sq L) (rcE (iX chk okG x.m2 sg x.s.V x.ac x.sq L) x.ac x.sq L) (rcO (iX chk okG x.m2 sg x.s.V x.ac x.sq L) x.ac x.sq L) (rcG (iX chk okG x.m2 sg x.s.V x.ac x.sq L) x.s.V (nX chk okG x.m2 sg x.s.V x.ac x.sq L))
theorem rxE {fn:Func} {a:Act} {w V W9 W8:World} {P:Nat} {x:StpR} {S:Option Addr} {m d:Nat} {s1:StR} {L:List OpR} {chk:OpR→StV→Int} {okG sg:Bool} {z:Int} (h:ExF w V P x S m d s1) (hz:iX chk okG x.m2 sg x.s.V x.ac x.sq L=z) (h0:z ≠ 0)
  (h9:Hid (V.setCells (w.heap.size+3) 0 (ssA s1).toList=W9)) (h8:Hid (W9.setCells (w.heap.size+4) 0 (RowT.enc (⟨z,none,0,0,0,0⟩:RcR))=W8))
  (hres:fn.results=#[.cell 8 30,.cell 9 43]:=by rfl) (hp:a.tmps.getD 8 undef=.pointer (some ⟨w.heap.size+3,0,none⟩):=by rfl) (hq:a.tmps.getD 9 undef=.pointer (some ⟨w.heap.size+4,0,none⟩):=by rfl) (hd:a.defers=[]:=by rfl):bodyPost prog fn (RxP w x L chk okG sg) .ret a W8:=by
 have hr2:Blk W9 (w.heap.size+4) 43 (rcA rc0):=by rw [← h9.out];exact h.r2.grown (aB _ _ _ _) (fun e=>dq)
 have hst:Blk W8 (w.heap.size+3) 30 (ssA s1):=by
  rw [← h8.out]
  refine Blk.grown ?_ (aB _ _ _ _) (fun e=>dq)
  rw [← h9.out];exact aN (ds:=ssA s1) h.r1 rfl
 have hst2:Blk W8 (w.heap.size+4) 43 (rcA ⟨z,none,0,0,0,0⟩):=by rw [← h8.out];exact aN (ds:=rcA ⟨z,none,0,0,0,0⟩) hr2 rfl
 have ho:OwnS W8 w.heap.size s1:=by
  rw [← h8.out]
  refine OwnS.kept ?_ (aB _ _ _ _) hr2 ae ae ae ae
  rw [← h9.out]
  exact h.ho.kept (aB _ _ _ _) h.r1 ae ae ae ae
 have hx:Ext w W8:=by rw [← h8.out];refine Below.setCells' ?_ aa _ _;rw [← h9.out];exact Below.setCells' h.low aa _ _
 exact bodyPost_ret (v:=.tuple #[.agg (ssA s1),.agg (rcA ⟨z,none,0,0,0,0⟩)]) (aCU hres _ _ (w.heap.size+3) (w.heap.size+4) _ _ hp hq (run_loadVar_row _ _ _ _ _ (0,0) _ hst underlying30 rfl ab) (run_loadVar_row _ _ _ _ _ (0,0) _ hst2 underlying43 rfl ab)) hd
  ⟨s1,none,0,0,by rw [hz];unfold rcO rcG;rw [if_neg h0,if_neg h0],ho,by rw [h.v];exact (if_neg (by rw [hz];exact h0)).symm,by rw [hz];unfold rcE;rw [if_neg h0];exact SlG.nil _,hx⟩
structure ExL (w V:World) (P Q Y:Nat) (x:StpR) (S:Option Addr) (m d:Nat) (s1:StR) (L:List OpR) (chk:OpR→StV→Int) (nm:UInt64) (k:Nat) (s:StR):Prop where
 f:ExF w V P x S m d s1
 q:Blk V Q 30 (ssA s)
 y:Blk V Y 50 (nmc nm)
 own:OwnS V w.heap.size s
 v:s.V=doN x.ac x.sq L x.s.V k
 er:errN chk x.ac x.sq L x.s.V k=0
 hQ:w.heap.size+4 < Q
 hP:Q ≠ P
 hY:Q ≠ Y
section
variable {w V V':World} {P Q Y:Nat} {x:StpR} {S:Option Addr} {m d:Nat} {s1:StR} {L:List OpR} {chk:OpR→StV→Int} {nm:UInt64} {k:Nat} {s:StR}
theorem ExL.ext (h:ExL w V P Q Y x S m d s1 L chk nm k s) (e:Ext V V'):ExL w V' P Q Y x S m d s1 L chk nm k s:=⟨h.f.ext e,h.q.ext e,h.y.ext e,h.own.ext e,h.v,h.er,h.hQ,h.hP,h.hY⟩
theorem ExL.put (h:ExL w V P Q Y x S m d s1 L chk nm k s) {s2:StR} (h9:Hid (V.setCells Q 0 (ssA s2).toList=V')) (ho:OwnS V w.heap.size s2) {k2:Nat} (hv:s2.V=doN x.ac x.sq L x.s.V k2) (he:errN chk x.ac x.sq L x.s.V k2=0):ExL w V' P Q Y x S m d s1 L chk nm k2 s2:=by
 rw [← h9.out]
 exact ⟨h.f.put h.q h.hQ h.hP _,aN (ds:=ssA s2) h.q rfl,h.y.grown (aB _ _ _ _) (fun e=>h.hY ms),ho.kept (aB _ _ _ _) h.q ae ae ae ae,hv,he,h.hQ,h.hP,h.hY⟩
theorem ExL.bd (h:ExL w V P Q Y x S m d s1 L chk nm k s) (h0:x.s.ok w) (hk:k≤4) (hn:x.s.n1≤200000∧x.s.n2≤200000∧x.s.n3≤200000∧x.s.n4≤200000):s.n1≤500000∧s.n2≤500000∧s.n3≤500000∧s.n4≤500000:=by
 have e1:s.C=_:=congrArg StV.C h.v
 have e2:s.Q=x.s.Q:=(congrArg StV.Q h.v).trans (oX ..).1
 have e3:s.K=_:=congrArg StV.K h.v
 have e4:s.P=x.s.P:=(congrArg StV.P h.v).trans (oX ..).2
 have m1:s.C.length=s.n1:=h.own.l1
 have m2:s.Q.length=s.n2:=h.own.l2
 have m3:s.K.length=s.n3:=h.own.l3
 have m4:s.P.length=s.n4:=h.own.l4
 exact wt
end
theorem aBx (x:StpR) (S:Option Addr) (m d:Nat) (L:List OpR) (sig:List UInt8) (VN PN:List UInt64) (BL:List Int) (chk:OpR→StV→Int) (okG sg:Bool) (w:World) (hs:x.s.ok w) (hT:(⟨x.ac,x.sq,x.A,x.n,x.c,S,m,d,L,sig⟩:TxR).ok w) (hV:SlG w x.B1 x.m1 x.d1 VN) (hN:SlG w x.B2 x.m2 x.d2 PN) (hB:SlZ w x.B3 x.m3 x.d3 BL) (hn:x.s.n1≤200000∧x.s.n2≤200000∧x.s.n3≤200000∧x.s.n4≤200000) (hpn:∀ R ∈ L,R.n1≤5000)
    (hok:eP x.gN x.gZ x.m1 x.m2 x.m3 BL=okG) (hsg:vSg (aS PN x.ac.toNat) ⟨x.ac,x.sq,x.A,x.n,x.c,S,m,d,L,sig⟩=sg) (hck:dG x.m2 x.m1 x.ht cL (evU VN) x.ac=chk) :
    Calls prog 9 #[.agg (genC x.gN x.gZ x.B1 x.m1 x.d1 x.B2 x.m2 x.d2 x.B3 x.m3 x.d3),.agg (ssA x.s),.agg (stA x.ac x.sq x.A x.n x.c S m d),.int .i64 x.ht] w (RxP w x L chk okG sg):=by
  have HS0:=zh hs
  have HN:=zh hn
  have HS:=zh (show SlO w x.A x.n x.c L from hT.ops)
  have HTT:=zh hT
  have HVN:=zh hV
  have HPN:=zh hN
  have HPR:=zh hpn
  have HCK:=zh hck
  have hle:x.n≤x.c:=hT.ops.le
  have hcap:x.c≤9223372036854775807:=hT.ops.cap
  have hgl:x.m2≤x.d2:=hN.le
  have hgc:x.d2≤9223372036854775807:=hN.cap
  have hql:x.s.n2≤x.s.c2:=hs.s2.le
  have hqc:x.s.c2≤9223372036854775807:=hs.s2.cap
  have HLEN:=zh (show L.length=x.n from hT.ops.len)
  have HQLEN:=zh (show x.s.V.Q.length=x.s.n2 from hs.s2.len)
  have HVA:=zh (fun (V:World) (e:Ext w V)=>eE x.ac x.sq x.A x.n x.c L V (HS.out.ext e))
  have HVG:=zh (fun (V:World) (e:Ext w V)=>rT x.gN x.gZ x.B1 x.m1 x.d1 x.B2 x.m2 x.d2 x.B3 x.m3 x.d3 BL V (hB.ext e) (Nat.le_trans hV.le hV.cap) (Nat.le_trans hN.le hN.cap))
  rw [hok] at HVG
  have HSG:=zh (fun (V:World) (e:Ext w V)=>vB (aS PN x.ac.toNat) ⟨x.ac,x.sq,x.A,x.n,x.c,S,m,d,L,sig⟩ V (hT.ext e))
  rw [hsg] at HSG
  obtain ⟨W,hW⟩:=gx (((((w.alloc (.cells (genC x.gN x.gZ x.B1 x.m1 x.d1 x.B2 x.m2 x.d2 x.B3 x.m3 x.d3) 25)).alloc (.cells (ssA x.s) 30)).alloc (.cells (stA x.ac x.sq x.A x.n x.c S m d) 36)).alloc (.cells #[.slice none 0 0,.slice none 0 0,.slice none 0 0,.slice none 0 0,.int .i64 0] 30)).alloc (.cells #[.int .i64 0,.slice none 0 0,.int .i64 0,.int .i64 0] 43))
  have HG:=zh (show Blk W w.heap.size 25 (genC x.gN x.gZ x.B1 x.m1 x.d1 x.B2 x.m2 x.d2 x.B3 x.m3 x.d3) from by rw [← hW];exact ((((Blk.new w 25 (genC x.gN x.gZ x.B1 x.m1 x.d1 x.B2 x.m2 x.d2 x.B3 x.m3 x.d3)).alloc _).alloc _).alloc _).alloc _)
  have HB:=zh (show Blk W (w.heap.size+1) 30 (ssA x.s) from lp)
  have HT:=zh (show Blk W (w.heap.size+2) 36 (stA x.ac x.sq x.A x.n x.c S m d) from mu)
  have HR:=zh (show Blk W (w.heap.size+3) 30 (ssA ss0) from aw)
  have HR2:=zh (show Blk W (w.heap.size+4) 43 (rcA rc0) from ag)
  have HE:=zh (show Ext w W from kl)
  have HWS:=zh (show w.heap.size+5≤W.heap.size from kf)
  obtain ⟨q0,q1,q2,q3,q4⟩:=aE HB.out
  clear hs hT hV hN hB hn hpn hok hsg hck
  go_enter func9,ntmps9
  go_wp2_with fail
  refine (iK x.s W (HS0.out.ext HE.out) du).mono ?_
  rintro e w5 ⟨s1,rfl,ho1,hv1,he5⟩
  clear q0 q1 q2 q3 q4
  go_upto_region 2 with ((with_reducible refine fE rfl 30 (.tmp 10) (.tmp 16) rfl _ (ssA s1) _ rfl rfl rfl rfl ab ab ?_);intro W7 P h7;(try rw [h7.out.2.2]))
  have H0:=zh (show ExF w W7 P x S m d s1 from by
    obtain ⟨a1,a2,a3⟩:=h7.out
    have hz:=he5.size
    have hy:=HWS.out
    exact ⟨(HG.out.ext he5).ext a2,(HB.out.ext he5).ext a2,(HT.out.ext he5).ext a2,(HR.out.ext he5).ext a2,(HR2.out.ext he5).ext a2,a1,(ho1.mono HE.out.size).ext a2,hv1,aa,(HE.out.trans he5).trans a2⟩)
  clear h7 ho1 hv1 he5 HG HB HT HR HR2 HE HWS hW
  obtain ⟨bv,hbv⟩:=gx (vTx x.ac x.sq L)
  rw [hbv] at HVA
  obtain ⟨g0,g1,g2,g3,g4,q0,q1,q2,q3,q4,t0,t1,t2,t3,o0,o1,o2,o3,o4⟩:=H0.out.f rfl
  go_wp2_with fail
  refine zcl (HVA.out _ H0.out.low) fun w1 he1=>?_
  have H1:=zh (H0.out.ext he1)
  clear g0 g1 g2 g3 g4 q0 q1 q2 q3 q4 t0 t1 t2 t3 o0 o1 o2 o3 o4 he1 H0
  obtain ⟨g0,g1,g2,g3,g4,q0,q1,q2,q3,q4,t0,t1,t2,t3,o0,o1,o2,o3,o4⟩:=H1.out.f rfl
  cases bv
  · have HZ := zh (vX (chk := chk) (okG := okG) (na := x.m2) (sg := sg) (S := x.s.V) (.inl hbv))
    exact vP
  have HVT:=zh hbv
  obtain ⟨⟨v1,v2,v3,v4,v5,v6⟩,-⟩:=dX hbv
  have hn4:x.n≤4:=fj
  have HN4:=zh hn4
  obtain ⟨a,ha⟩:∃ a:Nat,x.ac=(a:Int):=⟨x.ac.toNat,aa⟩
  have HA:=zh ha
  rw [ha] at t0
  have HSQ:=zh (show wfI (x.sq+1) from wfS ⟨aa,aa⟩)
  have hw9:wrap64 (x.sq+1)=x.sq+1:=by rw [← rB];exact kT ⟨aa,aa⟩
  have HW9:=zh hw9
  clear hbv v1 v2 v3 v4 v5 v6 hn4 hw9
  by_cases hna:(x.m2:Int)≤(a:Int)
  · have HZ := zh (vX (chk := chk) (okG := okG) (na := x.m2) (sg := sg) (S := x.s.V) (ac := x.ac) (sq := x.sq) (L := L) (.inr (.inr (.inl (show (x.m2 : Int) ≤ x.ac from by rw [ha]; exact hna)))))
    have i1:(a:Int) ≥ (x.m2:Int):=hna
    clear ha
    exact vP
  have i1:¬ (a:Int) ≥ (x.m2:Int):=hna
  clear ha
  go_wp2_with fail
  refine zcl (HVG.out _ H1.out.low) fun w2 he2=>?_
  have H2:=zh (H1.out.ext he2)
  clear g0 g1 g2 g3 g4 q0 q1 q2 q3 q4 t0 t1 t2 t3 o0 o1 o2 o3 o4 he2 H1
  obtain ⟨g0,g1,g2,g3,g4,q0,q1,q2,q3,q4,t0,t1,t2,t3,o0,o1,o2,o3,o4⟩:=H2.out.f HA.out
  cases okG
  · have HZ := zh (vX (chk := chk) (okG := false) (na := x.m2) (sg := sg) (S := x.s.V) (ac := x.ac) (sq := x.sq) (L := L) (.inr (.inl rfl)))
    exact Ar
  by_cases hq:x.s.n2=x.m2
  rotate_left
  · have HZ := zh (vX (chk := chk) (okG := true) (na := x.m2) (sg := sg) (S := x.s.V) (ac := x.ac) (sq := x.sq) (L := L) (.inr (.inr (.inr (by rw [HQLEN.out]; exact hq)))))
    have b1:((x.s.n2:Int) != (x.m2:Int))=true:=bne_iff_ne.2 aa
    exact Ar
  obtain ⟨gb,go,hgb,-,-⟩:=HPN.out.at aa
  obtain ⟨qb,qo,hqa,-,-⟩:=HS0.out.s2.at aa
  have HGB:=zh hgb
  have HQB:=zh hqa
  obtain ⟨pk,hpk⟩:=gx (aS PN a)
  have HPK:=zh (fun (V:World) (e:Ext w V)=>show V.rangeAt gb (go+a * 8) (RowT.enc pk) from by
    rw [← hpk]
    obtain ⟨b2,o2,e2,hr2,-⟩:=(HPN.out.ext e).at aa
    rw [HGB.out] at e2
    injection e2 with e3
    injection e3 with e4 e5
    subst e4
    subst e5
    exact cN (k:=a) hr2 (by rw [HPN.out.len];omega))
  have HQC:=zh (fun (V:World) (e:Ext w V)=>show V.cell? ⟨qb,qo+a,none⟩=some (.int .i64 (aS x.s.Q a)) from by
    obtain ⟨b2,o2,e2,hr2,-⟩:=(HS0.out.ext e).s2.at aa
    rw [HQB.out] at e2
    injection e2 with e3
    injection e3 with e4 e5
    subst e4
    subst e5
    have h5:V.rangeAt qb (qo+a * 1) (RowT.enc (aS x.s.Q a)):=cN hr2 (by rw [HS0.out.s2.len];omega)
    have h7:=h5 0 _ rfl
    rwa [show qo+a * 1+0=qo+a from aa] at h7)
  have HSG:=zh (fun (V:World) (e:Ext w V)=>show Calls prog 35 #[.agg (nmc pk),.agg (stA (a:Int) x.sq x.A x.n x.c S m d)] V (fun e w'=>e=.returned (.bool sg)∧Ext V w') from by
    have h:=HSG.out V e
    rwa [show x.ac.toNat=a from by rw [HA.out];rfl,hpk,show tA ⟨x.ac,x.sq,x.A,x.n,x.c,S,m,d,L,sig⟩=stA (a:Int) x.sq x.A x.n x.c S m d from by rw [← HA.out]] at h)
  have HBE:=zh (show lM true x.m2 sg x.s.V x.ac x.sq L=if sg=false then 8 else if cG x.ac x.sq L ∈ x.s.P then 7 else if x.sq ≠ aS x.s.Q a then 101 else 0 from by
    unfold lM
    rw [if_neg (by rintro (h | h | h | h)
                   · rw [HVT.out] at h;cases h
                   · cases h
                   · rw [HA.out] at h;omega
                   exact h (HQLEN.out.trans hq)),HA.out,Int.toNat_natCast]
    rfl)
  have HAQ:=zh (show a < x.s.n2 from aa)
  have i2:(a:Int) < (x.s.n2:Int):=aa
  have i3:(0:Int)≤(a:Int):=aa
  have i4:(a:Int) < (x.m2:Int):=aa
  have b1:((x.s.n2:Int) != (x.m2:Int))=false:=by rw [hq];exact bne_self_eq_false _
  clear hgb hqa hpk hna i1 HVG HVA
  go_upto_region 4 with fail
  clear g0 g1 g2 g3 g4 q0 q1 q2 q3 q4 t0 t1 t2 t3 o0 o1 o2 o3 o4 hq b1
  obtain ⟨W9,rfl⟩:∃ W,W=w2:=⟨_,rfl⟩
  have H9:=H2
  clear H2
  refine wp_region_held_drew (S:=fun V=>Ext W9 V) ab ((Ext.refl W9).drew') (fun aA=>?_)
  refine zz0 [0,1,2,3,4,5] ?_;repeat first | refine zz1 ?_ (hy:=ig) | refine zz2 ?_ | refine zz9 ?_
  refine zu 6 (v:=.agg (nmc pk)) aA ?_ (hy:=by exact aG nmP dp (.tmp 51) rfl gb (go+a * 8) rfl pk _ rfl (fun V h=>HPK.out V (H9.out.low.trans h)))
  refine zz0 [7] ?_;repeat first | refine zz1 ?_ (hy:=ig) | refine zz2 ?_ | refine zz9 ?_
  refine za 8 (fun K hK=>?_)
  (go_simp;go_at_call 35;refine (HSG.out _ (H9.out.low.trans aA)).mono ?_;rintro e w5 ⟨rfl,he5⟩)
  refine hK.out _ _ (aA.trans he5) (fun aA=>?_)
  clear hK K
  try simp only [bB]
  refine zt 9 aA ?_
  refine wpd ?_
  have H3:=zh (H9.out.ext aA)
  clear aA H9
  cases sg
  · have HZ := zh (aFo (chk := chk) (z := 8) (by rw [HBE.out]; rfl) ae)
    obtain ⟨g0,g1,g2,g3,g4,q0,q1,q2,q3,q4,t0,t1,t2,t3,o0,o1,o2,o3,o4⟩:=H3.out.f HA.out
    go_wp2_with (first | ((with_reducible refine aH rfl (.tmp 8) (.tmp 56) rfl (w.heap.size+3) s1 rfl rfl H3.out.r1 ?_);intro W9 h9;have HT9:=zh (H3.out.th h9)) | ((with_reducible refine bH rcP rfl (.tmp 9) (.tmp 57) rfl (w.heap.size+4) 0 rfl ⟨8,none,0,0,0,0⟩ _ rfl rfl HT9.out ?_);intro W8 hW8))
    exact rxE H3.out HZ.out ae h9 hW8
  obtain ⟨nm,hnm⟩:=gx (cG x.ac x.sq L)
  have HTN:=zh (jP x.ac x.sq x.A x.n x.c L _ (HS.out.ext H3.out.low))
  rw [hnm,HA.out] at HTN
  rw [hnm] at HBE
  have HNM:=zh hnm
  obtain ⟨vn,hvn⟩:=gx (Value.agg (nmc nm))
  rw [hvn] at HTN
  have HVNN:=zh hvn
  clear hnm hvn
  obtain ⟨g0,g1,g2,g3,g4,q0,q1,q2,q3,q4,t0,t1,t2,t3,o0,o1,o2,o3,o4⟩:=H3.out.f HA.out
  go_wp2_with fail
  refine zcl HTN.out fun w4 he4=>?_
  have H4:=zh (H3.out.ext he4)
  obtain ⟨Y,hY⟩:=gx (w4.heap.size)
  have HYS:=zh hY
  clear g0 g1 g2 g3 g4 q0 q1 q2 q3 q4 t0 t1 t2 t3 o0 o1 o2 o3 o4 he4 H3 hY HTN
  go_upto_region 7 with ((with_reducible refine aU nmP rfl (.tmp 11) (.tmp 60) rfl _ rfl nm vn HVNN.out rfl rfl ?_);intro W5 h5)
  have hx5:Ext w4 W5:=by rw [← h5.out];exact (Ext.refl w4).alloc' _
  have HY5:=zh (show Blk W5 Y 50 (nmc nm) from by rw [← h5.out,← HYS.out];exact Blk.new w4 50 (nmc nm))
  have H5:=zh (H4.out.ext hx5)
  try rw [HYS.out]
  clear h5 hx5 H4
  obtain ⟨ap,hap⟩:=gx (decide (nm ∈ x.s.P))
  have HHN:=zh (rV x.s.A4 x.s.n4 x.s.c4 x.s.P nm W5 (HS0.out.ext H5.out.low).s4)
  rw [hap,HVNN.out] at HHN
  have HAP:=zh hap
  clear hap
  obtain ⟨g0,g1,g2,g3,g4,q0,q1,q2,q3,q4,t0,t1,t2,t3,o0,o1,o2,o3,o4⟩:=H5.out.f HA.out
  have ry:W5.rangeAt Y 0 (RowT.enc nm):=aC HY5.out
  go_wp2_with (first | (with_reducible refine aD nmP rfl (.tmp 11) rfl Y 0 rfl nm vn HVNN.out ry ?_) | fail "A")
  refine zcl HHN.out fun w6 he6=>?_
  have H6:=zh (H5.out.ext he6)
  have HY6:=zh (HY5.out.ext he6)
  clear g0 g1 g2 g3 g4 q0 q1 q2 q3 q4 t0 t1 t2 t3 o0 o1 o2 o3 o4 ry he6 H5 HY5 HHN
  cases ap
  rotate_left
  · have HZ := zh (aFo (chk := chk) (z := 7) (by rw [HBE.out, if_neg ae, if_pos (of_decide_eq_true HAP.out)]) ae)
    obtain ⟨g0,g1,g2,g3,g4,q0,q1,q2,q3,q4,t0,t1,t2,t3,o0,o1,o2,o3,o4⟩:=H6.out.f HA.out
    go_wp2_with (first | ((with_reducible refine aH rfl (.tmp 8) (.tmp 65) rfl (w.heap.size+3) s1 rfl rfl H6.out.r1 ?_);intro W9 h9;have HT9:=zh (H6.out.th h9)) | ((with_reducible refine bH rcP rfl (.tmp 9) (.tmp 66) rfl (w.heap.size+4) 0 rfl ⟨7,none,0,0,0,0⟩ _ rfl rfl HT9.out ?_);intro W8 hW8))
    exact rxE H6.out HZ.out ae h9 hW8
  go_upto_region 9 with fail
  obtain ⟨W9,rfl⟩:∃ W,W=w6:=⟨_,rfl⟩
  have H9:=H6
  clear H6
  obtain ⟨b9,hb9⟩:=gx (aS x.s.Q a != x.sq)
  have HB9:=zh hb9
  refine wp_region_held_drew (S:=fun V=>Ext W9 V) ab ((Ext.refl W9).drew') (fun aA=>?_)
  refine zz0 [0,1,2,3,4,5,6,7,8,9,10] ?_;repeat first | refine zz1 ?_ (hy:=by intro W aP;obtain ⟨g0,g1,g2,g3,g4,q0,q1,q2,q3,q4,t0,t1,t2,t3,o0,o1,o2,o3,o4⟩:=(H9.out.ext aP).f HA.out;rw [HQB.out] at q1;have c9:=HQC.out W (H9.out.low.trans aP);go_simp <;> with_reducible rfl) | refine zz2 ?_ | refine zz9 ?_
  refine wpd ?_
  have H3:=zh (H9.out.ext aA)
  have HY3:=zh (HY6.out.ext aA)
  clear aA H9 HY6 hb9
  cases b9
  rotate_left
  · have HZ := zh (aFo (chk := chk) (z := 101) (by rw [HBE.out, if_neg ae, if_neg (of_decide_eq_false HAP.out), if_pos (fun e => by have h9 := HB9.out; rw [← e, bne_self_eq_false] at h9; cases h9)]) ae)
    obtain ⟨g0,g1,g2,g3,g4,q0,q1,q2,q3,q4,t0,t1,t2,t3,o0,o1,o2,o3,o4⟩:=H3.out.f HA.out
    go_wp2_with (first | ((with_reducible refine aH rfl (.tmp 8) (.tmp 78) rfl (w.heap.size+3) s1 rfl rfl H3.out.r1 ?_);intro W9 h9;have HT9:=zh (H3.out.th h9)) | ((with_reducible refine bH rcP rfl (.tmp 9) (.tmp 79) rfl (w.heap.size+4) 0 rfl ⟨101,none,0,0,0,0⟩ _ rfl rfl HT9.out ?_);intro W8 hW8))
    exact rxE H3.out HZ.out ae h9 hW8
  have HBZ:=zh (show lM true x.m2 true x.s.V x.ac x.sq L=0 from by
    rw [HBE.out,if_neg ae,if_neg (of_decide_eq_false HAP.out),if_neg (fun h=>h (by have h9:=HB9.out;simp only [bne_eq_false_iff_eq] at h9;exact h9.symm))])
  clear HBE HAP HB9 HSG HPK HQC HQB HGB
  obtain ⟨g0,g1,g2,g3,g4,q0,q1,q2,q3,q4,t0,t1,t2,t3,o0,o1,o2,o3,o4⟩:=H3.out.f HA.out
  go_wp2_with fail
  refine (iK x.s _ (HS0.out.ext H3.out.low) du).mono ?_
  rintro e w8 ⟨s2,rfl,ho2,hv2,he8⟩
  have H8:=zh (H3.out.ext he8)
  have HY8:=zh (HY3.out.ext he8)
  have HO8:=zh (ho2.mono H3.out.low.size)
  have HS8:=zh (show P < w8.heap.size∧Y < w8.heap.size from ⟨H8.out.o.lt,HY8.out.lt⟩)
  have HV8:=zh hv2
  clear g0 g1 g2 g3 g4 q0 q1 q2 q3 q4 t0 t1 t2 t3 o0 o1 o2 o3 o4 he8 ho2 hv2 H3 HY3
  go_upto_region 12 with ((with_reducible refine fE rfl 30 (.tmp 12) (.tmp 81) rfl _ (ssA s2) _ rfl rfl rfl rfl ab ab ?_);intro W3 Q h7;(try rw [h7.out.2.2]))
  have HL0:=zh (show ExL w W3 P Q Y x S m d s1 L chk nm 0 s2 from by
    obtain ⟨a1,a2,a3⟩:=h7.out
    have hz:=HS8.out
    have hf:=H8.out.far
    exact ⟨H8.out.ext a2,a1,HY8.out.ext a2,HO8.out.ext a2,HV8.out,rfl,aa,aa,aa⟩)
  clear h7 H8 HY8 HO8 HS8 HV8
  go_wp2_with fail
  go_loopw [13] (fun vi wr=>∃ (k:Nat) (s:StR),vi=.int .i64 (k:Int)∧k≤x.n∧Hid (ExL w wr P Q Y x S m d s1 L chk nm k s)) (fun i _=>x.n - (intOf i).toNat)
  case atStart=>exact ⟨0,s2,rfl,Nat.zero_le _,HL0⟩
  case round =>
    clear HL0
    obtain ⟨k,s,rfl,hk,HL⟩:=hrel
    have HBD:=zh (HL.out.bd HS0.out (by have:=HN4.out;omega) HN.out)
    by_cases hlt:k < x.n
    · have i0 : (0 : Int) ≤ (k : Int) := aa
      have i1:(k:Int) < (x.n:Int):=aa
      have HKN:=zh hlt
      obtain ⟨z,hz⟩:=gx (chk (bR L k) s.V)
      have HCH:=zh (aEU { x with s:=s } L k VN wr HL.out.own.ok (HS.out.ext HL.out.f.low) hlt HVT.out (HVN.out.ext HL.out.f.low) (Nat.le_trans HPN.out.le HPN.out.cap) (fun R hR=>Nat.le_trans (HPR.out R hR) aa))
      have HCH:=zh (show Calls prog 38 #[.agg (genC x.gN x.gZ x.B1 x.m1 x.d1 x.B2 x.m2 x.d2 x.B3 x.m3 x.d3),.agg (ssA s),.agg (txA (a:Int) x.sq x.A x.n x.c),.int .i64 (k:Int),.int .i64 x.ht] wr (fun e w'=>e=.returned (.int .i64 z)∧Ext wr w') from by
        rw [← hz,← HCK.out,← HA.out];exact HCH.out)
      have HZ0:=zh (show chk (bR L k) (doN x.ac x.sq L x.s.V k)=z from by rw [← HL.out.v];exact hz)
      clear hz
      obtain ⟨g0,g1,g2,g3,g4,q0,q1,q2,q3,q4,t0,t1,t2,t3,o0,o1,o2,o3,o4⟩:=HL.out.f.f HA.out
      obtain ⟨n0,n1,n2,n3,n4⟩:=aE HL.out.q
      go_wp2_with fail
      refine zcl HCH.out fun w6 he6=>?_
      have HL6:=zh (HL.out.ext he6)
      clear g0 g1 g2 g3 g4 q0 q1 q2 q3 q4 t0 t1 t2 t3 o0 o1 o2 o3 o4 n0 n1 n2 n3 n4 he6 HL HCH
      obtain ⟨g0,g1,g2,g3,g4,q0,q1,q2,q3,q4,t0,t1,t2,t3,o0,o1,o2,o3,o4⟩:=HL6.out.f.f HA.out
      obtain ⟨n0,n1,n2,n3,n4⟩:=aE HL6.out.q
      by_cases hz0:z=0
      rotate_left
      · have HZ := zh (show iX chk true x.m2 true x.s.V x.ac x.sq L = z from (aGp HBZ.out fk HL6.out.er (fun h => hz0 (HZ0.out.symm.trans h))).trans HZ0.out)
        have h1:(z != 0)=true:=bne_iff_ne.2 hz0
        have H9:=zh HL6.out.f
        go_wp2_with (first | ((with_reducible refine aH rfl (.tmp 8) (.tmp 99) rfl (w.heap.size+3) s1 rfl rfl H9.out.r1 ?_);intro W9 h9;have HT9:=zh (H9.out.th h9)) | ((with_reducible refine bH rcP rfl (.tmp 9) (.tmp 101) rfl (w.heap.size+4) 0 rfl ⟨z,none,0,0,0,0⟩ _ rfl rfl HT9.out ?_);intro W8 hW8))
        exact rxE H9.out HZ.out hz0 h9 hW8
      subst hz0
      have HE1:=zh (show errN chk x.ac x.sq L x.s.V (k+1)=0 from by
        show (if _ then _ else _)=_
        rw [if_neg (by rw [HL6.out.er];simp)];exact HZ0.out)
      go_wp2_with fail
      have HDO:=zh (show Calls prog 39 #[.agg (ssA s),.agg (txA (a:Int) x.sq x.A x.n x.c),.int .i64 (k:Int)] w6 (jB w6 (doO x.ac x.sq L s.V k)) from by
        have h:=aGX s x.ac x.sq x.A x.n x.c L k w6 HL6.out.own.ok (HS.out.ext HL6.out.f.low) HKN.out HVT.out fs
        rwa [show txA x.ac x.sq x.A x.n x.c=txA (a:Int) x.sq x.A x.n x.c from by rw [HA.out]] at h)
      refine HDO.out.mono ?_
      rintro e w7 ⟨s3,rfl,ho3,hv3,he7⟩
      have HL7:=zh (HL6.out.ext he7)
      have HO7:=zh (ho3.mono HL6.out.f.low.size)
      have HV7:=zh (show s3.V=doN x.ac x.sq L x.s.V (k+1) from by rw [hv3,oW,HL6.out.v])
      clear g0 g1 g2 g3 g4 q0 q1 q2 q3 q4 t0 t1 t2 t3 o0 o1 o2 o3 o4 n0 n1 n2 n3 n4 he7 HL6 ho3 hv3
      go_wp2_with ((with_reducible refine aH rfl (.tmp 12) (.tmp 106) rfl Q s3 rfl rfl HL7.out.q ?_);intro W6 h6)
      have HL8:=zh (HL7.out.put h6 HO7.out HV7.out HE1.out)
      clear h6 HL7 HO7 HV7 HE1
      go_roundw
      case rel=>exact ⟨k+1,s3,ar,hlt,HL8⟩
      case measure=>simp [intOf];omega
    obtain rfl:x.n=k:=aa
    have i1:¬ (x.n:Int) < (x.n:Int):=aa
    have HFZ:=zh (show iX chk true x.m2 true x.s.V x.ac x.sq L=0 from aGo HBZ.out (by rw [HLEN.out];exact HL.out.er))
    have HFS:=zh (show nX chk true x.m2 true x.s.V x.ac x.sq L=aJo x.s.V x.ac x.sq L from if_pos HFZ.out)
    have HQN:=zh (show a < s.n2 from by
      have hq:s.Q=x.s.Q:=(congrArg StV.Q HL.out.v).trans (oX ..).1
      have h1:s.Q.length=s.n2:=HL.out.own.l2
      have h2:x.s.Q.length=x.s.n2:=HQLEN.out
      rw [hq,h2] at h1
      have:=HAQ.out
      omega)
    have i2:(a:Int) < (s.n2:Int):=nb
    obtain ⟨bb,hA2,-,-⟩:=cM HL.out.own.o2 nb
    have HBB:=zh hA2
    have HB5:=zh (show wr.ownsRow w.heap.size 3 1 (.slice (some ⟨bb,0,none⟩) s.n2 s.c2) s.n2 (gcs s.Q) from by have:=HL.out.own.o2;rwa [hA2] at this)
    have HNE:=zh (fun (X:Nat) (t:TypeId) (cs:Array Value) (h:Blk wr X t cs) (ht:t ≠ 3)=>show X ≠ bb from fun e=>aL HB5.out h ht gp)
    obtain ⟨g0,g1,g2,g3,g4,q0,q1,q2,q3,q4,t0,t1,t2,t3,o0,o1,o2,o3,o4⟩:=HL.out.f.f HA.out
    obtain ⟨n0,n1,n2,n3,n4⟩:=aE HL.out.q
    rw [hA2] at n1
    have c9:=rN HL.out.own hA2 HQN.out
    have f9:=qH HL.out.own hA2 a
    have hw9:=HW9.out
    clear hA2
    go_upto_region 20 with fail
    clear g0 g1 g2 g3 g4 q0 q1 q2 q3 q4 t0 t1 t2 t3 o0 o1 o2 o3 o4 n0 n1 n2 n3 n4 c9 f9 hw9
    have HT5:=zh (HL.out.f.t.far (p:=⟨bb,a,none⟩) (HNE.out _ _ _ HL.out.f.t ae) (.int .i64 (x.sq+1)))
    have HR5:=zh (HL.out.f.r1.far (p:=⟨bb,a,none⟩) (HNE.out _ _ _ HL.out.f.r1 ae) (.int .i64 (x.sq+1)))
    have HC5:=zh (HL.out.f.r2.far (p:=⟨bb,a,none⟩) (HNE.out _ _ _ HL.out.f.r2 ae) (.int .i64 (x.sq+1)))
    have HO5:=zh (HL.out.f.o.far (p:=⟨bb,a,none⟩) (HNE.out _ _ _ HL.out.f.o ae) (.int .i64 (x.sq+1)))
    have HY5:=zh (HL.out.y.far (p:=⟨bb,a,none⟩) (HNE.out _ _ _ HL.out.y ae) (.int .i64 (x.sq+1)))
    have HS5:=zh (StB.cell2 (w0:=w) (g:=Q) (s:=s) ⟨HL.out.q,HL.out.own,HL.out.f.low,by have:=HL.out.hQ;omega⟩ HBB.out a (x.sq+1) HSQ.out HQN.out)
    obtain ⟨W9,hW9⟩:=gx (wr.setCell ⟨bb,a,none⟩ (.int .i64 (x.sq+1)))
    rw [hW9] at HT5 HR5 HC5 HO5 HY5 HS5 ⊢
    obtain ⟨s4,hs4⟩:∃ s4:StR,{ s with Q:=s.Q.set a (x.sq+1) }=s4:=⟨_,rfl⟩
    rw [hs4] at HS5
    have HV4:=zh (show (⟨s4.C,s4.Q,s4.K,dW s4.P nm,s4.G⟩:StV)=nX chk true x.m2 true x.s.V x.ac x.sq L from by
      rw [HFS.out,← hs4]
      unfold aJo
      rw [HNM.out,HA.out,Int.toNat_natCast,HLEN.out,← HA.out,← HL.out.v]
      rfl)
    have HB4:=zh (show s4.n1≤1000000∧s4.n2≤1000000∧s4.n3≤1000000∧s4.n4≤1000000 from by
      exact CN)
    have HQS:=zh (show w.heap.size+4 < Q∧Q ≠ P∧w.heap.size+4 < P∧s1.V=x.s.V from ⟨HL.out.hQ,HL.out.hP,HL.out.f.far,HL.out.f.v⟩)
    clear hs4 hW9 HL
    obtain ⟨n0,n1,n2,n3,n4⟩:=aE HS5.out.blk
    have ry:W9.rangeAt Y 0 (RowT.enc nm):=aC HY5.out
    go_wp2_with (first | (with_reducible refine aD nmP rfl (.tmp 11) rfl Y 0 rfl nm _ rfl ry ?_) | fail "A")
    refine (aGV s4 nm _ HS5.out.own.ok HB4.out).mono ?_
    rintro e w6 ⟨s5,rfl,ho5,hv5,he5⟩
    have HV5:=zh (hv5.trans HV4.out)
    have HS6:=zh (HS5.out.ext he5)
    have HT7:=zh (HT5.out.ext he5)
    have HR7:=zh (HR5.out.ext he5)
    have HC7:=zh (HC5.out.ext he5)
    have HO7:=zh (HO5.out.ext he5)
    have HW5:=zh (bO ho5 HS5.out.low.size)
    clear ry n0 n1 n2 n3 n4 ho5 hv5 he5 HY5 HS5 HT5 HR5 HC5 HO5
    go_upto_region 21 with ((with_reducible refine aH rfl (.tmp 12) (.tmp 119) rfl Q s5 rfl rfl HS6.out.blk ?_);intro W6 h6)
    obtain ⟨k1,k2,k3,k4⟩:=HQS.out
    have HG1:=zh (show s1.G=x.s.V.G from congrArg StV.G k4)
    have HB6:=zh (show Blk W6 Q 30 (ssA s5) from by rw [← h6.out];exact aN (ds:=ssA s5) HS6.out.blk rfl)
    have HO6:=zh (show Blk W6 P 30 (ssA s1) from by rw [← h6.out];exact HO7.out.grown (aB _ _ _ _) (fun e=>k2 ms))
    have HT6:=zh (show Blk W6 (w.heap.size+2) 36 (stA x.ac x.sq x.A x.n x.c S m d) from by rw [← h6.out];exact HT7.out.grown (aB _ _ _ _) (fun e=>dq))
    have HR6:=zh (show Blk W6 (w.heap.size+3) 30 (ssA ss0) from by rw [← h6.out];exact HR7.out.grown (aB _ _ _ _) (fun e=>dq))
    have HC6:=zh (show Blk W6 (w.heap.size+4) 43 (rcA rc0) from by rw [← h6.out];exact HC7.out.grown (aB _ _ _ _) (fun e=>dq))
    have HX6:=zh (show Ext w W6 from by rw [← h6.out];exact Below.setCells' HS6.out.low aa _ _)
    have HW6:=zh (show OwnS W6 w.heap.size s5 from by rw [← h6.out];exact HW5.out.kept (aB _ _ _ _) HS6.out.blk ae ae ae ae)
    clear h6 HS6 HT7 HR7 HC7 HO7 HW5 k4
    obtain ⟨W9,hW9⟩:∃ W,W=W6:=⟨_,rfl⟩
    subst hW9
    have HSE:=zh (show ∀ V V':World,(fun V=>Blk V Q 30 (ssA s5)∧Blk V P 30 (ssA s1)∧Blk V (w.heap.size+2) 36 (stA x.ac x.sq x.A x.n x.c S m d)∧(∃ z,Blk V (w.heap.size+3) 30 (ssA z))∧(∃ z,Blk V (w.heap.size+4) 43 (rcA z))∧Ext w V) V→Ext V V'→(fun V=>Blk V Q 30 (ssA s5)∧Blk V P 30 (ssA s1)∧Blk V (w.heap.size+2) 36 (stA x.ac x.sq x.A x.n x.c S m d)∧(∃ z,Blk V (w.heap.size+3) 30 (ssA z))∧(∃ z,Blk V (w.heap.size+4) 43 (rcA z))∧Ext w V) V' from fun V V' h e=>⟨h.1.ext e,h.2.1.ext e,h.2.2.1.ext e,cq,om,h.2.2.2.2.2.trans e⟩)
    refine wp_region_held_drew (S:=fun V=>Blk V Q 30 (ssA s5)∧Blk V P 30 (ssA s1)∧Blk V (w.heap.size+2) 36 (stA x.ac x.sq x.A x.n x.c S m d)∧(∃ z,Blk V (w.heap.size+3) 30 (ssA z))∧(∃ z,Blk V (w.heap.size+4) 43 (rcA z))∧Ext w V) ab (⟨HB6.out.drew,HO6.out.drew,HT6.out.drew,⟨_,HR6.out.drew⟩,⟨_,HC6.out.drew⟩,HX6.out.trans ((Ext.refl _).drew')⟩) (fun aA=>?_)
    refine zz0 [0,1,2,4,5,7,8,9,10,11] ?_;repeat first | refine zz1 ?_ (hy:=by intro W aP;obtain ⟨n0,n1,n2,n3,n4⟩:=aE aP.1;have m4:W.cell? ⟨P,4,none⟩=some (.int .i64 s1.G):=aP.2.1.cell 4;have t0:=aP.2.2.1.cell 0;have t1:=aP.2.2.1.cell 1;have t2:=aP.2.2.1.cell 2;go_simp <;> with_reducible rfl) | refine zz2 ?_ | refine zz9 ?_
    refine za 3 (fun K hK=>?_)
    (go_simp;go_at_call 41;refine (uP x.ac x.sq x.A x.n x.c L _ (HS.out.ext aA.2.2.2.2.2)).mono ?_;rintro e w8 ⟨A5,n5,c5,rfl,ho8,hw8,he8⟩;have ho8:=bA ho8 aA.2.2.2.2.2.size)
    refine hK.out _ _ (HSE.out _ _ aA he8) (fun aA=>?_)
    clear hK K
    try simp only [bB]
    refine za 6 (fun K hK=>?_)
    (go_simp;go_at_call 42;refine (aBw x.ac x.sq x.A x.n x.c L _ (HS.out.ext aA.2.2.2.2.2)).mono ?_;rintro e w10 ⟨rfl,he9⟩;have ho8:=bC ho8 he9)
    refine hK.out _ _ (HSE.out _ _ aA he9) (fun aA=>?_)
    clear hK K
    try simp only [bB]
    refine zu 12 (v:=.agg (rcA (⟨0,A5,n5,c5,gH x.ac x.sq L,bits .andNot .i64 s5.G s1.G⟩:RcR))) aA ?_ (hy:=by exact wA dp (aHx (vx:=.slice A5 n5 c5) (vy:=.int .i64 (gH x.ac x.sq L)) (vz:=.int .i64 (bits .andNot .i64 s5.G s1.G)) (.tmp 123) (.tmp 126) (.tmp 131) dp dp dp dp (aEJ (⟨0,A5,n5,c5,gH x.ac x.sq L,bits .andNot .i64 s5.G s1.G⟩:RcR) rfl)))
    refine za 13 (fun K hK=>?_)
    (obtain ⟨z6,hz6⟩:=aA.2.2.2.1;refine bQ rfl (.tmp 8) (.tmp 120) dp (w.heap.size+3) (.agg (ssA s5)) s5 rfl dp dp hz6 ?_;intro W6 h6)
    refine hK.out _ _ (⟨aA.1.grown al (fun e=>dq),aA.2.1.grown al (fun e=>dq),aA.2.2.1.grown al (fun e=>dq),⟨_,h6.out.2⟩,l6,m7⟩) (fun aA=>?_)
    clear hK K
    try simp only [bB]
    refine za 14 (fun K hK=>?_)
    (obtain ⟨z7,hQ6⟩:=aA.2.2.2.2.1;refine mZ rcP rfl (.tmp 9) (.tmp 132) dp (w.heap.size+4) 0 dp (⟨0,A5,n5,c5,gH x.ac x.sq L,bits .andNot .i64 s5.G s1.G⟩:RcR) (.agg (rcA (⟨0,A5,n5,c5,gH x.ac x.sq L,bits .andNot .i64 s5.G s1.G⟩:RcR))) rfl dp (aI hQ6) ?_;intro W8 hW8;have hX8:Ext w W8:=ng)
    refine hK.out _ _ (⟨aA.1.grown cy (fun e=>dq),aA.2.1.grown cy (fun e=>dq),aA.2.2.1.grown cy (fun e=>dq),me,⟨_,jj⟩,hX8⟩) (fun aA=>?_)
    clear hK K
    try simp only [bB]
    refine wpd ?_
    have HXW:=zh (show Ext W9 w10 from (((Ext.refl W9).drew').trans he8).trans he9)
    have hst:Blk W8 (w.heap.size+3) 30 (ssA s5):=mv
    have hst2:Blk W8 (w.heap.size+4) 43 (rcA (⟨0,A5,n5,c5,gH x.ac x.sq L,bits .andNot .i64 s5.G s1.G⟩:RcR)):=jj
    have HOW5:=zh (show OwnS W8 w.heap.size s5 from by
      rw [← hW8.out]
      refine OwnS.kept ?_ (aB _ _ _ _) hQ6 ae ae ae ae
      rw [← h6.out.1]
      exact (HW6.out.ext HXW.out).kept (aB _ _ _ _) hz6 ae ae ae ae)
    have HOE:=zh (show W8.ownsRow w.heap.size 92 11 (.slice A5 n5 c5) n5 (gcs (iO x.ac x.sq L)) from by
      have h1:W6.ownsRow w.heap.size 92 11 (.slice A5 n5 c5) n5 (gcs (iO x.ac x.sq L)):=by
        exact CV
      rw [← hW8.out]
      exact h1.kept (aB _ _ _ _) (.inr (Ne.symm (aL h1 hQ6 ae))))
    have HXE:=zh hX8
    have HW8:=zh hw8
    have hGE:bits .andNot .i64 s5.G s1.G=rcG (iX chk true x.m2 true x.s.V x.ac x.sq L) x.s.V (nX chk true x.m2 true x.s.V x.ac x.sq L):=by rw [HFZ.out,HG1.out,show s5.G=s5.V.G from rfl,HV5.out];rfl
    have HGE:=zh hGE
    clear h6 hW8 aA hQ6 hz6 hX8 hw8 ho8 he8 he9 hGE
    go_wp2_with fail
    exact bodyPost_ret (v:=.tuple #[.agg (ssA s5),.agg (rcA (⟨0,A5,n5,c5,gH x.ac x.sq L,bits .andNot .i64 s5.G s1.G⟩:RcR))]) (aCU rfl _ _ (w.heap.size+3) (w.heap.size+4) _ _ rfl rfl (run_loadVar_row _ _ _ _ _ (0,0) _ hst underlying30 rfl ab) (run_loadVar_row _ _ _ _ _ (0,0) _ hst2 underlying43 rfl ab)) rfl ⟨s5,A5,n5,c5,by rw [← HGE.out,HFZ.out];rfl,HOW5.out,HV5.out,by rw [HFZ.out];exact OwnG.sl (e:=92) HOE.out HW8.out,HXE.out⟩
end
end Go.Proofs.YtgmnmjeccfnmbaaGreat
