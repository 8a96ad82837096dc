/- The conditions of law22. -/
import Derived.Test.YtohmmcahpakokaaGreatH48
import Derived.Test.YtohmmcahpakokaaGreatH50
set_option maxRecDepth 100000
set_option maxHeartbeats 8000000
set_option linter.unusedVariables false
set_option linter.unusedSimpArgs false
namespace Go.Proofs.YtohmmcahpakokaaGreat
section
open Go.RowKit
attribute [local go_sem ↓] Go.wp_at_zero Go.wp_at_succ
theorem aCP (ac sq:Int) (A:Option Addr) (n c:Nat) (L:List OpR) (w:World) (hS:SlO w A n c L) :
  Calls Tryz.prog 11 #[.agg (txA ac sq A n c)] w (aIo w):=by
 have hle:=hS.le
 have hcap:=hS.cap
 have HL:=zh hS.len
 have hE:=(Ext.refl w).alloc' (.cells (txA ac sq A n c) 24)
 obtain ⟨w0,hw0⟩:∃ w0,w.alloc (.cells (txA ac sq A n c) 24)=w0:=⟨_,rfl⟩
 have q0:(w.alloc (.cells (txA ac sq A n c) 24)).cell? ⟨w.heap.size,2,none⟩=some (.slice A n c):=(Blk.new w 24 (txA ac sq A n c)).cell 2
 have HE:=zh hE
 have HS:=zh (hS.ext hE)
 rw [hw0] at HE HS q0
 clear hS hE
 by_cases h50:50 < n
 ·have d1 : (50 : Int) < (n : Int) := by omega
  go_enter Tryz.func11,Tryz.ntmps11
  go_wp2_with fail
  go_ret
  exact ⟨⟨_,rfl⟩,HE.out⟩
 have d1:decide ((50:Int) < (n:Int))=false:=decide_eq_false (by omega)
 go_enter Tryz.func11,Tryz.ntmps11
 go_wp2_with fail
 clear hw0
 go_loop [3] (fun i=>∃ k:Nat,k≤n∧i=.int .i64 (k:Int)) (fun i=>n - (intOf i).toNat)
 case atStart=>exact ⟨0,Nat.zero_le _,rfl⟩
 case round =>
  obtain ⟨k,hk,rfl⟩:=hrel
  by_cases hlt:k < n
  ·obtain ⟨b, o, rfl, hr, hb⟩ := HS.out.at (by omega)
   have hrt:=pO hr (k:=k) (by rw [HL.out];exact hlt)
   have hok:=HS.out.nth hlt
   have i0:(0:Int)≤(k:Int):=by omega
   have i1:(k:Int) < (n:Int):=by omega
   obtain ⟨R,hR⟩:∃ R,bM L k=R:=⟨_,rfl⟩
   rw [hR] at hrt hok
   obtain ⟨r1,r2⟩:=aEF hrt
   have m1:=hok.pre.le
   have m2:=hok.pre.cap
   have m3:=hok.prf.le
   have m4:=hok.prf.cap
   clear hr hb hrt hok hR
   by_cases hC:5000 < R.n2
   ·have d4 : (5000 : Int) < (R.n2 : Int) := by omega
    go_wp2_with fail
    go_ret
    exact ⟨⟨_,rfl⟩,HE.out⟩
   have d4:decide ((5000:Int) < (R.n2:Int))=false:=decide_eq_false (by omega)
   by_cases hD:5000 < R.n1
   ·have d5 : (5000 : Int) < (R.n1 : Int) := by omega
    go_wp2_with fail
    go_ret
    exact ⟨⟨_,rfl⟩,HE.out⟩
   have d5:decide ((5000:Int) < (R.n1:Int))=false:=decide_eq_false (by omega)
   go_wp2_with fail
   go_round
   case rel=>exact ⟨k+1,by omega,by go_num⟩
   case measure=>simp [intOf];omega
  obtain rfl:k=n:=by omega
  go_wp2_with fail
  go_ret
  exact ⟨⟨_,rfl⟩,HE.out⟩
def aKN (w:World) (s:StR) (e:Ending) (w':World):Prop:=(∃ b,e=.returned (.bool b)∧(b=false→s.n1≤100∧s.n2≤100∧s.n3≤100∧s.n4≤100))∧Ext w w'
theorem aBo (s:StR) (w:World) (h:s.ok w):Calls Tryz.prog 19 #[.agg (ssA s)] w (aKN w s):=by
 obtain ⟨W,hW⟩:∃ W,w.alloc (.cells (ssA s) 44)=W:=⟨_,rfl⟩
 have HB:=zh (show Blk W w.heap.size 44 (ssA s) from by rw [← hW];exact Blk.new w 44 (ssA s))
 have HE:=zh (show Ext w W from by rw [← hW];exact (Ext.refl w).alloc' _)
 have a1:=h.s1.le
 have b1:=h.s1.cap
 have a2:=h.s2.le
 have b2:=h.s2.cap
 have a3:=h.s3.le
 have b3:=h.s3.cap
 have a4:=h.s4.le
 have b4:=h.s4.cap
 obtain ⟨q0,q1,q2,q3,q4⟩:=aE HB.out
 clear h
 by_cases h1:100 < s.n1
 ·have d1 : decide ((100 : Int) < (s.n1 : Int)) = true := decide_eq_true (by omega)
  go_enter Tryz.func19,Tryz.ntmps19
  go_wp2_with fail
  go_ret
  exact ⟨⟨true,rfl,fun h=>by cases h⟩,HE.out⟩
 have d1:decide ((100:Int) < (s.n1:Int))=false:=decide_eq_false (by omega)
 by_cases h2:100 < s.n2
 ·have d2 : decide ((100 : Int) < (s.n2 : Int)) = true := decide_eq_true (by omega)
  go_enter Tryz.func19,Tryz.ntmps19
  go_wp2_with fail
  go_ret
  exact ⟨⟨true,rfl,fun h=>by cases h⟩,HE.out⟩
 have d2:decide ((100:Int) < (s.n2:Int))=false:=decide_eq_false (by omega)
 by_cases h3:100 < s.n3
 ·have d3 : decide ((100 : Int) < (s.n3 : Int)) = true := decide_eq_true (by omega)
  go_enter Tryz.func19,Tryz.ntmps19
  go_wp2_with fail
  go_ret
  exact ⟨⟨true,rfl,fun h=>by cases h⟩,HE.out⟩
 have d3:decide ((100:Int) < (s.n3:Int))=false:=decide_eq_false (by omega)
 have HN:=zh (show s.n1≤100∧s.n2≤100∧s.n3≤100 from by omega)
 clear h1 h2 h3
 go_enter Tryz.func19,Tryz.ntmps19
 go_wp2_with fail
 go_ret
 refine ⟨⟨_,rfl,fun h=>?_⟩,HE.out⟩
 have h4:¬ (100:Int) < (s.n4:Int):=of_decide_eq_false h
 have:=HN.out
 omega
theorem aBw (p:UInt64→Bool) (x:UInt64):∀ L:List UInt64,(fM p x L).length=L.length+1
 | []=>rfl
 | y :: r=>by
  unfold fM
  split
  ·simp
  simp [aBw p x r]
theorem aEM (P:List UInt64) (n:UInt64):(cE P n).length≤P.length+1:=by
 unfold cE
 split
 ·omega
 rw [aBw];omega
theorem aFN (S:StV) (ac sq:Int) (L:List OpR):(eP S ac sq L).C.length≤S.C.length+88∧(eP S ac sq L).Q.length=S.Q.length∧(eP S ac sq L).K.length≤S.K.length+4∧(eP S ac sq L).P.length≤S.P.length+1:=by
 unfold eP
 split
 ·exact ⟨by omega,rfl,by omega,by omega⟩
 rename_i h
 have hv:vTx ac sq L=true:=by
  cases hb:vTx ac sq L with
  | true=>rfl
  | false=>exact absurd (Or.inl hb) h
 obtain ⟨⟨a1,a2,a3,a4,a5,a6⟩,-⟩:=dT hv
 have h5:=sX ac sq L S L.length
 have h6:=mX ac sq L S L.length
 have h7:=aEM (doN ac sq L S L.length).P (bG ac sq L)
 simp only
 rw [aGj,h6.1]
 rw [h6.2] at h7 ⊢
 exact ⟨by omega,rfl,by omega,h7⟩
theorem aIX {w w':World} {s t:StR} {ac sq:Int} {L:List OpR} (h:s.ok w) (ht:t.ok w') (hv:t.V=eP s.V ac sq L) (hn:s.n1≤100∧s.n2≤100∧s.n3≤100∧s.n4≤100):t.n1≤200000∧t.n2≤200000∧t.n3≤200000∧t.n4≤200000:=by
 refine aGT ht ?_
 rw [hv]
 have h1:=aFN s.V ac sq L
 have l1:=h.s1.len
 have l2:=h.s2.len
 have l3:=h.s3.len
 have l4:=h.s4.len
 have e1:s.V.C=s.C:=rfl
 have e2:s.V.Q=s.Q:=rfl
 have e3:s.V.K=s.K:=rfl
 have e4:s.V.P=s.P:=rfl
 rw [e1,e2,e3,e4] at h1
 omega
theorem vH (s:StR) (ac sq:Int) (A:Option Addr) (n c:Nat) (L:List OpR) (w:World) (hs:s.ok w) (hS:SlO w A n c L) :
  Calls Tryz.prog 5 #[.agg (ssA s),.agg (txA ac sq A n c)] w fun e w'=>e=.returned (.bool true)∧Ext w w':=by
 obtain ⟨W,hW⟩:∃ W,(w.alloc (.cells (ssA s) 44)).alloc (.cells (txA ac sq A n c) 24)=W:=⟨_,rfl⟩
 have HP:=zh (show Blk W w.heap.size 44 (ssA s) from by rw [← hW];exact (Blk.new w 44 (ssA s)).alloc _)
 have HB:=zh (show Blk W (w.heap.size+1) 24 (txA ac sq A n c) from by rw [← hW];exact Blk.newAt _ _ _ _ (by simp))
 have HE:=zh (show Ext w W from by rw [← hW];exact ((Ext.refl w).alloc' _).alloc' _)
 have HS:=zh (hS.ext HE.out)
 have HO:=zh (hs.ext HE.out)
 clear hS hs
 obtain ⟨p0,p1,p2,p3,p4⟩:=aE HP.out
 go_enter Tryz.func5,Tryz.ntmps5
 go_wp2_with fail
 refine (aBo s W HO.out).mono ?_
 rintro e w1 ⟨⟨b,rfl,hb⟩,he1⟩
 have HP1:=zh (HP.out.ext he1)
 have HB1:=zh (HB.out.ext he1)
 have HE1:=zh (HE.out.trans he1)
 have HS1:=zh (HS.out.ext he1)
 have HO1:=zh (HO.out.ext he1)
 clear p0 p1 p2 p3 p4 he1 HB HE HS hW HP HO
 cases b with
 | true =>
  go_wp2_with fail
  refine (nA w1).mono ?_
  rintro e w2 ⟨rfl,he2⟩
  have HE2:=zh (HE1.out.trans he2)
  clear he2
  go_wp2_with fail
  go_ret
  exact ⟨rfl,HE2.out⟩
 | false =>
  have HNN:=zh (hb rfl)
  clear hb
  have HN:=zh (show s.n1≤200000∧s.n2≤200000∧s.n3≤200000∧s.n4≤200000 from by have:=HNN.out;omega)
  have q0:=HB1.out.cell 0
  have q1:=HB1.out.cell 1
  have q2:=HB1.out.cell 2
  go_wp2_with fail
  refine (aCP ac sq A n c L w1 HS1.out).mono ?_
  rintro e w2 ⟨⟨b,rfl⟩,he2⟩
  have HP2:=zh (HP1.out.ext he2)
  have HB2:=zh (HB1.out.ext he2)
  have HE2:=zh (HE1.out.trans he2)
  have HS2:=zh (HS1.out.ext he2)
  have HO2:=zh (HO1.out.ext he2)
  clear q0 q1 q2 he2 HP1 HB1 HE1 HS1 HO1
  cases b with
  | true =>
   go_wp2_with fail
   refine (nA w2).mono ?_
   rintro e w3 ⟨rfl,he3⟩
   have HE3:=zh (HE2.out.trans he3)
   clear he3
   go_wp2_with fail
   go_ret
   exact ⟨rfl,HE3.out⟩
  | false =>
   obtain ⟨p0,p1,p2,p3,p4⟩:=aE HP2.out
   have q0:=HB2.out.cell 0
   have q1:=HB2.out.cell 1
   have q2:=HB2.out.cell 2
   go_wp2_with fail
   refine (oG s ac sq A n c L w2 HO2.out HS2.out HN.out).mono ?_
   rintro e w4 ⟨s5,rfl,ho,hv,he⟩
   have HV5:=zh hv
   have HQ:=zh ho.ok
   have HN5:=zh (aIX HO2.out HQ.out HV5.out HNN.out)
   have HP4:=zh (HP2.out.ext he)
   have HB4:=zh (HB2.out.ext he)
   have HE4:=zh (HE2.out.trans he)
   have HS4:=zh (HS2.out.ext he)
   have HO4:=zh (HO2.out.ext he)
   clear p0 p1 p2 p3 p4 q0 q1 q2 he HP2 HB2 HE2 HS2 HO2 ho hv
   go_wp2_with ((with_reducible refine eX rfl 44 (.tmp 5) (.tmp 15) rfl _ (ssA s5) _ rfl rfl rfl rfl (by kernel_rfl) (by kernel_rfl) ?_);intro W5 g5 h5;(try rw [h5.out.2.2]))
   have e5:=h5.out.2.1.trans ((Ext.refl W5).drew')
   have H53:=zh (h5.out.1.ext ((Ext.refl W5).drew'))
   have HQ3:=zh (HQ.out.ext e5)
   have HP3:=zh (HP4.out.ext e5)
   have HB3:=zh (HB4.out.ext e5)
   have HE3:=zh (HE4.out.trans e5)
   have HS3:=zh (HS4.out.ext e5)
   have HO3:=zh (HO4.out.ext e5)
   clear h5 e5 HQ HP4 HB4 HE4 HS4 HO4
   refine wp_region_held_drew (S:=fun V=>Ext W5.drew V) (by kernel_rfl) (Ext.refl _) (fun aA=>?_)
   refine zu 0 (v:=.agg (ssA s5)) aA ?_ (hy:=by refine .inl ⟨by rfl,fun V aI=>?_⟩;obtain ⟨q0,q1,q2,q3,q4⟩:=aE (H53.out.ext aI);go_simp;try rfl)
   refine zu 1 (v:=.agg (ssA s)) aA ?_ (hy:=by refine .inl ⟨by rfl,fun V aI=>?_⟩;obtain ⟨q0,q1,q2,q3,q4⟩:=aE (HP3.out.ext aI);go_simp;try rfl)
   refine zu 2 (v:=.agg (txA ac sq A n c)) aA ?_ (hy:=by refine .inl ⟨by rfl,fun V aI=>?_⟩;have q0:=(HB3.out.ext aI).cell 0;have q1:=(HB3.out.ext aI).cell 1;have q2:=(HB3.out.ext aI).cell 2;go_simp;try rfl)
   refine za 3 (fun K hK=>?_)
   (go_simp;go_at_call 25;refine (aAY s ac sq A n c L _ (HO3.out.ext aA) (HS3.out.ext aA) HN.out).mono ?_;rintro e w5 ⟨sR,rfl,hoR,hvR,he5⟩;have HR:=zh hoR.ok;have HVR:=zh hvR;clear hoR hvR)
   refine hK.out _ _ (aA.trans he5) (fun aA=>?_)
   clear hK K
   try simp only [bH]
   refine za 4 (fun K hK=>?_)
   (go_simp;go_at_call 22;refine (qY s5 sR _ (HQ3.out.ext aA) HR.out).mono ?_;rw [HV5.out,HVR.out,decide_eq_true rfl];rintro e w5 ⟨rfl,he5⟩)
   refine hK.out _ _ (aA.trans he5) (fun aA=>?_)
   clear hK K
   try simp only [bH]
   refine zt 5 aA ?_
   refine zu 6 (v:=.agg (ssA s5)) aA ?_ (hy:=by refine .inl ⟨by rfl,fun V aI=>?_⟩;obtain ⟨q0,q1,q2,q3,q4⟩:=aE (H53.out.ext aI);go_simp;try rfl)
   refine zu 7 (v:=.agg (txA ac sq A n c)) aA ?_ (hy:=by refine .inl ⟨by rfl,fun V aI=>?_⟩;have q0:=(HB3.out.ext aI).cell 0;have q1:=(HB3.out.ext aI).cell 1;have q2:=(HB3.out.ext aI).cell 2;go_simp;try rfl)
   refine zu 9 (v:=.agg (ssA s5)) aA ?_ (hy:=by refine .inl ⟨by rfl,fun V aI=>?_⟩;obtain ⟨q0,q1,q2,q3,q4⟩:=aE (H53.out.ext aI);go_simp;try rfl)
   refine za 8 (fun K hK=>?_)
   (go_simp;go_at_call 24;refine (oG s5 ac sq A n c L _ (HQ3.out.ext aA) (HS3.out.ext aA) HN5.out).mono ?_;rintro e w5 ⟨s6,rfl,ho6,hv6,he5⟩;have H6:=zh ho6.ok;have HV6:=zh hv6;clear ho6 hv6)
   refine hK.out _ _ (aA.trans he5) (fun aA=>?_)
   clear hK K
   try simp only [bH]
   refine za 10 (fun K hK=>?_)
   (go_simp;go_at_call 22;refine (qY s6 s5 _ H6.out (HQ3.out.ext aA)).mono ?_;rw [HV6.out,HV5.out,aHn,decide_eq_true rfl];rintro e w5 ⟨rfl,he5⟩)
   refine hK.out _ _ (aA.trans he5) (fun aA=>?_)
   clear hK K
   try simp only [bH]
   refine zzr [11,12] ?_
   refine za 13 (fun K hK=>?_)
   (go_simp;go_at_call 12;refine (nA _).mono ?_;rintro e w5 ⟨rfl,he5⟩)
   refine hK.out _ _ (aA.trans he5) (fun aA=>?_)
   clear hK K
   try simp only [bH]
   refine zzr [14,15] ?_
   refine wpAnyH_done (by kernel_rfl) ?_ _
   go_wp2_with fail
   go_ret
   exact ⟨rfl,HE3.out.trans aA⟩
end
end Go.Proofs.YtohmmcahpakokaaGreat
