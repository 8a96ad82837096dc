/- How long a replayed state is. -/
import Derived.Test.YtohmmcahpakokaaGreatG31
import Derived.Test.YtohmmcahpakokaaGreatG36
set_option maxRecDepth 100000
set_option maxHeartbeats 8000000
set_option linter.unusedVariables false
set_option linter.unusedSimpArgs false
namespace Go.Proofs.YtohmmcahpakokaaGreat
section
open Go.RowKit
attribute [local go_sem ↓] Go.wp_at_zero Go.wp_at_succ
theorem aCC (p:UInt64→Bool) (x:UInt64):∀ L:List UInt64,(eS p x L).length=L.length+1
 | []=>rfl
 | y :: r=>by
  unfold eS
  split
  ·simp
  simp [aCC p x r]
theorem aGg (P:List UInt64) (n:UInt64):(eR P n).length≤P.length+1:=by
 unfold eR
 split
 ·omega
 rw [aCC];omega
theorem aHp (S:StV) (ac sq:Int) (L:List OpR):(iP S ac sq L).C.length≤S.C.length+88∧(iP S ac sq L).Q.length=S.Q.length∧(iP S ac sq L).K.length≤S.K.length+4∧(iP S ac sq L).P.length≤S.P.length+1:=by
 unfold iP
 split
 ·exact ⟨by omega,rfl,by omega,by omega⟩
 rename_i h
 have hv:vTx ac sq L=true:=by
  cases hb:vTx ac sq L with
  | true=>rfl
  | false=>exact absurd (Or.inl hb) h
 obtain ⟨⟨a1,a2,a3,a4,a5,a6⟩,-⟩:=eW hv
 have h5:=aAW ac sq L S L.length
 have h6:=lR ac sq L S L.length
 have h7:=aGg (doN ac sq L S L.length).P (cB ac sq L)
 simp only
 rw [aHM,h6.1]
 rw [h6.2] at h7 ⊢
 exact ⟨by omega,rfl,by omega,h7⟩
theorem aLb {w w':World} {s t:StR} {ac sq:Int} {L:List OpR} (h:s.ok w) (ht:t.ok w') (hv:t.V=iP s.V ac sq L) (hn:s.n1≤100∧s.n2≤100∧s.n3≤100∧s.n4≤100):t.n1≤200000∧t.n2≤200000∧t.n3≤200000∧t.n4≤200000:=by
 refine aIw ht ?_
 rw [hv]
 have h1:=aHp s.V ac sq L
 have l1:=h.s1.len
 have l2:=h.s2.len
 have l3:=h.s3.len
 have l4:=h.s4.len
 have e1:s.V.C=s.C:=rfl
 have e2:s.V.Q=s.Q:=rfl
 have e3:s.V.K=s.K:=rfl
 have e4:s.V.P=s.P:=rfl
 rw [e1,e2,e3,e4] at h1
 omega
theorem aAN (x:StpR) (S:Option Addr) (m d:Nat) (L:List OpR) (sig:List UInt8) (VN PN:List UInt64) (BL:List Int) (w:World) (hV:SlG w x.B1 x.m1 x.d1 VN) (hN:SlG w x.B2 x.m2 x.d2 PN) (hB:SlZ w x.B3 x.m3 x.d3 BL) (hs:x.s.ok w) (hT:(⟨x.ac,x.sq,x.A,x.n,x.c,S,m,d,L,sig⟩:TxR).ok w) :
  Calls Tryz.prog 9 #[.agg (genC x.gN x.gZ x.B1 x.m1 x.d1 x.B2 x.m2 x.d2 x.B3 x.m3 x.d3),.agg (ssA x.s),.agg (stA x.ac x.sq x.A x.n x.c S m d),.int .i64 x.ht] w fun e w'=>e=.returned (.bool true)∧Ext w w':=by
 obtain ⟨W,hW,H0⟩:=LwS.new (x:=x) (S:=S) (m:=m) (d:=d) (L:=L) (sig:=sig) hV hN hB hs hT
 clear hV hN hB hs hT
 obtain ⟨V5,hV5⟩:∃ V,lQ (dA x.m2 x.m1 x.ht cM (evU VN) x.ac) (eV x.gN x.gZ x.m1 x.m2 x.m3 BL) x.m2 (vSg (aH PN x.ac.toNat) ⟨x.ac,x.sq,x.A,x.n,x.c,S,m,d,L,sig⟩) x.s.V x.ac x.sq L=V:=⟨_,rfl⟩
 obtain ⟨cd,hcd⟩:∃ z,gX (dA x.m2 x.m1 x.ht cM (evU VN) x.ac) (eV x.gN x.gZ x.m1 x.m2 x.m3 BL) x.m2 (vSg (aH PN x.ac.toNat) ⟨x.ac,x.sq,x.A,x.n,x.c,S,m,d,L,sig⟩) x.s.V x.ac x.sq L=z:=⟨_,rfl⟩
 have HV5:=zh hV5
 have HCD:=zh hcd
 have HEX:=zh (fun (V:World) (H:LwS w V x S m d L sig VN PN BL) (hn:x.s.n1≤200000∧x.s.n2≤200000∧x.s.n3≤200000∧x.s.n4≤200000) (hp:∀ R ∈ L,R.n1≤5000)=>rK x S m d L sig VN PN BL V H.hs H.hT H.hV H.hN H.hB hn hp)
 rw [hV5,hcd] at HEX
 clear hV5 hcd
 go_enter Tryz.func9,Tryz.ntmps9
 have hu1:=H0.out.hV.le
 have hu2:=H0.out.hV.cap
 have hu3:=H0.out.hN.le
 have hu4:=H0.out.hN.cap
 have hu5:=H0.out.hB.le
 have hu6:=H0.out.hB.cap
 obtain ⟨g0,g1,g2,g3,g4,p0,p1,p2,p3,p4,t0,t1,t2,t3⟩:=H0.out.f
 go_wp2_with fail
 refine (nR x.gN x.gZ x.B1 x.m1 x.d1 x.B2 x.m2 x.d2 x.B3 x.m3 x.d3 _ ⟨hu1,hu2⟩ ⟨hu3,hu4⟩ ⟨hu5,hu6⟩).mono ?_
 rintro e w1 ⟨⟨b1,rfl,hb1⟩,he1⟩
 have H1:=zh (H0.out.ext he1)
 clear he1 H0 g0 g1 g2 g3 g4 p0 p1 p2 p3 p4 t0 t1 t2 t3
 cases b1
 rotate_left
 ·skip
  obtain ⟨g0,g1,g2,g3,g4,p0,p1,p2,p3,p4,t0,t1,t2,t3⟩:=H1.out.f
  go_wp2_with fail
  refine (cL _).mono ?_
  rintro e w9 ⟨rfl,he9⟩
  have HX9:=zh (H1.out.low.trans he9)
  clear he9
  go_wp2_with fail
  go_ret
  exact ⟨rfl,HX9.out⟩
 clear hb1
 obtain ⟨g0,g1,g2,g3,g4,p0,p1,p2,p3,p4,t0,t1,t2,t3⟩:=H1.out.f
 go_wp2_with fail
 refine (sG x.s _ H1.out.hs).mono ?_
 rintro e w2 ⟨⟨b2,rfl,hb2⟩,he2⟩
 have H2:=zh (H1.out.ext he2)
 clear he2 H1 g0 g1 g2 g3 g4 p0 p1 p2 p3 p4 t0 t1 t2 t3
 cases b2
 rotate_left
 ·skip
  obtain ⟨g0,g1,g2,g3,g4,p0,p1,p2,p3,p4,t0,t1,t2,t3⟩:=H2.out.f
  go_wp2_with fail
  refine (cL _).mono ?_
  rintro e w9 ⟨rfl,he9⟩
  have HX9:=zh (H2.out.low.trans he9)
  clear he9
  go_wp2_with fail
  go_ret
  exact ⟨rfl,HX9.out⟩
 have HNN:=zh (hb2 rfl)
 clear hb2
 obtain ⟨g0,g1,g2,g3,g4,p0,p1,p2,p3,p4,t0,t1,t2,t3⟩:=H2.out.f
 go_wp2_with fail
 refine (aCs x.ac x.sq x.A x.n x.c L _ H2.out.hT.ops).mono ?_
 rintro e w3 ⟨⟨b3,rfl,hb3⟩,he3⟩
 have H3:=zh (H2.out.ext he3)
 clear he3 H2 g0 g1 g2 g3 g4 p0 p1 p2 p3 p4 t0 t1 t2 t3
 cases b3
 rotate_left
 ·skip
  obtain ⟨g0,g1,g2,g3,g4,p0,p1,p2,p3,p4,t0,t1,t2,t3⟩:=H3.out.f
  go_wp2_with fail
  refine (cL _).mono ?_
  rintro e w9 ⟨rfl,he9⟩
  have HX9:=zh (H3.out.low.trans he9)
  clear he9
  go_wp2_with fail
  go_ret
  exact ⟨rfl,HX9.out⟩
 have HPN:=zh (hb3 rfl)
 clear hb3
 have HN:=zh (show x.s.n1≤200000∧x.s.n2≤200000∧x.s.n3≤200000∧x.s.n4≤200000 from by have:=HNN.out;omega)
 have hsl:=H3.out.hT.sig.le
 have hsc:=H3.out.hT.sig.cap
 by_cases hm:m > 5000
 ·have km : (m : Int) > 5000 := by omega
  clear hm
  obtain ⟨g0,g1,g2,g3,g4,p0,p1,p2,p3,p4,t0,t1,t2,t3⟩:=H3.out.f
  go_wp2_with fail
  refine (cL _).mono ?_
  rintro e w9 ⟨rfl,he9⟩
  have HX9:=zh (H3.out.low.trans he9)
  clear he9
  go_wp2_with fail
  go_ret
  exact ⟨rfl,HX9.out⟩
 have km:¬ (m:Int) > 5000:=by omega
 clear hm
 obtain ⟨g0,g1,g2,g3,g4,p0,p1,p2,p3,p4,t0,t1,t2,t3⟩:=H3.out.f
 go_wp2_with fail
 refine (lY x.s _ H3.out.hs).mono ?_
 rintro e w4 ⟨b4,rfl,hb4,he4⟩
 have H4:=zh (H3.out.ext he4)
 clear he4 H3 g0 g1 g2 g3 g4 p0 p1 p2 p3 p4 t0 t1 t2 t3
 cases b4
 ·skip
  obtain ⟨g0,g1,g2,g3,g4,p0,p1,p2,p3,p4,t0,t1,t2,t3⟩:=H4.out.f
  go_wp2_with fail
  refine (cL _).mono ?_
  rintro e w9 ⟨rfl,he9⟩
  have HX9:=zh (H4.out.low.trans he9)
  clear he9
  go_wp2_with fail
  go_ret
  exact ⟨rfl,HX9.out⟩
 have HVS:=zh (hb4 rfl)
 clear hb4
 obtain ⟨g0,g1,g2,g3,g4,p0,p1,p2,p3,p4,t0,t1,t2,t3⟩:=H4.out.f
 go_wp2_with fail
 refine (HEX.out _ H4.out HN.out HPN.out).mono ?_
 rintro e w5 ⟨s5,A5,n5,c5,rfl,ho,hv,hse,he⟩
 have HO5:=zh ho.ok
 have HSV5:=zh hv
 have HSE5:=zh hse
 have H5:=zh (H4.out.ext he)
 clear he H4 ho hv hse g0 g1 g2 g3 g4 p0 p1 p2 p3 p4 t0 t1 t2 t3
 obtain ⟨g5,hg⟩:∃ g,w5.heap.size=g:=⟨_,rfl⟩
 obtain ⟨U,hU,HP,HQ,HU⟩:=zT w5 #[.slice none 0 0,.slice none 0 0,.slice none 0 0,.slice none 0 0,.int .i64 0] #[.int .i64 0,.slice none 0 0,.int .i64 0,.int .i64 0] 44 52
 have HGG:=zh hg
 rw [hg] at HP HQ
 clear hg
 have HP:=zh (show Blk U g5 44 (ssA ss0) from HP.out)
 have HQ:=zh (show Blk U (g5+1) 52 (rcA rc0) from HQ.out)
 obtain ⟨ro5,hro⟩:∃ z,rcO cd x.ac x.sq L=z:=⟨_,rfl⟩
 obtain ⟨rg5,hrg⟩:∃ z,rcG cd x.s.V V5=z:=⟨_,rfl⟩
 have HRO5:=zh hro
 have HRG5:=zh hrg
 rw [hro,hrg]
 clear hro hrg
 go_upto_region 4 with (first | ((try rw [hU]);(try rw [HGG.out]);(with_reducible refine cR rfl 44 (.tmp 9) (.tmp 42) rfl g5 (ssA ss0) (ssA s5) _ rfl rfl rfl rfl (by kernel_rfl) (by kernel_rfl) HP.out ?_);intro Ua ha;have HQa:=zh (show Blk Ua (g5+1) 52 (rcA rc0) from by rw [← ha.out.2];exact HQ.out.setCells_far (by omega) _ _);have HBa:=zh ha.out.1;have HEa:=zh (show Ext w5 Ua from by rw [← ha.out.2];exact Below.setCells' HU.out (by rw [HGG.out];exact Nat.le_refl _) _ _);clear ha) | ((with_reducible refine cR rfl 52 (.tmp 10) (.tmp 43) rfl (g5+1) (rcA rc0) (rcA ⟨cd,A5,n5,c5,ro5,rg5⟩) _ rfl rfl rfl rfl (by kernel_rfl) (by kernel_rfl) HQa.out ?_);intro V5b hb))
 have he:Ext w5 V5b:=by rw [← hb.out.2];exact Below.setCells' HEa.out (by rw [HGG.out];exact Nat.le_succ _) _ _
 have HB5:=zh (show Blk V5b g5 44 (ssA s5) from by rw [← hb.out.2];exact HBa.out.setCells_far (by omega) _ _)
 have HR5:=zh hb.out.1
 have HOk5:=zh (HO5.out.ext he)
 have HSe5:=zh (HSE5.out.ext he)
 have H6:=zh (H5.out.ext he)
 clear he H5 hb hU HP HQ HU HBa HQa HEa HGG HO5 HSE5
 have r0:=HR5.out.cell 0
 by_cases hc0:cd=0
 rotate_left
 ·have b0 : (cd == 0) = false := beq_eq_false_iff_ne.2 hc0
  have b1:decide (cd=0)=false:=decide_eq_false hc0
  clear hc0
  go_wp2_with fail
  refine (cL _).mono ?_
  rintro e w9 ⟨rfl,he9⟩
  have HX9:=zh (H6.out.low.trans he9)
  clear he9
  go_wp2_with fail
  go_ret
  exact ⟨rfl,HX9.out⟩
 subst hc0
 have HVT:=zh (show V5=xW x.s.V x.ac x.sq L from by rw [← HV5.out];exact if_pos HCD.out)
 have HBG:=zh (qN (tK HCD.out).1)
 have HRP:=zh (show iP x.s.V x.ac x.sq L=V5 from by rw [HVT.out];exact aJD HCD.out)
 have HN5:=zh (aLb H6.out.hs HOk5.out (show s5.V=iP x.s.V x.ac x.sq L from by rw [HRP.out];exact HSV5.out) HNN.out)
 have HC6:=zh (show gX (dA x.m2 x.m1 x.ht cM (evU VN) x.ac) (eV x.gN x.gZ x.m1 x.m2 x.m3 BL) x.m2 (vSg (aH PN x.ac.toNat) ⟨x.ac,x.sq,x.A,x.n,x.c,S,m,d,L,sig⟩) s5.V x.ac x.sq L=7 from by rw [HSV5.out,HVT.out];exact aGr HCD.out)
 have HV6:=zh (show lQ (dA x.m2 x.m1 x.ht cM (evU VN) x.ac) (eV x.gN x.gZ x.m1 x.m2 x.m3 BL) x.m2 (vSg (aH PN x.ac.toNat) ⟨x.ac,x.sq,x.A,x.n,x.c,S,m,d,L,sig⟩) s5.V x.ac x.sq L=s5.V from by unfold lQ;rw [HC6.out];rfl)
 have HE6:=zh (fun (V:World) (H:LwS w V x S m d L sig VN PN BL) (h5:s5.ok V)=>rK { x with s:=s5 } S m d L sig VN PN BL V h5 H.hT H.hV H.hN H.hB HN5.out HPN.out)
 have HE6:=zh (show ∀ (V:World),LwS w V x S m d L sig VN PN BL→s5.ok V→Calls Tryz.prog 20 #[.agg (genC x.gN x.gZ x.B1 x.m1 x.d1 x.B2 x.m2 x.d2 x.B3 x.m3 x.d3),.agg (ssA s5),.agg (stA x.ac x.sq x.A x.n x.c S m d),.int .i64 x.ht] V (aIB V s5.V 7 (rcE 7 x.ac x.sq L) (rcO 7 x.ac x.sq L) (rcG 7 s5.V s5.V)) from fun V H h5=>by
  have h9:=HE6.out V H h5
  simp only at h9
  rw [HC6.out,HV6.out] at h9
  exact h9)
 have r0x:True:=trivial
 obtain ⟨p5,p6,p7,p8,p9⟩:=aE HB5.out
 obtain ⟨g0,g1,g2,g3,g4,p0,p1,p2,p3,p4,t0,t1,t2,t3⟩:=H6.out.f
 go_wp2_with fail
 refine (HE6.out _ H6.out HOk5.out).mono ?_
 rintro e w7 ⟨s6,A6,n6,c6,rfl,ho,hv,hse,he⟩
 have HO6:=zh ho.ok
 have HSV6:=zh hv
 have HSE6:=zh hse
 have HB5:=zh (HB5.out.ext he)
 have HOk5:=zh (HOk5.out.ext he)
 clear r0 p5 p6 p7 p8 p9
 have H7:=zh (H6.out.ext he)
 clear he H6 ho hv hse g0 g1 g2 g3 g4 p0 p1 p2 p3 p4 t0 t1 t2 t3
 obtain ⟨g6,hg⟩:∃ g,w7.heap.size=g:=⟨_,rfl⟩
 obtain ⟨U,hU,HP,HQ,HU⟩:=zT w7 #[.slice none 0 0,.slice none 0 0,.slice none 0 0,.slice none 0 0,.int .i64 0] #[.int .i64 0,.slice none 0 0,.int .i64 0,.int .i64 0] 44 52
 have HGG:=zh hg
 rw [hg] at HP HQ
 clear hg
 have HP:=zh (show Blk U g6 44 (ssA ss0) from HP.out)
 have HQ:=zh (show Blk U (g6+1) 52 (rcA rc0) from HQ.out)
 obtain ⟨ro6,hro⟩:∃ z,rcO 7 x.ac x.sq L=z:=⟨_,rfl⟩
 obtain ⟨rg6,hrg⟩:∃ z,rcG 7 s5.V s5.V=z:=⟨_,rfl⟩
 have HRO6:=zh hro
 have HRG6:=zh hrg
 rw [hro,hrg]
 clear hro hrg
 go_upto_region 7 with (first | ((try rw [hU]);(try rw [HGG.out]);(with_reducible refine cR rfl 44 (.tmp 11) (.tmp 54) rfl g6 (ssA ss0) (ssA s6) _ rfl rfl rfl rfl (by kernel_rfl) (by kernel_rfl) HP.out ?_);intro Ua ha;have HQa:=zh (show Blk Ua (g6+1) 52 (rcA rc0) from by rw [← ha.out.2];exact HQ.out.setCells_far (by omega) _ _);have HBa:=zh ha.out.1;have HEa:=zh (show Ext w7 Ua from by rw [← ha.out.2];exact Below.setCells' HU.out (by rw [HGG.out];exact Nat.le_refl _) _ _);clear ha) | ((with_reducible refine cR rfl 52 (.tmp 12) (.tmp 55) rfl (g6+1) (rcA rc0) (rcA ⟨7,A6,n6,c6,ro6,rg6⟩) _ rfl rfl rfl rfl (by kernel_rfl) (by kernel_rfl) HQa.out ?_);intro V6b hb))
 have he:Ext w7 V6b:=by rw [← hb.out.2];exact Below.setCells' HEa.out (by rw [HGG.out];exact Nat.le_succ _) _ _
 have HB6:=zh (show Blk V6b g6 44 (ssA s6) from by rw [← hb.out.2];exact HBa.out.setCells_far (by omega) _ _)
 have HR6:=zh hb.out.1
 have HOk6:=zh (HO6.out.ext he)
 have HSe6:=zh (HSE6.out.ext he)
 have HB5:=zh (HB5.out.ext he)
 have HOk5:=zh (HOk5.out.ext he)
 have H8:=zh (H7.out.ext he)
 clear he H7 hb hU HP HQ HU HBa HQa HEa HGG HO6 HSE6
 obtain ⟨a1,a2,a3,a4,a5,a6,a7⟩:=HBG.out
 obtain ⟨⟨v1,v2,v3,v4,v5,v6⟩,-⟩:=eW a1
 obtain ⟨a,hxa⟩:∃ a:Nat,x.ac=(a:Int):=⟨x.ac.toNat,by omega⟩
 have hq1:a < x.s.n2:=by have h1:x.s.Q.length=x.s.n2:=H8.out.hs.s2.len;have h2:x.s.Q.length=x.m2:=a4;omega
 have HQE:=zh (show s5.Q=x.s.Q.set a (x.sq+1) from by
  have e1:s5.Q=V5.Q:=congrArg StV.Q HSV5.out
  rw [e1,HVT.out]
  show (doN x.ac x.sq L x.s.V L.length).Q.set x.ac.toNat (x.sq+1)=_
  rw [(lR x.ac x.sq L x.s.V L.length).1,hxa,Int.toNat_natCast];rfl)
 have hq2:a < s5.n2:=by have h1:s5.Q.length=s5.n2:=HOk5.out.s2.len;have h2:x.s.Q.length=x.s.n2:=H8.out.hs.s2.len;rw [HQE.out,List.length_set] at h1;omega
 obtain ⟨b1,o1,hb1,hr1,-⟩:=H8.out.hs.s2.at (show 0 < x.s.n2 by omega)
 obtain ⟨b2,o2,hb2,hr2,-⟩:=HOk5.out.s2.at (show 0 < s5.n2 by omega)
 have HB1:=zh hb1
 have HB2:=zh hb2
 have HSQ:=zh (show aH x.s.Q a=x.sq from by rw [a7,hxa,Int.toNat_natCast];rfl)
 have HK1:=zh (fun (V:World) (e:Ext V6b V)=>show V.cell? ⟨b1,o1+a,none⟩=some (.int .i64 x.sq) from by
  obtain ⟨b3,o3,e3,hr3,-⟩:=(H8.out.hs.ext e).s2.at (show 0 < x.s.n2 by omega)
  rw [HB1.out] at e3
  injection e3 with e4
  injection e4 with e5 e6
  subst e5
  subst e6
  have h5:V.rangeAt b1 (o1+a * 1) (RowT.enc (aH x.s.Q a)):=cO hr3 (by have h1:x.s.Q.length=x.s.n2:=H8.out.hs.s2.len;omega)
  rw [HSQ.out] at h5
  have h6:=h5 0 _ rfl
  rwa [Nat.mul_one] at h6)
 have HK2:=zh (fun (V:World) (e:Ext V6b V)=>show V.cell? ⟨b2,o2+a,none⟩=some (.int .i64 (x.sq+1)) from by
  obtain ⟨b3,o3,e3,hr3,-⟩:=(HOk5.out.ext e).s2.at (show 0 < s5.n2 by omega)
  rw [HB2.out] at e3
  injection e3 with e4
  injection e4 with e5 e6
  subst e5
  subst e6
  have h5:V.rangeAt b2 (o2+a * 1) (RowT.enc (aH s5.Q a)):=cO hr3 (by have h1:s5.Q.length=s5.n2:=HOk5.out.s2.len;omega)
  have h7:aH s5.Q a=x.sq+1:=by
   rw [HQE.out]
   show (x.s.Q.set a (x.sq+1)).getD a _=_
   rw [List.getD_eq_getElem?_getD,List.getElem?_set_self (by have h1:x.s.Q.length=x.s.n2:=H8.out.hs.s2.len;omega)];rfl
  rw [h7] at h5
  have h6:=h5 0 _ rfl
  rwa [Nat.mul_one] at h6)
 have HMK:=zh (show cB x.ac x.sq L ∈ s5.P from by
  have e1:s5.P=V5.P:=congrArg StV.P HSV5.out
  rw [e1,HVT.out];exact aCM)
 have HW1:=zh (show wr (x.sq+1)=x.sq+1 from fR ⟨by omega,by omega⟩)
 have hle1:=H8.out.hs.s2.le
 have hca1:=H8.out.hs.s2.cap
 have hle2:=HOk5.out.s2.le
 have hca2:=HOk5.out.s2.cap
 have i0:(0:Int)≤(a:Int):=by omega
 have i1:(a:Int) < (x.s.n2:Int):=by omega
 have i2:(a:Int) < (s5.n2:Int):=by omega
 have HXA:=zh hxa
 clear a1 a2 a3 a4 a5 a6 a7 v1 v2 v3 v4 v5 v6 hb1 hb2 hr1 hr2 hq1 hq2 hxa
 refine wp_region_held_drew (S:=fun V=>Ext V6b V) (by kernel_rfl) ((Ext.refl _).drew') (fun aA=>?_)
 refine zu 0 (v:=.agg (ssA x.s)) aA ?_ (hy:=by refine .inl ⟨by rfl,fun V aL=>?_⟩;obtain ⟨q0,q1,q2,q3,q4⟩:=aE ((H8.out.ext aL).p);go_simp;try rfl)
 refine zt 1 aA ?_
 refine zu 2 (v:=.agg (txA x.ac x.sq x.A x.n x.c)) aA ?_ (hy:=by refine .inl ⟨by rfl,fun V aL=>?_⟩;have t0:=(H8.out.ext aL).t.cell 0;have t1:=(H8.out.ext aL).t.cell 1;have t2:=(H8.out.ext aL).t.cell 2;go_simp;try rfl)
 refine zu 4 (v:=.agg (ssA s5)) aA ?_ (hy:=by refine .inl ⟨by rfl,fun V aL=>?_⟩;obtain ⟨q0,q1,q2,q3,q4⟩:=aE (HB5.out.ext aL);go_simp;try rfl)
 refine za 3 (fun K hK=>?_)
 (go_simp;go_at_call 24;refine (uM x.s x.ac x.sq x.A x.n x.c L _ (H8.out.hs.ext aA) (H8.out.hT.ops.ext aA) HN.out).mono ?_;rintro e w5 ⟨s7,rfl,ho7,hv7,he5⟩;have H7:=zh ho7.ok;have HV7:=zh hv7;clear ho7 hv7)
 refine hK.out _ _ (aA.trans he5) (fun aA=>?_)
 clear hK K
 try simp only [aX]
 refine za 5 (fun K hK=>?_)
 (go_simp;go_at_call 22;refine (qZ s7 s5 _ H7.out (HOk5.out.ext aA)).mono ?_;rw [HV7.out,HRP.out,HSV5.out,decide_eq_true rfl];rintro e w5 ⟨rfl,he5⟩)
 refine hK.out _ _ (aA.trans he5) (fun aA=>?_)
 clear hK K
 try simp only [aX]
 refine zz0 [6,7,8,9] ?_;repeat first | refine zz1 ?_ (hy:=by intro W aL;obtain ⟨u0,u1,u2,u3,u4⟩:=aE (HB5.out.ext aL);obtain ⟨p0,p1,p2,p3,p4⟩:=aE ((H8.out.ext aL).p);have t0:=(H8.out.ext aL).t.cell 0;rw [HXA.out] at t0;rw [HB2.out] at u1;rw [HB1.out] at p1;have k1:=HK1.out _ aL;have k2:=HK2.out _ aL;have r0:=(HR6.out.ext aL).cell 0;go_simp <;> with_reducible rfl) | refine zz2 ?_ | refine zz9 ?_
 refine zu 10 (v:=.agg (txA x.ac x.sq x.A x.n x.c)) aA ?_ (hy:=by refine .inl ⟨by rfl,fun V aL=>?_⟩;have t0:=(H8.out.ext aL).t.cell 0;have t1:=(H8.out.ext aL).t.cell 1;have t2:=(H8.out.ext aL).t.cell 2;go_simp;try rfl)
 refine za 11 (fun K hK=>?_)
 (go_simp;go_at_call 35;refine (nT x.ac x.sq x.A x.n x.c L _ (H8.out.hT.ops.ext aA)).mono ?_;rintro e w5 ⟨rfl,he5⟩)
 refine hK.out _ _ (aA.trans he5) (fun aA=>?_)
 clear hK K
 try simp only [aX]
 refine za 12 (fun K hK=>?_)
 (go_simp;go_at_call 34;refine (aAu s5.A4 s5.n4 s5.c4 s5.P (cB x.ac x.sq L) _ (HOk5.out.ext aA).s4).mono ?_;rw [decide_eq_true HMK.out];rintro e w5 ⟨rfl,he5⟩)
 refine hK.out _ _ (aA.trans he5) (fun aA=>?_)
 clear hK K
 try simp only [aX]
 refine zz0 [13,14,15,16,17,18,19,20,21,22,23,24,25,26,27,28] ?_;repeat first | refine zz1 ?_ (hy:=by intro W aL;obtain ⟨u0,u1,u2,u3,u4⟩:=aE (HB5.out.ext aL);obtain ⟨p0,p1,p2,p3,p4⟩:=aE ((H8.out.ext aL).p);have t0:=(H8.out.ext aL).t.cell 0;rw [HXA.out] at t0;rw [HB2.out] at u1;rw [HB1.out] at p1;have k1:=HK1.out _ aL;have k2:=HK2.out _ aL;have r0:=(HR6.out.ext aL).cell 0;go_simp <;> with_reducible rfl) | refine zz2 ?_ | refine zz9 ?_
 refine zu 29 (v:=.int .i64 (x.sq+1)) aA ?_ (hy:=by refine .inl ⟨by rfl,fun V aL=>?_⟩;rw [← HW1.out];go_simp;try rfl)
 refine zz0 [30,31,32,33,34,35,36,37] ?_;repeat first | refine zz1 ?_ (hy:=by intro W aL;obtain ⟨u0,u1,u2,u3,u4⟩:=aE (HB5.out.ext aL);obtain ⟨p0,p1,p2,p3,p4⟩:=aE ((H8.out.ext aL).p);have t0:=(H8.out.ext aL).t.cell 0;rw [HXA.out] at t0;rw [HB2.out] at u1;rw [HB1.out] at p1;have k1:=HK1.out _ aL;have k2:=HK2.out _ aL;have r0:=(HR6.out.ext aL).cell 0;go_simp <;> with_reducible rfl) | refine zz2 ?_ | refine zz9 ?_
 refine zu 38 (v:=.agg (ssA s6)) aA ?_ (hy:=by refine .inl ⟨by rfl,fun V aL=>?_⟩;obtain ⟨q0,q1,q2,q3,q4⟩:=aE (HB6.out.ext aL);go_simp;try rfl)
 refine zu 39 (v:=.agg (ssA s5)) aA ?_ (hy:=by refine .inl ⟨by rfl,fun V aL=>?_⟩;obtain ⟨q0,q1,q2,q3,q4⟩:=aE (HB5.out.ext aL);go_simp;try rfl)
 refine za 40 (fun K hK=>?_)
 (go_simp;go_at_call 22;refine (qZ s6 s5 _ (HOk6.out.ext aA) (HOk5.out.ext aA)).mono ?_;rw [HSV6.out,decide_eq_true rfl];rintro e w5 ⟨rfl,he5⟩)
 refine hK.out _ _ (aA.trans he5) (fun aA=>?_)
 clear hK K
 try simp only [aX]
 refine zzr [41,42] ?_
 refine za 43 (fun K hK=>?_)
 (go_simp;go_at_call 12;refine (cL _).mono ?_;rintro e w5 ⟨rfl,he5⟩)
 refine hK.out _ _ (aA.trans he5) (fun aA=>?_)
 clear hK K
 try simp only [aX]
 refine zzr [44,45] ?_
 refine wpAnyH_done (by kernel_rfl) ?_ _
 have HXF:=zh (H8.out.low.trans aA)
 clear aA
 go_wp2_with fail
 go_ret
 exact ⟨rfl,HXF.out⟩
end
end Go.Proofs.YtohmmcahpakokaaGreat
