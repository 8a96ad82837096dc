/- Laws. -/
import Derived.Test.YtohmmcahpakokaaGreatD50
set_option maxRecDepth 100000
set_option maxHeartbeats 8000000
set_option linter.unusedVariables false
set_option linter.unusedSimpArgs false
namespace Go.Proofs.YtohmmcahpakokaaGreat
section
open Go.RowKit
attribute [local go_sem ↓] Go.wp_at_zero Go.wp_at_succ
structure LwS (w W:World) (x:StpR) (S:Option Addr) (m d:Nat) (L:List OpR) (sig:List UInt8) (VN PN:List UInt64) (BL:List Int):Prop where
 g:Blk W w.heap.size 40 (genC x.gN x.gZ x.B1 x.m1 x.d1 x.B2 x.m2 x.d2 x.B3 x.m3 x.d3)
 p:Blk W (w.heap.size+1) 44 (ssA x.s)
 t:Blk W (w.heap.size+2) 47 (stA x.ac x.sq x.A x.n x.c S m d)
 hV:SlG W x.B1 x.m1 x.d1 VN
 hN:SlG W x.B2 x.m2 x.d2 PN
 hB:SlZ W x.B3 x.m3 x.d3 BL
 hs:x.s.ok W
 hT:(⟨x.ac,x.sq,x.A,x.n,x.c,S,m,d,L,sig⟩:TxR).ok W
 low:Ext w W
section
variable {w W W':World} {x:StpR} {S:Option Addr} {m d:Nat} {L:List OpR} {sig:List UInt8} {VN PN:List UInt64} {BL:List Int}
theorem LwS.ext (h:LwS w W x S m d L sig VN PN BL) (e:Ext W W'):LwS w W' x S m d L sig VN PN BL:=⟨h.g.ext e,h.p.ext e,h.t.ext e,h.hV.ext e,h.hN.ext e,h.hB.ext e,h.hs.ext e,h.hT.ext e,h.low.trans e⟩
theorem LwS.f (h:LwS w W x S m d L sig VN PN BL):W.cell? ⟨w.heap.size,0,none⟩=some (.int .i64 x.gN)∧W.cell? ⟨w.heap.size,1,none⟩=some (.int .i64 x.gZ)∧W.cell? ⟨w.heap.size,2,none⟩=some (.slice x.B1 x.m1 x.d1)∧W.cell? ⟨w.heap.size,3,none⟩=some (.slice x.B2 x.m2 x.d2)∧W.cell? ⟨w.heap.size,4,none⟩=some (.slice x.B3 x.m3 x.d3)∧W.cell? ⟨w.heap.size+1,0,none⟩=some (.slice x.s.A1 x.s.n1 x.s.c1)∧W.cell? ⟨w.heap.size+1,1,none⟩=some (.slice x.s.A2 x.s.n2 x.s.c2)∧W.cell? ⟨w.heap.size+1,2,none⟩=some (.slice x.s.A3 x.s.n3 x.s.c3)∧W.cell? ⟨w.heap.size+1,3,none⟩=some (.slice x.s.A4 x.s.n4 x.s.c4)∧W.cell? ⟨w.heap.size+1,4,none⟩=some (.int .i64 x.s.G)∧W.cell? ⟨w.heap.size+2,0,none⟩=some (.int .i64 x.ac)∧W.cell? ⟨w.heap.size+2,1,none⟩=some (.int .i64 x.sq)∧W.cell? ⟨w.heap.size+2,2,none⟩=some (.slice x.A x.n x.c)∧W.cell? ⟨w.heap.size+2,3,none⟩=some (.slice S m d) :=
 ⟨h.g.cell 0,h.g.cell 1,h.g.cell 2,h.g.cell 3,h.g.cell 4,h.p.cell 0,h.p.cell 1,h.p.cell 2,h.p.cell 3,h.p.cell 4,h.t.cell 0,h.t.cell 1,h.t.cell 2,h.t.cell 3⟩
theorem LwS.new (hV:SlG w x.B1 x.m1 x.d1 VN) (hN:SlG w x.B2 x.m2 x.d2 PN) (hB:SlZ w x.B3 x.m3 x.d3 BL) (hs:x.s.ok w) (hT:(⟨x.ac,x.sq,x.A,x.n,x.c,S,m,d,L,sig⟩:TxR).ok w) :
  ∃ W,((w.alloc (.cells (genC x.gN x.gZ x.B1 x.m1 x.d1 x.B2 x.m2 x.d2 x.B3 x.m3 x.d3) 40)).alloc (.cells (ssA x.s) 44)).alloc (.cells (stA x.ac x.sq x.A x.n x.c S m d) 47)=W∧Hid (LwS w W x S m d L sig VN PN BL):=by
 have he:=(((Ext.refl w).alloc' (.cells (genC x.gN x.gZ x.B1 x.m1 x.d1 x.B2 x.m2 x.d2 x.B3 x.m3 x.d3) 40)).alloc' (.cells (ssA x.s) 44)).alloc' (.cells (stA x.ac x.sq x.A x.n x.c S m d) 47)
 exact ⟨_,rfl,zh ⟨((Blk.new w 40 (genC x.gN x.gZ x.B1 x.m1 x.d1 x.B2 x.m2 x.d2 x.B3 x.m3 x.d3)).alloc _).alloc _,Blk.alloc (Blk.newAt _ _ _ _ (by simp)) _,Blk.newAt _ _ _ _ (by simp),hV.ext he,hN.ext he,hB.ext he,hs.ext he,hT.ext he,he⟩⟩
end
theorem execConserves_any (x:StpR) (S:Option Addr) (m d:Nat) (L:List OpR) (sig:List UInt8) (VN PN:List UInt64) (BL:List Int) (w:World) (hV:SlG w x.B1 x.m1 x.d1 VN) (hN:SlG w x.B2 x.m2 x.d2 PN) (hB:SlZ w x.B3 x.m3 x.d3 BL) (hs:x.s.ok w) (hT:(⟨x.ac,x.sq,x.A,x.n,x.c,S,m,d,L,sig⟩:TxR).ok w) :
  Calls Tryz.prog 7 #[.agg (genC x.gN x.gZ x.B1 x.m1 x.d1 x.B2 x.m2 x.d2 x.B3 x.m3 x.d3),.agg (ssA x.s),.agg (stA x.ac x.sq x.A x.n x.c S m d),.int .i64 x.ht] w fun e w'=>e=.returned (.bool true)∧Ext w w':=by
 obtain ⟨W,hW,H0⟩:=LwS.new (x:=x) (S:=S) (m:=m) (d:=d) (L:=L) (sig:=sig) hV hN hB hs hT
 clear hV hN hB hs hT
 obtain ⟨V5,hV5⟩:∃ V,exeS (chkO x.m2 x.m1 x.ht sumU (evU VN) x.ac) (vldG x.gN x.gZ x.m1 x.m2 x.m3 BL) x.m2 (vSg (nthG PN x.ac.toNat) ⟨x.ac,x.sq,x.A,x.n,x.c,S,m,d,L,sig⟩) x.s.V x.ac x.sq L=V:=⟨_,rfl⟩
 obtain ⟨cd,hcd⟩:∃ z,exeC (chkO x.m2 x.m1 x.ht sumU (evU VN) x.ac) (vldG x.gN x.gZ x.m1 x.m2 x.m3 BL) x.m2 (vSg (nthG PN x.ac.toNat) ⟨x.ac,x.sq,x.A,x.n,x.c,S,m,d,L,sig⟩) x.s.V x.ac x.sq L=z:=⟨_,rfl⟩
 have HV5:=zh hV5
 have HCD:=zh hcd
 have HEX:=zh (fun (V:World) (H:LwS w V x S m d L sig VN PN BL) (hn:x.s.n1≤200000∧x.s.n2≤200000∧x.s.n3≤200000∧x.s.n4≤200000) (hp:∀ R ∈ L,R.n1≤5000)=>exe22_any x S m d L sig VN PN BL V H.hs H.hT H.hV H.hN H.hB hn hp)
 rw [hV5,hcd] at HEX
 clear hV5 hcd
 go_enter Tryz.func7,Tryz.ntmps7
 have hu1:=H0.out.hV.le
 have hu2:=H0.out.hV.cap
 have hu3:=H0.out.hN.le
 have hu4:=H0.out.hN.cap
 have hu5:=H0.out.hB.le
 have hu6:=H0.out.hB.cap
 obtain ⟨g0,g1,g2,g3,g4,p0,p1,p2,p3,p4,t0,t1,t2,t3⟩:=H0.out.f
 go_wp2_with fail
 refine (unsound22_any x.gN x.gZ x.B1 x.m1 x.d1 x.B2 x.m2 x.d2 x.B3 x.m3 x.d3 _ ⟨hu1,hu2⟩ ⟨hu3,hu4⟩ ⟨hu5,hu6⟩).mono ?_
 rintro e w1 ⟨⟨b1,rfl,hb1⟩,he1⟩
 have H1:=zh (H0.out.ext he1)
 clear he1 H0 g0 g1 g2 g3 g4 p0 p1 p2 p3 p4 t0 t1 t2 t3
 cases b1
 rotate_left
 ·skip
  obtain ⟨g0,g1,g2,g3,g4,p0,p1,p2,p3,p4,t0,t1,t2,t3⟩:=H1.out.f
  go_wp2_with fail
  refine (awake22_any _).mono ?_
  rintro e w9 ⟨rfl,he9⟩
  have HX9:=zh (H1.out.low.trans he9)
  clear he9
  go_wp2_with fail
  go_ret
  exact ⟨rfl,HX9.out⟩
 clear hb1
 obtain ⟨g0,g1,g2,g3,g4,p0,p1,p2,p3,p4,t0,t1,t2,t3⟩:=H1.out.f
 go_wp2_with fail
 refine (large22_any x.s _ H1.out.hs).mono ?_
 rintro e w2 ⟨⟨b2,rfl,hb2⟩,he2⟩
 have H2:=zh (H1.out.ext he2)
 clear he2 H1 g0 g1 g2 g3 g4 p0 p1 p2 p3 p4 t0 t1 t2 t3
 cases b2
 rotate_left
 ·skip
  obtain ⟨g0,g1,g2,g3,g4,p0,p1,p2,p3,p4,t0,t1,t2,t3⟩:=H2.out.f
  go_wp2_with fail
  refine (awake22_any _).mono ?_
  rintro e w9 ⟨rfl,he9⟩
  have HX9:=zh (H2.out.low.trans he9)
  clear he9
  go_wp2_with fail
  go_ret
  exact ⟨rfl,HX9.out⟩
 have HNN:=zh (hb2 rfl)
 clear hb2
 obtain ⟨g0,g1,g2,g3,g4,p0,p1,p2,p3,p4,t0,t1,t2,t3⟩:=H2.out.f
 go_wp2_with fail
 refine (long22_q x.ac x.sq x.A x.n x.c L _ H2.out.hT.ops).mono ?_
 rintro e w3 ⟨⟨b3,rfl,hb3⟩,he3⟩
 have H3:=zh (H2.out.ext he3)
 clear he3 H2 g0 g1 g2 g3 g4 p0 p1 p2 p3 p4 t0 t1 t2 t3
 cases b3
 rotate_left
 ·skip
  obtain ⟨g0,g1,g2,g3,g4,p0,p1,p2,p3,p4,t0,t1,t2,t3⟩:=H3.out.f
  go_wp2_with fail
  refine (awake22_any _).mono ?_
  rintro e w9 ⟨rfl,he9⟩
  have HX9:=zh (H3.out.low.trans he9)
  clear he9
  go_wp2_with fail
  go_ret
  exact ⟨rfl,HX9.out⟩
 have HPN:=zh (hb3 rfl)
 clear hb3
 have HN:=zh (show x.s.n1≤200000∧x.s.n2≤200000∧x.s.n3≤200000∧x.s.n4≤200000 from by have:=HNN.out;omega)
 have hsl:=H3.out.hT.sig.le
 have hsc:=H3.out.hT.sig.cap
 by_cases hm:m > 5000
 ·have km : (m : Int) > 5000 := by omega
  clear hm
  obtain ⟨g0,g1,g2,g3,g4,p0,p1,p2,p3,p4,t0,t1,t2,t3⟩:=H3.out.f
  go_wp2_with fail
  refine (awake22_any _).mono ?_
  rintro e w9 ⟨rfl,he9⟩
  have HX9:=zh (H3.out.low.trans he9)
  clear he9
  go_wp2_with fail
  go_ret
  exact ⟨rfl,HX9.out⟩
 have km:¬ (m:Int) > 5000:=by omega
 clear hm
 obtain ⟨g0,g1,g2,g3,g4,p0,p1,p2,p3,p4,t0,t1,t2,t3⟩:=H3.out.f
 go_wp2_with fail
 refine (HEX.out _ H3.out HN.out HPN.out).mono ?_
 rintro e w4 ⟨s5,A5,n5,c5,rfl,ho,hv,hse,he⟩
 have HO5:=zh ho.ok
 have HSV5:=zh hv
 have HSE5:=zh hse
 have H4:=zh (H3.out.ext he)
 clear he H3 ho hv hse g0 g1 g2 g3 g4 p0 p1 p2 p3 p4 t0 t1 t2 t3
 obtain ⟨g5,hg⟩:∃ g,w4.heap.size=g:=⟨_,rfl⟩
 obtain ⟨U,hU,HP,HQ,HU⟩:=two_new w4 #[.slice none 0 0,.slice none 0 0,.slice none 0 0,.slice none 0 0,.int .i64 0] #[.int .i64 0,.slice none 0 0,.int .i64 0,.int .i64 0] 44 52
 have HGG:=zh hg
 rw [hg] at HP HQ
 clear hg
 have HP:=zh (show Blk U g5 44 (ssA ss0) from HP.out)
 have HQ:=zh (show Blk U (g5+1) 52 (rcA rc0) from HQ.out)
 obtain ⟨ro5,hro⟩:∃ z,rcO cd x.ac x.sq L=z:=⟨_,rfl⟩
 obtain ⟨rg5,hrg⟩:∃ z,rcG cd x.s.V V5=z:=⟨_,rfl⟩
 have HRO5:=zh hro
 have HRG5:=zh hrg
 rw [hro,hrg]
 clear hro hrg
 go_upto_region 4 with (first | ((try rw [hU]);(try rw [HGG.out]);(with_reducible refine wpList_storeB rfl 44 (.tmp 9) (.tmp 36) rfl g5 (ssA ss0) (ssA s5) _ rfl rfl rfl rfl (by kernel_rfl) (by kernel_rfl) HP.out ?_);intro Ua ha;have HQa:=zh (show Blk Ua (g5+1) 52 (rcA rc0) from by rw [← ha.out.2];exact HQ.out.setCells_far (by omega) _ _);have HBa:=zh ha.out.1;have HEa:=zh (show Ext w4 Ua from by rw [← ha.out.2];exact Below.setCells' HU.out (by rw [HGG.out];exact Nat.le_refl _) _ _);clear ha) | ((with_reducible refine wpList_storeB rfl 52 (.tmp 10) (.tmp 37) rfl (g5+1) (rcA rc0) (rcA ⟨cd,A5,n5,c5,ro5,rg5⟩) _ rfl rfl rfl rfl (by kernel_rfl) (by kernel_rfl) HQa.out ?_);intro V5b hb))
 have he:Ext w4 V5b:=by rw [← hb.out.2];exact Below.setCells' HEa.out (by rw [HGG.out];exact Nat.le_succ _) _ _
 have HB5:=zh (show Blk V5b g5 44 (ssA s5) from by rw [← hb.out.2];exact HBa.out.setCells_far (by omega) _ _)
 have HR5:=zh hb.out.1
 have HOk5:=zh (HO5.out.ext he)
 have HSe5:=zh (HSE5.out.ext he)
 have H5:=zh (H4.out.ext he)
 clear he H4 hb hU HP HQ HU HBa HQa HEa HGG HO5 HSE5
 obtain ⟨g0,g1,g2,g3,g4,p0,p1,p2,p3,p4,t0,t1,t2,t3⟩:=H5.out.f
 go_wp2_with fail
 refine (replay_any x.s x.ac x.sq x.A x.n x.c L _ H5.out.hs H5.out.hT.ops HN.out).mono ?_
 rintro e w6 ⟨s7,rfl,ho,hv,he⟩
 have HO7:=zh ho.ok
 have HSV7:=zh hv
 have HB6:=zh (HB5.out.ext he)
 have HR6:=zh (HR5.out.ext he)
 have HO6:=zh (HOk5.out.ext he)
 have HS6:=zh (HSe5.out.ext he)
 have H6:=zh (H5.out.ext he)
 clear he H5 ho hv HB5 HR5 HOk5 HSe5 g0 g1 g2 g3 g4 p0 p1 p2 p3 p4 t0 t1 t2 t3
 go_wp2_with ((with_reducible refine wpList_newB rfl 44 (.tmp 11) (.tmp 41) rfl _ (ssA s7) _ rfl rfl rfl rfl (by kernel_rfl) (by kernel_rfl) ?_);intro W7 g7 h7;(try rw [h7.out.2.2]))
 have e7:=h7.out.2.1.trans ((Ext.refl W7).drew')
 have HB8:=zh (HB6.out.ext e7)
 have HR8:=zh (HR6.out.ext e7)
 have HO8:=zh (HO6.out.ext e7)
 have H78:=zh (h7.out.1.ext ((Ext.refl W7).drew'))
 have HO78:=zh (HO7.out.ext e7)
 have H7:=zh (H6.out.ext e7)
 clear e7 H6 h7 HB6 HR6 HO6 HO7
 obtain ⟨tv,htv⟩:∃ z,totC x.s.C=z:=⟨_,rfl⟩
 have HT5:=zh (show totC s5.C=tv from by
  have e1:s5.C=V5.C:=congrArg StV.C HSV5.out
  rw [e1,← HV5.out,exeS_tot];exact htv)
 have HT7:=zh (show totC s7.C=tv from by
  have e1:s7.C=(repS x.s.V x.ac x.sq L).C:=congrArg StV.C HSV7.out
  rw [e1,rep_tot];exact htv)
 have HTV:=zh htv
 clear htv
 have HNE:=zh (show cd ≠ 0→s5.V=x.s.V∧n5=0∧ro5=0∧rg5=0 from fun hne=>by
  have h1:V5=x.s.V:=by rw [← HV5.out];unfold exeS;rw [HCD.out,if_neg hne]
  refine ⟨by rw [HSV5.out,h1],?_,?_,?_⟩
  ·have h2 := HS6.out.len
   unfold rcE at h2
   rw [if_neg hne] at h2
   exact h2.symm
  ·rw [← HRO5.out];unfold rcO;rw [if_neg hne]
  rw [← HRG5.out];unfold rcG;rw [if_neg hne])
 by_cases hc0:cd=0
 ·subst hc0
  have HEQ:True:=trivial
  refine wp_region_held_drew (S:=fun V=>Ext W7.drew V) (by kernel_rfl) (Ext.refl _) (fun jj=>?_)
  refine zu 0 (v:=.agg (ssA s5)) jj ?_ (hy:=by refine .inl ⟨by rfl,fun V jS=>?_⟩;obtain ⟨q0,q1,q2,q3,q4⟩:=sF (HB8.out.ext jS);go_simp;try rfl)
  refine zu 2 (v:=.agg (ssA x.s)) jj ?_ (hy:=by refine .inl ⟨by rfl,fun V jS=>?_⟩;obtain ⟨q0,q1,q2,q3,q4⟩:=sF ((H7.out.ext jS).p);go_simp;try rfl)
  refine za 1 (fun K hK=>?_)
  (go_simp;go_at_call 28;refine (rTotal_any s5 _ (HO8.out.ext jj)).mono ?_;rw [HT5.out];rintro e w5 ⟨rfl,he5⟩)
  refine hK.out _ _ (jj.trans he5) (fun jj=>?_)
  clear hK K
  try simp only [lays]
  refine za 3 (fun K hK=>?_)
  (go_simp;go_at_call 28;refine (rTotal_any x.s _ (H7.out.hs.ext jj)).mono ?_;rw [HTV.out];rintro e w5 ⟨rfl,he5⟩)
  refine hK.out _ _ (jj.trans he5) (fun jj=>?_)
  clear hK K
  try simp only [lays]
  refine zzr [4,5] ?_
  first | refine zu 6 (v:=.agg (ssA s7)) jj ?_ (hy:=by refine .inl ⟨by rfl,fun V jS=>?_⟩;obtain ⟨q0,q1,q2,q3,q4⟩:=sF (H78.out.ext jS);go_simp;try rfl) | (refine zs 6 jj ?_)
  try simp only [lays]
  first | refine zu 8 (v:=.agg (ssA x.s)) jj ?_ (hy:=by refine .inl ⟨by rfl,fun V jS=>?_⟩;obtain ⟨q0,q1,q2,q3,q4⟩:=sF ((H7.out.ext jS).p);go_simp;try rfl) | (refine zs 8 jj ?_)
  try simp only [lays]
  refine za 7 (fun K hK=>?_)
  (go_simp;go_at_call 28;refine (rTotal_any s7 _ (HO78.out.ext jj)).mono ?_;rw [HT7.out];rintro e w5 ⟨rfl,he5⟩)
  refine hK.out _ _ (jj.trans he5) (fun jj=>?_)
  clear hK K
  try simp only [lays]
  refine za 9 (fun K hK=>?_)
  (go_simp;go_at_call 28;refine (rTotal_any x.s _ (H7.out.hs.ext jj)).mono ?_;rw [HTV.out];rintro e w5 ⟨rfl,he5⟩)
  refine hK.out _ _ (jj.trans he5) (fun jj=>?_)
  clear hK K
  try simp only [lays]
  refine zz0 [10,11,12,13,14,15,16] ?_;repeat first | refine zz1 ?_ (hy:=by intro W jS;have r0:=(HR8.out.ext jS).cell 0;have r1:=(HR8.out.ext jS).cell 1;have r2:=(HR8.out.ext jS).cell 2;have r3:=(HR8.out.ext jS).cell 3;go_simp <;> with_reducible rfl) | refine zz2 ?_ | refine zz9 ?_
  first | refine zu 17 (v:=.agg (ssA s5)) jj ?_ (hy:=by refine .inl ⟨by rfl,fun V jS=>?_⟩;obtain ⟨q0,q1,q2,q3,q4⟩:=sF (HB8.out.ext jS);go_simp;try rfl) | (refine zs 17 jj ?_)
  try simp only [lays]
  first | refine zu 18 (v:=.agg (ssA x.s)) jj ?_ (hy:=by refine .inl ⟨by rfl,fun V jS=>?_⟩;obtain ⟨q0,q1,q2,q3,q4⟩:=sF ((H7.out.ext jS).p);go_simp;try rfl) | (refine zs 18 jj ?_)
  try simp only [lays]
  refine za 19 (fun K hK=>?_)
  (go_simp;first | (go_at_call 22;refine (rSame_any s5 x.s _ (HO8.out.ext jj) (H7.out.hs.ext jj)).mono ?_;rw [HEQ.out,decide_eq_true rfl];rintro e w5 ⟨rfl,he5⟩) | skip)
  refine hK.out _ _ (by first | exact jj.trans he5 | exact jj) (fun jj=>?_)
  clear hK K
  try simp only [lays]
  refine zz0 [20,21,22,23,24,25,26,27,28,29,30,31,32,33,34,35,36,37,38] ?_;repeat first | refine zz1 ?_ (hy:=by intro W jS;have r0:=(HR8.out.ext jS).cell 0;have r1:=(HR8.out.ext jS).cell 1;have r2:=(HR8.out.ext jS).cell 2;have r3:=(HR8.out.ext jS).cell 3;go_simp <;> with_reducible rfl) | refine zz2 ?_ | refine zz9 ?_
  refine za 39 (fun K hK=>?_)
  (go_simp;go_at_call 12;refine (awake22_any _).mono ?_;rintro e w5 ⟨rfl,he5⟩)
  refine hK.out _ _ (jj.trans he5) (fun jj=>?_)
  clear hK K
  try simp only [lays]
  refine zzr [40,41] ?_
  refine wpAnyH_done (by kernel_rfl) ?_ _
  have HXF:=zh (H7.out.low.trans jj)
  clear jj
  go_wp2_with fail
  go_ret
  exact ⟨rfl,HXF.out⟩
 obtain ⟨hq,rfl,rfl,rfl⟩:=HNE.out hc0
 have HEQ:=zh hq
 have b0:(cd == 0)=false:=beq_eq_false_iff_ne.2 hc0
 have b1:decide (cd=0)=false:=decide_eq_false hc0
 clear hq hc0
 refine wp_region_held_drew (S:=fun V=>Ext W7.drew V) (by kernel_rfl) (Ext.refl _) (fun jj=>?_)
 refine zu 0 (v:=.agg (ssA s5)) jj ?_ (hy:=by refine .inl ⟨by rfl,fun V jS=>?_⟩;obtain ⟨q0,q1,q2,q3,q4⟩:=sF (HB8.out.ext jS);go_simp;try rfl)
 refine zu 2 (v:=.agg (ssA x.s)) jj ?_ (hy:=by refine .inl ⟨by rfl,fun V jS=>?_⟩;obtain ⟨q0,q1,q2,q3,q4⟩:=sF ((H7.out.ext jS).p);go_simp;try rfl)
 refine za 1 (fun K hK=>?_)
 (go_simp;go_at_call 28;refine (rTotal_any s5 _ (HO8.out.ext jj)).mono ?_;rw [HT5.out];rintro e w5 ⟨rfl,he5⟩)
 refine hK.out _ _ (jj.trans he5) (fun jj=>?_)
 clear hK K
 try simp only [lays]
 refine za 3 (fun K hK=>?_)
 (go_simp;go_at_call 28;refine (rTotal_any x.s _ (H7.out.hs.ext jj)).mono ?_;rw [HTV.out];rintro e w5 ⟨rfl,he5⟩)
 refine hK.out _ _ (jj.trans he5) (fun jj=>?_)
 clear hK K
 try simp only [lays]
 refine zzr [4,5] ?_
 first | refine zu 6 (v:=.agg (ssA s7)) jj ?_ (hy:=by refine .inl ⟨by rfl,fun V jS=>?_⟩;obtain ⟨q0,q1,q2,q3,q4⟩:=sF (H78.out.ext jS);go_simp;try rfl) | (refine zs 6 jj ?_)
 try simp only [lays]
 first | refine zu 8 (v:=.agg (ssA x.s)) jj ?_ (hy:=by refine .inl ⟨by rfl,fun V jS=>?_⟩;obtain ⟨q0,q1,q2,q3,q4⟩:=sF ((H7.out.ext jS).p);go_simp;try rfl) | (refine zs 8 jj ?_)
 try simp only [lays]
 refine za 7 (fun K hK=>?_)
 (go_simp;go_at_call 28;refine (rTotal_any s7 _ (HO78.out.ext jj)).mono ?_;rw [HT7.out];rintro e w5 ⟨rfl,he5⟩)
 refine hK.out _ _ (jj.trans he5) (fun jj=>?_)
 clear hK K
 try simp only [lays]
 refine za 9 (fun K hK=>?_)
 (go_simp;go_at_call 28;refine (rTotal_any x.s _ (H7.out.hs.ext jj)).mono ?_;rw [HTV.out];rintro e w5 ⟨rfl,he5⟩)
 refine hK.out _ _ (jj.trans he5) (fun jj=>?_)
 clear hK K
 try simp only [lays]
 refine zz0 [10,11,12,13,14,15,16] ?_;repeat first | refine zz1 ?_ (hy:=by intro W jS;have r0:=(HR8.out.ext jS).cell 0;have r1:=(HR8.out.ext jS).cell 1;have r2:=(HR8.out.ext jS).cell 2;have r3:=(HR8.out.ext jS).cell 3;go_simp <;> with_reducible rfl) | refine zz2 ?_ | refine zz9 ?_
 first | refine zu 17 (v:=.agg (ssA s5)) jj ?_ (hy:=by refine .inl ⟨by rfl,fun V jS=>?_⟩;obtain ⟨q0,q1,q2,q3,q4⟩:=sF (HB8.out.ext jS);go_simp;try rfl) | (refine zs 17 jj ?_)
 try simp only [lays]
 first | refine zu 18 (v:=.agg (ssA x.s)) jj ?_ (hy:=by refine .inl ⟨by rfl,fun V jS=>?_⟩;obtain ⟨q0,q1,q2,q3,q4⟩:=sF ((H7.out.ext jS).p);go_simp;try rfl) | (refine zs 18 jj ?_)
 try simp only [lays]
 refine za 19 (fun K hK=>?_)
 (go_simp;first | (go_at_call 22;refine (rSame_any s5 x.s _ (HO8.out.ext jj) (H7.out.hs.ext jj)).mono ?_;rw [HEQ.out,decide_eq_true rfl];rintro e w5 ⟨rfl,he5⟩) | skip)
 refine hK.out _ _ (by first | exact jj.trans he5 | exact jj) (fun jj=>?_)
 clear hK K
 try simp only [lays]
 refine zz0 [20,21,22,23,24,25,26,27,28,29,30,31,32,33,34,35,36,37,38] ?_;repeat first | refine zz1 ?_ (hy:=by intro W jS;have r0:=(HR8.out.ext jS).cell 0;have r1:=(HR8.out.ext jS).cell 1;have r2:=(HR8.out.ext jS).cell 2;have r3:=(HR8.out.ext jS).cell 3;go_simp <;> with_reducible rfl) | refine zz2 ?_ | refine zz9 ?_
 refine za 39 (fun K hK=>?_)
 (go_simp;go_at_call 12;refine (awake22_any _).mono ?_;rintro e w5 ⟨rfl,he5⟩)
 refine hK.out _ _ (jj.trans he5) (fun jj=>?_)
 clear hK K
 try simp only [lays]
 refine zzr [40,41] ?_
 refine wpAnyH_done (by kernel_rfl) ?_ _
 have HXF:=zh (H7.out.low.trans jj)
 clear jj
 go_wp2_with fail
 go_ret
 exact ⟨rfl,HXF.out⟩
end
end Go.Proofs.YtohmmcahpakokaaGreat
