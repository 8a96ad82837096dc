import Derived.Test.YtgmnmjeccfnmbaaGreatE26
set_option maxRecDepth 100000
set_option maxHeartbeats 8000000
set_option linter.unusedVariables false
set_option linter.unusedSimpArgs false
namespace Go.Proofs.YtgmnmjeccfnmbaaGreat
open Go.Proofs.Tryz
section
open Go.RowKit
attribute [local go_sem ↓] Go.wp_at_zero Go.wp_at_succ
theorem xZ {w:World} {g:Nat} {t:TypeId} {N Z:Int} {B1:Option Addr} {m1 d1:Nat} {B2:Option Addr} {m2 d2:Nat} {B3:Option Addr} {m3 d3:Nat} (h:Blk w g t (genC N Z B1 m1 d1 B2 m2 d2 B3 m3 d3)):w.cell? ⟨g,0,none⟩=some (.int .i64 N)∧w.cell? ⟨g,1,none⟩=some (.int .i64 Z)∧w.cell? ⟨g,2,none⟩=some (.slice B1 m1 d1)∧w.cell? ⟨g,3,none⟩=some (.slice B2 m2 d2)∧w.cell? ⟨g,4,none⟩=some (.slice B3 m3 d3):=⟨h.cell 0,h.cell 1,h.cell 2,h.cell 3,h.cell 4⟩
theorem nF {w:World} {g:Nat} {t:TypeId} {x:RcR} (h:Blk w g t (rcA x)):w.cell? ⟨g,0,none⟩=some (.int .i64 x.cd)∧w.cell? ⟨g,1,none⟩=some (.slice x.A x.n x.c)∧w.cell? ⟨g,2,none⟩=some (.int .i64 x.o)∧w.cell? ⟨g,3,none⟩=some (.int .i64 x.g):=⟨h.cell 0,h.cell 1,h.cell 2,h.cell 3⟩
section
variable {o:Oper} {a:Act} {w:World} {K:Act→World→Prop} {Q:Exit→Act→World→Prop}
theorem aCT (w:World):(Instr.alloc 30 true (.tuple #[])).run prog w=.ok (.pointer (some ⟨w.heap.size,0,none⟩)) (w.alloc (.cells (ssA ss0) 30)):=by kernel_rfl
theorem aEk (ho:o.op=.alloc 30)
  (h:∀ (g:Nat) (W2:World),Hid (Blk W2 g 30 (ssA ss0)∧Ext w W2∧w.heap.size≤g)→K (a.put o.dst (.pointer (some ⟨g,0,none⟩))) W2):o.wp prog a w K Q:=by
 have this:=aCT w
 have h2:=h _ _ (zh ⟨Blk.new w 30 (ssA ss0),(Ext.refl w).alloc' _,Nat.le_refl _⟩)
 clear h
 generalize w.alloc (.cells (ssA ss0) 30)=W2 at *
 exact yx
end
theorem aLx {w:World} {s:StR} {N:Nat} (h:s.ok w) (hb:s.V.C.length≤N∧s.V.Q.length≤N∧s.V.K.length≤N∧s.V.P.length≤N):s.n1≤N∧s.n2≤N∧s.n3≤N∧s.n4≤N:=by
 have l1:=h.s1.len
 have l2:=h.s2.len
 have l3:=h.s3.len
 have l4:=h.s4.len
 obtain ⟨b1,b2,b3,b4⟩:=hb
 have e1:s.V.C=s.C:=rfl
 have e2:s.V.Q=s.Q:=rfl
 have e3:s.V.K=s.K:=rfl
 have e4:s.V.P=s.P:=rfl
 rw [e1] at b1;rw [e2] at b2;rw [e3] at b3;rw [e4] at b4
 omega
theorem aLH (A1:Option Addr) (c1:Nat) (A2:Option Addr) (c2:Nat):(pL S22 0 0 [opW 6 A1 c1 A2 c2]).Q.length=2:=by kernel_rfl
theorem aLJ (A1:Option Addr) (c1:Nat) (A2:Option Addr) (c2:Nat):(pL S22 0 0 [opW 6 A1 c1 A2 c2]).K.length=0:=by kernel_rfl
theorem aLI (A1:Option Addr) (c1:Nat) (A2:Option Addr) (c2:Nat):(pL S22 0 0 [opW 6 A1 c1 A2 c2]).P.length=1:=by kernel_rfl
theorem aMH {w:World} {s:StR} {X:Option Addr} {x:Nat} {Y:Option Addr} {y:Nat} (h:s.ok w) (hv:s.V=pL S22 0 0 [opW 6 X x Y y]):s.n1≤3∧s.n2≤3∧s.n3≤3∧s.n4≤3:=by
 refine aLx h ?_
 rw [hv,aLK,aLH,aLJ,aLI]
 simp
theorem aIw {w:World} {s t:StR} {X:Option Addr} {x:Nat} {Y:Option Addr} {y:Nat} (h:t.ok w) (hv:t.V=⟨eB s.C cA 4,s.Q,s.K,s.P,s.G⟩) (hc:s.C=[⟨aV 0,-1⟩,⟨aV 1,6⟩,⟨bY 0,3⟩]) (hs:s.V=pL S22 0 0 [opW 6 X x Y y]):t.n1≤200000∧t.n2≤200000∧t.n3≤200000∧t.n4≤200000:=by
 have h2:=aLH X x Y y
 have h3:=aLJ X x Y y
 have h4:=aLI X x Y y
 rw [← hs] at h2 h3 h4
 have e2:s.Q.length=2:=h2
 have e3:s.K.length=0:=h3
 have e4:s.P.length=1:=h4
 refine aLx h ?_
 rw [hv,hc,aNG]
 simp only [List.length_cons,List.length_nil]
 omega
theorem aNr {s t u:StR} (hv:t.V=⟨eB s.C cA 4,s.Q,s.K,s.P,s.G⟩) (hu:u.V=aKE t.V) (hc:s.C=[⟨aV 0,-1⟩,⟨aV 1,6⟩,⟨bY 0,3⟩]):u.C=[⟨aV 1,6⟩,⟨bY 0,3⟩,⟨cA,3⟩]:=by
 have h1:u.C=(aKE t.V).C:=congrArg StV.C hu
 rw [h1,hv,hc,aNG]
 exact aOh
theorem kG (w:World):Calls prog 7 #[] w fun e w'=>e=.returned (.bool true)∧Ext w w':=by
 go_enter func7,ntmps7
 simp only [iM,kC]
 go_wp2_with fail
 refine (aAe w).mono ?_
 rintro e w1 ⟨B1,B2,B3,rfl,hN,hB,-,he1⟩
 have NN1:=zh hN
 have BB1:=zh hB
 have EX1:=zh he1
 clear hN hB he1
 go_wp2_with ((with_reducible refine fE rfl 25 (.tmp 1) (.tmp 14) rfl _ (genC 1 3 B1 1 1 B2 2 2 B3 2 2) _ rfl rfl rfl rfl ab ab ?_);intro W1 g1 h1;(try rw [h1.out.2.2]);have NNa:=zh (NN1.out.ext h1.out.2.1);have BBa:=zh (BB1.out.ext h1.out.2.1);clear NN1 BB1;have EXa:=zh (EX1.out.trans h1.out.2.1);clear EX1;have GBa:=zh (show Blk W1 g1 25 (genC 1 3 B1 1 1 B2 2 2 B3 2 2) from h1.out.1);clear h1;obtain ⟨q0,q1,q2,q3,q4⟩:=xZ GBa.out)
 clear q0 q1 q2 q3 q4
 refine (aGW 1 3 B1 1 1 B2 2 2 B3 2 2 [5,0] W1 BBa.out (show (Lit.int .i64 3).wf=true from ae) ae ae ae).mono ?_
 rintro e w2 ⟨s,rfl,ho,hv,he2⟩
 have HV:=zh (show s.V=S22 from hv)
 have NNb:=zh (NNa.out.ext he2)
 have BBb:=zh (BBa.out.ext he2)
 have GBb:=zh (GBa.out.ext he2)
 clear NNa BBa GBa
 have EXb:=zh (EXa.out.trans he2)
 clear EXa
 have SOb:=zh (show s.ok w2 from ho.ok)
 clear ho hv he2
 go_wp2_with ((with_reducible refine fE rfl 30 (.tmp 2) (.tmp 16) rfl _ (ssA s) _ rfl rfl rfl rfl ab ab ?_);intro W2 g2 h2;(try rw [h2.out.2.2]);have NNc:=zh (NNb.out.ext h2.out.2.1);have BBc:=zh (BBb.out.ext h2.out.2.1);have GBc:=zh (GBb.out.ext h2.out.2.1);have SOc:=zh (SOb.out.ext h2.out.2.1);clear NNb BBb GBb SOb;have EXc:=zh (EXb.out.trans h2.out.2.1);clear EXb;have SBc:=zh (show Blk W2 g2 30 (ssA s) from h2.out.1);clear h2)
 refine (wN 6 ae W2).mono ?_
 rintro e w3 ⟨A3,c3,S3,m3,d3,X3,x3,Y3,y3,sg3,rfl,hT,hg,he3⟩
 have VG3:=zh hg
 have NNd:=zh (NNc.out.ext he3)
 have BBd:=zh (BBc.out.ext he3)
 have GBd:=zh (GBc.out.ext he3)
 have SOd:=zh (SOc.out.ext he3)
 have SBd:=zh (SBc.out.ext he3)
 clear NNc BBc GBc SOc SBc
 have EXd:=zh (EXc.out.trans he3)
 clear EXc
 have TO3d:=zh (show (tS 6 A3 c3 S3 m3 d3 X3 x3 Y3 y3 sg3).ok w3 from hT)
 clear hT hg he3
 go_wp2_with ((with_reducible refine fE rfl 36 (.tmp 3) (.tmp 23) rfl _ (stA 0 0 A3 1 c3 S3 m3 d3) _ rfl rfl rfl rfl ab ab ?_);intro W3 g3 h3;(try rw [h3.out.2.2]);have NNd1:=zh (NNd.out.ext h3.out.2.1);have BBd1:=zh (BBd.out.ext h3.out.2.1);have GBd1:=zh (GBd.out.ext h3.out.2.1);have SOd1:=zh (SOd.out.ext h3.out.2.1);have SBd1:=zh (SBd.out.ext h3.out.2.1);have TO3d1:=zh (TO3d.out.ext h3.out.2.1);clear NNd BBd GBd SOd SBd TO3d;have EXd1:=zh (EXd.out.trans h3.out.2.1);clear EXd;have TB3d1:=zh (show Blk W3 g3 36 (stA 0 0 A3 1 c3 S3 m3 d3) from h3.out.1);clear h3)
 refine (wN 4 ae W3).mono ?_
 rintro e w5 ⟨A5,c5,S5,m5,d5,X5,x5,Y5,y5,sg5,rfl,hT,hg,he5⟩
 have VG5:=zh hg
 have NNf:=zh (NNd1.out.ext he5)
 have BBf:=zh (BBd1.out.ext he5)
 have GBf:=zh (GBd1.out.ext he5)
 have SOf:=zh (SOd1.out.ext he5)
 have SBf:=zh (SBd1.out.ext he5)
 have TO3f:=zh (TO3d1.out.ext he5)
 have TB3f:=zh (TB3d1.out.ext he5)
 clear NNd1 BBd1 GBd1 SOd1 SBd1 TO3d1 TB3d1
 have EXf:=zh (EXd1.out.trans he5)
 clear EXd1
 have TO5f:=zh (show (tS 4 A5 c5 S5 m5 d5 X5 x5 Y5 y5 sg5).ok w5 from hT)
 clear hT hg he5
 go_wp2_with ((with_reducible refine fE rfl 36 (.tmp 5) (.tmp 31) rfl _ (stA 0 0 A5 1 c5 S5 m5 d5) _ rfl rfl rfl rfl ab ab ?_);intro W5 g5 h5;(try rw [h5.out.2.2]);have NNf1:=zh (NNf.out.ext h5.out.2.1);have BBf1:=zh (BBf.out.ext h5.out.2.1);have GBf1:=zh (GBf.out.ext h5.out.2.1);have SOf1:=zh (SOf.out.ext h5.out.2.1);have SBf1:=zh (SBf.out.ext h5.out.2.1);have TO3f1:=zh (TO3f.out.ext h5.out.2.1);have TB3f1:=zh (TB3f.out.ext h5.out.2.1);have TO5f1:=zh (TO5f.out.ext h5.out.2.1);clear NNf BBf GBf SOf SBf TO3f TB3f TO5f;have EXf1:=zh (EXf.out.trans h5.out.2.1);clear EXf;have TB5f1:=zh (show Blk W5 g5 36 (stA 0 0 A5 1 c5 S5 m5 d5) from h5.out.1);clear h5;obtain ⟨q0,q1,q2,q3,q4⟩:=xZ GBf1.out;obtain ⟨r0,r1,r2,r3,r4⟩:=aE SBf1.out;obtain ⟨t0,t1,t2,t3⟩:=kY TB3f1.out)
 clear q0 q1 q2 q3 q4 r0 r1 r2 r3 r4 t0 t1 t2 t3
 refine (yI 6 ae s HV.out B1 B2 B3 A3 c3 S3 m3 d3 X3 x3 Y3 y3 sg3 W5 SOf1.out NNf1.out BBf1.out TO3f1.out VG3.out).mono ?_
 rintro e w7 ⟨s7,E7,n7,k7,l7,rfl,ho,hv6,hv4,he7⟩
 have HV7:=zh (hv6 rfl)
 have HZ7:(if (6:Int)=6 then (100:Int) else 0)=100∧(if (6:Int)=6 then (0:Int) else 4)=0:=⟨rfl,rfl⟩
 rw [HZ7.1,HZ7.2]
 clear HZ7 hv6 hv4
 have NNg:=zh (NNf1.out.ext he7)
 have BBg:=zh (BBf1.out.ext he7)
 have GBg:=zh (GBf1.out.ext he7)
 have SOg:=zh (SOf1.out.ext he7)
 have SBg:=zh (SBf1.out.ext he7)
 have TO3g:=zh (TO3f1.out.ext he7)
 have TB3g:=zh (TB3f1.out.ext he7)
 have TO5g:=zh (TO5f1.out.ext he7)
 have TB5g:=zh (TB5f1.out.ext he7)
 clear NNf1 BBf1 GBf1 SOf1 SBf1 TO3f1 TB3f1 TO5f1 TB5f1
 have EXg:=zh (EXf1.out.trans he7)
 clear EXf1
 have O7g:=zh (show s7.ok w7 from ho)
 clear ho he7
 obtain ⟨U7,hU7⟩:=gx ((w7.alloc (.cells #[.slice none 0 0,.slice none 0 0,.slice none 0 0,.slice none 0 0,.int .i64 0] 30)).alloc (.cells #[.int .i64 0,.slice none 0 0,.int .i64 0,.int .i64 0] 43))
 obtain ⟨g7,hg7⟩:=gx (w7.heap.size)
 have HP7:=zh (show Blk U7 g7 30 (ssA ss0) from by rw [← hU7,← hg7];exact (Blk.new w7 30 (ssA ss0)).alloc _)
 have HQ7:=zh (show Blk U7 (g7+1) 43 (rcA rc0) from by rw [← hU7,← hg7];exact Blk.newAt _ _ _ _ dr)
 have HU7:=zh (show Ext w7 U7 from by rw [← hU7];exact ((Ext.refl _).alloc' _).alloc' _)
 have HGG7:=zh hg7
 clear hg7
 go_wp2_with (first | ((try rw [hU7]);(try rw [HGG7.out]);(with_reducible refine eA rfl 30 (.tmp 7) (.tmp 38) rfl g7 (ssA ss0) (ssA s7) _ rfl rfl rfl rfl ab ab HP7.out ?_);intro U7a h7a;have HQ7a:=zh (show Blk U7a (g7+1) 43 (rcA rc0) from by rw [← h7a.out.2];exact HQ7.out.setCells_far aa _ _);have HB7a:=zh h7a.out.1;have HE7a:=zh (show Ext w7 U7a from by rw [← h7a.out.2];exact Below.setCells' HU7.out (by rw [HGG7.out];exact Nat.le_refl _) _ _);clear h7a) | ((with_reducible refine eA rfl 43 (.tmp 8) (.tmp 39) rfl (g7+1) (rcA rc0) (rcA ⟨100,E7,n7,k7,0,l7⟩) _ rfl rfl rfl rfl ab ab HQ7a.out ?_);intro V7 h7b;have h7:Ext w7 V7:=(by rw [← h7b.out.2];exact Below.setCells' HE7a.out (by rw [HGG7.out];exact Nat.le_succ _) _ _);have NNg1:=zh (NNg.out.ext h7);have BBg1:=zh (BBg.out.ext h7);have GBg1:=zh (GBg.out.ext h7);have SOg1:=zh (SOg.out.ext h7);have SBg1:=zh (SBg.out.ext h7);have TO3g1:=zh (TO3g.out.ext h7);have TB3g1:=zh (TB3g.out.ext h7);have TO5g1:=zh (TO5g.out.ext h7);have TB5g1:=zh (TB5g.out.ext h7);have O7g1:=zh (O7g.out.ext h7);clear NNg BBg GBg SOg SBg TO3g TB3g TO5g TB5g O7g;have EXg1:=zh (EXg.out.trans h7);clear EXg;have B7g1:=zh (show Blk V7 g7 30 (ssA s7) from by (rw [← h7b.out.2];exact HB7a.out.setCells_far aa _ _));have R7g1:=zh (show Blk V7 (g7+1) 43 (rcA ⟨100,E7,n7,k7,0,l7⟩) from h7b.out.1);clear h7 h7b HP7 HQ7 HU7 hU7 HQ7a HB7a HE7a;obtain ⟨q0,q1,q2,q3,q4⟩:=xZ GBg1.out;obtain ⟨r0,r1,r2,r3,r4⟩:=aE SBg1.out;obtain ⟨t0,t1,t2,t3⟩:=kY TB5g1.out))
 clear q0 q1 q2 q3 q4 r0 r1 r2 r3 r4 t0 t1 t2 t3
 refine (yI 4 ae s HV.out B1 B2 B3 A5 c5 S5 m5 d5 X5 x5 Y5 y5 sg5 V7 SOg1.out NNg1.out BBg1.out TO5g1.out VG5.out).mono ?_
 rintro e w9 ⟨s9,E9,n9,k9,l9,rfl,ho,hv6,hv4,he9⟩
 obtain ⟨hv,rfl⟩:=hv4 rfl
 have HV9:=zh hv
 clear hv
 have HZ9:(if (4:Int)=6 then (100:Int) else 0)=0∧(if (4:Int)=6 then (0:Int) else 4)=4:=⟨rfl,rfl⟩
 rw [HZ9.1,HZ9.2]
 clear HZ9 hv6
 have NNh:=zh (NNg1.out.ext he9)
 have BBh:=zh (BBg1.out.ext he9)
 have GBh:=zh (GBg1.out.ext he9)
 have SOh:=zh (SOg1.out.ext he9)
 have SBh:=zh (SBg1.out.ext he9)
 have TO3h:=zh (TO3g1.out.ext he9)
 have TB3h:=zh (TB3g1.out.ext he9)
 have TO5h:=zh (TO5g1.out.ext he9)
 have TB5h:=zh (TB5g1.out.ext he9)
 have O7h:=zh (O7g1.out.ext he9)
 have B7h:=zh (B7g1.out.ext he9)
 have R7h:=zh (R7g1.out.ext he9)
 clear NNg1 BBg1 GBg1 SOg1 SBg1 TO3g1 TB3g1 TO5g1 TB5g1 O7g1 B7g1 R7g1
 have EXh:=zh (EXg1.out.trans he9)
 clear EXg1
 have O9h:=zh (show s9.ok w9 from ho)
 clear ho he9
 obtain ⟨U9,hU9⟩:=gx ((w9.alloc (.cells #[.slice none 0 0,.slice none 0 0,.slice none 0 0,.slice none 0 0,.int .i64 0] 30)).alloc (.cells #[.int .i64 0,.slice none 0 0,.int .i64 0,.int .i64 0] 43))
 obtain ⟨g9,hg9⟩:=gx (w9.heap.size)
 have HP9:=zh (show Blk U9 g9 30 (ssA ss0) from by rw [← hU9,← hg9];exact (Blk.new w9 30 (ssA ss0)).alloc _)
 have HQ9:=zh (show Blk U9 (g9+1) 43 (rcA rc0) from by rw [← hU9,← hg9];exact Blk.newAt _ _ _ _ dr)
 have HU9:=zh (show Ext w9 U9 from by rw [← hU9];exact ((Ext.refl _).alloc' _).alloc' _)
 have HGG9:=zh hg9
 clear hg9
 go_wp2_with (first | ((try rw [hU9]);(try rw [HGG9.out]);(with_reducible refine eA rfl 30 (.tmp 9) (.tmp 45) rfl g9 (ssA ss0) (ssA s9) _ rfl rfl rfl rfl ab ab HP9.out ?_);intro U9a h9a;have HQ9a:=zh (show Blk U9a (g9+1) 43 (rcA rc0) from by rw [← h9a.out.2];exact HQ9.out.setCells_far aa _ _);have HB9a:=zh h9a.out.1;have HE9a:=zh (show Ext w9 U9a from by rw [← h9a.out.2];exact Below.setCells' HU9.out (by rw [HGG9.out];exact Nat.le_refl _) _ _);clear h9a) | ((with_reducible refine eA rfl 43 (.tmp 10) (.tmp 46) rfl (g9+1) (rcA rc0) (rcA ⟨0,E9,2,k9,4,l9⟩) _ rfl rfl rfl rfl ab ab HQ9a.out ?_);intro V9 h9b;have h9:Ext w9 V9:=(by rw [← h9b.out.2];exact Below.setCells' HE9a.out (by rw [HGG9.out];exact Nat.le_succ _) _ _);have NNh1:=zh (NNh.out.ext h9);have BBh1:=zh (BBh.out.ext h9);have GBh1:=zh (GBh.out.ext h9);have SOh1:=zh (SOh.out.ext h9);have SBh1:=zh (SBh.out.ext h9);have TO3h1:=zh (TO3h.out.ext h9);have TB3h1:=zh (TB3h.out.ext h9);have TO5h1:=zh (TO5h.out.ext h9);have TB5h1:=zh (TB5h.out.ext h9);have O7h1:=zh (O7h.out.ext h9);have B7h1:=zh (B7h.out.ext h9);have R7h1:=zh (R7h.out.ext h9);have O9h1:=zh (O9h.out.ext h9);clear NNh BBh GBh SOh SBh TO3h TB3h TO5h TB5h O7h B7h R7h O9h;have EXh1:=zh (EXh.out.trans h9);clear EXh;have B9h1:=zh (show Blk V9 g9 30 (ssA s9) from by (rw [← h9b.out.2];exact HB9a.out.setCells_far aa _ _));have R9h1:=zh (show Blk V9 (g9+1) 43 (rcA ⟨0,E9,2,k9,4,l9⟩) from h9b.out.1);clear h9 h9b HP9 HQ9 HU9 hU9 HQ9a HB9a HE9a;obtain ⟨r0,r1,r2,r3,r4⟩:=aE SBh1.out;obtain ⟨t0,t1,t2,t3⟩:=kY TB3h1.out))
 clear r0 r1 r2 r3 r4 t0 t1 t2 t3
 refine (aEL s 0 0 A3 1 c3 [opW 6 X3 x3 Y3 y3] V9 SOh1.out TO3h1.out.ops (aFE SOh1.out HV.out)).mono ?_
 rintro e w11 ⟨s11,rfl,ho,hv,he11⟩
 have HV11:=zh (show s11.V=pL S22 0 0 [opW 6 X3 x3 Y3 y3] from by rw [hv,HV.out])
 have NNi:=zh (NNh1.out.ext he11)
 have BBi:=zh (BBh1.out.ext he11)
 have GBi:=zh (GBh1.out.ext he11)
 have SOi:=zh (SOh1.out.ext he11)
 have SBi:=zh (SBh1.out.ext he11)
 have TO3i:=zh (TO3h1.out.ext he11)
 have TB3i:=zh (TB3h1.out.ext he11)
 have TO5i:=zh (TO5h1.out.ext he11)
 have TB5i:=zh (TB5h1.out.ext he11)
 have O7i:=zh (O7h1.out.ext he11)
 have B7i:=zh (B7h1.out.ext he11)
 have R7i:=zh (R7h1.out.ext he11)
 have O9i:=zh (O9h1.out.ext he11)
 have B9i:=zh (B9h1.out.ext he11)
 have R9i:=zh (R9h1.out.ext he11)
 clear NNh1 BBh1 GBh1 SOh1 SBh1 TO3h1 TB3h1 TO5h1 TB5h1 O7h1 B7h1 R7h1 O9h1 B9h1 R9h1
 have EXi:=zh (EXh1.out.trans he11)
 clear EXh1
 have O11i:=zh (show s11.ok w11 from ho.ok)
 clear ho hv he11
 go_wp2_with ((with_reducible refine fE rfl 30 (.tmp 11) (.tmp 50) rfl _ (ssA s11) _ rfl rfl rfl rfl ab ab ?_);intro W11 g11 h11;(try rw [h11.out.2.2]);have NNi1:=zh (NNi.out.ext h11.out.2.1);have BBi1:=zh (BBi.out.ext h11.out.2.1);have GBi1:=zh (GBi.out.ext h11.out.2.1);have SOi1:=zh (SOi.out.ext h11.out.2.1);have SBi1:=zh (SBi.out.ext h11.out.2.1);have TO3i1:=zh (TO3i.out.ext h11.out.2.1);have TB3i1:=zh (TB3i.out.ext h11.out.2.1);have TO5i1:=zh (TO5i.out.ext h11.out.2.1);have TB5i1:=zh (TB5i.out.ext h11.out.2.1);have O7i1:=zh (O7i.out.ext h11.out.2.1);have B7i1:=zh (B7i.out.ext h11.out.2.1);have R7i1:=zh (R7i.out.ext h11.out.2.1);have O9i1:=zh (O9i.out.ext h11.out.2.1);have B9i1:=zh (B9i.out.ext h11.out.2.1);have R9i1:=zh (R9i.out.ext h11.out.2.1);have O11i1:=zh (O11i.out.ext h11.out.2.1);clear NNi BBi GBi SOi SBi TO3i TB3i TO5i TB5i O7i B7i R7i O9i B9i R9i O11i;have EXi1:=zh (EXi.out.trans h11.out.2.1);clear EXi;have B11i1:=zh (show Blk W11 g11 30 (ssA s11) from h11.out.1);clear h11)
 have HB11:=zh (show s11.n1≤1000000∧s11.n2≤1000000∧s11.n3≤1000000∧s11.n4≤1000000 from by have:=aMH O11i1.out HV11.out;omega)
 have HPW:=zh (show ceW cA from dP (k:=4) (i:=0) (wfS ⟨aa,aa⟩) (wfS ⟨aa,aa⟩))
 have H4W:=zh (show (Lit.int .i64 4).wf=true from ae)
 have HC11:=zh (show s11.C=_ from (congrArg StV.C HV11.out).trans (aLK X3 x3 Y3 y3))
 have NNj:=zh (NNi1.out.ext ((Ext.refl W11).drew'))
 have BBj:=zh (BBi1.out.ext ((Ext.refl W11).drew'))
 have GBj:=zh (GBi1.out.ext ((Ext.refl W11).drew'))
 have SOj:=zh (SOi1.out.ext ((Ext.refl W11).drew'))
 have SBj:=zh (SBi1.out.ext ((Ext.refl W11).drew'))
 have TO3j:=zh (TO3i1.out.ext ((Ext.refl W11).drew'))
 have TB3j:=zh (TB3i1.out.ext ((Ext.refl W11).drew'))
 have TO5j:=zh (TO5i1.out.ext ((Ext.refl W11).drew'))
 have TB5j:=zh (TB5i1.out.ext ((Ext.refl W11).drew'))
 have O7j:=zh (O7i1.out.ext ((Ext.refl W11).drew'))
 have B7j:=zh (B7i1.out.ext ((Ext.refl W11).drew'))
 have R7j:=zh (R7i1.out.ext ((Ext.refl W11).drew'))
 have O9j:=zh (O9i1.out.ext ((Ext.refl W11).drew'))
 have B9j:=zh (B9i1.out.ext ((Ext.refl W11).drew'))
 have R9j:=zh (R9i1.out.ext ((Ext.refl W11).drew'))
 have O11j:=zh (O11i1.out.ext ((Ext.refl W11).drew'))
 have B11j:=zh (B11i1.out.ext ((Ext.refl W11).drew'))
 clear NNi1 BBi1 GBi1 SOi1 SBi1 TO3i1 TB3i1 TO5i1 TB5i1 O7i1 B7i1 R7i1 O9i1 B9i1 R9i1 O11i1 B11i1
 have EXj:=zh (EXi1.out.trans ((Ext.refl W11).drew'))
 clear EXi1
 refine wp_region_held_drew (S:=fun _=>True) ab (trivial) (fun aA=>?_)
 refine zzj (VE 0 (.agg (ssA s11)) (VE 1 (.agg (ceA cA)) (VV 2 (fun v V=>∃ s2,v=.agg (ssA s2)∧OwnS V W11.drew.heap.size s2∧s2.V=⟨eB s11.C cA 4,s11.Q,s11.K,s11.P,s11.G⟩) (VV 3 (fun v V=>∃ s2,v=.agg (ssA s2)∧OwnS V W11.drew.heap.size s2∧s2.C=[⟨aV 1,6⟩,⟨bY 0,3⟩,⟨cA,3⟩]) (VV 4 (fun v V=>∃ P,v=.pointer (some ⟨P,0,none⟩)∧Blk V P 30 (ssA ss0)∧W11.drew.heap.size≤P) VN))))) [(0,some 51),(1,some 52),(2,some 53),(3,some 54),(4,some 12)] 1 (fun _ _ h _=>h) (ve (ve (VV.ext (fun v w w' ⟨s2,h1,h2,h3⟩ e=>⟨s2,h1,h2.ext e,h3⟩) (VV.ext (fun v w w' ⟨s2,h1,h2,h3⟩ e=>⟨s2,h1,h2.ext e,h3⟩) (VV.ext (fun v w w' ⟨P,h1,h2,h3⟩ e=>⟨P,h1,h2.ext e,h3⟩) VN.ext))))) (zzc ?_ (zzc ?_ (zzc ?_ (zzc ?_ (zzc ?_ zzn))))) ?_
 ·refine zzp fun WX hE hS K hK => ?_
  obtain ⟨q0,q1,q2,q3,q4⟩:=aE (B11j.out.ext hE)
  go_simp
  exact zzF hK (.agg (ssA s11))
 ·refine zzp fun WX hE hS K hK => ?_
  go_simp
  go_at_call 18
  refine zcl (pF _) fun w5 he5=>?_
  exact zzK (hK.out (.agg (ceA cA)) _ (he5) (rfl))
 ·refine zm [(0, some 51), (1, some 52)] fun env WX hE hS hD K hK => ?_
  obtain ⟨h0,h1,-⟩:=zzV hD
  clear hD
  simp only [aR,h0,h1] at hK ⊢
  clear h0 h1
  go_simp
  go_at_call 17
  refine (mM s11 cA 4 _ (O11j.out.ext hE) HPW.out H4W.out HB11.out).mono ?_
  rintro e w5 ⟨s2,rfl,ho2,hv2,he5⟩
  exact zzK (hK.out (.agg (ssA s2)) _ (he5) (⟨s2,rfl,bO ho2 hE.size,hv2⟩))
 ·refine zm [(2, some 53)] fun env WX hE hS hD K hK => ?_
  obtain ⟨h2,-⟩:=zzV hD
  clear hD
  simp only [aR] at hK ⊢
  generalize env 2=x2 at h2 hK ⊢
  obtain ⟨s9,rfl,ho9,hv9⟩:=h2
  go_simp
  go_at_call 16
  refine (aHG s9 _ ho9.ok (aIw ho9.ok hv9 HC11.out HV11.out)).mono ?_
  rintro e w5 ⟨s2,rfl,ho2,hv2,he5⟩
  exact zzK (hK.out (.agg (ssA s2)) _ (he5) (⟨s2,rfl,bO ho2 hE.size,aNr hv9 hv2 HC11.out⟩))
 ·refine zzp fun WX hE hS K hK => ?_
  refine aEk rfl ?_
  intro g W2 h2
  exact zzK (hK.out (.pointer (some ⟨g,0,none⟩)) _ (h2.out.2.1) (⟨g,rfl,h2.out.1,Nat.le_trans hE.size h2.out.2.2⟩))
 intro env WX hE hS hV
 obtain ⟨h0,h1,h2,h3,h4,-⟩:=zzV hV
 clear hV
 simp only [aR,h0,h1]
 clear h0 h1
 generalize env 2=x2 at h2 ⊢
 generalize env 3=x3 at h3 ⊢
 generalize env 4=x4 at h4 ⊢
 obtain ⟨sP,rfl,-,-⟩:=h2
 obtain ⟨s12,rfl,ho12,hv12⟩:=h3
 obtain ⟨g12,rfl,hp,hpl⟩:=h4
 have aA:=hS
 refine za 5 (fun K hK=>?_)
 (refine bQ rfl (.tmp 12) (.tmp 54) dp g12 (.agg (ssA s12)) s12 rfl dp dp hp ?_;intro W12 h12)
 refine hK.out _ _ (trivial) (fun aA=>?_)
 clear hK K
 try simp only [bB]
 refine wpd ?_
 have hX:Ext W11.drew W12:=(by rw [← h12.out.1];exact Below.setCells' hE hpl _ _)
 have hO:OwnS W12 W11.drew.heap.size s12:=(by rw [← h12.out.1];exact ho12.kept (aB _ _ _ _) hp ae ae ae ae)
 have HC12:=zh hv12
 have NNk:=zh (NNj.out.ext hX)
 have BBk:=zh (BBj.out.ext hX)
 have GBk:=zh (GBj.out.ext hX)
 have SOk:=zh (SOj.out.ext hX)
 have SBk:=zh (SBj.out.ext hX)
 have TO3k:=zh (TO3j.out.ext hX)
 have TB3k:=zh (TB3j.out.ext hX)
 have TO5k:=zh (TO5j.out.ext hX)
 have TB5k:=zh (TB5j.out.ext hX)
 have O7k:=zh (O7j.out.ext hX)
 have B7k:=zh (B7j.out.ext hX)
 have R7k:=zh (R7j.out.ext hX)
 have O9k:=zh (O9j.out.ext hX)
 have B9k:=zh (B9j.out.ext hX)
 have R9k:=zh (R9j.out.ext hX)
 have O11k:=zh (O11j.out.ext hX)
 have B11k:=zh (B11j.out.ext hX)
 clear NNj BBj GBj SOj SBj TO3j TB3j TO5j TB5j O7j B7j R7j O9j B9j R9j O11j B11j
 have EXk:=zh (EXj.out.trans hX)
 clear EXj
 have B12k:=zh (show Blk W12 g12 30 (ssA s12) from h12.out.2)
 have O12k:=zh (show s12.ok W12 from hO.ok)
 clear hX hO h12 hp hpl hv12 ho12 hE hS aA
 obtain ⟨r0,r1,r2,r3,r4⟩:=aE SBk.out
 go_wp2_with fail
 clear r0 r1 r2 r3 r4
 refine (aAN s 1 W12 SOk.out (show (Lit.int .i64 1).wf=true from ae) (by have:=aFE SOk.out HV.out;omega)).mono ?_
 rintro e w13 ⟨s13,rfl,ho,hv,he13⟩
 have HV13:=zh (show s13.V=⟨[⟨aV 0,5⟩,⟨cA,3⟩],[0,0],[],[],1⟩ from by rw [hv,HV.out];exact aOg)
 have NNl:=zh (NNk.out.ext he13)
 have BBl:=zh (BBk.out.ext he13)
 have GBl:=zh (GBk.out.ext he13)
 have SOl:=zh (SOk.out.ext he13)
 have SBl:=zh (SBk.out.ext he13)
 have TO3l:=zh (TO3k.out.ext he13)
 have TB3l:=zh (TB3k.out.ext he13)
 have TO5l:=zh (TO5k.out.ext he13)
 have TB5l:=zh (TB5k.out.ext he13)
 have O7l:=zh (O7k.out.ext he13)
 have B7l:=zh (B7k.out.ext he13)
 have R7l:=zh (R7k.out.ext he13)
 have O9l:=zh (O9k.out.ext he13)
 have B9l:=zh (B9k.out.ext he13)
 have R9l:=zh (R9k.out.ext he13)
 have O11l:=zh (O11k.out.ext he13)
 have B11l:=zh (B11k.out.ext he13)
 have B12l:=zh (B12k.out.ext he13)
 have O12l:=zh (O12k.out.ext he13)
 clear NNk BBk GBk SOk SBk TO3k TB3k TO5k TB5k O7k B7k R7k O9k B9k R9k O11k B11k B12k O12k
 have EXl:=zh (EXk.out.trans he13)
 clear EXk
 have O13l:=zh (show s13.ok w13 from ho.ok)
 clear ho hv he13
 go_wp2_with ((with_reducible refine fE rfl 30 (.tmp 13) (.tmp 56) rfl _ (ssA s13) _ rfl rfl rfl rfl ab ab ?_);intro W13 g13 h13;(try rw [h13.out.2.2]);have NNl1:=zh (NNl.out.ext h13.out.2.1);have BBl1:=zh (BBl.out.ext h13.out.2.1);have GBl1:=zh (GBl.out.ext h13.out.2.1);have SOl1:=zh (SOl.out.ext h13.out.2.1);have SBl1:=zh (SBl.out.ext h13.out.2.1);have TO3l1:=zh (TO3l.out.ext h13.out.2.1);have TB3l1:=zh (TB3l.out.ext h13.out.2.1);have TO5l1:=zh (TO5l.out.ext h13.out.2.1);have TB5l1:=zh (TB5l.out.ext h13.out.2.1);have O7l1:=zh (O7l.out.ext h13.out.2.1);have B7l1:=zh (B7l.out.ext h13.out.2.1);have R7l1:=zh (R7l.out.ext h13.out.2.1);have O9l1:=zh (O9l.out.ext h13.out.2.1);have B9l1:=zh (B9l.out.ext h13.out.2.1);have R9l1:=zh (R9l.out.ext h13.out.2.1);have O11l1:=zh (O11l.out.ext h13.out.2.1);have B11l1:=zh (B11l.out.ext h13.out.2.1);have B12l1:=zh (B12l.out.ext h13.out.2.1);have O12l1:=zh (O12l.out.ext h13.out.2.1);have O13l1:=zh (O13l.out.ext h13.out.2.1);clear NNl BBl GBl SOl SBl TO3l TB3l TO5l TB5l O7l B7l R7l O9l B9l R9l O11l B11l B12l O12l O13l;have EXl1:=zh (EXl.out.trans h13.out.2.1);clear EXl;have B13l1:=zh (show Blk W13 g13 30 (ssA s13) from h13.out.1);clear h13)
 have HC13:=zh (show s13.C=[⟨aV 0,5⟩,⟨cA,3⟩] from congrArg StV.C HV13.out)
 have HG13:=zh (show s13.G=1 from congrArg StV.G HV13.out)
 have NNm:=zh (NNl1.out.ext ((Ext.refl W13).drew'))
 have BBm:=zh (BBl1.out.ext ((Ext.refl W13).drew'))
 have GBm:=zh (GBl1.out.ext ((Ext.refl W13).drew'))
 have SOm:=zh (SOl1.out.ext ((Ext.refl W13).drew'))
 have SBm:=zh (SBl1.out.ext ((Ext.refl W13).drew'))
 have TO3m:=zh (TO3l1.out.ext ((Ext.refl W13).drew'))
 have TB3m:=zh (TB3l1.out.ext ((Ext.refl W13).drew'))
 have TO5m:=zh (TO5l1.out.ext ((Ext.refl W13).drew'))
 have TB5m:=zh (TB5l1.out.ext ((Ext.refl W13).drew'))
 have O7m:=zh (O7l1.out.ext ((Ext.refl W13).drew'))
 have B7m:=zh (B7l1.out.ext ((Ext.refl W13).drew'))
 have R7m:=zh (R7l1.out.ext ((Ext.refl W13).drew'))
 have O9m:=zh (O9l1.out.ext ((Ext.refl W13).drew'))
 have B9m:=zh (B9l1.out.ext ((Ext.refl W13).drew'))
 have R9m:=zh (R9l1.out.ext ((Ext.refl W13).drew'))
 have O11m:=zh (O11l1.out.ext ((Ext.refl W13).drew'))
 have B11m:=zh (B11l1.out.ext ((Ext.refl W13).drew'))
 have B12m:=zh (B12l1.out.ext ((Ext.refl W13).drew'))
 have O12m:=zh (O12l1.out.ext ((Ext.refl W13).drew'))
 have O13m:=zh (O13l1.out.ext ((Ext.refl W13).drew'))
 have B13m:=zh (B13l1.out.ext ((Ext.refl W13).drew'))
 clear NNl1 BBl1 GBl1 SOl1 SBl1 TO3l1 TB3l1 TO5l1 TB5l1 O7l1 B7l1 R7l1 O9l1 B9l1 R9l1 O11l1 B11l1 B12l1 O12l1 O13l1 B13l1
 have EXm:=zh (EXl1.out.trans ((Ext.refl W13).drew'))
 clear EXl1
 refine wp_region_held_drew (S:=fun V=>Ext W13.drew V) ab (Ext.refl _) (fun aA=>?_)
 refine zt 0 aA ?_
 refine zu 1 (v:=.int .i64 100) aA ?_ (hy:=by refine .inl ⟨dp,fun V aP=>?_⟩;obtain ⟨q0,q1,q2,q3⟩:=nF (R7m.out.ext aP);go_simp;try rfl)
 refine zzr [2,3] ?_
 refine zu 4 (v:=.agg (ssA s7)) aA ?_ (hy:=by refine .inl ⟨dp,fun V aP=>?_⟩;obtain ⟨q0,q1,q2,q3,q4⟩:=aE (B7m.out.ext aP);go_simp;try rfl)
 refine zu 5 (v:=.agg (ssA s)) aA ?_ (hy:=by refine .inl ⟨dp,fun V aP=>?_⟩;obtain ⟨q0,q1,q2,q3,q4⟩:=aE (SBm.out.ext aP);go_simp;try rfl)
 refine za 6 (fun K hK=>?_)
 (go_simp;go_at_call 10;refine (aAC s7 s _ (O7m.out.ext aA) (SOm.out.ext aA)).mono ?_;rw [HV7.out,HV.out,decide_eq_true rfl];rintro e w5 ⟨rfl,he5⟩)
 refine hK.out _ _ (aA.trans he5) (fun aA=>?_)
 clear hK K
 try simp only [bB]
 refine zzr [7,8,9] ?_
 refine zu 10 (v:=.int .i64 0) aA ?_ (hy:=dl)
 refine zzr [11,12,13,14] ?_
 refine zu 15 (v:=.int .i64 4) aA ?_ (hy:=dl)
 refine zzr [16,17,18,19] ?_
 refine zu 20 (v:=.slice E9 2 k9) aA ?_ (hy:=dl)
 refine zzr [21,22,23,24] ?_
 refine zu 25 (v:=.agg (ssA s9)) aA ?_ (hy:=by refine .inl ⟨dp,fun V aP=>?_⟩;obtain ⟨q0,q1,q2,q3,q4⟩:=aE (B9m.out.ext aP);go_simp;try rfl)
 refine za 26 (fun K hK=>?_)
 (go_simp;go_at_call 21;refine (dC 1 _).mono ?_;rintro e w5 ⟨rfl,he5⟩)
 refine hK.out _ _ (aA.trans he5) (fun aA=>?_)
 clear hK K
 try simp only [bB]
 refine za 27 (fun K hK=>?_)
 (go_simp;go_at_call 20;refine (kA s9 (aV 1) _ (O9m.out.ext aA) (dP (k:=1) (i:=1) (wfS ⟨aa,aa⟩) (wfS ⟨aa,aa⟩))).mono ?_;rw [HV9.out,aNN];rintro e w5 ⟨rfl,he5⟩)
 refine hK.out _ _ (aA.trans he5) (fun aA=>?_)
 clear hK K
 try simp only [bB]
 refine zzr [28,29,30] ?_
 refine zu 31 (v:=.agg (ssA s11)) aA ?_ (hy:=by refine .inl ⟨dp,fun V aP=>?_⟩;obtain ⟨q0,q1,q2,q3,q4⟩:=aE (B11m.out.ext aP);go_simp;try rfl)
 refine za 32 (fun K hK=>?_)
 (go_simp;go_at_call 21;refine (dC 0 _).mono ?_;rintro e w5 ⟨rfl,he5⟩)
 refine hK.out _ _ (aA.trans he5) (fun aA=>?_)
 clear hK K
 try simp only [bB]
 refine za 33 (fun K hK=>?_)
 (go_simp;go_at_call 20;refine (kA s11 (aV 0) _ (O11m.out.ext aA) (dP (k:=1) (i:=0) (wfS ⟨aa,aa⟩) (wfS ⟨aa,aa⟩))).mono ?_;rw [HC11.out,aNM];rintro e w5 ⟨rfl,he5⟩)
 refine hK.out _ _ (aA.trans he5) (fun aA=>?_)
 clear hK K
 try simp only [bB]
 refine zzr [34,35,36] ?_
 refine zu 37 (v:=.agg (ssA s12)) aA ?_ (hy:=jw)
 refine za 38 (fun K hK=>?_)
 (go_simp;go_at_call 21;refine (dC 0 _).mono ?_;rintro e w5 ⟨rfl,he5⟩)
 refine hK.out _ _ (aA.trans he5) (fun aA=>?_)
 clear hK K
 try simp only [bB]
 refine za 39 (fun K hK=>?_)
 (go_simp;go_at_call 20;refine (kA s12 (aV 0) _ (O12m.out.ext aA) (dP (k:=1) (i:=0) (wfS ⟨aa,aa⟩) (wfS ⟨aa,aa⟩))).mono ?_;rw [HC12.out,aNL];rintro e w5 ⟨rfl,he5⟩)
 refine hK.out _ _ (aA.trans he5) (fun aA=>?_)
 clear hK K
 try simp only [bB]
 refine zzr [40,41,42] ?_
 refine zu 43 (v:=.agg (ssA s12)) aA ?_ (hy:=jw)
 refine za 44 (fun K hK=>?_)
 (go_simp;go_at_call 18;refine (pF _).mono ?_;rintro e w5 ⟨rfl,he5⟩)
 refine hK.out _ _ (aA.trans he5) (fun aA=>?_)
 clear hK K
 try simp only [bB]
 refine za 45 (fun K hK=>?_)
 (go_simp;go_at_call 20;refine (kA s12 cA _ (O12m.out.ext aA) (HPW.out)).mono ?_;rw [HC12.out,aNK];rintro e w5 ⟨rfl,he5⟩)
 refine hK.out _ _ (aA.trans he5) (fun aA=>?_)
 clear hK K
 try simp only [bB]
 refine zzr [46,47,48] ?_
 refine zu 49 (v:=.agg (ssA s13)) aA ?_ (hy:=by refine .inl ⟨dp,fun V aP=>?_⟩;obtain ⟨q0,q1,q2,q3,q4⟩:=aE (B13m.out.ext aP);go_simp;try rfl)
 refine za 50 (fun K hK=>?_)
 (go_simp;go_at_call 18;refine (pF _).mono ?_;rintro e w5 ⟨rfl,he5⟩)
 refine hK.out _ _ (aA.trans he5) (fun aA=>?_)
 clear hK K
 try simp only [bB]
 refine za 51 (fun K hK=>?_)
 (go_simp;go_at_call 20;refine (kA s13 cA _ (O13m.out.ext aA) (HPW.out)).mono ?_;rw [HC13.out,aNJ];rintro e w5 ⟨rfl,he5⟩)
 refine hK.out _ _ (aA.trans he5) (fun aA=>?_)
 clear hK K
 try simp only [bB]
 refine zzr [52,53,54,55] ?_
 refine zu 56 (v:=.int .i64 1) aA ?_ (hy:=by refine .inl ⟨dp,fun V aP=>?_⟩;obtain ⟨q0,q1,q2,q3,q4⟩:=aE (B13m.out.ext aP);rw [HG13.out] at q4;go_simp;try rfl)
 refine zzr [57,58,59,60] ?_
 refine zu 61 (v:=.agg (txA 0 0 A3 1 c3)) aA ?_ (hy:=jx)
 refine za 62 (fun K hK=>?_)
 (go_simp;go_at_call 22;refine (pW 0 0 A3 1 c3 [opW 6 X3 x3 Y3 y3] _ (TO3m.out.ext aA).ops).mono ?_;rw [aNH];rintro e w5 ⟨rfl,he5⟩)
 refine hK.out _ _ (aA.trans he5) (fun aA=>?_)
 clear hK K
 try simp only [bB]
 refine zzr [63,64,65,66] ?_
 refine zu 67 (v:=.agg (txA 0 0 A3 1 c3)) aA ?_ (hy:=jx)
 refine za 68 (fun K hK=>?_)
 (go_simp;go_at_call 23;refine (sM 0 0 A3 1 c3 [opW 6 X3 x3 Y3 y3] _ (TO3m.out.ext aA).ops).mono ?_;rintro e w5 ⟨A99,n99,c99,rfl,ho,hw,he5⟩;have hl:=OwnG.len (e:=92) ho;rw [aNO] at hl;subst hl)
 refine hK.out _ _ (aA.trans he5) (fun aA=>?_)
 clear hK K
 try simp only [bB]
 refine zzr [69,70,71,72] ?_
 refine wpd ?_
 go_wp2_with fail
 go_ret
 exact ⟨rfl,EXm.out.trans aA⟩
end
section
open Go.ChangeShapes Go.WideShapes Go.ChangeAt Go.RowKit Go.Deep
theorem aGx:prog.cellsOf 61=10:=by kernel_rfl
theorem aGw:prog.cellsOf 92=11:=by kernel_rfl
theorem aGv:prog.cellsOf 81=19:=by kernel_rfl
theorem aKV:prog.cellsOf 28=1:=by kernel_rfl
theorem aKU:prog.cellsOf 30=5:=by kernel_rfl
theorem aKT:prog.cellsOf 26=1:=by kernel_rfl
theorem aKS:prog.cellsOf 23=1:=by kernel_rfl
theorem aKR:prog.cellsOf 27=1:=by kernel_rfl
theorem aKQ:prog.cellsOf 22=1:=by kernel_rfl
theorem aDs {α:Type} {l:List α} (h:l.length=5):∃ x0 x1 x2 x3 x4,l=[x0,x1,x2,x3,x4]:=by
 match l,h with
 | [x0,x1,x2,x3,x4],_=>exact ⟨x0,x1,x2,x3,x4,rfl⟩
theorem aIY {α:Type} {l:List α} (h:l.length=3):∃ x0 x1 x2,l=[x0,x1,x2]:=by
 match l,h with
 | [x0,x1,x2],_=>exact ⟨x0,x1,x2,rfl⟩
section
variable {H:Type} {enc:TypeId × Value→H} {w:World} {base fuel:Nat} {held:Bool} {cs:List Value} {x:DataW H × List MemPlace}
theorem nI {α:Type} [RowT α] {t e:TypeId} (ht:prog.underlying t=some (.slice e)) (hsz:prog.cellsOf e=RowT.sz α)
  (hel:∀ {fuel:Nat} {cs:List Value} {x:DataW H × List MemPlace},DataW.trod enc prog w base (fun _=>true) held fuel e cs=some x→∃ y:α,cs=RowT.enc y∧RowT.ok y w)
  (hone:∀ (y:α) (a:Addr) (v:Value),(RowT.enc y)[0]?=some v→w.cell? a=some v→a.spot=none)
  (h:DataW.trod enc prog w base (fun _=>true) held fuel t cs=some x):∃ A n c,∃ L:List α,cs=[.slice A n c]∧SlG w A n c L:=by
 rcases open_slice ht h with ⟨hcs,_⟩ | ⟨x,l,c',m,n,D,Pl,hcs,_,hl,hm,hmm,_,hi⟩
 ·exact ⟨none,0,0,[],hcs,SlG.nil w⟩
 rw [if_pos rfl] at hmm
 subst hmm
 have hcell:∀ j,j < l→∃ y:α,(∀ q v,(RowT.enc y)[q]?=some v→w.cell? ((x.add (j * RowT.sz α)).add q)=some v)∧RowT.ok y w:=by
  intro j hj
  obtain ⟨cs',hc,ht⟩:=hi j aa
  obtain ⟨y,rfl,hyo⟩:=hel ht
  rw [hsz] at hc
  obtain ⟨_,hln,hat⟩:=World.cells?_some hc
  refine ⟨y,fun q v hv=>?_,hyo⟩
  have hq:=(List.getElem?_eq_some_iff.1 hv).1
  have:=hat q (by rw [RowT.len] at hq;omega)
  rw [this,hv]
 rcases Nat.eq_zero_or_pos l with rfl | h0
 ·exact ⟨_,0,_,[],hcs,rfl,Nat.zero_le _,es,.nil,fun R hR=>by cases hR⟩
 have hx:x.spot=none:=by
  obtain ⟨y,hy,_⟩:=hcell 0 h0
  have hp:0 < (RowT.enc y).length:=by rw [RowT.len];exact RowT.pos
  have:=hy 0 _ (List.getElem?_eq_getElem hp)
  have e0:((x.add (0 * RowT.sz α)).add 0)=x:=by simp [Addr.add]
  rw [e0] at this
  exact hone y x _ (List.getElem?_eq_getElem hp) this
 obtain ⟨bl,ol,sp⟩:=x
 simp only at hx
 subst hx
 obtain ⟨L,hL,hr,hok⟩:=aLU (α:=α) (w:=w) (b:=bl) (o:=ol) rfl l (fun j hj=>by
  exact yu)
 exact ⟨_,l,_,L,hcs,hL,hl,es,.inr ⟨bl,ol,rfl,hr⟩,hok⟩
theorem aIO (h:DataW.trod enc prog w base (fun _=>true) held fuel 61 cs=some x):∃ C:CeR,cs=ceL C∧ceW C:=by
 obtain ⟨xs,m,_,_,hl,hxl,hg⟩:=DataW.trod_struct underlying61 h
 rw [aGx] at hl
 obtain ⟨x0,x1,x2,rfl⟩:=aIY (show xs.length=3 from hxl)
 have h0:DataW.trod enc prog w base (fun _=>true) held m 3 ((cs.drop 0).take (prog.cellsOf 3))=some x0:=hg 0 _ rfl
 rw [jA] at h0
 have h1:DataW.trod enc prog w base (fun _=>true) held m 3 ((cs.drop 1).take (prog.cellsOf 3))=some x1:=hg 1 _ rfl
 rw [jA] at h1
 have h2:DataW.trod enc prog w base (fun _=>true) held m 50 ((cs.drop 2).take (prog.cellsOf 50))=some x2:=hg 2 _ rfl
 rw [nM] at h2
 obtain ⟨k,e0,_,w0⟩:=DataW.trod_int underlying3 h0
 obtain ⟨i,e1,_,w1⟩:=DataW.trod_int underlying3 h1
 obtain ⟨l,e2⟩:=lD h2
 rw [bW,eJ] at e2
 refine ⟨⟨k,i,l⟩,?_,⟨w0,w1⟩⟩
 have e:cs=cs.drop 0:=rfl
 rw [e,dZ cs (0) 1,e0,dZ cs (0+1) 1,e1,dZ cs (0+1+1) 8,e2,List.drop_of_length_le aa]
 rfl
theorem aIN (h:DataW.trod enc prog w base (fun _=>true) held fuel 92 cs=some x):∃ C:DeR,cs=deL C∧deW C:=by
 obtain ⟨xs,m,_,_,hl,hxl,hg⟩:=DataW.trod_struct underlying92 h
 rw [aGw] at hl
 obtain ⟨x0,x1,rfl⟩:=aLs (show xs.length=2 from hxl)
 have h0:DataW.trod enc prog w base (fun _=>true) held m 61 ((cs.drop 0).take (prog.cellsOf 61))=some x0:=hg 0 _ rfl
 rw [aGx] at h0
 have h1:DataW.trod enc prog w base (fun _=>true) held m 3 ((cs.drop 10).take (prog.cellsOf 3))=some x1:=hg 1 _ rfl
 rw [jA] at h1
 obtain ⟨c,e0,w0⟩:=aIO h0
 obtain ⟨a,e1,_,w1⟩:=DataW.trod_int underlying3 h1
 refine ⟨⟨c,a⟩,?_,⟨w0,w1⟩⟩
 have e:cs=cs.drop 0:=rfl
 rw [e,dZ cs (0) 10,e0,dZ cs (0+10) 1,e1,List.drop_of_length_le aa]
 rfl
theorem aII (h:DataW.trod enc prog w base (fun _=>true) held fuel 81 cs=some x):∃ C:LkR,cs=lkL C∧lkW C:=by
 obtain ⟨xs,m,_,_,hl,hxl,hg⟩:=DataW.trod_struct underlying81 h
 rw [aGv] at hl
 obtain ⟨x0,x1,x2,x3,x4,rfl⟩:=aDs (show xs.length=5 from hxl)
 have h0:DataW.trod enc prog w base (fun _=>true) held m 50 ((cs.drop 0).take (prog.cellsOf 50))=some x0:=hg 0 _ rfl
 rw [nM] at h0
 have h1:DataW.trod enc prog w base (fun _=>true) held m 50 ((cs.drop 8).take (prog.cellsOf 50))=some x1:=hg 1 _ rfl
 rw [nM] at h1
 have h2:DataW.trod enc prog w base (fun _=>true) held m 3 ((cs.drop 16).take (prog.cellsOf 3))=some x2:=hg 2 _ rfl
 rw [jA] at h2
 have h3:DataW.trod enc prog w base (fun _=>true) held m 3 ((cs.drop 17).take (prog.cellsOf 3))=some x3:=hg 3 _ rfl
 rw [jA] at h3
 have h4:DataW.trod enc prog w base (fun _=>true) held m 3 ((cs.drop 18).take (prog.cellsOf 3))=some x4:=hg 4 _ rfl
 rw [jA] at h4
 obtain ⟨n1,e0⟩:=lD h0
 rw [bW,eJ] at e0
 obtain ⟨n2,e1⟩:=lD h1
 rw [bW,eJ] at e1
 obtain ⟨a,e2,_,w2⟩:=DataW.trod_int underlying3 h2
 obtain ⟨b,e3,_,w3⟩:=DataW.trod_int underlying3 h3
 obtain ⟨c,e4,_,w4⟩:=DataW.trod_int underlying3 h4
 refine ⟨⟨n1,n2,a,b,c⟩,?_,⟨w2,w3,w4⟩⟩
 have e:cs=cs.drop 0:=rfl
 rw [e,dZ cs (0) 8,e0,dZ cs (0+8) 8,e1,dZ cs (0+8+8) 1,e2,dZ cs (0+8+8+1) 1,e3,dZ cs (0+8+8+1+1) 1,e4,List.drop_of_length_le aa]
 rfl
theorem aIG (h:DataW.trod enc prog w base (fun _=>true) held fuel 50 cs=some x):∃ y:UInt64,cs=nmL y∧True:=by
 obtain ⟨y,e⟩:=lD h
 rw [bW] at e
 exact ⟨y,e,trivial⟩
theorem aIK (h:DataW.trod enc prog w base (fun _=>true) held fuel 3 cs=some x):∃ y:Int,cs=inL y∧wfI y:=by
 obtain ⟨y,e,_,w0⟩:=DataW.trod_int underlying3 h
 exact ⟨y,e,w0⟩
theorem aIM (h:DataW.trod enc prog w base (fun _=>true) held fuel 26 cs=some x):∃ A n c,∃ L:List DeR,cs=[.slice A n c]∧SlG w A n c L :=
 nI underlying26 aGw (fun h=>aIN h) (fun y a v hv hc=>by have e:=Option.some.inj hv;subst e;exact iD hc) h
theorem aIH (h:DataW.trod enc prog w base (fun _=>true) held fuel 27 cs=some x):∃ A n c,∃ L:List LkR,cs=[.slice A n c]∧SlG w A n c L :=
 nI underlying27 aGv (fun h=>aII h) (fun y a v hv hc=>by have e:=Option.some.inj hv;subst e;exact iD hc) h
theorem aIF (h:DataW.trod enc prog w base (fun _=>true) held fuel 22 cs=some x):∃ A n c,∃ L:List UInt64,cs=[.slice A n c]∧SlG w A n c L :=
 nI underlying22 nM (fun h=>aIG h) (fun y a v hv hc=>by have hv:(nmL y)[0]?=some v:=hv;rw [nmL,eJ] at hv;have e:=Option.some.inj hv;subst e;exact iD hc) h
theorem aIJ (h:DataW.trod enc prog w base (fun _=>true) held fuel 23 cs=some x):∃ A n c,∃ L:List Int,cs=[.slice A n c]∧SlG w A n c L :=
 nI underlying23 jA (fun h=>aIK h) (fun y a v hv hc=>by have e:=Option.some.inj hv;subst e;exact iD hc) h
theorem aDj (h:DataW.trod enc prog w base (fun _=>true) held fuel 30 cs=some x):∃ s:StR,cs=(ssA s).toList∧s.ok w:=by
 obtain ⟨xs,m,_,_,hl,hxl,hg⟩:=DataW.trod_struct underlying30 h
 rw [aKU] at hl
 obtain ⟨x0,x1,x2,x3,x4,rfl⟩:=aDs (show xs.length=5 from hxl)
 have h0:DataW.trod enc prog w base (fun _=>true) held m 26 ((cs.drop 0).take (prog.cellsOf 26))=some x0:=hg 0 _ rfl
 rw [aKT] at h0
 have h1:DataW.trod enc prog w base (fun _=>true) held m 23 ((cs.drop 1).take (prog.cellsOf 23))=some x1:=hg 1 _ rfl
 rw [aKS] at h1
 have h2:DataW.trod enc prog w base (fun _=>true) held m 27 ((cs.drop 2).take (prog.cellsOf 27))=some x2:=hg 2 _ rfl
 rw [aKR] at h2
 have h3:DataW.trod enc prog w base (fun _=>true) held m 22 ((cs.drop 3).take (prog.cellsOf 22))=some x3:=hg 3 _ rfl
 rw [aKQ] at h3
 have h4:DataW.trod enc prog w base (fun _=>true) held m 28 ((cs.drop 4).take (prog.cellsOf 28))=some x4:=hg 4 _ rfl
 rw [aKV] at h4
 obtain ⟨A1,n1,c1,L1,e0,w0⟩:=aIM h0
 obtain ⟨A2,n2,c2,L2,e1,w1⟩:=aIJ h1
 obtain ⟨A3,n3,c3,L3,e2,w2⟩:=aIH h2
 obtain ⟨A4,n4,c4,L4,e3,w3⟩:=aIF h3
 obtain ⟨g,e4,_,w4⟩:=DataW.trod_int underlying28 h4
 refine ⟨⟨A1,n1,c1,L1,A2,n2,c2,L2,A3,n3,c3,L3,A4,n4,c4,L4,g⟩,?_,⟨w0,w1,w2,w3,w4⟩⟩
 have e:cs=cs.drop 0:=rfl
 rw [e,dZ cs (0) 1,e0,dZ cs (0+1) 1,e1,dZ cs (0+1+1) 1,e2,dZ cs (0+1+1+1) 1,e3,dZ cs (0+1+1+1+1) 1,e4,List.drop_of_length_le aa]
 rfl
end
theorem aEW {H:Type} {enc:TypeId × Value→H} {W:World} {base b0:Nat} {held:Bool} {v:Value} {d:DataW H} {q:List MemPlace} (hv:Value.okWide prog W .any b0 30 v)
  (h:DataW.Trod enc prog W base (fun _=>true) held 30 v d q):∃ s:StR,v=.agg (ssA s)∧s.ok W:=by
 obtain ⟨fuel,hf⟩:=h
 simp only [Value.okWide,underlying30] at hv
 obtain ⟨cs,rfl,_,_⟩:=hv
 obtain ⟨s,e,h1⟩:=aDj hf
 refine ⟨s,?_,h1⟩
 congr 1
 apply Array.toList_inj.1
 exact e
end
section
open Go.RowKit
attribute [local go_sem ↓] Go.wp_at_zero Go.wp_at_succ
theorem vK (x:StpR) (S:Option Addr) (m d:Nat) (L:List OpR) (sig:List UInt8) (VN PN:List UInt64) (BL:List Int) (w:World) (hV:SlG w x.B1 x.m1 x.d1 VN) (hN:SlG w x.B2 x.m2 x.d2 PN) (hB:SlZ w x.B3 x.m3 x.d3 BL) (hs:x.s.ok w) (hT:(⟨x.ac,x.sq,x.A,x.n,x.c,S,m,d,L,sig⟩:TxR).ok w) :
  Calls prog 3 #[.agg (genC x.gN x.gZ x.B1 x.m1 x.d1 x.B2 x.m2 x.d2 x.B3 x.m3 x.d3),.agg (ssA x.s),.agg (stA x.ac x.sq x.A x.n x.c S m d),.int .i64 x.ht] w fun e w'=>e=.returned (.bool true)∧Ext w w':=by
 obtain ⟨W,hW,H0⟩:=LwS.new (x:=x) (S:=S) (m:=m) (d:=d) (L:=L) (sig:=sig) hV hN hB hs hT
 clear hV hN hB hs hT
 obtain ⟨V5,hV5⟩:=gx (nX (dG x.m2 x.m1 x.ht cL (evU VN) x.ac) (eP x.gN x.gZ x.m1 x.m2 x.m3 BL) x.m2 (vSg (aS PN x.ac.toNat) ⟨x.ac,x.sq,x.A,x.n,x.c,S,m,d,L,sig⟩) x.s.V x.ac x.sq L)
 obtain ⟨cd,hcd⟩:=gx (iX (dG x.m2 x.m1 x.ht cL (evU VN) x.ac) (eP x.gN x.gZ x.m1 x.m2 x.m3 BL) x.m2 (vSg (aS PN x.ac.toNat) ⟨x.ac,x.sq,x.A,x.n,x.c,S,m,d,L,sig⟩) x.s.V x.ac x.sq L)
 have HV5:=zh hV5
 have HCD:=zh hcd
 have HEX:=zh (fun (V:World) (H:LwS w V x S m d L sig VN PN BL) (hn:x.s.n1≤200000∧x.s.n2≤200000∧x.s.n3≤200000∧x.s.n4≤200000) (hp:∀ R ∈ L,R.n1≤5000)=>aHy x S m d L sig VN PN BL V H.hs H.hT H.hV H.hN H.hB hn hp)
 rw [hV5,hcd] at HEX
 clear hV5 hcd
 go_enter func3,ntmps3
 have hu1:=H0.out.hV.le
 have hu2:=H0.out.hV.cap
 have hu3:=H0.out.hN.le
 have hu4:=H0.out.hN.cap
 have hu5:=H0.out.hB.le
 have hu6:=H0.out.hB.cap
 obtain ⟨g0,g1,g2,g3,g4,p0,p1,p2,p3,p4,t0,t1,t2,t3⟩:=H0.out.f
 go_wp2_with fail
 refine (yU x.gN x.gZ x.B1 x.m1 x.d1 x.B2 x.m2 x.d2 x.B3 x.m3 x.d3 _ ⟨hu1,hu2⟩ ⟨hu3,hu4⟩ ⟨hu5,hu6⟩).mono ?_
 rintro e w1 ⟨⟨b1,rfl,hb1⟩,he1⟩
 have H1:=zh (H0.out.ext he1)
 clear he1 H0 g0 g1 g2 g3 g4 p0 p1 p2 p3 p4 t0 t1 t2 t3
 cases b1
 rotate_left
 ·skip
  obtain ⟨g0,g1,g2,g3,g4,p0,p1,p2,p3,p4,t0,t1,t2,t3⟩:=H1.out.f
  go_wp2_with fail
  refine zcl (kG _) fun w9 he9=>?_
  have HX9:=zh (H1.out.low.trans he9)
  exact Bm
 clear hb1
 obtain ⟨g0,g1,g2,g3,g4,p0,p1,p2,p3,p4,t0,t1,t2,t3⟩:=H1.out.f
 go_wp2_with fail
 refine (aDu x.s _ H1.out.hs).mono ?_
 rintro e w2 ⟨⟨b2,rfl,hb2⟩,he2⟩
 have H2:=zh (H1.out.ext he2)
 clear he2 H1 g0 g1 g2 g3 g4 p0 p1 p2 p3 p4 t0 t1 t2 t3
 cases b2
 rotate_left
 ·skip
  obtain ⟨g0,g1,g2,g3,g4,p0,p1,p2,p3,p4,t0,t1,t2,t3⟩:=H2.out.f
  go_wp2_with fail
  refine zcl (kG _) fun w9 he9=>?_
  have HX9:=zh (H2.out.low.trans he9)
  exact Bm
 have HNN:=zh (hb2 rfl)
 clear hb2
 obtain ⟨g0,g1,g2,g3,g4,p0,p1,p2,p3,p4,t0,t1,t2,t3⟩:=H2.out.f
 go_wp2_with fail
 refine (aIX x.ac x.sq x.A x.n x.c L _ H2.out.hT.ops).mono ?_
 rintro e w3 ⟨⟨b3,rfl,hb3⟩,he3⟩
 have H3:=zh (H2.out.ext he3)
 clear he3 H2 g0 g1 g2 g3 g4 p0 p1 p2 p3 p4 t0 t1 t2 t3
 cases b3
 rotate_left
 ·skip
  exact xc
 have HPN:=zh (hb3 rfl)
 clear hb3
 have HN:=zh (show x.s.n1≤200000∧x.s.n2≤200000∧x.s.n3≤200000∧x.s.n4≤200000 from el)
 have hsl:=H3.out.hT.sig.le
 have hsc:=H3.out.hT.sig.cap
 by_cases hm:m > 5000
 ·have km : (m : Int) > 5000 := aa
  clear hm
  exact xc
 have km:¬ (m:Int) > 5000:=aa
 clear hm
 obtain ⟨g0,g1,g2,g3,g4,p0,p1,p2,p3,p4,t0,t1,t2,t3⟩:=H3.out.f
 go_wp2_with fail
 refine (HEX.out _ H3.out HN.out HPN.out).mono ?_
 rintro e w4 ⟨s5,A5,n5,c5,rfl,ho,hv,hse,he⟩
 have HO5:=zh ho.ok
 have HSV5:=zh hv
 have HSE5:=zh hse
 have H4:=zh (H3.out.ext he)
 clear he H3 ho hv hse g0 g1 g2 g3 g4 p0 p1 p2 p3 p4 t0 t1 t2 t3
 obtain ⟨g5,hg⟩:=gx (w4.heap.size)
 obtain ⟨U,hU,HP,HQ,HU⟩:=aFN w4 #[.slice none 0 0,.slice none 0 0,.slice none 0 0,.slice none 0 0,.int .i64 0] #[.int .i64 0,.slice none 0 0,.int .i64 0,.int .i64 0] 30 43
 have HGG:=zh hg
 rw [hg] at HP HQ
 clear hg
 have HP:=zh (show Blk U g5 30 (ssA ss0) from HP.out)
 have HQ:=zh (show Blk U (g5+1) 43 (rcA rc0) from HQ.out)
 obtain ⟨ro5,hro⟩:=gx (rcO cd x.ac x.sq L)
 obtain ⟨rg5,hrg⟩:=gx (rcG cd x.s.V V5)
 have HRO5:=zh hro
 have HRG5:=zh hrg
 rw [hro,hrg]
 clear hro hrg
 go_upto_region 4 with (first | ((try rw [hU]);(try rw [HGG.out]);(with_reducible refine eA rfl 30 (.tmp 9) (.tmp 37) rfl g5 (ssA ss0) (ssA s5) _ rfl rfl rfl rfl ab ab HP.out ?_);intro Ua ha;have HQa:=zh (show Blk Ua (g5+1) 43 (rcA rc0) from pe);have HBa:=zh ha.out.1;have HEa:=zh (show Ext w4 Ua from j7);clear ha) | ((with_reducible refine eA rfl 43 (.tmp 10) (.tmp 38) rfl (g5+1) (rcA rc0) (rcA ⟨cd,A5,n5,c5,ro5,rg5⟩) _ rfl rfl rfl rfl ab ab HQa.out ?_);intro V5b hb))
 have he:Ext w4 V5b:=j6
 have HB5:=zh (show Blk V5b g5 30 (ssA s5) from oy)
 have HR5:=zh hb.out.1
 have HOk5:=zh (HO5.out.ext he)
 have HSe5:=zh (HSE5.out.ext he)
 have H5:=zh (H4.out.ext he)
 clear he H4 hb hU HP HQ HU HBa HQa HEa HGG HO5 HSE5
 have HER:=zh (aBx x S m d L sig VN PN BL (dG x.m2 x.m1 x.ht cL (evU VN) x.ac) (eP x.gN x.gZ x.m1 x.m2 x.m3 BL) (vSg (aS PN x.ac.toNat) ⟨x.ac,x.sq,x.A,x.n,x.c,S,m,d,L,sig⟩) V5b H5.out.hs H5.out.hT H5.out.hV H5.out.hN H5.out.hB HN.out HPN.out rfl rfl rfl)
 unfold RxP at HER
 rw [HV5.out,HCD.out] at HER
 obtain ⟨g0,g1,g2,g3,g4,p0,p1,p2,p3,p4,t0,t1,t2,t3⟩:=H5.out.f
 go_wp2_with fail
 refine (HER.out).mono ?_
 rintro e w6 ⟨s6,A6,n6,c6,rfl,ho,hv,hse,he⟩
 have HO6:=zh ho.ok
 have HSV6:=zh hv
 have HSE6:=zh hse
 have HB5:=zh (HB5.out.ext he)
 have HR5:=zh (HR5.out.ext he)
 have HOk5:=zh (HOk5.out.ext he)
 have HSe5:=zh (HSe5.out.ext he)
 have H6:=zh (H5.out.ext he)
 clear he H5 ho hv hse g0 g1 g2 g3 g4 p0 p1 p2 p3 p4 t0 t1 t2 t3
 obtain ⟨g6,hg⟩:=gx (w6.heap.size)
 obtain ⟨U,hU,HP,HQ,HU⟩:=aFN w6 #[.slice none 0 0,.slice none 0 0,.slice none 0 0,.slice none 0 0,.int .i64 0] #[.int .i64 0,.slice none 0 0,.int .i64 0,.int .i64 0] 30 43
 have HGG:=zh hg
 rw [hg] at HP HQ
 clear hg
 have HP:=zh (show Blk U g6 30 (ssA ss0) from HP.out)
 have HQ:=zh (show Blk U (g6+1) 43 (rcA rc0) from HQ.out)
 obtain ⟨ro6,hro⟩:=gx (rcO cd x.ac x.sq L)
 obtain ⟨rg6,hrg⟩:=gx (rcG cd x.s.V V5)
 have HRO6:=zh hro
 have HRG6:=zh hrg
 rw [hro,hrg]
 clear hro hrg
 go_upto_region 5 with (first | ((try rw [hU]);(try rw [HGG.out]);(with_reducible refine eA rfl 30 (.tmp 11) (.tmp 45) rfl g6 (ssA ss0) (ssA s6) _ rfl rfl rfl rfl ab ab HP.out ?_);intro Ua ha;have HQa:=zh (show Blk Ua (g6+1) 43 (rcA rc0) from pe);have HBa:=zh ha.out.1;have HEa:=zh (show Ext w6 Ua from j7);clear ha) | ((with_reducible refine eA rfl 43 (.tmp 12) (.tmp 46) rfl (g6+1) (rcA rc0) (rcA ⟨cd,A6,n6,c6,ro6,rg6⟩) _ rfl rfl rfl rfl ab ab HQa.out ?_);intro V6b hb))
 have he:Ext w6 V6b:=j6
 have HB6:=zh (show Blk V6b g6 30 (ssA s6) from oy)
 have HR6:=zh hb.out.1
 have HOk6:=zh (HO6.out.ext he)
 have HSe6:=zh (HSE6.out.ext he)
 have HB5:=zh (HB5.out.ext he)
 have HR5:=zh (HR5.out.ext he)
 have HOk5:=zh (HOk5.out.ext he)
 have HSe5:=zh (HSe5.out.ext he)
 have H7:=zh (H6.out.ext he)
 clear he H6 hb hU HP HQ HU HBa HQa HEa HGG HO6 HSE6
 obtain rfl:ro6=ro5:=HRO6.out.symm.trans HRO5.out
 obtain rfl:rg6=rg5:=HRG6.out.symm.trans HRG5.out
 obtain ⟨u0,u1,u2,u3,u4⟩:=aE HB5.out
 obtain ⟨v0,v1,v2,v3,v4⟩:=aE HB6.out
 go_wp2_with fail
 refine (aAC s5 s6 _ HOk5.out HOk6.out).mono ?_
 rw [HSV5.out,HSV6.out,decide_eq_true rfl]
 rintro e w7 ⟨rfl,he⟩
 have HR5:=zh (HR5.out.ext he)
 have HR6:=zh (HR6.out.ext he)
 have HSe5:=zh (HSe5.out.ext he)
 have HSe6:=zh (HSe6.out.ext he)
 have HX7:=zh (H7.out.low.trans he)
 clear he u0 u1 u2 u3 u4 v0 v1 v2 v3 v4
 have a0:=HR5.out.cell 0
 have a1:=HR5.out.cell 1
 have a2:=HR5.out.cell 2
 have a3:=HR5.out.cell 3
 have b0:=HR6.out.cell 0
 have b1:=HR6.out.cell 1
 have b2:=HR6.out.cell 2
 have b3:=HR6.out.cell 3
 go_wp2_with fail
 refine (aDd (⟨cd,A5,n5,c5,ro6,rg6⟩:RcR) (⟨cd,A6,n6,c6,ro6,rg6⟩:RcR) _ _ _ HSe5.out HSe6.out).mono ?_
 rw [show srV (⟨cd,A5,n5,c5,ro6,rg6⟩:RcR) (⟨cd,A6,n6,c6,ro6,rg6⟩:RcR) (rcE cd x.ac x.sq L) (rcE cd x.ac x.sq L)=true from by simp [srV]]
 rintro e w8 ⟨rfl,he⟩
 have HX8:=zh (HX7.out.trans he)
 clear he a0 a1 a2 a3 b0 b1 b2 b3
 go_wp2_with fail
 refine zcl (kG _) fun w9 he=>?_
 have HX9:=zh (HX8.out.trans he)
 clear he
 go_wp2_with fail
 go_ret
 exact ⟨rfl,HX9.out⟩
end
end Go.Proofs.YtgmnmjeccfnmbaaGreat
