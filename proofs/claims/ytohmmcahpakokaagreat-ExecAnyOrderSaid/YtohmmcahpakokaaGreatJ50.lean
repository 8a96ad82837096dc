/- The law's own check: the walk (printed by gen_la3.py). -/
import Derived.Test.YtohmmcahpakokaaGreatJ45
import Derived.Test.YtohmmcahpakokaaGreatJ48
set_option maxRecDepth 100000
set_option maxHeartbeats 8000000
set_option linter.unusedVariables false
set_option linter.unusedSimpArgs false
namespace Go.Proofs.YtohmmcahpakokaaGreat
section
open Go.RowKit
attribute [local go_sem ↓] Go.wp_at_zero Go.wp_at_succ
theorem vC {w:World} {g:Nat} {t:TypeId} {N Z:Int} {B1:Option Addr} {m1 d1:Nat} {B2:Option Addr} {m2 d2:Nat} {B3:Option Addr} {m3 d3:Nat} (h:Blk w g t (dT N Z B1 m1 d1 B2 m2 d2 B3 m3 d3)):w.cell? ⟨g,0,none⟩=some (.int .i64 N)∧w.cell? ⟨g,1,none⟩=some (.int .i64 Z)∧w.cell? ⟨g,2,none⟩=some (.slice B1 m1 d1)∧w.cell? ⟨g,3,none⟩=some (.slice B2 m2 d2)∧w.cell? ⟨g,4,none⟩=some (.slice B3 m3 d3):=⟨h.cell 0,h.cell 1,h.cell 2,h.cell 3,h.cell 4⟩
theorem lK {w:World} {g:Nat} {t:TypeId} {x:RcR} (h:Blk w g t (rcA x)):w.cell? ⟨g,0,none⟩=some (.int .i64 x.cd)∧w.cell? ⟨g,1,none⟩=some (.slice x.A x.n x.c)∧w.cell? ⟨g,2,none⟩=some (.int .i64 x.o)∧w.cell? ⟨g,3,none⟩=some (.int .i64 x.g):=⟨h.cell 0,h.cell 1,h.cell 2,h.cell 3⟩
section
variable {o:Oper} {a:Act} {w:World} {K:Act→World→Prop} {Q:Exit→Act→World→Prop}
theorem rS (w:World):(Instr.alloc 44 true (.tuple #[])).run Tryz.prog w=.ok (.pointer (some ⟨w.heap.size,0,none⟩)) (w.alloc (.cells (ssA ss0) 44)):=by kernel_rfl
theorem aCD (ho:o.op=.alloc 44)
  (h:∀ (g:Nat) (W2:World),Hid (Blk W2 g 44 (ssA ss0)∧Ext w W2∧w.heap.size≤g)→K (a.put o.dst (.pointer (some ⟨g,0,none⟩))) W2):o.wp Tryz.prog a w K Q:=by
 have this:=rS w
 have h2:=h _ _ (zh ⟨Blk.new w 44 (ssA ss0),(Ext.refl w).alloc' _,Nat.le_refl _⟩)
 clear h
 generalize w.alloc (.cells (ssA ss0) 44)=W2 at *
 unfold Oper.wp execOp
 simp only [ho,Sem.run_bind,Sem.run_pure,this,Result.andThen_ok,Oper.upon]
 exact h2
end
theorem aJw {w:World} {s:StR} {N:Nat} (h:s.ok w) (hb:s.V.C.length≤N∧s.V.Q.length≤N∧s.V.K.length≤N∧s.V.P.length≤N):s.n1≤N∧s.n2≤N∧s.n3≤N∧s.n4≤N:=by
 have l1:=h.s1.len
 have l2:=h.s2.len
 have l3:=h.s3.len
 have l4:=h.s4.len
 obtain ⟨b1,b2,b3,b4⟩:=hb
 have e1:s.V.C=s.C:=rfl
 have e2:s.V.Q=s.Q:=rfl
 have e3:s.V.K=s.K:=rfl
 have e4:s.V.P=s.P:=rfl
 rw [e1] at b1;rw [e2] at b2;rw [e3] at b3;rw [e4] at b4
 omega
theorem aJF (A1:Option Addr) (c1:Nat) (A2:Option Addr) (c2:Nat):(gQ S22 0 0 [opW 6 A1 c1 A2 c2]).Q.length=2:=by kernel_rfl
theorem aJH (A1:Option Addr) (c1:Nat) (A2:Option Addr) (c2:Nat):(gQ S22 0 0 [opW 6 A1 c1 A2 c2]).K.length=0:=by kernel_rfl
theorem aJG (A1:Option Addr) (c1:Nat) (A2:Option Addr) (c2:Nat):(gQ S22 0 0 [opW 6 A1 c1 A2 c2]).P.length=1:=by kernel_rfl
theorem aKG {w:World} {s:StR} {X:Option Addr} {x:Nat} {Y:Option Addr} {y:Nat} (h:s.ok w) (hv:s.V=gQ S22 0 0 [opW 6 X x Y y]):s.n1≤3∧s.n2≤3∧s.n3≤3∧s.n4≤3:=by
 refine aJw h ?_
 rw [hv,aJI,aJF,aJH,aJG]
 simp
theorem aGE {w:World} {s t:StR} {X:Option Addr} {x:Nat} {Y:Option Addr} {y:Nat} (h:t.ok w) (hv:t.V=⟨dK s.C bU 4,s.Q,s.K,s.P,s.G⟩) (hc:s.C=[⟨aZ 0,-1⟩,⟨aZ 1,6⟩,⟨cK 0,3⟩]) (hs:s.V=gQ S22 0 0 [opW 6 X x Y y]):t.n1≤200000∧t.n2≤200000∧t.n3≤200000∧t.n4≤200000:=by
 have h2:=aJF X x Y y
 have h3:=aJH X x Y y
 have h4:=aJG X x Y y
 rw [← hs] at h2 h3 h4
 have e2:s.Q.length=2:=h2
 have e3:s.K.length=0:=h3
 have e4:s.P.length=1:=h4
 refine aJw h ?_
 rw [hv,hc,aLD]
 simp only [List.length_cons,List.length_nil]
 omega
theorem aLp {s t u:StR} (hv:t.V=⟨dK s.C bU 4,s.Q,s.K,s.P,s.G⟩) (hu:u.V=aIJ t.V) (hc:s.C=[⟨aZ 0,-1⟩,⟨aZ 1,6⟩,⟨cK 0,3⟩]):u.C=[⟨aZ 1,6⟩,⟨cK 0,3⟩,⟨bU,3⟩]:=by
 have h1:u.C=(aIJ t.V).C:=congrArg StV.C hu
 rw [h1,hv,hc,aLD]
 exact aMg
theorem dI (w:World):Calls Tryz.prog 12 #[] w fun e w'=>e=.returned (.bool true)∧Ext w w':=by
 go_enter Tryz.func12,Tryz.ntmps12
 simp only [gA,iR]
 go_wp2_with fail
 refine (xA w).mono ?_
 rintro e w1 ⟨B1,B2,B3,rfl,hN,hB,-,he1⟩
 have NN1:=zh hN
 have BB1:=zh hB
 have EX1:=zh he1
 clear hN hB he1
 go_wp2_with ((with_reducible refine fW rfl 40 (.tmp 1) (.tmp 14) rfl _ (dT 1 3 B1 1 1 B2 2 2 B3 2 2) _ rfl rfl rfl rfl (by kernel_rfl) (by kernel_rfl) ?_);intro W1 g1 h1;(try rw [h1.out.2.2]);have NNa:=zh (NN1.out.ext h1.out.2.1);have BBa:=zh (BB1.out.ext h1.out.2.1);clear NN1 BB1;have EXa:=zh (EX1.out.trans h1.out.2.1);clear EX1;have GBa:=zh (show Blk W1 g1 40 (dT 1 3 B1 1 1 B2 2 2 B3 2 2) from h1.out.1);clear h1;obtain ⟨q0,q1,q2,q3,q4⟩:=vC GBa.out)
 clear q0 q1 q2 q3 q4
 refine (aFf 1 3 B1 1 1 B2 2 2 B3 2 2 [5,0] W1 BBa.out (show (Lit.int .i64 3).wf=true from by decide) (by decide) (by decide) (by decide)).mono ?_
 rintro e w2 ⟨s,rfl,ho,hv,he2⟩
 have HV:=zh (show s.V=S22 from hv)
 have NNb:=zh (NNa.out.ext he2)
 have BBb:=zh (BBa.out.ext he2)
 have GBb:=zh (GBa.out.ext he2)
 clear NNa BBa GBa
 have EXb:=zh (EXa.out.trans he2)
 clear EXa
 have SOb:=zh (show s.ok w2 from ho.ok)
 clear ho hv he2
 go_wp2_with ((with_reducible refine fW rfl 44 (.tmp 2) (.tmp 16) rfl _ (ssA s) _ rfl rfl rfl rfl (by kernel_rfl) (by kernel_rfl) ?_);intro W2 g2 h2;(try rw [h2.out.2.2]);have NNc:=zh (NNb.out.ext h2.out.2.1);have BBc:=zh (BBb.out.ext h2.out.2.1);have GBc:=zh (GBb.out.ext h2.out.2.1);have SOc:=zh (SOb.out.ext h2.out.2.1);clear NNb BBb GBb SOb;have EXc:=zh (EXb.out.trans h2.out.2.1);clear EXb;have SBc:=zh (show Blk W2 g2 44 (ssA s) from h2.out.1);clear h2)
 refine (tN 6 (by decide) W2).mono ?_
 rintro e w3 ⟨A3,c3,S3,m3,d3,X3,x3,Y3,y3,sg3,rfl,hT,hg,he3⟩
 have VG3:=zh hg
 have NNd:=zh (NNc.out.ext he3)
 have BBd:=zh (BBc.out.ext he3)
 have GBd:=zh (GBc.out.ext he3)
 have SOd:=zh (SOc.out.ext he3)
 have SBd:=zh (SBc.out.ext he3)
 clear NNc BBc GBc SOc SBc
 have EXd:=zh (EXc.out.trans he3)
 clear EXc
 have TO3d:=zh (show (tS 6 A3 c3 S3 m3 d3 X3 x3 Y3 y3 sg3).ok w3 from hT)
 clear hT hg he3
 go_wp2_with ((with_reducible refine fW rfl 47 (.tmp 3) (.tmp 23) rfl _ (stA 0 0 A3 1 c3 S3 m3 d3) _ rfl rfl rfl rfl (by kernel_rfl) (by kernel_rfl) ?_);intro W3 g3 h3;(try rw [h3.out.2.2]);have NNd1:=zh (NNd.out.ext h3.out.2.1);have BBd1:=zh (BBd.out.ext h3.out.2.1);have GBd1:=zh (GBd.out.ext h3.out.2.1);have SOd1:=zh (SOd.out.ext h3.out.2.1);have SBd1:=zh (SBd.out.ext h3.out.2.1);have TO3d1:=zh (TO3d.out.ext h3.out.2.1);clear NNd BBd GBd SOd SBd TO3d;have EXd1:=zh (EXd.out.trans h3.out.2.1);clear EXd;have TB3d1:=zh (show Blk W3 g3 47 (stA 0 0 A3 1 c3 S3 m3 d3) from h3.out.1);clear h3)
 refine (tN 4 (by decide) W3).mono ?_
 rintro e w5 ⟨A5,c5,S5,m5,d5,X5,x5,Y5,y5,sg5,rfl,hT,hg,he5⟩
 have VG5:=zh hg
 have NNf:=zh (NNd1.out.ext he5)
 have BBf:=zh (BBd1.out.ext he5)
 have GBf:=zh (GBd1.out.ext he5)
 have SOf:=zh (SOd1.out.ext he5)
 have SBf:=zh (SBd1.out.ext he5)
 have TO3f:=zh (TO3d1.out.ext he5)
 have TB3f:=zh (TB3d1.out.ext he5)
 clear NNd1 BBd1 GBd1 SOd1 SBd1 TO3d1 TB3d1
 have EXf:=zh (EXd1.out.trans he5)
 clear EXd1
 have TO5f:=zh (show (tS 4 A5 c5 S5 m5 d5 X5 x5 Y5 y5 sg5).ok w5 from hT)
 clear hT hg he5
 go_wp2_with ((with_reducible refine fW rfl 47 (.tmp 5) (.tmp 31) rfl _ (stA 0 0 A5 1 c5 S5 m5 d5) _ rfl rfl rfl rfl (by kernel_rfl) (by kernel_rfl) ?_);intro W5 g5 h5;(try rw [h5.out.2.2]);have NNf1:=zh (NNf.out.ext h5.out.2.1);have BBf1:=zh (BBf.out.ext h5.out.2.1);have GBf1:=zh (GBf.out.ext h5.out.2.1);have SOf1:=zh (SOf.out.ext h5.out.2.1);have SBf1:=zh (SBf.out.ext h5.out.2.1);have TO3f1:=zh (TO3f.out.ext h5.out.2.1);have TB3f1:=zh (TB3f.out.ext h5.out.2.1);have TO5f1:=zh (TO5f.out.ext h5.out.2.1);clear NNf BBf GBf SOf SBf TO3f TB3f TO5f;have EXf1:=zh (EXf.out.trans h5.out.2.1);clear EXf;have TB5f1:=zh (show Blk W5 g5 47 (stA 0 0 A5 1 c5 S5 m5 d5) from h5.out.1);clear h5;obtain ⟨q0,q1,q2,q3,q4⟩:=vC GBf1.out;obtain ⟨r0,r1,r2,r3,r4⟩:=aE SBf1.out;obtain ⟨t0,t1,t2,t3⟩:=kR TB3f1.out)
 clear q0 q1 q2 q3 q4 r0 r1 r2 r3 r4 t0 t1 t2 t3
 refine (vL 6 (by decide) s HV.out B1 B2 B3 A3 c3 S3 m3 d3 X3 x3 Y3 y3 sg3 W5 SOf1.out NNf1.out BBf1.out TO3f1.out VG3.out).mono ?_
 rintro e w7 ⟨s7,E7,n7,k7,l7,rfl,ho,hv6,hv4,he7⟩
 have HV7:=zh (hv6 rfl)
 have HZ7:(if (6:Int)=6 then (100:Int) else 0)=100∧(if (6:Int)=6 then (0:Int) else 4)=0:=⟨rfl,rfl⟩
 rw [HZ7.1,HZ7.2]
 clear HZ7 hv6 hv4
 have NNg:=zh (NNf1.out.ext he7)
 have BBg:=zh (BBf1.out.ext he7)
 have GBg:=zh (GBf1.out.ext he7)
 have SOg:=zh (SOf1.out.ext he7)
 have SBg:=zh (SBf1.out.ext he7)
 have TO3g:=zh (TO3f1.out.ext he7)
 have TB3g:=zh (TB3f1.out.ext he7)
 have TO5g:=zh (TO5f1.out.ext he7)
 have TB5g:=zh (TB5f1.out.ext he7)
 clear NNf1 BBf1 GBf1 SOf1 SBf1 TO3f1 TB3f1 TO5f1 TB5f1
 have EXg:=zh (EXf1.out.trans he7)
 clear EXf1
 have O7g:=zh (show s7.ok w7 from ho)
 clear ho he7
 obtain ⟨U7,hU7⟩:∃ U,(w7.alloc (.cells #[.slice none 0 0,.slice none 0 0,.slice none 0 0,.slice none 0 0,.int .i64 0] 44)).alloc (.cells #[.int .i64 0,.slice none 0 0,.int .i64 0,.int .i64 0] 52)=U:=⟨_,rfl⟩
 obtain ⟨g7,hg7⟩:∃ g,w7.heap.size=g:=⟨_,rfl⟩
 have HP7:=zh (show Blk U7 g7 44 (ssA ss0) from by rw [← hU7,← hg7];exact (Blk.new w7 44 (ssA ss0)).alloc _)
 have HQ7:=zh (show Blk U7 (g7+1) 52 (rcA rc0) from by rw [← hU7,← hg7];exact Blk.newAt _ _ _ _ (by simp))
 have HU7:=zh (show Ext w7 U7 from by rw [← hU7];exact ((Ext.refl _).alloc' _).alloc' _)
 have HGG7:=zh hg7
 clear hg7
 go_wp2_with (first | ((try rw [hU7]);(try rw [HGG7.out]);(with_reducible refine iG rfl 44 (.tmp 7) (.tmp 38) rfl g7 (ssA ss0) (ssA s7) _ rfl rfl rfl rfl (by kernel_rfl) (by kernel_rfl) HP7.out ?_);intro U7a h7a;have HQ7a:=zh (show Blk U7a (g7+1) 52 (rcA rc0) from by rw [← h7a.out.2];exact HQ7.out.setCells_far (by omega) _ _);have HB7a:=zh h7a.out.1;have HE7a:=zh (show Ext w7 U7a from by rw [← h7a.out.2];exact Below.setCells' HU7.out (by rw [HGG7.out];exact Nat.le_refl _) _ _);clear h7a) | ((with_reducible refine iG rfl 52 (.tmp 8) (.tmp 39) rfl (g7+1) (rcA rc0) (rcA ⟨100,E7,n7,k7,0,l7⟩) _ rfl rfl rfl rfl (by kernel_rfl) (by kernel_rfl) HQ7a.out ?_);intro V7 h7b;have h7:Ext w7 V7:=(by rw [← h7b.out.2];exact Below.setCells' HE7a.out (by rw [HGG7.out];exact Nat.le_succ _) _ _);have NNg1:=zh (NNg.out.ext h7);have BBg1:=zh (BBg.out.ext h7);have GBg1:=zh (GBg.out.ext h7);have SOg1:=zh (SOg.out.ext h7);have SBg1:=zh (SBg.out.ext h7);have TO3g1:=zh (TO3g.out.ext h7);have TB3g1:=zh (TB3g.out.ext h7);have TO5g1:=zh (TO5g.out.ext h7);have TB5g1:=zh (TB5g.out.ext h7);have O7g1:=zh (O7g.out.ext h7);clear NNg BBg GBg SOg SBg TO3g TB3g TO5g TB5g O7g;have EXg1:=zh (EXg.out.trans h7);clear EXg;have B7g1:=zh (show Blk V7 g7 44 (ssA s7) from by (rw [← h7b.out.2];exact HB7a.out.setCells_far (by omega) _ _));have R7g1:=zh (show Blk V7 (g7+1) 52 (rcA ⟨100,E7,n7,k7,0,l7⟩) from h7b.out.1);clear h7 h7b HP7 HQ7 HU7 hU7 HQ7a HB7a HE7a;obtain ⟨q0,q1,q2,q3,q4⟩:=vC GBg1.out;obtain ⟨r0,r1,r2,r3,r4⟩:=aE SBg1.out;obtain ⟨t0,t1,t2,t3⟩:=kR TB5g1.out))
 clear q0 q1 q2 q3 q4 r0 r1 r2 r3 r4 t0 t1 t2 t3
 refine (vL 4 (by decide) s HV.out B1 B2 B3 A5 c5 S5 m5 d5 X5 x5 Y5 y5 sg5 V7 SOg1.out NNg1.out BBg1.out TO5g1.out VG5.out).mono ?_
 rintro e w9 ⟨s9,E9,n9,k9,l9,rfl,ho,hv6,hv4,he9⟩
 obtain ⟨hv,rfl⟩:=hv4 rfl
 have HV9:=zh hv
 clear hv
 have HZ9:(if (4:Int)=6 then (100:Int) else 0)=0∧(if (4:Int)=6 then (0:Int) else 4)=4:=⟨rfl,rfl⟩
 rw [HZ9.1,HZ9.2]
 clear HZ9 hv6
 have NNh:=zh (NNg1.out.ext he9)
 have BBh:=zh (BBg1.out.ext he9)
 have GBh:=zh (GBg1.out.ext he9)
 have SOh:=zh (SOg1.out.ext he9)
 have SBh:=zh (SBg1.out.ext he9)
 have TO3h:=zh (TO3g1.out.ext he9)
 have TB3h:=zh (TB3g1.out.ext he9)
 have TO5h:=zh (TO5g1.out.ext he9)
 have TB5h:=zh (TB5g1.out.ext he9)
 have O7h:=zh (O7g1.out.ext he9)
 have B7h:=zh (B7g1.out.ext he9)
 have R7h:=zh (R7g1.out.ext he9)
 clear NNg1 BBg1 GBg1 SOg1 SBg1 TO3g1 TB3g1 TO5g1 TB5g1 O7g1 B7g1 R7g1
 have EXh:=zh (EXg1.out.trans he9)
 clear EXg1
 have O9h:=zh (show s9.ok w9 from ho)
 clear ho he9
 obtain ⟨U9,hU9⟩:∃ U,(w9.alloc (.cells #[.slice none 0 0,.slice none 0 0,.slice none 0 0,.slice none 0 0,.int .i64 0] 44)).alloc (.cells #[.int .i64 0,.slice none 0 0,.int .i64 0,.int .i64 0] 52)=U:=⟨_,rfl⟩
 obtain ⟨g9,hg9⟩:∃ g,w9.heap.size=g:=⟨_,rfl⟩
 have HP9:=zh (show Blk U9 g9 44 (ssA ss0) from by rw [← hU9,← hg9];exact (Blk.new w9 44 (ssA ss0)).alloc _)
 have HQ9:=zh (show Blk U9 (g9+1) 52 (rcA rc0) from by rw [← hU9,← hg9];exact Blk.newAt _ _ _ _ (by simp))
 have HU9:=zh (show Ext w9 U9 from by rw [← hU9];exact ((Ext.refl _).alloc' _).alloc' _)
 have HGG9:=zh hg9
 clear hg9
 go_wp2_with (first | ((try rw [hU9]);(try rw [HGG9.out]);(with_reducible refine iG rfl 44 (.tmp 9) (.tmp 45) rfl g9 (ssA ss0) (ssA s9) _ rfl rfl rfl rfl (by kernel_rfl) (by kernel_rfl) HP9.out ?_);intro U9a h9a;have HQ9a:=zh (show Blk U9a (g9+1) 52 (rcA rc0) from by rw [← h9a.out.2];exact HQ9.out.setCells_far (by omega) _ _);have HB9a:=zh h9a.out.1;have HE9a:=zh (show Ext w9 U9a from by rw [← h9a.out.2];exact Below.setCells' HU9.out (by rw [HGG9.out];exact Nat.le_refl _) _ _);clear h9a) | ((with_reducible refine iG rfl 52 (.tmp 10) (.tmp 46) rfl (g9+1) (rcA rc0) (rcA ⟨0,E9,2,k9,4,l9⟩) _ rfl rfl rfl rfl (by kernel_rfl) (by kernel_rfl) HQ9a.out ?_);intro V9 h9b;have h9:Ext w9 V9:=(by rw [← h9b.out.2];exact Below.setCells' HE9a.out (by rw [HGG9.out];exact Nat.le_succ _) _ _);have NNh1:=zh (NNh.out.ext h9);have BBh1:=zh (BBh.out.ext h9);have GBh1:=zh (GBh.out.ext h9);have SOh1:=zh (SOh.out.ext h9);have SBh1:=zh (SBh.out.ext h9);have TO3h1:=zh (TO3h.out.ext h9);have TB3h1:=zh (TB3h.out.ext h9);have TO5h1:=zh (TO5h.out.ext h9);have TB5h1:=zh (TB5h.out.ext h9);have O7h1:=zh (O7h.out.ext h9);have B7h1:=zh (B7h.out.ext h9);have R7h1:=zh (R7h.out.ext h9);have O9h1:=zh (O9h.out.ext h9);clear NNh BBh GBh SOh SBh TO3h TB3h TO5h TB5h O7h B7h R7h O9h;have EXh1:=zh (EXh.out.trans h9);clear EXh;have B9h1:=zh (show Blk V9 g9 44 (ssA s9) from by (rw [← h9b.out.2];exact HB9a.out.setCells_far (by omega) _ _));have R9h1:=zh (show Blk V9 (g9+1) 52 (rcA ⟨0,E9,2,k9,4,l9⟩) from h9b.out.1);clear h9 h9b HP9 HQ9 HU9 hU9 HQ9a HB9a HE9a;obtain ⟨r0,r1,r2,r3,r4⟩:=aE SBh1.out;obtain ⟨t0,t1,t2,t3⟩:=kR TB3h1.out))
 clear r0 r1 r2 r3 r4 t0 t1 t2 t3
 refine (oH s 0 0 A3 1 c3 [opW 6 X3 x3 Y3 y3] V9 SOh1.out TO3h1.out.ops (aDS SOh1.out HV.out)).mono ?_
 rintro e w11 ⟨s11,rfl,ho,hv,he11⟩
 have HV11:=zh (show s11.V=gQ S22 0 0 [opW 6 X3 x3 Y3 y3] from by rw [hv,HV.out])
 have NNi:=zh (NNh1.out.ext he11)
 have BBi:=zh (BBh1.out.ext he11)
 have GBi:=zh (GBh1.out.ext he11)
 have SOi:=zh (SOh1.out.ext he11)
 have SBi:=zh (SBh1.out.ext he11)
 have TO3i:=zh (TO3h1.out.ext he11)
 have TB3i:=zh (TB3h1.out.ext he11)
 have TO5i:=zh (TO5h1.out.ext he11)
 have TB5i:=zh (TB5h1.out.ext he11)
 have O7i:=zh (O7h1.out.ext he11)
 have B7i:=zh (B7h1.out.ext he11)
 have R7i:=zh (R7h1.out.ext he11)
 have O9i:=zh (O9h1.out.ext he11)
 have B9i:=zh (B9h1.out.ext he11)
 have R9i:=zh (R9h1.out.ext he11)
 clear NNh1 BBh1 GBh1 SOh1 SBh1 TO3h1 TB3h1 TO5h1 TB5h1 O7h1 B7h1 R7h1 O9h1 B9h1 R9h1
 have EXi:=zh (EXh1.out.trans he11)
 clear EXh1
 have O11i:=zh (show s11.ok w11 from ho.ok)
 clear ho hv he11
 go_wp2_with ((with_reducible refine fW rfl 44 (.tmp 11) (.tmp 50) rfl _ (ssA s11) _ rfl rfl rfl rfl (by kernel_rfl) (by kernel_rfl) ?_);intro W11 g11 h11;(try rw [h11.out.2.2]);have NNi1:=zh (NNi.out.ext h11.out.2.1);have BBi1:=zh (BBi.out.ext h11.out.2.1);have GBi1:=zh (GBi.out.ext h11.out.2.1);have SOi1:=zh (SOi.out.ext h11.out.2.1);have SBi1:=zh (SBi.out.ext h11.out.2.1);have TO3i1:=zh (TO3i.out.ext h11.out.2.1);have TB3i1:=zh (TB3i.out.ext h11.out.2.1);have TO5i1:=zh (TO5i.out.ext h11.out.2.1);have TB5i1:=zh (TB5i.out.ext h11.out.2.1);have O7i1:=zh (O7i.out.ext h11.out.2.1);have B7i1:=zh (B7i.out.ext h11.out.2.1);have R7i1:=zh (R7i.out.ext h11.out.2.1);have O9i1:=zh (O9i.out.ext h11.out.2.1);have B9i1:=zh (B9i.out.ext h11.out.2.1);have R9i1:=zh (R9i.out.ext h11.out.2.1);have O11i1:=zh (O11i.out.ext h11.out.2.1);clear NNi BBi GBi SOi SBi TO3i TB3i TO5i TB5i O7i B7i R7i O9i B9i R9i O11i;have EXi1:=zh (EXi.out.trans h11.out.2.1);clear EXi;have B11i1:=zh (show Blk W11 g11 44 (ssA s11) from h11.out.1);clear h11)
 have HB11:=zh (show s11.n1≤1000000∧s11.n2≤1000000∧s11.n3≤1000000∧s11.n4≤1000000 from by have:=aKG O11i1.out HV11.out;omega)
 have HPW:=zh (show ceW bU from fO (k:=4) (i:=0) (wfS ⟨by omega,by omega⟩) (wfS ⟨by omega,by omega⟩))
 have H4W:=zh (show (Lit.int .i64 4).wf=true from by decide)
 have HC11:=zh (show s11.C=_ from (congrArg StV.C HV11.out).trans (aJI X3 x3 Y3 y3))
 have NNj:=zh (NNi1.out.ext ((Ext.refl W11).drew'))
 have BBj:=zh (BBi1.out.ext ((Ext.refl W11).drew'))
 have GBj:=zh (GBi1.out.ext ((Ext.refl W11).drew'))
 have SOj:=zh (SOi1.out.ext ((Ext.refl W11).drew'))
 have SBj:=zh (SBi1.out.ext ((Ext.refl W11).drew'))
 have TO3j:=zh (TO3i1.out.ext ((Ext.refl W11).drew'))
 have TB3j:=zh (TB3i1.out.ext ((Ext.refl W11).drew'))
 have TO5j:=zh (TO5i1.out.ext ((Ext.refl W11).drew'))
 have TB5j:=zh (TB5i1.out.ext ((Ext.refl W11).drew'))
 have O7j:=zh (O7i1.out.ext ((Ext.refl W11).drew'))
 have B7j:=zh (B7i1.out.ext ((Ext.refl W11).drew'))
 have R7j:=zh (R7i1.out.ext ((Ext.refl W11).drew'))
 have O9j:=zh (O9i1.out.ext ((Ext.refl W11).drew'))
 have B9j:=zh (B9i1.out.ext ((Ext.refl W11).drew'))
 have R9j:=zh (R9i1.out.ext ((Ext.refl W11).drew'))
 have O11j:=zh (O11i1.out.ext ((Ext.refl W11).drew'))
 have B11j:=zh (B11i1.out.ext ((Ext.refl W11).drew'))
 clear NNi1 BBi1 GBi1 SOi1 SBi1 TO3i1 TB3i1 TO5i1 TB5i1 O7i1 B7i1 R7i1 O9i1 B9i1 R9i1 O11i1 B11i1
 have EXj:=zh (EXi1.out.trans ((Ext.refl W11).drew'))
 clear EXi1
 refine wp_region_held_drew (S:=fun _=>True) (by kernel_rfl) (trivial) (fun aA=>?_)
 refine zzj (VE 0 (.agg (ssA s11)) (VE 1 (.agg (ceA bU)) (VV 2 (fun v V=>∃ s2,v=.agg (ssA s2)∧OwnS V W11.drew.heap.size s2∧s2.V=⟨dK s11.C bU 4,s11.Q,s11.K,s11.P,s11.G⟩) (VV 3 (fun v V=>∃ s2,v=.agg (ssA s2)∧OwnS V W11.drew.heap.size s2∧s2.C=[⟨aZ 1,6⟩,⟨cK 0,3⟩,⟨bU,3⟩]) (VV 4 (fun v V=>∃ P,v=.pointer (some ⟨P,0,none⟩)∧Blk V P 44 (ssA ss0)∧W11.drew.heap.size≤P) VN))))) [(0,some 51),(1,some 52),(2,some 53),(3,some 54),(4,some 12)] 1 (fun _ _ h _=>h) (ve (ve (VV.ext (fun v w w' ⟨s2,h1,h2,h3⟩ e=>⟨s2,h1,h2.ext e,h3⟩) (VV.ext (fun v w w' ⟨s2,h1,h2,h3⟩ e=>⟨s2,h1,h2.ext e,h3⟩) (VV.ext (fun v w w' ⟨P,h1,h2,h3⟩ e=>⟨P,h1,h2.ext e,h3⟩) VN.ext))))) (zzc ?_ (zzc ?_ (zzc ?_ (zzc ?_ (zzc ?_ zzn))))) ?_
 ·refine zzp fun WX hE hS K hK => ?_
  obtain ⟨q0,q1,q2,q3,q4⟩:=aE (B11j.out.ext hE)
  go_simp
  exact zzF hK (.agg (ssA s11))
 ·refine zzp fun WX hE hS K hK => ?_
  go_simp
  go_at_call 31
  refine (qX _).mono ?_
  rintro e w5 ⟨rfl,he5⟩
  exact zzK (hK.out (.agg (ceA bU)) _ (he5) (rfl))
 ·refine zm [(0, some 51), (1, some 52)] fun env WX hE hS hD K hK => ?_
  obtain ⟨h0,h1,-⟩:=zzV hD
  clear hD
  simp only [aO,h0,h1] at hK ⊢
  clear h0
  clear h1
  go_simp
  go_at_call 42
  refine (uD s11 bU 4 _ (O11j.out.ext hE) HPW.out H4W.out HB11.out).mono ?_
  rintro e w5 ⟨s2,rfl,ho2,hv2,he5⟩
  exact zzK (hK.out (.agg (ssA s2)) _ (he5) (⟨s2,rfl,bJ ho2 hE.size,hv2⟩))
 ·refine zm [(2, some 53)] fun env WX hE hS hD K hK => ?_
  obtain ⟨h2,-⟩:=zzV hD
  clear hD
  simp only [aO] at hK ⊢
  generalize env 2=x2 at h2 hK ⊢
  obtain ⟨s9,rfl,ho9,hv9⟩:=h2
  go_simp
  go_at_call 26
  refine (aFM s9 _ ho9.ok (aGE ho9.ok hv9 HC11.out HV11.out)).mono ?_
  rintro e w5 ⟨s2,rfl,ho2,hv2,he5⟩
  exact zzK (hK.out (.agg (ssA s2)) _ (he5) (⟨s2,rfl,bJ ho2 hE.size,aLp hv9 hv2 HC11.out⟩))
 ·refine zzp fun WX hE hS K hK => ?_
  refine aCD rfl ?_
  intro g W2 h2
  exact zzK (hK.out (.pointer (some ⟨g,0,none⟩)) _ (h2.out.2.1) (⟨g,rfl,h2.out.1,Nat.le_trans hE.size h2.out.2.2⟩))
 intro env WX hE hS hV
 obtain ⟨h0,h1,h2,h3,h4,-⟩:=zzV hV
 clear hV
 simp only [aO,h0,h1]
 clear h0
 clear h1
 generalize env 2=x2 at h2 ⊢
 generalize env 3=x3 at h3 ⊢
 generalize env 4=x4 at h4 ⊢
 obtain ⟨sP,rfl,-,-⟩:=h2
 obtain ⟨s12,rfl,ho12,hv12⟩:=h3
 obtain ⟨g12,rfl,hp,hpl⟩:=h4
 have aA:=hS
 refine za 5 (fun K hK=>?_)
 (refine bC rfl (.tmp 12) (.tmp 54) (by rfl) g12 (.agg (ssA s12)) s12 rfl (by rfl) (by rfl) hp ?_;intro W12 h12)
 refine hK.out _ _ (trivial) (fun aA=>?_)
 clear hK K
 try simp only [aS]
 refine wpAnyH_done (by kernel_rfl) ?_ _
 have hX:Ext W11.drew W12:=(by rw [← h12.out.1];exact Below.setCells' hE hpl _ _)
 have hO:OwnS W12 W11.drew.heap.size s12:=(by rw [← h12.out.1];exact ho12.kept (aC _ _ _ _) hp (by decide) (by decide) (by decide) (by decide))
 have HC12:=zh hv12
 have NNk:=zh (NNj.out.ext hX)
 have BBk:=zh (BBj.out.ext hX)
 have GBk:=zh (GBj.out.ext hX)
 have SOk:=zh (SOj.out.ext hX)
 have SBk:=zh (SBj.out.ext hX)
 have TO3k:=zh (TO3j.out.ext hX)
 have TB3k:=zh (TB3j.out.ext hX)
 have TO5k:=zh (TO5j.out.ext hX)
 have TB5k:=zh (TB5j.out.ext hX)
 have O7k:=zh (O7j.out.ext hX)
 have B7k:=zh (B7j.out.ext hX)
 have R7k:=zh (R7j.out.ext hX)
 have O9k:=zh (O9j.out.ext hX)
 have B9k:=zh (B9j.out.ext hX)
 have R9k:=zh (R9j.out.ext hX)
 have O11k:=zh (O11j.out.ext hX)
 have B11k:=zh (B11j.out.ext hX)
 clear NNj BBj GBj SOj SBj TO3j TB3j TO5j TB5j O7j B7j R7j O9j B9j R9j O11j B11j
 have EXk:=zh (EXj.out.trans hX)
 clear EXj
 have B12k:=zh (show Blk W12 g12 44 (ssA s12) from h12.out.2)
 have O12k:=zh (show s12.ok W12 from hO.ok)
 clear hX hO h12 hp hpl hv12 ho12 hE hS aA
 obtain ⟨r0,r1,r2,r3,r4⟩:=aE SBk.out
 go_wp2_with fail
 clear r0 r1 r2 r3 r4
 refine (yG s 1 W12 SOk.out (show (Lit.int .i64 1).wf=true from by decide) (by have:=aDS SOk.out HV.out;omega)).mono ?_
 rintro e w13 ⟨s13,rfl,ho,hv,he13⟩
 have HV13:=zh (show s13.V=⟨[⟨aZ 0,5⟩,⟨bU,3⟩],[0,0],[],[],1⟩ from by rw [hv,HV.out];exact aMf)
 have NNl:=zh (NNk.out.ext he13)
 have BBl:=zh (BBk.out.ext he13)
 have GBl:=zh (GBk.out.ext he13)
 have SOl:=zh (SOk.out.ext he13)
 have SBl:=zh (SBk.out.ext he13)
 have TO3l:=zh (TO3k.out.ext he13)
 have TB3l:=zh (TB3k.out.ext he13)
 have TO5l:=zh (TO5k.out.ext he13)
 have TB5l:=zh (TB5k.out.ext he13)
 have O7l:=zh (O7k.out.ext he13)
 have B7l:=zh (B7k.out.ext he13)
 have R7l:=zh (R7k.out.ext he13)
 have O9l:=zh (O9k.out.ext he13)
 have B9l:=zh (B9k.out.ext he13)
 have R9l:=zh (R9k.out.ext he13)
 have O11l:=zh (O11k.out.ext he13)
 have B11l:=zh (B11k.out.ext he13)
 have B12l:=zh (B12k.out.ext he13)
 have O12l:=zh (O12k.out.ext he13)
 clear NNk BBk GBk SOk SBk TO3k TB3k TO5k TB5k O7k B7k R7k O9k B9k R9k O11k B11k B12k O12k
 have EXl:=zh (EXk.out.trans he13)
 clear EXk
 have O13l:=zh (show s13.ok w13 from ho.ok)
 clear ho hv he13
 go_wp2_with ((with_reducible refine fW rfl 44 (.tmp 13) (.tmp 56) rfl _ (ssA s13) _ rfl rfl rfl rfl (by kernel_rfl) (by kernel_rfl) ?_);intro W13 g13 h13;(try rw [h13.out.2.2]);have NNl1:=zh (NNl.out.ext h13.out.2.1);have BBl1:=zh (BBl.out.ext h13.out.2.1);have GBl1:=zh (GBl.out.ext h13.out.2.1);have SOl1:=zh (SOl.out.ext h13.out.2.1);have SBl1:=zh (SBl.out.ext h13.out.2.1);have TO3l1:=zh (TO3l.out.ext h13.out.2.1);have TB3l1:=zh (TB3l.out.ext h13.out.2.1);have TO5l1:=zh (TO5l.out.ext h13.out.2.1);have TB5l1:=zh (TB5l.out.ext h13.out.2.1);have O7l1:=zh (O7l.out.ext h13.out.2.1);have B7l1:=zh (B7l.out.ext h13.out.2.1);have R7l1:=zh (R7l.out.ext h13.out.2.1);have O9l1:=zh (O9l.out.ext h13.out.2.1);have B9l1:=zh (B9l.out.ext h13.out.2.1);have R9l1:=zh (R9l.out.ext h13.out.2.1);have O11l1:=zh (O11l.out.ext h13.out.2.1);have B11l1:=zh (B11l.out.ext h13.out.2.1);have B12l1:=zh (B12l.out.ext h13.out.2.1);have O12l1:=zh (O12l.out.ext h13.out.2.1);have O13l1:=zh (O13l.out.ext h13.out.2.1);clear NNl BBl GBl SOl SBl TO3l TB3l TO5l TB5l O7l B7l R7l O9l B9l R9l O11l B11l B12l O12l O13l;have EXl1:=zh (EXl.out.trans h13.out.2.1);clear EXl;have B13l1:=zh (show Blk W13 g13 44 (ssA s13) from h13.out.1);clear h13)
 have HC13:=zh (show s13.C=[⟨aZ 0,5⟩,⟨bU,3⟩] from congrArg StV.C HV13.out)
 have HG13:=zh (show s13.G=1 from congrArg StV.G HV13.out)
 have NNm:=zh (NNl1.out.ext ((Ext.refl W13).drew'))
 have BBm:=zh (BBl1.out.ext ((Ext.refl W13).drew'))
 have GBm:=zh (GBl1.out.ext ((Ext.refl W13).drew'))
 have SOm:=zh (SOl1.out.ext ((Ext.refl W13).drew'))
 have SBm:=zh (SBl1.out.ext ((Ext.refl W13).drew'))
 have TO3m:=zh (TO3l1.out.ext ((Ext.refl W13).drew'))
 have TB3m:=zh (TB3l1.out.ext ((Ext.refl W13).drew'))
 have TO5m:=zh (TO5l1.out.ext ((Ext.refl W13).drew'))
 have TB5m:=zh (TB5l1.out.ext ((Ext.refl W13).drew'))
 have O7m:=zh (O7l1.out.ext ((Ext.refl W13).drew'))
 have B7m:=zh (B7l1.out.ext ((Ext.refl W13).drew'))
 have R7m:=zh (R7l1.out.ext ((Ext.refl W13).drew'))
 have O9m:=zh (O9l1.out.ext ((Ext.refl W13).drew'))
 have B9m:=zh (B9l1.out.ext ((Ext.refl W13).drew'))
 have R9m:=zh (R9l1.out.ext ((Ext.refl W13).drew'))
 have O11m:=zh (O11l1.out.ext ((Ext.refl W13).drew'))
 have B11m:=zh (B11l1.out.ext ((Ext.refl W13).drew'))
 have B12m:=zh (B12l1.out.ext ((Ext.refl W13).drew'))
 have O12m:=zh (O12l1.out.ext ((Ext.refl W13).drew'))
 have O13m:=zh (O13l1.out.ext ((Ext.refl W13).drew'))
 have B13m:=zh (B13l1.out.ext ((Ext.refl W13).drew'))
 clear NNl1 BBl1 GBl1 SOl1 SBl1 TO3l1 TB3l1 TO5l1 TB5l1 O7l1 B7l1 R7l1 O9l1 B9l1 R9l1 O11l1 B11l1 B12l1 O12l1 O13l1 B13l1
 have EXm:=zh (EXl1.out.trans ((Ext.refl W13).drew'))
 clear EXl1
 refine wp_region_held_drew (S:=fun V=>Ext W13.drew V) (by kernel_rfl) (Ext.refl _) (fun aA=>?_)
 refine zt 0 aA ?_
 refine zu 1 (v:=.int .i64 100) aA ?_ (hy:=by refine .inl ⟨by rfl,fun V aM=>?_⟩;obtain ⟨q0,q1,q2,q3⟩:=lK (R7m.out.ext aM);go_simp;try rfl)
 refine zzr [2,3] ?_
 refine zu 4 (v:=.agg (ssA s7)) aA ?_ (hy:=by refine .inl ⟨by rfl,fun V aM=>?_⟩;obtain ⟨q0,q1,q2,q3,q4⟩:=aE (B7m.out.ext aM);go_simp;try rfl)
 refine zu 5 (v:=.agg (ssA s)) aA ?_ (hy:=by refine .inl ⟨by rfl,fun V aM=>?_⟩;obtain ⟨q0,q1,q2,q3,q4⟩:=aE (SBm.out.ext aM);go_simp;try rfl)
 refine za 6 (fun K hK=>?_)
 (go_simp;go_at_call 22;refine (aFe s7 s _ (O7m.out.ext aA) (SOm.out.ext aA)).mono ?_;rw [HV7.out,HV.out,decide_eq_true rfl];rintro e w5 ⟨rfl,he5⟩)
 refine hK.out _ _ (aA.trans he5) (fun aA=>?_)
 clear hK K
 try simp only [aS]
 refine zzr [7,8,9] ?_
 refine zu 10 (v:=.int .i64 0) aA ?_ (hy:=by refine .inl ⟨by rfl,fun V aM=>?_⟩;obtain ⟨q0,q1,q2,q3⟩:=lK (R9m.out.ext aM);go_simp;try rfl)
 refine zzr [11,12,13,14] ?_
 refine zu 15 (v:=.int .i64 4) aA ?_ (hy:=by refine .inl ⟨by rfl,fun V aM=>?_⟩;obtain ⟨q0,q1,q2,q3⟩:=lK (R9m.out.ext aM);go_simp;try rfl)
 refine zzr [16,17,18,19] ?_
 refine zu 20 (v:=.slice E9 2 k9) aA ?_ (hy:=by refine .inl ⟨by rfl,fun V aM=>?_⟩;obtain ⟨q0,q1,q2,q3⟩:=lK (R9m.out.ext aM);go_simp;try rfl)
 refine zzr [21,22,23,24] ?_
 refine zu 25 (v:=.agg (ssA s9)) aA ?_ (hy:=by refine .inl ⟨by rfl,fun V aM=>?_⟩;obtain ⟨q0,q1,q2,q3,q4⟩:=aE (B9m.out.ext aM);go_simp;try rfl)
 refine za 26 (fun K hK=>?_)
 (go_simp;go_at_call 33;refine (iZ 1 _).mono ?_;rintro e w5 ⟨rfl,he5⟩)
 refine hK.out _ _ (aA.trans he5) (fun aA=>?_)
 clear hK K
 try simp only [aS]
 refine za 27 (fun K hK=>?_)
 (go_simp;go_at_call 30;refine (mP s9 (aZ 1) _ (O9m.out.ext aA) (fO (k:=1) (i:=1) (wfS ⟨by omega,by omega⟩) (wfS ⟨by omega,by omega⟩))).mono ?_;rw [HV9.out,aLK];rintro e w5 ⟨rfl,he5⟩)
 refine hK.out _ _ (aA.trans he5) (fun aA=>?_)
 clear hK K
 try simp only [aS]
 refine zzr [28,29,30] ?_
 refine zu 31 (v:=.agg (ssA s11)) aA ?_ (hy:=by refine .inl ⟨by rfl,fun V aM=>?_⟩;obtain ⟨q0,q1,q2,q3,q4⟩:=aE (B11m.out.ext aM);go_simp;try rfl)
 refine za 32 (fun K hK=>?_)
 (go_simp;go_at_call 33;refine (iZ 0 _).mono ?_;rintro e w5 ⟨rfl,he5⟩)
 refine hK.out _ _ (aA.trans he5) (fun aA=>?_)
 clear hK K
 try simp only [aS]
 refine za 33 (fun K hK=>?_)
 (go_simp;go_at_call 30;refine (mP s11 (aZ 0) _ (O11m.out.ext aA) (fO (k:=1) (i:=0) (wfS ⟨by omega,by omega⟩) (wfS ⟨by omega,by omega⟩))).mono ?_;rw [HC11.out,aLJ];rintro e w5 ⟨rfl,he5⟩)
 refine hK.out _ _ (aA.trans he5) (fun aA=>?_)
 clear hK K
 try simp only [aS]
 refine zzr [34,35,36] ?_
 refine zu 37 (v:=.agg (ssA s12)) aA ?_ (hy:=by refine .inl ⟨by rfl,fun V aM=>?_⟩;obtain ⟨q0,q1,q2,q3,q4⟩:=aE (B12m.out.ext aM);go_simp;try rfl)
 refine za 38 (fun K hK=>?_)
 (go_simp;go_at_call 33;refine (iZ 0 _).mono ?_;rintro e w5 ⟨rfl,he5⟩)
 refine hK.out _ _ (aA.trans he5) (fun aA=>?_)
 clear hK K
 try simp only [aS]
 refine za 39 (fun K hK=>?_)
 (go_simp;go_at_call 30;refine (mP s12 (aZ 0) _ (O12m.out.ext aA) (fO (k:=1) (i:=0) (wfS ⟨by omega,by omega⟩) (wfS ⟨by omega,by omega⟩))).mono ?_;rw [HC12.out,aLI];rintro e w5 ⟨rfl,he5⟩)
 refine hK.out _ _ (aA.trans he5) (fun aA=>?_)
 clear hK K
 try simp only [aS]
 refine zzr [40,41,42] ?_
 refine zu 43 (v:=.agg (ssA s12)) aA ?_ (hy:=by refine .inl ⟨by rfl,fun V aM=>?_⟩;obtain ⟨q0,q1,q2,q3,q4⟩:=aE (B12m.out.ext aM);go_simp;try rfl)
 refine za 44 (fun K hK=>?_)
 (go_simp;go_at_call 31;refine (qX _).mono ?_;rintro e w5 ⟨rfl,he5⟩)
 refine hK.out _ _ (aA.trans he5) (fun aA=>?_)
 clear hK K
 try simp only [aS]
 refine za 45 (fun K hK=>?_)
 (go_simp;go_at_call 30;refine (mP s12 bU _ (O12m.out.ext aA) (HPW.out)).mono ?_;rw [HC12.out,aLH];rintro e w5 ⟨rfl,he5⟩)
 refine hK.out _ _ (aA.trans he5) (fun aA=>?_)
 clear hK K
 try simp only [aS]
 refine zzr [46,47,48] ?_
 refine zu 49 (v:=.agg (ssA s13)) aA ?_ (hy:=by refine .inl ⟨by rfl,fun V aM=>?_⟩;obtain ⟨q0,q1,q2,q3,q4⟩:=aE (B13m.out.ext aM);go_simp;try rfl)
 refine za 50 (fun K hK=>?_)
 (go_simp;go_at_call 31;refine (qX _).mono ?_;rintro e w5 ⟨rfl,he5⟩)
 refine hK.out _ _ (aA.trans he5) (fun aA=>?_)
 clear hK K
 try simp only [aS]
 refine za 51 (fun K hK=>?_)
 (go_simp;go_at_call 30;refine (mP s13 bU _ (O13m.out.ext aA) (HPW.out)).mono ?_;rw [HC13.out,aLG];rintro e w5 ⟨rfl,he5⟩)
 refine hK.out _ _ (aA.trans he5) (fun aA=>?_)
 clear hK K
 try simp only [aS]
 refine zzr [52,53,54,55] ?_
 refine zu 56 (v:=.int .i64 1) aA ?_ (hy:=by refine .inl ⟨by rfl,fun V aM=>?_⟩;obtain ⟨q0,q1,q2,q3,q4⟩:=aE (B13m.out.ext aM);rw [HG13.out] at q4;go_simp;try rfl)
 refine zzr [57,58,59,60] ?_
 refine zu 61 (v:=.agg (txA 0 0 A3 1 c3)) aA ?_ (hy:=by refine .inl ⟨by rfl,fun V aM=>?_⟩;obtain ⟨q0,q1,q2,q3⟩:=kR (TB3m.out.ext aM);go_simp;try rfl)
 refine za 62 (fun K hK=>?_)
 (go_simp;go_at_call 16;refine (nV 0 0 A3 1 c3 [opW 6 X3 x3 Y3 y3] _ (TO3m.out.ext aA).ops).mono ?_;rw [aLE];rintro e w5 ⟨rfl,he5⟩)
 refine hK.out _ _ (aA.trans he5) (fun aA=>?_)
 clear hK K
 try simp only [aS]
 refine zzr [63,64,65,66] ?_
 refine zu 67 (v:=.agg (txA 0 0 A3 1 c3)) aA ?_ (hy:=by refine .inl ⟨by rfl,fun V aM=>?_⟩;obtain ⟨q0,q1,q2,q3⟩:=kR (TB3m.out.ext aM);go_simp;try rfl)
 refine za 68 (fun K hK=>?_)
 (go_simp;go_at_call 13;refine (qG 0 0 A3 1 c3 [opW 6 X3 x3 Y3 y3] _ (TO3m.out.ext aA).ops).mono ?_;rintro e w5 ⟨A99,n99,c99,rfl,ho,hw,he5⟩;have hl:=OwnG.len (e:=34) ho;rw [aLL] at hl;subst hl)
 refine hK.out _ _ (aA.trans he5) (fun aA=>?_)
 clear hK K
 try simp only [aS]
 refine zzr [69,70,71,72] ?_
 refine wpAnyH_done (by kernel_rfl) ?_ _
 go_wp2_with fail
 go_ret
 exact ⟨rfl,EXm.out.trans aA⟩
end
end Go.Proofs.YtohmmcahpakokaaGreat
