/- The reference's Put. -/
import Derived.Test.YtohmmcahpakokaaGreatJ41
import Derived.Test.YtohmmcahpakokaaGreatJ43
set_option maxRecDepth 100000
set_option maxHeartbeats 8000000
set_option linter.unusedVariables false
set_option linter.unusedSimpArgs false
namespace Go.Proofs.YtohmmcahpakokaaGreat
section
open Go.RowKit
attribute [local go_sem ↓] Go.wp_at_zero Go.wp_at_succ
theorem uD (s0:StR) (c:CeR) (a:Int) (w:World) (h:s0.ok w) (hc:ceW c) (ha:wfI a) (hn:s0.n1≤1000000∧s0.n2≤1000000∧s0.n3≤1000000∧s0.n4≤1000000):Calls Tryz.prog 42 #[.agg (ssA s0),.agg (ceA c),.int .i64 a] w (lZ w ⟨dK s0.C c a,s0.Q,s0.K,s0.P,s0.G⟩):=by
 obtain ⟨W,hW,HB,HC,HR,HE⟩:=en2 w s0 (ceA c) 32
 obtain ⟨q0,q1,q2,q3,q4⟩:=aE HB.out
 have HS0:=zh h
 have HN:=zh hn
 clear h hn
 have HCW:=zh hc
 have HAW:=zh ha
 clear hc ha
 go_enter Tryz.func42,Tryz.ntmps42
 go_wp2_with fail
 refine (aFg s0 W (HS0.out.ext HE.out) (by have:=HN.out;omega)).mono ?_
 rintro e w5 ⟨s1,rfl,ho1,hv1,he5⟩
 clear q0 q1 q2 q3 q4
 go_upto_region 2 with ((with_reducible refine aK rfl (.tmp 3) (.tmp 11) rfl w.heap.size s1 rfl rfl (HB.out.ext he5) ?_);intro W7 h7)
 obtain ⟨HS7,hk7,HBD⟩:=cpS HS0 (by have:=HN.out;omega) HB HE ho1 hv1 he5 h7
 have HC7:=zh (hk7 _ _ _ HC.out (by omega))
 have HR7:=zh (hk7 _ _ _ HR.out (by omega))
 have HV1:=zh hv1
 clear hk7 h7 ho1 hv1 he5 HB HC HR HE
 have HL1:=zh HS7.out.own.l1
 obtain ⟨vc,hvc⟩:∃ v,Value.agg (ceA c)=v:=⟨_,rfl⟩
 have HVC:=zh hvc
 obtain ⟨q0,q1,q2,q3,q4⟩:=aE HS7.out.blk
 have rc:W7.rangeAt (w.heap.size+1) 0 (RowT.enc c):=aD HC7.out
 have HAT:=zh (aEg s1 c W7 HS7.out.own.ok HCW.out)
 rw [hvc] at HAT
 clear hvc
 go_wp2_with (with_reducible refine aB ceP rfl (.tmp 4) rfl (w.heap.size+1) 0 rfl c vc HVC.out rc ?_)
 refine HAT.out.mono ?_
 rintro e W0 ⟨r,rfl,hr,he0⟩
 have HX0:=zh he0
 clear q0 q1 q2 q3 q4 rc HAT he0
 rcases hr with ⟨rfl,hno⟩ | ⟨k,rfl,hk,h1,h2⟩
 ·have HNO := zh (sZ hno)
  clear hno
  by_cases ha0:a=0
  ·subst ha0
   have HS8:=zh (HS7.out.ext HX0.out)
   have HRF:=zh (HR7.out.ext HX0.out)
   have HF:=HS8
   have HSP:=zh (show s1.V=⟨dK s0.C c 0,s0.Q,s0.K,s0.P,s0.G⟩ from by
    have e:s1.V=s0.V:=HV1.out
    have e1:s1.C=s0.C:=congrArg StV.C e
    have h1:dK s1.C c 0=s1.C:=by unfold dK;rw [HNO.out];rfl
    rw [← e1,h1,e1]
    exact e)
   go_upto_region 9 with fail
   obtain ⟨q0,q1,q2,q3,q4⟩:=aE HF.out.blk
   go_wp2_with ((with_reducible refine aK rfl (.tmp 6) (.tmp 51) rfl (w.heap.size+2) (s1) rfl rfl HRF.out ?_);intro W9 h9)
   exact rtS _ _ HF.out HRF.out (by omega) h9 (HSP.out)
  have HA0:=zh ha0
  have hn9:s1.n1≤1000000:=HBD.out.1
  have b0:(a == 0)=false:=beq_eq_false_iff_ne.2 ha0
  have b1:decide (a=0)=false:=decide_eq_false ha0
  clear ha0
  have HXW0:=HX0
  go_wp2_with fail
  clear b0 b1
  go_loopw [8] (fun vi wr=>∃ k:Nat,vi=.int .i64 (k:Int)∧k≤s1.n1∧Hid (∀ j,j < k→eE c (nthG s1.C j).c=false)∧Hid (Ext W7 wr)) (fun i _=>s1.n1 - (intOf i).toNat)
  case atStart=>exact ⟨0,rfl,Nat.zero_le _,zh (fun j hj=>absurd hj (Nat.not_lt_zero _)),HXW0⟩
  case round =>
   obtain ⟨k,rfl,hk,HPJ,HXW⟩:=hrel
   have HKN:=zh hk
   clear HX0 HXW0
   by_cases hlt:k < s1.n1
   ·have i0 : (0 : Int) ≤ (k : Int) := by omega
    have i1:(k:Int) < (s1.n1:Int):=by omega
    obtain ⟨d,hd⟩:∃ d,nthG s1.C k=d:=⟨_,rfl⟩
    obtain ⟨bb,hab,-,hrow⟩:=cF HS7.out.own.o1 (show 0 < s1.n1 by omega)
    have HAB:=zh hab
    have HDR:=zh (fun (V:World) (e:Ext W7 V)=>show V.rangeAt bb (k * 11) (RowT.enc d.c) from by
     rw [← hd]
     obtain ⟨b2,e2,-,hr2⟩:=cF (bA HS7.out.own.o1 e) (show 0 < s1.n1 by omega)
     rw [HAB.out] at e2
     injection e2 with e3
     injection e3 with e4
     subst e4
     have h1:=cG (k:=k) hr2 (by rw [HL1.out];exact hlt)
     rw [Nat.zero_add] at h1
     exact aU (k:=10) h1)
    obtain ⟨vd,hvd⟩:∃ v,Value.agg (ceA d.c)=v:=⟨_,rfl⟩
    have HVD:=zh hvd
    have HCMP:=zh (fun V=>nT d.c c V)
    rw [hvd,HVC.out] at HCMP
    have HDK:=zh hd
    cases hb:eE c d.c with
    | false =>
     have b1:jC d.c c≤0:=by
      have:=vQ d.c c
      rw [hb,decide_eq_false_iff_not] at this
      omega
     have HPN:=zh (show eE c (nthG s1.C k).c=false from by rw [HDK.out];exact hb)
     clear hab hrow hd hvd hb
     go_upto_region 11 with fail
     refine wp_region_held_drew (S:=fun V=>Blk V w.heap.size 44 (ssA s1)∧Blk V (w.heap.size+1) 32 (ceA c)∧Ext W7 V) (by kernel_rfl) (⟨(HS7.out.blk.ext HXW.out).drew,(HC7.out.ext HXW.out).drew,HXW.out.trans ((Ext.refl _).drew')⟩) (fun aA=>?_)
     refine zz0 [0,1,2,3,4,5,6,7,8,9,10] ?_;repeat first | refine zz1 ?_ (hy:=by intro W aM;have q9:W.cell? ⟨w.heap.size,0,none⟩=some (.slice (some ⟨bb,0,none⟩) s1.n1 s1.c1):=(by rw [← HAB.out];exact aM.1.cell 0);go_simp <;> with_reducible rfl) | refine zz2 ?_ | refine zz9 ?_
     refine zu 11 (v:=vd) aA ?_ (hy:=by exact aF ceP (by rfl) (.tmp 62) (by rfl) bb (k * 11) (by rfl) d.c vd HVD.out (fun V h=>HDR.out V h.2.2))
     refine zu 12 (v:=vc) aA ?_ (hy:=by exact aF ceP (by rfl) (.tmp 4) (by rfl) (w.heap.size+1) 0 (by rfl) c vc HVC.out (fun V h=>aD h.2.1))
     refine za 13 (fun K hK=>?_)
     (go_simp;go_at_call 71;refine (HCMP.out _).mono ?_;rintro e w8 ⟨rfl,he8⟩)
     refine hK.out _ _ (⟨aA.1.ext he8,aA.2.1.ext he8,aA.2.2.trans he8⟩) (fun aA=>?_)
     clear hK K
     try simp only [aS]
     refine zzr [14,15] ?_
     refine wpAnyH_done (by kernel_rfl) ?_ _
     have HX8:=zh aA.2.2
     clear aA HVD HCMP HDR HAB
     go_wp2_with fail
     go_roundw
     case rel=>exact ⟨k+1,by go_num,hlt,zh (fun j hj=>by
      rcases (by omega:j < k ∨ j=k) with hj | rfl
      ·exact HPJ.out j hj
      exact HPN.out),HX8⟩
     case measure=>simp [intOf];omega
    | true =>
     have b1:¬ jC d.c c≤0:=by
      have:=vQ d.c c
      rw [hb,decide_eq_true_eq] at this
      omega
     have HPK:=zh (show k < s1.n1→eE c (nthG s1.C k).c=true from fun _=>by rw [HDK.out];exact hb)
     clear hab hrow hd hvd hb
     go_upto_region 11 with fail
     refine wp_region_held_drew (S:=fun V=>Blk V w.heap.size 44 (ssA s1)∧Blk V (w.heap.size+1) 32 (ceA c)∧Ext W7 V) (by kernel_rfl) (⟨(HS7.out.blk.ext HXW.out).drew,(HC7.out.ext HXW.out).drew,HXW.out.trans ((Ext.refl _).drew')⟩) (fun aA=>?_)
     refine zz0 [0,1,2,3,4,5,6,7,8,9,10] ?_;repeat first | refine zz1 ?_ (hy:=by intro W aM;have q9:W.cell? ⟨w.heap.size,0,none⟩=some (.slice (some ⟨bb,0,none⟩) s1.n1 s1.c1):=(by rw [← HAB.out];exact aM.1.cell 0);go_simp <;> with_reducible rfl) | refine zz2 ?_ | refine zz9 ?_
     refine zu 11 (v:=vd) aA ?_ (hy:=by exact aF ceP (by rfl) (.tmp 62) (by rfl) bb (k * 11) (by rfl) d.c vd HVD.out (fun V h=>HDR.out V h.2.2))
     refine zu 12 (v:=vc) aA ?_ (hy:=by exact aF ceP (by rfl) (.tmp 4) (by rfl) (w.heap.size+1) 0 (by rfl) c vc HVC.out (fun V h=>aD h.2.1))
     refine za 13 (fun K hK=>?_)
     (go_simp;go_at_call 71;refine (HCMP.out _).mono ?_;rintro e w8 ⟨rfl,he8⟩)
     refine hK.out _ _ (⟨aA.1.ext he8,aA.2.1.ext he8,aA.2.2.trans he8⟩) (fun aA=>?_)
     clear hK K
     try simp only [aS]
     refine zzr [14,15] ?_
     refine wpAnyH_done (by kernel_rfl) ?_ _
     have HX8:=zh aA.2.2
     clear aA HVD HCMP HDR HAB
     go_upto_region 13 with fail
     obtain ⟨W8,hW8⟩:∃ W8,W8=w8:=⟨_,rfl⟩
     subst hW8
     have HS8:=zh (HS7.out.ext HX8.out)
     have HC8:=zh (HC7.out.ext HX8.out)
     have HR8:=zh (HR7.out.ext HX8.out)
     have HSP:=zh (show (⟨s1.C.take k ++ (⟨c,a⟩:DeR) :: s1.C.drop k,s1.Q,s1.K,s1.P,s1.G⟩:StV)=⟨dK s0.C c a,s0.Q,s0.K,s0.P,s0.G⟩ from by
      have e:s1.V=s0.V:=HV1.out
      have e1:s1.C=s0.C:=congrArg StV.C e
      have e2:s1.Q=s0.Q:=congrArg StV.Q e
      have e3:s1.K=s0.K:=congrArg StV.K e
      have e4:s1.P=s0.P:=congrArg StV.P e
      have e5:s1.G=s0.G:=congrArg StV.G e
      have h1:dK s1.C c a=eB (fun y=>eE c y.c) ⟨c,a⟩ s1.C:=by
       unfold dK
       rw [HNO.out]
       simp only
       rw [gT (fH.1 HAW.out),if_neg HA0.out]
      rw [← e1,h1,jA (fun y=>eE c y.c) ⟨c,a⟩ s1.C k (by rw [HL1.out];exact HKN.out) (fun j hj hl=>by rw [cC hl];exact HPJ.out j hj) (fun h9=>by rw [cC h9];exact HPK.out (by rw [← HL1.out];exact h9)),e2,e3,e4,e5])
     clear b1 i0 i1
     have HSL:=zh (show SlG W8 s1.A1 s1.n1 s1.c1 s1.C from HS8.out.own.ok.s1)
     have hkn:k≤s1.n1:=HKN.out
     have hnc:s1.n1≤s1.c1:=HSL.out.le
     have hcm:s1.c1≤9223372036854775807:=HSL.out.cap
     have hn9:=HBD.out
     have z0:(0:Int)≤(k:Int):=by omega
     have z1:(k:Int)≤(s1.n1:Int):=by omega
     have z2:(k:Int)≤(s1.c1:Int):=by omega
     have z3:(s1.n1:Int)≤(s1.c1:Int):=by omega
     have q9:W8.cell? ⟨w.heap.size,0,none⟩=some (.slice s1.A1 s1.n1 s1.c1):=HS8.out.blk.cell 0
     go_upto_region 14 with (first | ((with_reducible refine tE (size:=11) rfl rfl qT ?_);intro A5 W5 h5;have HO5:=zh h5.out.1;have HX5:=zh h5.out.2;have HU5:=zh ((HSL.out.ext h5.out.2).upto hkn (Nat.le_trans hkn hnc) hcm);have HL5:=zh (show (gcs (s1.C.take k)).length=k * 11 from by rw [aH,HU5.out.len];rfl);have q9:W5.cell? ⟨w.heap.size,0,none⟩=some (.slice s1.A1 s1.n1 s1.c1):=(HS8.out.blk.ext h5.out.2).cell 0) | (at_builtin;go_must (refine rN deE rfl (.tmp 70) (.tmp 74) rfl W8.heap.size A5 rfl HO5.out s1.A1 k s1.c1 (gcs (s1.C.take k)) rfl HU5.out.rd HL5.out (cD _) (by omega) (by omega) HX5.out.size ?_;intro A6 c6 W6 ho6 he6)))
     have HO6:=zh ho6
     have HX6:=zh (HX5.out.trans he6)
     have HC6:=zh (HC8.out.ext HX6.out)
     clear ho6 he6 h5 HO5 HX5 HU5 HL5 q9
     have rc:W6.rangeAt (w.heap.size+1) 0 (RowT.enc c):=aD HC6.out
     have HBD2:=zh (fun W=>nB c a W)
     rw [HVC.out] at HBD2
     obtain ⟨vd,hvd⟩:∃ v,Value.agg (deA ⟨c,a⟩)=v:=⟨_,rfl⟩
     rw [hvd] at HBD2
     have HVD:=zh hvd
     have HBS:=zh (fun W=>mK (⟨c,a⟩:DeR) W)
     rw [hvd] at HBS
     clear hvd
     go_upto_region 15 with (first | (with_reducible refine aB ceP rfl (.tmp 4) rfl (w.heap.size+1) 0 rfl c vc HVC.out rc ?_) | (with_reducible refine gU rfl (kZ (vx:=vc) (vy:=.int .i64 a) (.tmp 77) (.tmp 78) rfl rfl rfl HBD2.out) ?_) | ((with_reducible refine gW (vx:=vd) rfl (.tmp 79) rfl rfl (HBS.out _) ?_);intro g7 W7' h7;have HO7:=zh (bA HO6.out h7.out.2.1);have HZ7:=zh (Nat.le_trans HX6.out.size h7.out.2.1.size);have HRE:=zh (show Rd W7' (some ⟨g7,0,none⟩) (RowT.enc (⟨c,a⟩:DeR)) from Rd.of_blk h7.out.1);have HLE:=zh (show (RowT.enc (⟨c,a⟩:DeR)).length=1 * 11 from by rw [RowT.len];rfl)) | (at_builtin;go_must (refine bO deE rfl (.tmp 76) (.tmp 80) rfl W8.heap.size A6 k c6 _ rfl HO7.out (some ⟨g7,0,none⟩) 1 1 (RowT.enc (⟨c,a⟩:DeR)) rfl HRE.out HLE.out (RowT.one (⟨c,a⟩:DeR)) (by omega) (by omega) HZ7.out ?_;intro A9 c9 W9 ho9 hg9)))
     have HX9:=zh (show Ext W8 W9 from Below.grown (HX6.out.trans h7.out.2.1) hg9 (HX6.out.trans h7.out.2.1).size (fun q hq=>(World.ownsRow.lt HO7.out q hq).1))
     have HO9:=zh (show W9.ownsRow W8.heap.size 34 11 (.slice A9 (k+1) c9) (k+1) (gcs (s1.C.take k ++ [(⟨c,a⟩:DeR)])) from by rw [bS,fQ];exact ho9)
     have q9:W9.cell? ⟨w.heap.size,0,none⟩=some (.slice s1.A1 s1.n1 s1.c1):=(HS8.out.blk.ext HX9.out).cell 0
     have HRD:=zh (HSL.out.ext HX9.out).rd
     have HSN:=zh HSL.out.len
     clear h7 ho9 hg9 HO7 HRE HX6 HO6 HC6
     go_upto_region 16 with (first | ((with_reducible refine pC rfl (.tmp 84) (.tmp 85) rfl s1.A1 s1.n1 s1.c1 k rfl rfl hkn hnc ?_);intro A8 h8;have HR8':=zh (show Rd W9 A8 (gcs (s1.C.drop k)) from by rw [← h8.out];exact Rd.cutG HRD.out rfl HSN.out hkn hnc);have HL8:=zh (show (gcs (s1.C.drop k)).length=(s1.n1 - k) * 11 from by rw [aH,List.length_drop,HSN.out];rfl)) | (at_builtin;go_must (refine bO deE rfl (.tmp 82) (.tmp 86) rfl W8.heap.size A9 (k+1) c9 _ rfl HO9.out A8 (s1.n1 - k) (s1.c1 - k) (gcs (s1.C.drop k)) rfl HR8'.out HL8.out (cD _) (by omega) (by omega) HX9.out.size ?_;intro A10 c10 W10 ho10 hg10;have HX10:=zh (show Ext W8 W10 from Below.grown HX9.out hg10 HX9.out.size (fun q hq=>(World.ownsRow.lt HO9.out q hq).1));have q9:W10.cell? ⟨w.heap.size,0,none⟩=some (.slice s1.A1 s1.n1 s1.c1):=(HS8.out.blk.ext HX10.out).cell 0;have f9:=(HS8.out.blk.ext HX10.out).frozen 0)))
     have HO10:=zh (show W10.ownsRow w.heap.size 34 11 (.slice A10 (k+1+(s1.n1 - k)) c10) (k+1+(s1.n1 - k)) (gcs (s1.C.take k ++ (⟨c,a⟩:DeR) :: s1.C.drop k)) from by
      have:=ho10
      rw [← bS,List.append_assoc] at this
      exact bB this HS8.out.low.size)
     have hwf:∀ d ∈ s1.C.take k ++ (⟨c,a⟩:DeR) :: s1.C.drop k,deW d:=(by
      intro d hd
      rcases List.mem_append.1 hd with hd | hd
      ·exact HS8.out.own.k1 d (List.mem_of_mem_take hd)
      rcases List.mem_cons.1 hd with rfl | hd
      ·exact ⟨HCW.out,HAW.out⟩
      exact HS8.out.own.k1 d (List.mem_of_mem_drop hd))
     have HF:=zh (HS8.out.row1 (Ext.grown HX10.out _) HO10.out hwf)
     obtain ⟨WF,hWF⟩:∃ WF,W10.setCell ⟨w.heap.size,0,none⟩ (.slice A10 (k+1+(s1.n1 - k)) c10)=WF:=⟨_,rfl⟩
     rw [hWF] at HF ⊢
     have HRF:=zh (show Blk WF (w.heap.size+2) 44 (ssA ss0) from by rw [← hWF];exact (HR8.out.ext HX10.out).far (p:=⟨w.heap.size,0,none⟩) (show w.heap.size+2 ≠ w.heap.size by omega) _)
     clear hWF ho10 hg10 h8 HR8' HL8 HRD q9 f9 HO9 HX9 HO10 HX10 hwf
     obtain ⟨q0,q1,q2,q3,q4⟩:=aE HF.out.blk
     go_wp2_with ((with_reducible refine aK rfl (.tmp 6) (.tmp 89) rfl (w.heap.size+2) ({ s1 with A1:=A10,n1:=k+1+(s1.n1 - k),c1:=c10,C:=s1.C.take k ++ (⟨c,a⟩:DeR) :: s1.C.drop k }) rfl rfl HRF.out ?_);intro W9 h9)
     exact rtS _ _ HF.out HRF.out (by omega) h9 (by rw [← HSP.out];rfl)
   have i1:¬ (k:Int) < (s1.n1:Int):=by omega
   have HPK:=zh (show k < s1.n1→eE c (nthG s1.C k).c=true from fun h=>absurd h hlt)
   go_upto_region 11 with fail
   refine wp_region_held_drew (S:=fun V=>Blk V w.heap.size 44 (ssA s1)∧Blk V (w.heap.size+1) 32 (ceA c)∧Ext W7 V) (by kernel_rfl) (⟨(HS7.out.blk.ext HXW.out).drew,(HC7.out.ext HXW.out).drew,HXW.out.trans ((Ext.refl _).drew')⟩) (fun aA=>?_)
   refine zz0 [0,1,2,3,4,5] ?_;repeat first | refine zz1 ?_ (hy:=by intro W aM;have q9:W.cell? ⟨w.heap.size,0,none⟩=some (.slice s1.A1 s1.n1 s1.c1):=aM.1.cell 0;go_simp <;> with_reducible rfl) | refine zz2 ?_ | refine zz9 ?_
   (refine zs 6 aA ?_)
   (refine zs 7 aA ?_)
   (refine zs 8 aA ?_)
   (refine zs 9 aA ?_)
   (refine zs 10 aA ?_)
   (refine zs 11 aA ?_)
   (refine zs 12 aA ?_)
   (refine zs 13 aA ?_)
   (refine zs 14 aA ?_)
   refine zt 15 aA ?_
   refine wpAnyH_done (by kernel_rfl) ?_ _
   have HX8:=zh aA.2.2
   clear aA
   go_upto_region 13 with fail
   obtain ⟨W8,hW8⟩:∃ W8,wr.drew=W8:=⟨_,rfl⟩
   rw [hW8] at HX8 ⊢
   clear hW8
   have HS8:=zh (HS7.out.ext HX8.out)
   have HC8:=zh (HC7.out.ext HX8.out)
   have HR8:=zh (HR7.out.ext HX8.out)
   have HSP:=zh (show (⟨s1.C.take k ++ (⟨c,a⟩:DeR) :: s1.C.drop k,s1.Q,s1.K,s1.P,s1.G⟩:StV)=⟨dK s0.C c a,s0.Q,s0.K,s0.P,s0.G⟩ from by
    have e:s1.V=s0.V:=HV1.out
    have e1:s1.C=s0.C:=congrArg StV.C e
    have e2:s1.Q=s0.Q:=congrArg StV.Q e
    have e3:s1.K=s0.K:=congrArg StV.K e
    have e4:s1.P=s0.P:=congrArg StV.P e
    have e5:s1.G=s0.G:=congrArg StV.G e
    have h1:dK s1.C c a=eB (fun y=>eE c y.c) ⟨c,a⟩ s1.C:=by
     unfold dK
     rw [HNO.out]
     simp only
     rw [gT (fH.1 HAW.out),if_neg HA0.out]
    rw [← e1,h1,jA (fun y=>eE c y.c) ⟨c,a⟩ s1.C k (by rw [HL1.out];exact HKN.out) (fun j hj hl=>by rw [cC hl];exact HPJ.out j hj) (fun h9=>by rw [cC h9];exact HPK.out (by rw [← HL1.out];exact h9)),e2,e3,e4,e5])
   clear i1
   have HSL:=zh (show SlG W8 s1.A1 s1.n1 s1.c1 s1.C from HS8.out.own.ok.s1)
   have hkn:k≤s1.n1:=HKN.out
   have hnc:s1.n1≤s1.c1:=HSL.out.le
   have hcm:s1.c1≤9223372036854775807:=HSL.out.cap
   have hn9:=HBD.out
   have z0:(0:Int)≤(k:Int):=by omega
   have z1:(k:Int)≤(s1.n1:Int):=by omega
   have z2:(k:Int)≤(s1.c1:Int):=by omega
   have z3:(s1.n1:Int)≤(s1.c1:Int):=by omega
   have q9:W8.cell? ⟨w.heap.size,0,none⟩=some (.slice s1.A1 s1.n1 s1.c1):=HS8.out.blk.cell 0
   go_upto_region 14 with (first | ((with_reducible refine tE (size:=11) rfl rfl qT ?_);intro A5 W5 h5;have HO5:=zh h5.out.1;have HX5:=zh h5.out.2;have HU5:=zh ((HSL.out.ext h5.out.2).upto hkn (Nat.le_trans hkn hnc) hcm);have HL5:=zh (show (gcs (s1.C.take k)).length=k * 11 from by rw [aH,HU5.out.len];rfl);have q9:W5.cell? ⟨w.heap.size,0,none⟩=some (.slice s1.A1 s1.n1 s1.c1):=(HS8.out.blk.ext h5.out.2).cell 0) | (at_builtin;go_must (refine rN deE rfl (.tmp 70) (.tmp 74) rfl W8.heap.size A5 rfl HO5.out s1.A1 k s1.c1 (gcs (s1.C.take k)) rfl HU5.out.rd HL5.out (cD _) (by omega) (by omega) HX5.out.size ?_;intro A6 c6 W6 ho6 he6)))
   have HO6:=zh ho6
   have HX6:=zh (HX5.out.trans he6)
   have HC6:=zh (HC8.out.ext HX6.out)
   clear ho6 he6 h5 HO5 HX5 HU5 HL5 q9
   have rc:W6.rangeAt (w.heap.size+1) 0 (RowT.enc c):=aD HC6.out
   have HBD2:=zh (fun W=>nB c a W)
   rw [HVC.out] at HBD2
   obtain ⟨vd,hvd⟩:∃ v,Value.agg (deA ⟨c,a⟩)=v:=⟨_,rfl⟩
   rw [hvd] at HBD2
   have HVD:=zh hvd
   have HBS:=zh (fun W=>mK (⟨c,a⟩:DeR) W)
   rw [hvd] at HBS
   clear hvd
   go_upto_region 15 with (first | (with_reducible refine aB ceP rfl (.tmp 4) rfl (w.heap.size+1) 0 rfl c vc HVC.out rc ?_) | (with_reducible refine gU rfl (kZ (vx:=vc) (vy:=.int .i64 a) (.tmp 77) (.tmp 78) rfl rfl rfl HBD2.out) ?_) | ((with_reducible refine gW (vx:=vd) rfl (.tmp 79) rfl rfl (HBS.out _) ?_);intro g7 W7' h7;have HO7:=zh (bA HO6.out h7.out.2.1);have HZ7:=zh (Nat.le_trans HX6.out.size h7.out.2.1.size);have HRE:=zh (show Rd W7' (some ⟨g7,0,none⟩) (RowT.enc (⟨c,a⟩:DeR)) from Rd.of_blk h7.out.1);have HLE:=zh (show (RowT.enc (⟨c,a⟩:DeR)).length=1 * 11 from by rw [RowT.len];rfl)) | (at_builtin;go_must (refine bO deE rfl (.tmp 76) (.tmp 80) rfl W8.heap.size A6 k c6 _ rfl HO7.out (some ⟨g7,0,none⟩) 1 1 (RowT.enc (⟨c,a⟩:DeR)) rfl HRE.out HLE.out (RowT.one (⟨c,a⟩:DeR)) (by omega) (by omega) HZ7.out ?_;intro A9 c9 W9 ho9 hg9)))
   have HX9:=zh (show Ext W8 W9 from Below.grown (HX6.out.trans h7.out.2.1) hg9 (HX6.out.trans h7.out.2.1).size (fun q hq=>(World.ownsRow.lt HO7.out q hq).1))
   have HO9:=zh (show W9.ownsRow W8.heap.size 34 11 (.slice A9 (k+1) c9) (k+1) (gcs (s1.C.take k ++ [(⟨c,a⟩:DeR)])) from by rw [bS,fQ];exact ho9)
   have q9:W9.cell? ⟨w.heap.size,0,none⟩=some (.slice s1.A1 s1.n1 s1.c1):=(HS8.out.blk.ext HX9.out).cell 0
   have HRD:=zh (HSL.out.ext HX9.out).rd
   have HSN:=zh HSL.out.len
   clear h7 ho9 hg9 HO7 HRE HX6 HO6 HC6
   go_upto_region 16 with (first | ((with_reducible refine pC rfl (.tmp 84) (.tmp 85) rfl s1.A1 s1.n1 s1.c1 k rfl rfl hkn hnc ?_);intro A8 h8;have HR8':=zh (show Rd W9 A8 (gcs (s1.C.drop k)) from by rw [← h8.out];exact Rd.cutG HRD.out rfl HSN.out hkn hnc);have HL8:=zh (show (gcs (s1.C.drop k)).length=(s1.n1 - k) * 11 from by rw [aH,List.length_drop,HSN.out];rfl)) | (at_builtin;go_must (refine bO deE rfl (.tmp 82) (.tmp 86) rfl W8.heap.size A9 (k+1) c9 _ rfl HO9.out A8 (s1.n1 - k) (s1.c1 - k) (gcs (s1.C.drop k)) rfl HR8'.out HL8.out (cD _) (by omega) (by omega) HX9.out.size ?_;intro A10 c10 W10 ho10 hg10;have HX10:=zh (show Ext W8 W10 from Below.grown HX9.out hg10 HX9.out.size (fun q hq=>(World.ownsRow.lt HO9.out q hq).1));have q9:W10.cell? ⟨w.heap.size,0,none⟩=some (.slice s1.A1 s1.n1 s1.c1):=(HS8.out.blk.ext HX10.out).cell 0;have f9:=(HS8.out.blk.ext HX10.out).frozen 0)))
   have HO10:=zh (show W10.ownsRow w.heap.size 34 11 (.slice A10 (k+1+(s1.n1 - k)) c10) (k+1+(s1.n1 - k)) (gcs (s1.C.take k ++ (⟨c,a⟩:DeR) :: s1.C.drop k)) from by
    have:=ho10
    rw [← bS,List.append_assoc] at this
    exact bB this HS8.out.low.size)
   have hwf:∀ d ∈ s1.C.take k ++ (⟨c,a⟩:DeR) :: s1.C.drop k,deW d:=(by
    intro d hd
    rcases List.mem_append.1 hd with hd | hd
    ·exact HS8.out.own.k1 d (List.mem_of_mem_take hd)
    rcases List.mem_cons.1 hd with rfl | hd
    ·exact ⟨HCW.out,HAW.out⟩
    exact HS8.out.own.k1 d (List.mem_of_mem_drop hd))
   have HF:=zh (HS8.out.row1 (Ext.grown HX10.out _) HO10.out hwf)
   obtain ⟨WF,hWF⟩:∃ WF,W10.setCell ⟨w.heap.size,0,none⟩ (.slice A10 (k+1+(s1.n1 - k)) c10)=WF:=⟨_,rfl⟩
   rw [hWF] at HF ⊢
   have HRF:=zh (show Blk WF (w.heap.size+2) 44 (ssA ss0) from by rw [← hWF];exact (HR8.out.ext HX10.out).far (p:=⟨w.heap.size,0,none⟩) (show w.heap.size+2 ≠ w.heap.size by omega) _)
   clear hWF ho10 hg10 h8 HR8' HL8 HRD q9 f9 HO9 HX9 HO10 HX10 hwf
   obtain ⟨q0,q1,q2,q3,q4⟩:=aE HF.out.blk
   go_wp2_with ((with_reducible refine aK rfl (.tmp 6) (.tmp 89) rfl (w.heap.size+2) ({ s1 with A1:=A10,n1:=k+1+(s1.n1 - k),c1:=c10,C:=s1.C.take k ++ (⟨c,a⟩:DeR) :: s1.C.drop k }) rfl rfl HRF.out ?_);intro W9 h9)
   exact rtS _ _ HF.out HRF.out (by omega) h9 (by rw [← HSP.out];rfl)
 obtain ⟨d,hd⟩:∃ d,nthG s1.C k=d:=⟨_,rfl⟩
 have HDK:=zh hd
 have hkn:k < s1.n1:=by rw [← HL1.out];exact hk
 have HKN:=zh hkn
 have HH1:=zh h1
 have HH2:=zh h2
 have HS8:=zh (HS7.out.ext HX0.out)
 have HR8:=zh (HR7.out.ext HX0.out)
 obtain ⟨bb,hab,-,hrow⟩:=cF HS8.out.own.o1 (show 0 < s1.n1 by omega)
 have HAB:=zh hab
 have HAM:=zh (fun (V:World) (e:Ext W0 V)=>show V.cell? ⟨bb,k * 11+10,none⟩=some (.int .i64 d.a) from by
  rw [← hd]
  obtain ⟨b2,e2,-,hr2⟩:=cF (bA HS8.out.own.o1 e) (show 0 < s1.n1 by omega)
  rw [HAB.out] at e2
  injection e2 with e3
  injection e3 with e4
  subst e4
  have h1:=cG (k:=k) hr2 hk
  rw [Nat.zero_add] at h1
  exact h1 10 _ rfl)
 have HFZ:=zh (fun (V:World) (e:Ext W0 V)=>show V.frozen? ⟨bb,k * 11+10,none⟩=false from by
  have h5:=bA HS8.out.own.o1 e
  rw [HAB.out] at h5
  exact h5.frozenAt _)
 have hb5:W0.ownsRow w.heap.size 34 11 (.slice (some ⟨bb,0,none⟩) s1.n1 s1.c1) s1.n1 (gcs s1.C):=by have:=HS8.out.own.o1;rwa [hab] at this
 have HN1:=zh (show w.heap.size ≠ bb from fun e=>aI hb5 HS8.out.blk (by decide) (by rw [e];rfl))
 have HN2:=zh (show w.heap.size+2 ≠ bb from fun e=>aI hb5 HR8.out (by decide) (by rw [e];rfl))
 obtain ⟨zq,hzq⟩:∃ z,wrap64 (d.a+a)=z:=⟨_,rfl⟩
 have HZQ:=zh hzq
 have HZW:=zh (show wr (d.a+a)=zq from by rw [← hzq];exact xK _)
 have i0:(0:Int)≤(k:Int):=by omega
 have i1:(k:Int) < (s1.n1:Int):=by omega
 clear hd hk h1 h2 hab hrow hb5 hzq
 go_upto_region 4 with fail
 refine wp_region_held_drew (S:=fun V=>Blk V w.heap.size 44 (ssA s1)∧Blk V (w.heap.size+2) 44 (ssA ss0)) (by kernel_rfl) (⟨(HS8.out.blk).drew,HR8.out.drew⟩) (fun aA=>?_)
 refine zz0 [0,1,2,3,4,5,6,7,9] ?_;repeat first | refine zz1 ?_ (hy:=by intro W aM;have q9:W.cell? ⟨w.heap.size,0,none⟩=some (.slice (some ⟨bb,0,none⟩) s1.n1 s1.c1):=(by rw [← HAB.out];exact aM.1.cell 0);go_simp <;> with_reducible rfl) | refine zz2 ?_ | refine zz9 ?_
 refine zzj (VE 8 (.int .i64 d.a) VN) [(8,some 25)] 4 (fun V V' h e=>⟨h.1.ext e,h.2.ext e⟩) (ve VN.ext) (zzc ?_ zzn) ?_
 ·refine zzp fun W hE hS K hK => ?_
  have c9:=HAM.out W (((Ext.refl _).drew').trans hE)
  go_simp
  exact zzF hK (.int .i64 d.a)
 intro env W hE hS hV
 obtain ⟨h8,-⟩:=zzV hV
 clear hV
 simp only [aO,h8]
 clear h8
 have aA:=hS
 refine zu 10 (v:=.int .i64 zq) aA ?_ (hy:=by refine .inl ⟨by rfl,fun V _=>?_⟩;rw [← HZW.out];go_simp;try rfl)
 refine zzr [11,12] ?_
 refine za 13 (fun K hK=>?_)
 (have c9:=HAM.out W (((Ext.refl _).drew').trans hE);have f9:=HFZ.out W (((Ext.refl _).drew').trans hE);go_simp)
 refine hK.out _ _ (⟨aA.1.far (p:=⟨bb,k * 11+10,none⟩) HN1.out _,aA.2.far (p:=⟨bb,k * 11+10,none⟩) HN2.out _⟩) (fun aA=>?_)
 clear hK K
 try simp only [aS]
 refine wpAnyH_done (by kernel_rfl) ?_ _
 have HE9:=zh (((Ext.refl W0).drew').trans hE)
 obtain ⟨s2,hs2⟩:∃ s2:StR,{ s1 with C:=s1.C.set k ⟨d.c,zq⟩ }=s2:=⟨_,rfl⟩
 have HS9:=zh (show StB w (W.setCell ⟨bb,k * 11+10,none⟩ (.int .i64 zq)) w.heap.size s2 from by
  rw [← hs2]
  have hkl:k < s1.C.length:=by rw [HL1.out];exact HKN.out
  refine (HS8.out.ext HE9.out).cell1 HAB.out (k * 11+10) (.int .i64 zq) (by rw [aAl zq hkl,HDK.out]) (fun x hx=>?_)
  rcases List.mem_or_eq_of_mem_set hx with hx | rfl
  ·exact HS8.out.own.k1 x hx
  exact ⟨(HS8.out.own.k1 d (by rw [← HDK.out];exact gE hkl)).1,by rw [← HZW.out];exact fH.2 (aAO _)⟩)
 have HR9:=zh aA.2
 have HC9:=zh (show (W.setCell ⟨bb,k * 11+10,none⟩ (.int .i64 zq)).cell? ⟨bb,k * 11+10,none⟩=some (.int .i64 zq) from by
  have h5:=HS9.out.own.o1
  obtain ⟨b2,e2,-,hr2⟩:=cF h5 (show 0 < s2.n1 by rw [← hs2];show 0 < s1.n1;have:=HKN.out;omega)
  have e5:s2.A1=some ⟨bb,0,none⟩:=by rw [← hs2];exact HAB.out
  rw [e5] at e2
  injection e2 with e3
  injection e3 with e4
  subst e4
  have h1:=cG (k:=k) hr2 (by rw [← hs2];show k < (s1.C.set k _).length;rw [List.length_set,HL1.out];exact HKN.out)
  rw [Nat.zero_add] at h1
  have h2:nthG s2.C k=⟨d.c,zq⟩:=by rw [← hs2];show (s1.C.set k ⟨d.c,zq⟩).getD k _=_;rw [List.getD_eq_getElem?_getD,List.getElem?_set_self (by rw [HL1.out];exact HKN.out)];rfl
  rw [h2] at h1
  exact h1 10 _ rfl)
 have HSC:=zh (show s2.A1=some ⟨bb,0,none⟩∧s2.n1=s1.n1∧s2.C=s1.C.set k ⟨d.c,zq⟩∧s2.n2=s1.n2∧s2.n3=s1.n3∧s2.n4=s1.n4∧s2.Q=s1.Q∧s2.K=s1.K∧s2.P=s1.P∧s2.G=s1.G from by rw [← hs2];exact ⟨HAB.out,rfl,rfl,rfl,rfl,rfl,rfl,rfl,rfl,rfl⟩)
 have HAD0:=zh (show dK s1.C c a=lF c zq s1.C from by
  unfold dK
  rw [qE (by rw [HL1.out];exact HKN.out) HH1.out HH2.out,HDK.out]
  simp only
  rw [HZW.out])
 have HST:=zh (zB (c:=c) zq (C:=s1.C) (k:=k) (by rw [HL1.out];exact HKN.out) HH1.out HH2.out)
 obtain ⟨W9,hW9⟩:∃ W9,W.setCell ⟨bb,k * 11+10,none⟩ (.int .i64 zq)=W9:=⟨_,rfl⟩
 rw [hW9] at HS9 HR9 HC9 ⊢
 have HKN2:=zh (show k < s2.n1 from by rw [HSC.out.2.1];exact HKN.out)
 have HAB2:=HAB
 clear HAB
 have HAB:=zh HSC.out.1
 have HBD1:=HBD
 clear HBD
 have HBD:=zh (show s2.n1≤1000000∧s2.n2≤1000000∧s2.n3≤1000000∧s2.n4≤1000000 from by
  rw [HSC.out.2.1,HSC.out.2.2.2.1,HSC.out.2.2.2.2.1,HSC.out.2.2.2.2.2.1];exact HBD1.out)
 have HVE:=zh (show ∀ X:List DeR,(⟨X,s2.Q,s2.K,s2.P,s2.G⟩:StV)=⟨X,s0.Q,s0.K,s0.P,s0.G⟩ from fun X=>by
  obtain ⟨-,-,-,-,-,-,e2,e3,e4,e5⟩:=HSC.out
  have e:s1.V=s0.V:=HV1.out
  rw [e2,e3,e4,e5,show s1.Q=s0.Q from congrArg StV.Q e,show s1.K=s0.K from congrArg StV.K e,show s1.P=s0.P from congrArg StV.P e,show s1.G=s0.G from congrArg StV.G e])
 have HC1:=zh (show s1.C=s0.C from congrArg StV.C HV1.out)
 have q9:W9.cell? ⟨w.heap.size,0,none⟩=some (.slice (some ⟨bb,0,none⟩) s2.n1 s2.c1):=by rw [← HAB.out];exact HS9.out.blk.cell 0
 have c9:=HC9.out
 have i2:(k:Int) < (s2.n1:Int):=by have:=HKN2.out;omega
 clear hs2 hW9 aA hE hS i1
 by_cases hz:zq=0
 ·have HSP:=zh (show (⟨s2.C.take k ++ s2.C.drop (k+1),s2.Q,s2.K,s2.P,s2.G⟩:StV)=⟨dK s0.C c a,s0.Q,s0.K,s0.P,s0.G⟩ from by
   rw [HVE.out,← HC1.out,HAD0.out,HST.out,if_pos hz,HSC.out.2.2.1,List.take_set_of_le (Nat.le_refl _),List.drop_set_of_lt (by omega)])
  have b0:(zq == 0)=true:=beq_iff_eq.2 hz
  have b1:decide (zq=0)=true:=decide_eq_true hz
  clear hz HST HAD0
  go_upto_region 6 with fail
  clear q9 c9 b0 b1 i2
  have HS8b:=HS9
  have HR8b:=HR9
  have HSD:=zh (HS8b.out.ext ((Ext.refl W9).drew'))
  have HRS:=zh (HR8b.out.ext ((Ext.refl W9).drew'))
  have HKI:=zh (show k < s2.n1 from HKN2.out)
  have HBI:=zh HBD.out
  obtain ⟨ad,had⟩:∃ ad:Addr,(if s2.c1=k+1 then ⟨bb,0,none⟩ else (⟨bb,(k+1) * 11,none⟩:Addr))=ad:=⟨_,rfl⟩
  have HAD:=zh had
  have z0:(0:Int)≤(k:Int):=by omega
  have hz9:k < s2.n1:=HKN2.out
  have hzc:s2.n1≤s2.c1:=(dN HSD.out.own.o1).1
  have z1:(k:Int)≤(s2.n1:Int):=by omega
  have z2:(k:Int)≤(s2.c1:Int):=by omega
  have z3:(s2.n1:Int)≤(s2.c1:Int):=by omega
  have HZC:=zh hzc
  have HAD2:=zh (show (if s2.c1=k+1 then (some ⟨bb,0,none⟩:Option Addr) else Option.map (fun x:Addr=>x.add ((k+1) * 11)) (some (⟨bb,0,none⟩:Addr)))=some ad from by
   rw [← had]
   split
   ·rfl
   rw [Option.map_some,Addr.add_mid,Nat.zero_add])
  clear had hzc hz9
  refine wp_region_held_drew (S:=fun _=>True) (by kernel_rfl) (trivial) (fun aA=>?_)
  refine zzr [0,2,4,6] ?_
  refine zu 7 (v:=.int .i64 ((k+1:Nat):Int)) aA ?_ (hy:=by refine .inl ⟨by rfl,fun V _=>?_⟩;go_simp;exact (gT ⟨by have:=HKI.out;have:=HBI.out;omega,by have:=HKI.out;have:=HBI.out;omega⟩).trans (by omega))
  refine cJ (VV 1 (fun v V=>v=.slice (some ⟨bb,0,none⟩) s2.n1 s2.c1) (VV 3 (fun v V=>v=.slice (some ⟨bb,0,none⟩) k s2.c1) (VV 5 (fun v V=>v=.slice (some ⟨bb,0,none⟩) s2.n1 s2.c1) (VV 8 (fun v V=>v=.slice (some ad) (s2.n1 - (k+1)) (s2.c1 - (k+1))) (VN))))) [(1,some 38),(3,some 40),(5,some 42),(8,some 45)] (fuel:=3) (by kernel_rfl) (by kernel_rfl) (fun _ _ h _=>h) (VV.ext (fun v w w' h e=>h) (VV.ext (fun v w w' h e=>h) (VV.ext (fun v w w' h e=>h) (VV.ext (fun v w w' h e=>h) (VN.ext))))) aA ?hm4 rfl ?hr4
  case hm4 =>
   refine Members.cons ?mm4_1 (Members.cons ?mm4_3 (Members.cons ?mm4_5 (Members.cons ?mm4_8 (Members.nil _))))
   case mm4_1 =>
    refine zm [] (fun env W hE hS hD K hK=>?_)
    clear hD
    try simp only [aO]
    have q9:W.cell? ⟨w.heap.size,0,none⟩=some (.slice (some ⟨bb,0,none⟩) s2.n1 s2.c1):=(by rw [← HAB.out];exact (HSD.out.blk.ext hE).cell 0)
    go_simp
    have hk:=hK.out (.slice (some ⟨bb,0,none⟩) s2.n1 s2.c1) _ (Ext.refl _) (rfl)
    try simp only [aO] at hk
    exact hk
   case mm4_3 =>
    refine zm [(1,some 38)] (fun env W hE hS hD K hK=>?_)
    have h1:(fun v V=>v=.slice (some ⟨bb,0,none⟩) s2.n1 s2.c1) (env 1) W:=hD (1,some 38) (by simp)
    clear hD
    try simp only [aO] at hK ⊢
    generalize env 1=x1 at h1 hK ⊢
    subst h1
    go_simp
    have hk:=hK.out (.slice (some ⟨bb,0,none⟩) k s2.c1) _ (Ext.refl _) (rfl)
    try simp only [aO] at hk
    exact hk
   case mm4_5 =>
    refine zm [] (fun env W hE hS hD K hK=>?_)
    clear hD
    try simp only [aO]
    have q9:W.cell? ⟨w.heap.size,0,none⟩=some (.slice (some ⟨bb,0,none⟩) s2.n1 s2.c1):=(by rw [← HAB.out];exact (HSD.out.blk.ext hE).cell 0)
    go_simp
    have hk:=hK.out (.slice (some ⟨bb,0,none⟩) s2.n1 s2.c1) _ (Ext.refl _) (rfl)
    try simp only [aO] at hk
    exact hk
   case mm4_8 =>
    refine zm [(5,some 42)] (fun env W hE hS hD K hK=>?_)
    have h5:(fun v V=>v=.slice (some ⟨bb,0,none⟩) s2.n1 s2.c1) (env 5) W:=hD (5,some 42) (by simp)
    clear hD
    try simp only [aO] at hK ⊢
    generalize env 5=x5 at h5 hK ⊢
    subst h5
    refine aFW (aCc (.tmp 42) (.tmp 44) rfl (some ⟨bb,0,none⟩) s2.n1 s2.c1 (k+1) (by rfl) (by rfl) HKI.out HZC.out (some ad) HAD2.out) ?_
    have hk:=hK.out (.slice (some ad) (s2.n1 - (k+1)) (s2.c1 - (k+1))) _ (Ext.refl _) (rfl)
    try simp only [aO] at hk
    exact hk
  case hr4 =>
   intro env W hE hS hV
   have h1:(fun v V=>v=.slice (some ⟨bb,0,none⟩) s2.n1 s2.c1) (env 1) W:=hV (1,some 38) (by simp)
   have h3:(fun v V=>v=.slice (some ⟨bb,0,none⟩) k s2.c1) (env 3) W:=hV (3,some 40) (by simp)
   have h5:(fun v V=>v=.slice (some ⟨bb,0,none⟩) s2.n1 s2.c1) (env 5) W:=hV (5,some 42) (by simp)
   have h8:(fun v V=>v=.slice (some ad) (s2.n1 - (k+1)) (s2.c1 - (k+1))) (env 8) W:=hV (8,some 45) (by simp)
   clear hV
   try simp only [aO]
   generalize env 1=x1 at h1 ⊢
   generalize env 3=x3 at h3 ⊢
   generalize env 5=x5 at h5 ⊢
   generalize env 8=x8 at h8 ⊢
   subst h1
   subst h3
   subst h5
   subst h8
   have hW:W.ownsRow w.heap.size 34 11 (.slice (some ⟨bb,0,none⟩) s2.n1 s2.c1) s2.n1 (gcs s2.C):=by have:=(HSD.out.ext hE).own.o1;rwa [HAB.out] at this
   obtain ⟨W1,hrun,ho1,hg1⟩:=aHQ deE rfl hW HKI.out (by have:=HBI.out;omega) ad HAD.out
   have HRUN:=zh hrun
   have HG1:=zh (show W.grownBy W1 (Value.ownBlock (.slice s2.A1 s2.n1 s2.c1)) from by rw [HAB.out];exact hg1)
   have HO1:=zh ho1
   have hb1:=(HSD.out.ext hE).blk.grown HG1.out (aI (HSD.out.ext hE).own.o1 (HSD.out.ext hE).blk (by decide))
   have HQ1:=zh (show W1.cell? ⟨w.heap.size,0,none⟩=some (.slice (some ⟨bb,0,none⟩) s2.n1 s2.c1) from by rw [← HAB.out];exact hb1.cell 0)
   have HF1:=zh (hb1.frozen 0)
   have HRD1:=zh ((HRS.out.ext hE).grown HG1.out (aI (HSD.out.ext hE).own.o1 (HRS.out.ext hE) (by decide)))
   clear hW hrun ho1 hg1 hb1
   have aA:=hS
   refine za 9 (fun K hK=>?_)
   (refine mH rfl (.tmp 40) (.tmp 45) rfl (.slice (some ⟨bb,0,none⟩) k s2.c1) (.slice (some ad) (s2.n1 - (k+1)) (s2.c1 - (k+1))) (by rfl) (by rfl) _ _ (HRUN.out _) ?_)
   refine hK.out _ _ (trivial) (fun aA=>?_)
   clear hK K
   try simp only [aS]
   refine zt 10 aA ?_
   refine za 11 (fun K hK=>?_)
   (have q9:=HQ1.out;have f9:=HF1.out;go_simp)
   refine hK.out _ _ (trivial) (fun aA=>?_)
   clear hK K
   try simp only [aS]
   refine wpAnyH_done (by kernel_rfl) ?_ _
   obtain ⟨WF,hWF⟩:∃ WF,W1.setCell ⟨w.heap.size,0,none⟩ (.slice (some ⟨bb,0,none⟩) (s2.n1 - 1) s2.c1)=WF:=⟨_,rfl⟩
   have HF:=zh (show StB w WF w.heap.size ({ s2 with A1:=some ⟨bb,0,none⟩,n1:=s2.n1 - 1,c1:=s2.c1,C:=s2.C.take k ++ s2.C.drop (k+1) }) from by rw [← hWF];exact (HSD.out.ext hE).row1 HG1.out HO1.out (fun d hd=>HSD.out.own.k1 d (by rcases List.mem_append.1 hd with hd | hd;exact List.mem_of_mem_take hd;exact List.mem_of_mem_drop hd)))
   have HRF:=zh (show Blk WF (w.heap.size+2) 44 (ssA ss0) from by rw [← hWF];exact HRD1.out.far (p:=⟨w.heap.size,0,none⟩) (show w.heap.size+2 ≠ w.heap.size by omega) _)
   try rw [hWF]
   clear hWF HRUN HG1 HO1 HQ1 HF1 HRD1 hE hS aA z0 z1 z2 z3
   obtain ⟨q0,q1,q2,q3,q4⟩:=aE HF.out.blk
   go_wp2_with ((with_reducible refine aK rfl (.tmp 6) (.tmp 48) rfl (w.heap.size+2) ({ s2 with A1:=some ⟨bb,0,none⟩,n1:=s2.n1 - 1,c1:=s2.c1,C:=s2.C.take k ++ s2.C.drop (k+1) }) rfl rfl HRF.out ?_);intro W9 h9)
   exact rtS _ _ HF.out HRF.out (by omega) h9 (by rw [← HSP.out];rfl)
 have HSP:=zh (show s2.V=⟨dK s0.C c a,s0.Q,s0.K,s0.P,s0.G⟩ from by
  show (⟨s2.C,s2.Q,s2.K,s2.P,s2.G⟩:StV)=_
  rw [HVE.out,← HC1.out,HAD0.out,HST.out,if_neg hz,HSC.out.2.2.1,HDK.out])
 have b0:(zq == 0)=false:=beq_eq_false_iff_ne.2 hz
 have b1:decide (zq=0)=false:=decide_eq_false hz
 clear hz HST HAD0
 go_upto_region 7 with fail
 clear q9 c9 b0 b1 i2
 have HF:=HS9
 have HRF:=HR9
 obtain ⟨q0,q1,q2,q3,q4⟩:=aE HF.out.blk
 go_wp2_with ((with_reducible refine aK rfl (.tmp 6) (.tmp 48) rfl (w.heap.size+2) (s2) rfl rfl HRF.out ?_);intro W9 h9)
 exact rtS _ _ HF.out HRF.out (by omega) h9 (HSP.out)
end
end Go.Proofs.YtohmmcahpakokaaGreat
