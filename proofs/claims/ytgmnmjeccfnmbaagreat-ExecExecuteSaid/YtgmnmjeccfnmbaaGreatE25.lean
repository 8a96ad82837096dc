import Derived.Test.YtgmnmjeccfnmbaaGreatE24
set_option maxRecDepth 100000
set_option maxHeartbeats 8000000
set_option linter.unusedVariables false
set_option linter.unusedSimpArgs false
namespace Go.Proofs.YtgmnmjeccfnmbaaGreat
theorem tj {p:Prop} (h:p:=by
 have q9:W8.cell? ⟨w.heap.size,2,none⟩=some (.slice s1.A3 s1.n3 s1.c3):=HS8.out.blk.cell 2
 go_upto_region 9 with (first | ((with_reducible refine jH (size:=19) rfl rfl tB ?_);intro A5 W5 h5;have HO5:=zh h5.out.1;have HX5:=zh h5.out.2;have HU5:=zh ((HSL.out.ext h5.out.2).upto hkn (Nat.le_trans hkn hnc) hcm);have HL5:=zh (show (gcs (s1.K.take k)).length=k * 19 from jh);have q9:W5.cell? ⟨w.heap.size,2,none⟩=some (.slice s1.A3 s1.n3 s1.c3):=(HS8.out.blk.ext h5.out.2).cell 2) | (at_builtin;go_must (refine iH lkE rfl (.tmp 39) (.tmp 43) rfl W8.heap.size A5 rfl HO5.out s1.A3 k s1.c3 (gcs (s1.K.take k)) rfl HU5.out.rd HL5.out (bP _) aa aa HX5.out.size ?_;intro A6 c6 W6 ho6 he6)))
 have HO6:=zh ho6
 have HX6:=zh (HX5.out.trans he6)
 have HC6:=zh (HC8.out.ext HX6.out)
 have rc:W6.rangeAt (w.heap.size+1) 0 (RowT.enc d):=aC HC6.out
 obtain ⟨vd,hvd⟩:=gx (Value.agg (lkA d))
 have HVD:=zh hvd
 have HBS:=zh (fun W=>oK (d) W)
 rw [hvd] at HBS
 go_upto_region 10 with (first | (with_reducible refine aD lkP rfl (.tmp 3) rfl (w.heap.size+1) 0 rfl d vd HVD.out rc ?_) | ((with_reducible refine fG (vx:=vd) rfl (.tmp 46) rfl rfl (HBS.out _) ?_);intro g7 W7' h7;have HO7:=zh (bC HO6.out h7.out.2.1);have HZ7:=zh (Nat.le_trans HX6.out.size h7.out.2.1.size);have HRE:=zh (show Rd W7' (some ⟨g7,0,none⟩) (RowT.enc (d)) from Rd.of_blk h7.out.1);have HLE:=zh (show (RowT.enc (d)).length=1 * 19 from ip)) | (at_builtin;go_must (refine bK lkE rfl (.tmp 45) (.tmp 47) rfl W8.heap.size A6 k c6 _ rfl HO7.out (some ⟨g7,0,none⟩) 1 1 (RowT.enc (d)) rfl HRE.out HLE.out (RowT.one (d)) aa aa HZ7.out ?_;intro A9 c9 W9 ho9 hg9)))
 have HX9:=zh (show Ext W8 W9 from Below.grown (HX6.out.trans h7.out.2.1) hg9 (HX6.out.trans h7.out.2.1).size (fun q hq=>(World.ownsRow.lt HO7.out q hq).1))
 have HO9:=zh (show W9.ownsRow W8.heap.size 81 19 (.slice A9 (k+1) c9) (k+1) (gcs (s1.K.take k ++ [d])) from ga)
 have q9:W9.cell? ⟨w.heap.size,2,none⟩=some (.slice s1.A3 s1.n3 s1.c3):=(HS8.out.blk.ext HX9.out).cell 2
 have HRD:=zh (HSL.out.ext HX9.out).rd
 have HSN:=zh HSL.out.len
 go_upto_region 11 with (first | ((with_reducible refine rG rfl (.tmp 51) (.tmp 52) rfl s1.A3 s1.n3 s1.c3 k rfl rfl hkn hnc ?_);intro A8 h8;have HR8':=zh (show Rd W9 A8 (gcs (s1.K.drop k)) from ci);have HL8:=zh (show (gcs (s1.K.drop k)).length=(s1.n3 - k) * 19 from gq)) | (at_builtin;go_must (refine bK lkE rfl (.tmp 49) (.tmp 53) rfl W8.heap.size A9 (k+1) c9 _ rfl HO9.out A8 (s1.n3 - k) (s1.c3 - k) (gcs (s1.K.drop k)) rfl HR8'.out HL8.out (bP _) aa aa HX9.out.size ?_;intro A10 c10 W10 ho10 hg10;have HX10:=zh (show Ext W8 W10 from Below.grown HX9.out hg10 HX9.out.size (fun q hq=>(World.ownsRow.lt HO9.out q hq).1));have q9:W10.cell? ⟨w.heap.size,2,none⟩=some (.slice s1.A3 s1.n3 s1.c3):=(HS8.out.blk.ext HX10.out).cell 2;have f9:=(HS8.out.blk.ext HX10.out).frozen 2)))
 have HO10:=zh (show W10.ownsRow w.heap.size 81 19 (.slice A10 (k+1+(s1.n3 - k)) c10) (k+1+(s1.n3 - k)) (gcs (s1.K.take k ++ d :: s1.K.drop k)) from by
  exact Cm)
 have hwf:∀ l ∈ s1.K.take k ++ d :: s1.K.drop k,lkW l:=(by
  intro l hl
  rcases List.mem_append.1 hl with hl | hl
  ·exact HS8.out.own.k3 l (List.mem_of_mem_take hl)
  rcases List.mem_cons.1 hl with rfl | hl
  ·exact HDW.out
  exact HS8.out.own.k3 l (List.mem_of_mem_drop hl))
 have HF:=zh (HS8.out.row3 (Ext.grown HX10.out _) HO10.out hwf)
 obtain ⟨WF,hWF⟩:=gx (W10.setCell ⟨w.heap.size,2,none⟩ (.slice A10 (k+1+(s1.n3 - k)) c10))
 rw [hWF] at HF ⊢
 have HRF:=zh (show Blk WF (w.heap.size+2) 30 (ssA ss0) from fm)
 obtain ⟨q0,q1,q2,q3,q4⟩:=aE HF.out.blk
 go_wp2_with ((with_reducible refine aH rfl (.tmp 4) (.tmp 56) rfl (w.heap.size+2) ({ s1 with A3:=A10,n3:=k+1+(s1.n3 - k),c3:=c10,K:=s1.K.take k ++ d :: s1.K.drop k }) rfl rfl HRF.out ?_);intro W9 h9)
 exact rtS _ _ HF.out HRF.out aa h9 im):p:=h
open Go.Proofs.Tryz
section
open Go.RowKit
attribute [local go_sem ↓] Go.wp_at_zero Go.wp_at_succ
theorem aGU (s0:StR) (d:LkR) (w:World) (h:s0.ok w) (hd0:lkW d) (hn:s0.n1≤1000000∧s0.n2≤1000000∧s0.n3≤1000000∧s0.n4≤1000000):Calls prog 99 #[.agg (ssA s0),.agg (lkA d)] w (jB w ⟨s0.C,s0.Q,fL s0.K d,s0.P,s0.G⟩):=by
 obtain ⟨W,hW,HB,HC,HR,HE⟩:=en2 w s0 (lkA d) 81
 obtain ⟨q0,q1,q2,q3,q4⟩:=aE HB.out
 have HS0:=zh h
 have HN:=zh hn
 have HDW:=zh hd0
 go_enter func99,ntmps99
 go_wp2_with fail
 refine (iK s0 W (HS0.out.ext HE.out) du).mono ?_
 rintro e w5 ⟨s1,rfl,ho1,hv1,he5⟩
 go_upto_region 2 with ((with_reducible refine aH rfl (.tmp 2) (.tmp 10) rfl w.heap.size s1 rfl rfl (HB.out.ext he5) ?_);intro W7 h7)
 obtain ⟨HS7,hk7,HBD⟩:=cpS HS0 du HB HE ho1 hv1 he5 h7
 have HC7:=zh (hk7 _ _ _ HC.out aa)
 have HR7:=zh (hk7 _ _ _ HR.out aa)
 have HV1:=zh hv1
 have HL1:=zh HS7.out.own.l3
 obtain ⟨q0,q1,q2,q3,q4⟩:=aE HS7.out.blk
 have rn:W7.rangeAt (w.heap.size+1) 0 (RowT.enc d.nm):=aQ (k:=8) (aC HC7.out)
 have HFL:=zh (pT s1 d.nm W7 HS7.out.own.ok)
 obtain ⟨l,hl⟩:=gx (lkO (fdK s1.K d.nm))
 obtain ⟨v,hv⟩:=gx (Value.agg (lkA l))
 obtain ⟨fb,hfb⟩:=gx ((fdK s1.K d.nm).isSome)
 have HV:=zh hv
 have HFB:=zh hfb
 rw [hl,hv,hfb] at HFL
 go_wp2_with (with_reducible refine aD nmP rfl (.tmp 13) rfl (w.heap.size+1) 0 rfl d.nm _ rfl rn ?_)
 refine zcl HFL.out fun W0 he0=>?_
 go_upto_region 3 with ((with_reducible refine aU lkP rfl (.tmp 5) (.tmp 16) rfl lk0 rfl l v HV.out rfl rfl ?_);intro W4 h4)
 have HX0:=zh (show Ext W7 W4 from by rw [← h4.out];exact he0.alloc' _)
 cases fb
 rotate_left
 ·have HS8 := zh (HS7.out.ext HX0.out)
  have HRF:=zh (HR7.out.ext HX0.out)
  have HF:=HS8
  have HSP:=zh (show s1.V=⟨s0.C,s0.Q,fL s0.K d,s0.P,s0.G⟩ from by
   have e:s1.V=s0.V:=HV1.out
   have e3:s1.K=s0.K:=congrArg StV.K e
   obtain ⟨z,hz⟩:=Option.isSome_iff_exists.1 HFB.out
   have h1:fL s1.K d=s1.K:=by unfold fL;rw [hz]
   rw [← e3,h1,e3]
   exact e)
  go_upto_region 4 with fail
  obtain ⟨q0,q1,q2,q3,q4⟩:=aE HF.out.blk
  go_wp2_with ((with_reducible refine aH rfl (.tmp 4) (.tmp 19) rfl (w.heap.size+2) (s1) rfl rfl HRF.out ?_);intro W9 h9)
  exact rtS _ _ HF.out HRF.out aa h9 (HSP.out)
 have HNO:=zh (show fL s1.K d=gW (fun y=>decide (un d.nm < un y.nm)) d s1.K from by
  have h9:fdK s1.K d.nm=none:=Option.not_isSome_iff_eq_none.1 (by rw [HFB.out];simp)
  unfold fL;rw [h9])
 have hn9:s1.n3≤1000000:=HBD.out.2.2.1
 go_wp2_with fail
 go_loopw [7] (fun vi wr=>∃ k:Nat,vi=.int .i64 (k:Int)∧k≤s1.n3∧Hid (∀ j,j < k→decide (un d.nm < un (aS s1.K j).nm)=false)∧Hid (Ext W7 wr)) (fun i _=>s1.n3 - (intOf i).toNat)
 case atStart=>exact ⟨0,rfl,Nat.zero_le _,zh (fun j hj=>absurd hj (Nat.not_lt_zero _)),HX0⟩
 case round =>
  obtain ⟨k,rfl,hk,HPJ,HXW⟩:=hrel
  have HKN:=zh hk
  by_cases hlt:k < s1.n3
  ·have i0 : (0 : Int) ≤ (k : Int) := aa
   have i1:(k:Int) < (s1.n3:Int):=aa
   obtain ⟨d9,hd⟩:=gx (aS s1.K k)
   obtain ⟨bb,hab,-,hrow⟩:=cM HS7.out.own.o3 (show 0 < s1.n3 by omega)
   have HAB:=zh hab
   have HDR:=zh (fun (V:World) (e:Ext W7 V)=>show V.rangeAt bb (k * 19) (RowT.enc d9.nm) from by
    exact BY)
   have HCMP:=zh (fun V=>gG d.nm d9.nm V)
   have HDK:=zh hd
   cases hb:decide (un d.nm < un d9.nm) with
   | false =>
    have HPN:=zh (show decide (un d.nm < un (aS s1.K k).nm)=false from fx)
    rw [hb] at HCMP
    clear hab hrow hd hb
    go_upto_region 6 with fail
    refine wp_region_held_drew (S:=fun V=>Blk V w.heap.size 30 (ssA s1)∧Blk V (w.heap.size+1) 81 (lkA d)∧Ext W7 V) ab (⟨(HS7.out.blk.ext HXW.out).drew,(HC7.out.ext HXW.out).drew,HXW.out.trans ((Ext.refl _).drew')⟩) (fun aA=>?_)
    refine zz0 [0,1,2,3,4,5,6] ?_;repeat first | refine zz1 ?_ (hy:=az) | refine zz2 ?_ | refine zz9 ?_
    refine zu 7 (v:=.agg (nmc d.nm)) aA ?_ (hy:=jy)
    refine zz0 [8,9,10,11,12] ?_;repeat first | refine zz1 ?_ (hy:=az) | refine zz2 ?_ | refine zz9 ?_
    refine zu 13 (v:=.agg (nmc d9.nm)) aA ?_ (hy:=kp)
    refine za 14 (fun K hK=>?_)
    (go_simp;go_at_call 104;refine (HCMP.out _).mono ?_;rintro e w8 ⟨rfl,he8⟩)
    refine hK.out _ _ (⟨aA.1.ext he8,aA.2.1.ext he8,aA.2.2.trans he8⟩) (fun aA=>?_)
    try simp only [bB]
    refine zzr [15,16] ?_
    exact Bt
   | true =>
    have HPK:=zh (show k < s1.n3→decide (un d.nm < un (aS s1.K k).nm)=true from fun _=>fx)
    rw [hb] at HCMP
    clear hab hrow hd hb
    go_upto_region 6 with fail
    refine wp_region_held_drew (S:=fun V=>Blk V w.heap.size 30 (ssA s1)∧Blk V (w.heap.size+1) 81 (lkA d)∧Ext W7 V) ab (⟨(HS7.out.blk.ext HXW.out).drew,(HC7.out.ext HXW.out).drew,HXW.out.trans ((Ext.refl _).drew')⟩) (fun aA=>?_)
    refine zz0 [0,1,2,3,4,5,6] ?_;repeat first | refine zz1 ?_ (hy:=az) | refine zz2 ?_ | refine zz9 ?_
    refine zu 7 (v:=.agg (nmc d.nm)) aA ?_ (hy:=jy)
    refine zz0 [8,9,10,11,12] ?_;repeat first | refine zz1 ?_ (hy:=az) | refine zz2 ?_ | refine zz9 ?_
    refine zu 13 (v:=.agg (nmc d9.nm)) aA ?_ (hy:=kp)
    refine za 14 (fun K hK=>?_)
    (go_simp;go_at_call 104;refine (HCMP.out _).mono ?_;rintro e w8 ⟨rfl,he8⟩)
    refine hK.out _ _ (⟨aA.1.ext he8,aA.2.1.ext he8,aA.2.2.trans he8⟩) (fun aA=>?_)
    try simp only [bB]
    refine zzr [15,16] ?_
    refine wpd ?_
    have HX8:=zh aA.2.2
    go_upto_region 8 with fail
    obtain ⟨W8,hW8⟩:∃ W8,W8=w8:=⟨_,rfl⟩
    subst hW8
    have HS8:=zh (HS7.out.ext HX8.out)
    have HC8:=zh (HC7.out.ext HX8.out)
    have HR8:=zh (HR7.out.ext HX8.out)
    have HSP:=zh (show (⟨s1.C,s1.Q,s1.K.take k ++ d :: s1.K.drop k,s1.P,s1.G⟩:StV)=⟨s0.C,s0.Q,fL s0.K d,s0.P,s0.G⟩ from by
     exact An)
    have HSL:=zh (show SlG W8 s1.A3 s1.n3 s1.c3 s1.K from HS8.out.own.ok.s3)
    have hkn:k≤s1.n3:=HKN.out
    have hnc:s1.n3≤s1.c3:=HSL.out.le
    have hcm:s1.c3≤9223372036854775807:=HSL.out.cap
    have hn9:=HBD.out
    have z0:(0:Int)≤(k:Int):=aa
    have z1:(k:Int)≤(s1.n3:Int):=aa
    have z2:(k:Int)≤(s1.c3:Int):=aa
    have z3:(s1.n3:Int)≤(s1.c3:Int):=aa
    exact tj
  have i1:¬ (k:Int) < (s1.n3:Int):=aa
  have HPK:=zh (show k < s1.n3→decide (un d.nm < un (aS s1.K k).nm)=true from fun h=>absurd h hlt)
  go_upto_region 6 with fail
  refine wp_region_held_drew (S:=fun V=>Blk V w.heap.size 30 (ssA s1)∧Blk V (w.heap.size+1) 81 (lkA d)∧Ext W7 V) ab (⟨(HS7.out.blk.ext HXW.out).drew,(HC7.out.ext HXW.out).drew,HXW.out.trans ((Ext.refl _).drew')⟩) (fun aA=>?_)
  refine zz0 [0,1,2,3,4,5] ?_;repeat first | refine zz1 ?_ (hy:=by intro W aP;have q9:W.cell? ⟨w.heap.size,2,none⟩=some (.slice s1.A3 s1.n3 s1.c3):=aP.1.cell 2;go_simp <;> with_reducible rfl) | refine zz2 ?_ | refine zz9 ?_
  (refine zs 6 aA ?_)
  (refine zs 7 aA ?_)
  (refine zs 8 aA ?_)
  (refine zs 9 aA ?_)
  (refine zs 10 aA ?_)
  (refine zs 11 aA ?_)
  (refine zs 12 aA ?_)
  (refine zs 13 aA ?_)
  (refine zs 14 aA ?_)
  (refine zs 15 aA ?_)
  refine zt 16 aA ?_
  refine wpd ?_
  have HX8:=zh aA.2.2
  go_upto_region 8 with fail
  obtain ⟨W8,hW8⟩:=gx (wr.drew)
  rw [hW8] at HX8 ⊢
  have HS8:=zh (HS7.out.ext HX8.out)
  have HC8:=zh (HC7.out.ext HX8.out)
  have HR8:=zh (HR7.out.ext HX8.out)
  have HSP:=zh (show (⟨s1.C,s1.Q,s1.K.take k ++ d :: s1.K.drop k,s1.P,s1.G⟩:StV)=⟨s0.C,s0.Q,fL s0.K d,s0.P,s0.G⟩ from by
   exact An)
  have HSL:=zh (show SlG W8 s1.A3 s1.n3 s1.c3 s1.K from HS8.out.own.ok.s3)
  have hkn:k≤s1.n3:=HKN.out
  have hnc:s1.n3≤s1.c3:=HSL.out.le
  have hcm:s1.c3≤9223372036854775807:=HSL.out.cap
  exact tj
theorem aGV (s0:StR) (x:UInt64) (w:World) (h:s0.ok w)  (hn:s0.n1≤1000000∧s0.n2≤1000000∧s0.n3≤1000000∧s0.n4≤1000000):Calls prog 40 #[.agg (ssA s0),.agg (nmc x)] w (jB w ⟨s0.C,s0.Q,s0.K,dW s0.P x,s0.G⟩):=by
 obtain ⟨W,hW,HB,HC,HR,HE⟩:=en2 w s0 (nmc x) 50
 obtain ⟨q0,q1,q2,q3,q4⟩:=aE HB.out
 have HS0:=zh h
 have HN:=zh hn
 go_enter func40,ntmps40
 go_wp2_with fail
 refine (iK s0 W (HS0.out.ext HE.out) du).mono ?_
 rintro e w5 ⟨s1,rfl,ho1,hv1,he5⟩
 go_upto_region 2 with ((with_reducible refine aH rfl (.tmp 2) (.tmp 8) rfl w.heap.size s1 rfl rfl (HB.out.ext he5) ?_);intro W7 h7)
 obtain ⟨HS7,hk7,HBD⟩:=cpS HS0 du HB HE ho1 hv1 he5 h7
 have HC7:=zh (hk7 _ _ _ HC.out aa)
 have HR7:=zh (hk7 _ _ _ HR.out aa)
 have HV1:=zh hv1
 have HL1:=zh HS7.out.own.l4
 have q9:W7.cell? ⟨w.heap.size,3,none⟩=some (.slice s1.A4 s1.n4 s1.c4):=HS7.out.blk.cell 3
 have rn:W7.rangeAt (w.heap.size+1) 0 (RowT.enc x):=bS HC7.out
 have HFL:=zh (rV s1.A4 s1.n4 s1.c4 s1.P x W7 HS7.out.own.ok.s4)
 obtain ⟨fb,hfb⟩:=gx (decide (x ∈ s1.P))
 have HFB:=zh hfb
 rw [hfb] at HFL
 go_wp2_with (with_reducible refine aD nmP rfl (.tmp 3) rfl (w.heap.size+1) 0 rfl x _ rfl rn ?_)
 refine zcl HFL.out fun W0 he0=>?_
 have HX0:=zh he0
 cases fb
 rotate_left
 ·have HS8 := zh (HS7.out.ext HX0.out)
  have HRF:=zh (HR7.out.ext HX0.out)
  have HF:=HS8
  have HSP:=zh (show s1.V=⟨s0.C,s0.Q,s0.K,dW s0.P x,s0.G⟩ from by
   have e:s1.V=s0.V:=HV1.out
   have e3:s1.P=s0.P:=congrArg StV.P e
   have h1:dW s1.P x=s1.P:=aFd (of_decide_eq_true HFB.out)
   rw [← e3,h1,e3]
   exact e)
  go_upto_region 3 with fail
  obtain ⟨q0,q1,q2,q3,q4⟩:=aE HF.out.blk
  go_wp2_with ((with_reducible refine aH rfl (.tmp 4) (.tmp 13) rfl (w.heap.size+2) (s1) rfl rfl HRF.out ?_);intro W9 h9)
  exact rtS _ _ HF.out HRF.out aa h9 (HSP.out)
 have HNO:=zh (show dW s1.P x=gW (fun y=>decide (un x < un y)) x s1.P from by
  unfold dW;rw [if_neg (of_decide_eq_false HFB.out)])
 have hn9:s1.n4≤1000000:=HBD.out.2.2.2
 go_wp2_with fail
 go_loopw [5] (fun vi wr=>∃ k:Nat,vi=.int .i64 (k:Int)∧k≤s1.n4∧Hid (∀ j,j < k→decide (un x < un (aS s1.P j))=false)∧Hid (Ext W7 wr)) (fun i _=>s1.n4 - (intOf i).toNat)
 case atStart=>exact ⟨0,rfl,Nat.zero_le _,zh (fun j hj=>absurd hj (Nat.not_lt_zero _)),HX0⟩
 case round =>
  obtain ⟨k,rfl,hk,HPJ,HXW⟩:=hrel
  have HKN:=zh hk
  by_cases hlt:k < s1.n4
  ·have i0 : (0 : Int) ≤ (k : Int) := aa
   have i1:(k:Int) < (s1.n4:Int):=aa
   obtain ⟨d9,hd⟩:=gx (aS s1.P k)
   obtain ⟨bb,hab,-,hrow⟩:=cM HS7.out.own.o4 (show 0 < s1.n4 by omega)
   have HAB:=zh hab
   have HDR:=zh (fun (V:World) (e:Ext W7 V)=>show V.rangeAt bb (k * 8) (RowT.enc d9) from by
    rw [← hd]
    obtain ⟨b2,e2,-,hr2⟩:=cM (bC HS7.out.own.o4 e) (show 0 < s1.n4 by omega)
    rw [HAB.out] at e2
    injection e2 with e3
    injection e3 with e4
    subst e4
    have h1:=cN (k:=k) hr2 ma
    rw [Nat.zero_add] at h1
    exact h1)
   have HCMP:=zh (fun V=>gG x d9 V)
   have HDK:=zh hd
   cases hb:decide (un x < un d9) with
   | false =>
    have HPN:=zh (show decide (un x < un (aS s1.P k))=false from fx)
    rw [hb] at HCMP
    clear hab hrow hd hb
    go_upto_region 5 with fail
    refine wp_region_held_drew (S:=fun V=>Blk V w.heap.size 30 (ssA s1)∧Blk V (w.heap.size+1) 50 (nmc x)∧Ext W7 V) ab (⟨(HS7.out.blk.ext HXW.out).drew,(HC7.out.ext HXW.out).drew,HXW.out.trans ((Ext.refl _).drew')⟩) (fun aA=>?_)
    refine zz0 [0,1,2,3,4,5] ?_;repeat first | refine zz1 ?_ (hy:=bk) | refine zz2 ?_ | refine zz9 ?_
    refine zu 6 (v:=.agg (nmc x)) aA ?_ (hy:=ii)
    refine zz0 [7,8,9,10] ?_;repeat first | refine zz1 ?_ (hy:=bk) | refine zz2 ?_ | refine zz9 ?_
    refine zu 11 (v:=.agg (nmc d9)) aA ?_ (hy:=ld)
    refine za 12 (fun K hK=>?_)
    (go_simp;go_at_call 104;refine (HCMP.out _).mono ?_;rintro e w8 ⟨rfl,he8⟩)
    refine hK.out _ _ (⟨aA.1.ext he8,aA.2.1.ext he8,aA.2.2.trans he8⟩) (fun aA=>?_)
    try simp only [bB]
    refine zzr [13,14] ?_
    exact Bt
   | true =>
    have HPK:=zh (show k < s1.n4→decide (un x < un (aS s1.P k))=true from fun _=>fx)
    rw [hb] at HCMP
    clear hab hrow hd hb
    go_upto_region 5 with fail
    refine wp_region_held_drew (S:=fun V=>Blk V w.heap.size 30 (ssA s1)∧Blk V (w.heap.size+1) 50 (nmc x)∧Ext W7 V) ab (⟨(HS7.out.blk.ext HXW.out).drew,(HC7.out.ext HXW.out).drew,HXW.out.trans ((Ext.refl _).drew')⟩) (fun aA=>?_)
    refine zz0 [0,1,2,3,4,5] ?_;repeat first | refine zz1 ?_ (hy:=bk) | refine zz2 ?_ | refine zz9 ?_
    refine zu 6 (v:=.agg (nmc x)) aA ?_ (hy:=ii)
    refine zz0 [7,8,9,10] ?_;repeat first | refine zz1 ?_ (hy:=bk) | refine zz2 ?_ | refine zz9 ?_
    refine zu 11 (v:=.agg (nmc d9)) aA ?_ (hy:=ld)
    refine za 12 (fun K hK=>?_)
    (go_simp;go_at_call 104;refine (HCMP.out _).mono ?_;rintro e w8 ⟨rfl,he8⟩)
    refine hK.out _ _ (⟨aA.1.ext he8,aA.2.1.ext he8,aA.2.2.trans he8⟩) (fun aA=>?_)
    try simp only [bB]
    refine zzr [13,14] ?_
    refine wpd ?_
    have HX8:=zh aA.2.2
    go_upto_region 7 with fail
    obtain ⟨W8,hW8⟩:∃ W8,W8=w8:=⟨_,rfl⟩
    subst hW8
    have HS8:=zh (HS7.out.ext HX8.out)
    have HC8:=zh (HC7.out.ext HX8.out)
    have HR8:=zh (HR7.out.ext HX8.out)
    have HSP:=zh (show (⟨s1.C,s1.Q,s1.K,s1.P.take k ++ x :: s1.P.drop k,s1.G⟩:StV)=⟨s0.C,s0.Q,s0.K,dW s0.P x,s0.G⟩ from by
     exact Ap)
    have HSL:=zh (show SlG W8 s1.A4 s1.n4 s1.c4 s1.P from HS8.out.own.ok.s4)
    have hkn:k≤s1.n4:=HKN.out
    have hnc:s1.n4≤s1.c4:=HSL.out.le
    have hcm:s1.c4≤9223372036854775807:=HSL.out.cap
    have hn9:=HBD.out
    have z0:(0:Int)≤(k:Int):=aa
    have z1:(k:Int)≤(s1.n4:Int):=aa
    have z2:(k:Int)≤(s1.c4:Int):=aa
    have z3:(s1.n4:Int)≤(s1.c4:Int):=aa
    have q9:W8.cell? ⟨w.heap.size,3,none⟩=some (.slice s1.A4 s1.n4 s1.c4):=HS8.out.blk.cell 3
    go_upto_region 8 with (first | ((with_reducible refine jH (size:=8) rfl rfl sZ ?_);intro A5 W5 h5;have HO5:=zh h5.out.1;have HX5:=zh h5.out.2;have HU5:=zh ((HSL.out.ext h5.out.2).upto hkn (Nat.le_trans hkn hnc) hcm);have HL5:=zh (show (gcs (s1.P.take k)).length=k * 8 from jh);have q9:W5.cell? ⟨w.heap.size,3,none⟩=some (.slice s1.A4 s1.n4 s1.c4):=(HS8.out.blk.ext h5.out.2).cell 3) | (at_builtin;go_must (refine iH cY rfl (.tmp 31) (.tmp 35) rfl W8.heap.size A5 rfl HO5.out s1.A4 k s1.c4 (gcs (s1.P.take k)) rfl HU5.out.rd HL5.out (bP _) aa aa HX5.out.size ?_;intro A6 c6 W6 ho6 he6)))
    have HO6:=zh ho6
    have HX6:=zh (HX5.out.trans he6)
    have HC6:=zh (HC8.out.ext HX6.out)
    have rc:W6.rangeAt (w.heap.size+1) 0 (RowT.enc x):=bS HC6.out
    obtain ⟨vd,hvd⟩:=gx (Value.agg (nmc x))
    have HVD:=zh hvd
    have HBS:=zh (fun W=>oJ (x) W)
    rw [hvd] at HBS
    go_upto_region 9 with (first | (with_reducible refine aD nmP rfl (.tmp 3) rfl (w.heap.size+1) 0 rfl x vd HVD.out rc ?_) | ((with_reducible refine fG (vx:=vd) rfl (.tmp 38) rfl rfl (HBS.out _) ?_);intro g7 W7' h7;have HO7:=zh (bC HO6.out h7.out.2.1);have HZ7:=zh (Nat.le_trans HX6.out.size h7.out.2.1.size);have HRE:=zh (show Rd W7' (some ⟨g7,0,none⟩) (RowT.enc (x)) from Rd.of_blk h7.out.1);have HLE:=zh (show (RowT.enc (x)).length=1 * 8 from ip)) | (at_builtin;go_must (refine bK cY rfl (.tmp 37) (.tmp 39) rfl W8.heap.size A6 k c6 _ rfl HO7.out (some ⟨g7,0,none⟩) 1 1 (RowT.enc (x)) rfl HRE.out HLE.out (RowT.one (x)) aa aa HZ7.out ?_;intro A9 c9 W9 ho9 hg9)))
    have HX9:=zh (show Ext W8 W9 from Below.grown (HX6.out.trans h7.out.2.1) hg9 (HX6.out.trans h7.out.2.1).size (fun q hq=>(World.ownsRow.lt HO7.out q hq).1))
    have HO9:=zh (show W9.ownsRow W8.heap.size 50 8 (.slice A9 (k+1) c9) (k+1) (gcs (s1.P.take k ++ [x])) from ga)
    have q9:W9.cell? ⟨w.heap.size,3,none⟩=some (.slice s1.A4 s1.n4 s1.c4):=(HS8.out.blk.ext HX9.out).cell 3
    have HRD:=zh (HSL.out.ext HX9.out).rd
    have HSN:=zh HSL.out.len
    go_upto_region 10 with (first | ((with_reducible refine rF rfl (.tmp 43) (.tmp 44) rfl s1.A4 s1.n4 s1.c4 k rfl rfl hkn hnc ?_);intro A8 h8;have HR8':=zh (show Rd W9 A8 (gcs (s1.P.drop k)) from ci);have HL8:=zh (show (gcs (s1.P.drop k)).length=(s1.n4 - k) * 8 from gq)) | (at_builtin;go_must (refine bK cY rfl (.tmp 41) (.tmp 45) rfl W8.heap.size A9 (k+1) c9 _ rfl HO9.out A8 (s1.n4 - k) (s1.c4 - k) (gcs (s1.P.drop k)) rfl HR8'.out HL8.out (bP _) aa aa HX9.out.size ?_;intro A10 c10 W10 ho10 hg10;have HX10:=zh (show Ext W8 W10 from Below.grown HX9.out hg10 HX9.out.size (fun q hq=>(World.ownsRow.lt HO9.out q hq).1));have q9:W10.cell? ⟨w.heap.size,3,none⟩=some (.slice s1.A4 s1.n4 s1.c4):=(HS8.out.blk.ext HX10.out).cell 3;have f9:=(HS8.out.blk.ext HX10.out).frozen 3)))
    have HO10:=zh (show W10.ownsRow w.heap.size 50 8 (.slice A10 (k+1+(s1.n4 - k)) c10) (k+1+(s1.n4 - k)) (gcs (s1.P.take k ++ x :: s1.P.drop k)) from by
     exact Cm)
    have hwf:True:=trivial
    exact uu
  have i1:¬ (k:Int) < (s1.n4:Int):=aa
  have HPK:=zh (show k < s1.n4→decide (un x < un (aS s1.P k))=true from fun h=>absurd h hlt)
  go_upto_region 5 with fail
  refine wp_region_held_drew (S:=fun V=>Blk V w.heap.size 30 (ssA s1)∧Blk V (w.heap.size+1) 50 (nmc x)∧Ext W7 V) ab (⟨(HS7.out.blk.ext HXW.out).drew,(HC7.out.ext HXW.out).drew,HXW.out.trans ((Ext.refl _).drew')⟩) (fun aA=>?_)
  refine zz0 [0,1,2,3,4,5] ?_;repeat first | refine zz1 ?_ (hy:=by intro W aP;have q9:W.cell? ⟨w.heap.size,3,none⟩=some (.slice s1.A4 s1.n4 s1.c4):=aP.1.cell 3;go_simp <;> with_reducible rfl) | refine zz2 ?_ | refine zz9 ?_
  (refine zs 6 aA ?_)
  (refine zs 7 aA ?_)
  (refine zs 8 aA ?_)
  (refine zs 9 aA ?_)
  (refine zs 10 aA ?_)
  (refine zs 11 aA ?_)
  (refine zs 12 aA ?_)
  (refine zs 13 aA ?_)
  refine zt 14 aA ?_
  refine wpd ?_
  have HX8:=zh aA.2.2
  go_upto_region 7 with fail
  obtain ⟨W8,hW8⟩:=gx (wr.drew)
  rw [hW8] at HX8 ⊢
  have HS8:=zh (HS7.out.ext HX8.out)
  have HC8:=zh (HC7.out.ext HX8.out)
  have HR8:=zh (HR7.out.ext HX8.out)
  have HSP:=zh (show (⟨s1.C,s1.Q,s1.K,s1.P.take k ++ x :: s1.P.drop k,s1.G⟩:StV)=⟨s0.C,s0.Q,s0.K,dW s0.P x,s0.G⟩ from by
   exact Ap)
  have HSL:=zh (show SlG W8 s1.A4 s1.n4 s1.c4 s1.P from HS8.out.own.ok.s4)
  have hkn:k≤s1.n4:=HKN.out
  have hnc:s1.n4≤s1.c4:=HSL.out.le
  have hcm:s1.c4≤9223372036854775807:=HSL.out.cap
  have q9:W8.cell? ⟨w.heap.size,3,none⟩=some (.slice s1.A4 s1.n4 s1.c4):=HS8.out.blk.cell 3
  go_upto_region 8 with (first | ((with_reducible refine jH (size:=8) rfl rfl sZ ?_);intro A5 W5 h5;have HO5:=zh h5.out.1;have HX5:=zh h5.out.2;have HU5:=zh ((HSL.out.ext h5.out.2).upto hkn (Nat.le_trans hkn hnc) hcm);have HL5:=zh (show (gcs (s1.P.take k)).length=k * 8 from jh);have q9:W5.cell? ⟨w.heap.size,3,none⟩=some (.slice s1.A4 s1.n4 s1.c4):=(HS8.out.blk.ext h5.out.2).cell 3) | (at_builtin;go_must (refine iH cY rfl (.tmp 31) (.tmp 35) rfl W8.heap.size A5 rfl HO5.out s1.A4 k s1.c4 (gcs (s1.P.take k)) rfl HU5.out.rd HL5.out (bP _) aa aa HX5.out.size ?_;intro A6 c6 W6 ho6 he6)))
  have HO6:=zh ho6
  have HX6:=zh (HX5.out.trans he6)
  have HC6:=zh (HC8.out.ext HX6.out)
  have rc:W6.rangeAt (w.heap.size+1) 0 (RowT.enc x):=bS HC6.out
  obtain ⟨vd,hvd⟩:=gx (Value.agg (nmc x))
  have HVD:=zh hvd
  have HBS:=zh (fun W=>oJ (x) W)
  rw [hvd] at HBS
  go_upto_region 9 with (first | (with_reducible refine aD nmP rfl (.tmp 3) rfl (w.heap.size+1) 0 rfl x vd HVD.out rc ?_) | ((with_reducible refine fG (vx:=vd) rfl (.tmp 38) rfl rfl (HBS.out _) ?_);intro g7 W7' h7;have HO7:=zh (bC HO6.out h7.out.2.1);have HZ7:=zh (Nat.le_trans HX6.out.size h7.out.2.1.size);have HRE:=zh (show Rd W7' (some ⟨g7,0,none⟩) (RowT.enc (x)) from Rd.of_blk h7.out.1);have HLE:=zh (show (RowT.enc (x)).length=1 * 8 from ip)) | (at_builtin;go_must (refine bK cY rfl (.tmp 37) (.tmp 39) rfl W8.heap.size A6 k c6 _ rfl HO7.out (some ⟨g7,0,none⟩) 1 1 (RowT.enc (x)) rfl HRE.out HLE.out (RowT.one (x)) aa aa HZ7.out ?_;intro A9 c9 W9 ho9 hg9)))
  have HX9:=zh (show Ext W8 W9 from Below.grown (HX6.out.trans h7.out.2.1) hg9 (HX6.out.trans h7.out.2.1).size (fun q hq=>(World.ownsRow.lt HO7.out q hq).1))
  have HO9:=zh (show W9.ownsRow W8.heap.size 50 8 (.slice A9 (k+1) c9) (k+1) (gcs (s1.P.take k ++ [x])) from ga)
  have q9:W9.cell? ⟨w.heap.size,3,none⟩=some (.slice s1.A4 s1.n4 s1.c4):=(HS8.out.blk.ext HX9.out).cell 3
  have HRD:=zh (HSL.out.ext HX9.out).rd
  have HSN:=zh HSL.out.len
  go_upto_region 10 with (first | ((with_reducible refine rF rfl (.tmp 43) (.tmp 44) rfl s1.A4 s1.n4 s1.c4 k rfl rfl hkn hnc ?_);intro A8 h8;have HR8':=zh (show Rd W9 A8 (gcs (s1.P.drop k)) from ci);have HL8:=zh (show (gcs (s1.P.drop k)).length=(s1.n4 - k) * 8 from gq)) | (at_builtin;go_must (refine bK cY rfl (.tmp 41) (.tmp 45) rfl W8.heap.size A9 (k+1) c9 _ rfl HO9.out A8 (s1.n4 - k) (s1.c4 - k) (gcs (s1.P.drop k)) rfl HR8'.out HL8.out (bP _) aa aa HX9.out.size ?_;intro A10 c10 W10 ho10 hg10;have HX10:=zh (show Ext W8 W10 from Below.grown HX9.out hg10 HX9.out.size (fun q hq=>(World.ownsRow.lt HO9.out q hq).1));have q9:W10.cell? ⟨w.heap.size,3,none⟩=some (.slice s1.A4 s1.n4 s1.c4):=(HS8.out.blk.ext HX10.out).cell 3;have f9:=(HS8.out.blk.ext HX10.out).frozen 3)))
  have HO10:=zh (show W10.ownsRow w.heap.size 50 8 (.slice A10 (k+1+(s1.n4 - k)) c10) (k+1+(s1.n4 - k)) (gcs (s1.P.take k ++ x :: s1.P.drop k)) from by
   exact Cm)
  exact uu
theorem xA (s0:StR) (x:UInt64) (w:World) (h:s0.ok w) (hn:s0.n1≤1000000∧s0.n2≤1000000∧s0.n3≤1000000∧s0.n4≤1000000):Calls prog 101 #[.agg (ssA s0),.agg (nmc x)] w (jB w ⟨s0.C,s0.Q,fC x s0.K,s0.P,s0.G⟩):=by
 obtain ⟨W,hW,HB,HC,HR,HE⟩:=en2 w s0 (nmc x) 50
 obtain ⟨q0,q1,q2,q3,q4⟩:=aE HB.out
 have HS0:=zh h
 have HN:=zh hn
 go_enter func101,ntmps101
 go_wp2_with fail
 refine (iK s0 W (HS0.out.ext HE.out) du).mono ?_
 rintro e w5 ⟨s1,rfl,ho1,hv1,he5⟩
 go_upto_region 2 with ((with_reducible refine aH rfl (.tmp 2) (.tmp 7) rfl w.heap.size s1 rfl rfl (HB.out.ext he5) ?_);intro W7 h7)
 obtain ⟨HS7,hk7,HBD⟩:=cpS HS0 du HB HE ho1 hv1 he5 h7
 have HC7:=zh (hk7 _ _ _ HC.out aa)
 have HR7:=zh (hk7 _ _ _ HR.out aa)
 have HV1:=zh hv1
 have HL1:=zh HS7.out.own.l3
 have hn9:s1.n3≤1000000:=HBD.out.2.2.1
 have HX0:=zh (Ext.refl W7)
 have HSPV:=zh (show ∀ X:List LkR,(⟨s1.C,s1.Q,X,s1.P,s1.G⟩:StV)=⟨s0.C,s0.Q,X,s0.P,s0.G⟩ from fun X=>by
  have e:s1.V=s0.V:=HV1.out
  rw [show s1.C=s0.C from congrArg StV.C e,show s1.Q=s0.Q from congrArg StV.Q e,show s1.P=s0.P from congrArg StV.P e,show s1.G=s0.G from congrArg StV.G e])
 have HKE:=zh (show s1.K=s0.K from congrArg StV.K HV1.out)
 go_wp2_with fail
 go_loopw [5] (fun vi wr=>∃ k:Nat,vi=.int .i64 (k:Int)∧k≤s1.n3∧Hid (∀ j,j < k→decide ((aS s1.K j).nm=x)=false)∧Hid (Ext W7 wr)) (fun i _=>s1.n3 - (intOf i).toNat)
 case atStart=>exact ⟨0,rfl,Nat.zero_le _,zh (fun j hj=>absurd hj (Nat.not_lt_zero _)),HX0⟩
 case round =>
  obtain ⟨k,rfl,hk,HPJ,HXW⟩:=hrel
  have q8:wr.cell? ⟨w.heap.size,2,none⟩=some (.slice s1.A3 s1.n3 s1.c3):=(HS7.out.blk.ext HXW.out).cell 2
  by_cases hlt:k < s1.n3
  ·have HKN := zh hlt
   have i1:(k:Int) < (s1.n3:Int):=aa
   obtain ⟨d9,hd⟩:=gx (aS s1.K k)
   obtain ⟨bb,hab,-,hrow⟩:=cM HS7.out.own.o3 (show 0 < s1.n3 by omega)
   have HAB:=zh hab
   have HDR:=zh (fun (V:World) (e:Ext W7 V)=>show V.rangeAt bb (k * 19) (RowT.enc d9.nm) from by
    exact BY)
   have HEQ:=zh (fun V=>cE d9.nm x V)
   obtain ⟨eq,heq⟩:=gx (decide (d9.nm=x))
   rw [heq] at HEQ
   have HDK:=zh (show decide ((aS s1.K k).nm=x)=eq from og)
   go_upto_region 5 with fail
   refine wp_region_held_drew (S:=fun V=>Blk V w.heap.size 30 (ssA s1)∧Blk V (w.heap.size+1) 50 (nmc x)∧Ext W7 V) ab (⟨(HS7.out.blk.ext HXW.out).drew,(HC7.out.ext HXW.out).drew,HXW.out.trans ((Ext.refl _).drew')⟩) (fun aA=>?_)
   refine zz0 [0,1,2,3,4] ?_;repeat first | refine zz1 ?_ (hy:=az) | refine zz2 ?_ | refine zz9 ?_
   refine zu 5 (v:=.agg (nmc d9.nm)) aA ?_ (hy:=by exact aG nmP dp (.tmp 19) dp bb (k * 19) dp d9.nm _ rfl (fun V h=>HDR.out V h.2.2))
   refine zu 6 (v:=.agg (nmc x)) aA ?_ (hy:=ii)
   refine zu 7 (v:=.bool eq) aA ?_ (hy:=by exact cK dp (.tmp 20) (.tmp 21) dp (vx:=.agg (nmc d9.nm)) (vy:=.agg (nmc x)) dp dp (fZ _ _ _ _ _) HEQ.out)
   refine wpd ?_
   have HX8:=zh aA.2.2
   cases eq
   ·go_wp2_with fail
    go_roundw
    case rel=>exact ⟨k+1,ar,hlt,zh (fun j hj=>by
     rcases (by omega:j < k ∨ j=k) with hj | rfl
     ·exact HPJ.out j hj
     exact HDK.out),HX8⟩
    case measure=>simp [intOf];omega
   have HSP:=zh (show (⟨s1.C,s1.Q,s1.K.take k ++ s1.K.drop (k+1),s1.P,s1.G⟩:StV)=⟨s0.C,s0.Q,fC x s0.K,s0.P,s0.G⟩ from by
    rw [HSPV.out,← tY cp HDK.out HPJ.out,HKE.out])
   go_upto_region 6 with fail
   have HS8:=zh (HS7.out.ext HX8.out)
   have HR8:=zh (HR7.out.ext HX8.out)
   have HSD:=zh (HS8.out.ext ((Ext.refl wr.drew).drew'))
   have HRS:=zh (HR8.out.ext ((Ext.refl wr.drew).drew'))
   have HKI:=zh (show k < s1.n3 from HKN.out)
   have HBI:=zh HBD.out
   obtain ⟨ad,had⟩:∃ ad:Addr,(if s1.c3=k+1 then ⟨bb,0,none⟩ else (⟨bb,(k+1) * 19,none⟩:Addr))=ad:=⟨_,rfl⟩
   have HAD:=zh had
   have hzc:s1.n3≤s1.c3:=(eI HSD.out.own.o3).1
   have z2:(k:Int)≤(s1.c3:Int):=aa
   have HZC:=zh hzc
   have HAD2:=zh (show (if s1.c3=k+1 then (some ⟨bb,0,none⟩:Option Addr) else Option.map (fun x:Addr=>x.add ((k+1) * 19)) (some (⟨bb,0,none⟩:Addr)))=some ad from by
    exact Cz)
   refine wp_region_held_drew (S:=fun _=>True) ab (trivial) (fun aA=>?_)
   refine zzr [0,2,4,6] ?_
   refine zu 7 (v:=.int .i64 ((k+1:Nat):Int)) aA ?_ (hy:=lq)
   refine cC (VV 1 (fun v V=>v=.slice (some ⟨bb,0,none⟩) s1.n3 s1.c3) (VV 3 (fun v V=>v=.slice (some ⟨bb,0,none⟩) k s1.c3) (VV 5 (fun v V=>v=.slice (some ⟨bb,0,none⟩) s1.n3 s1.c3) (VV 8 (fun v V=>v=.slice (some ad) (s1.n3 - (k+1)) (s1.c3 - (k+1))) (VN))))) [(1,some 24),(3,some 26),(5,some 28),(8,some 31)] (fuel:=3) ab ab (fun _ _ h _=>h) (VV.ext (fun v w w' h e=>h) (VV.ext (fun v w w' h e=>h) (VV.ext (fun v w w' h e=>h) (VV.ext (fun v w w' h e=>h) (VN.ext))))) aA ?hm6 rfl ?hr6
   case hm6 =>
    refine Members.cons ?mm6_1 (Members.cons ?mm6_3 (Members.cons ?mm6_5 (Members.cons ?mm6_8 (Members.nil _))))
    case mm6_1 =>
     exact wi
    case mm6_3 =>
     refine zm [(1,some 24)] (fun env W hE hS hD K hK=>?_)
     have h1:(fun v V=>v=.slice (some ⟨bb,0,none⟩) s1.n3 s1.c3) (env 1) W:=hD (1,some 24) dr
     try simp only [aR] at hK ⊢
     generalize env 1=x1 at h1 hK ⊢
     subst h1
     go_simp
     have hk:=hK.out (.slice (some ⟨bb,0,none⟩) k s1.c3) _ (Ext.refl _) (rfl)
     try simp only [aR] at hk
     exact hk
    case mm6_5 =>
     exact wi
    case mm6_8 =>
     refine zm [(5,some 28)] (fun env W hE hS hD K hK=>?_)
     have h5:(fun v V=>v=.slice (some ⟨bb,0,none⟩) s1.n3 s1.c3) (env 5) W:=hD (5,some 28) dr
     try simp only [aR] at hK ⊢
     generalize env 5=x5 at h5 hK ⊢
     subst h5
     refine jF (aDJ (.tmp 28) (.tmp 30) rfl (some ⟨bb,0,none⟩) s1.n3 s1.c3 (k+1) dp dp HKI.out HZC.out (some ad) HAD2.out) ?_
     have hk:=hK.out (.slice (some ad) (s1.n3 - (k+1)) (s1.c3 - (k+1))) _ (Ext.refl _) (rfl)
     try simp only [aR] at hk
     exact hk
   case hr6 =>
    intro env W hE hS hV
    have h1:(fun v V=>v=.slice (some ⟨bb,0,none⟩) s1.n3 s1.c3) (env 1) W:=hV (1,some 24) dr
    have h3:(fun v V=>v=.slice (some ⟨bb,0,none⟩) k s1.c3) (env 3) W:=hV (3,some 26) dr
    have h5:(fun v V=>v=.slice (some ⟨bb,0,none⟩) s1.n3 s1.c3) (env 5) W:=hV (5,some 28) dr
    have h8:(fun v V=>v=.slice (some ad) (s1.n3 - (k+1)) (s1.c3 - (k+1))) (env 8) W:=hV (8,some 31) dr
    try simp only [aR]
    generalize env 1=x1 at h1 ⊢
    generalize env 3=x3 at h3 ⊢
    generalize env 5=x5 at h5 ⊢
    generalize env 8=x8 at h8 ⊢
    subst h1
    subst h3
    subst h5
    subst h8
    have hW:W.ownsRow w.heap.size 81 19 (.slice (some ⟨bb,0,none⟩) s1.n3 s1.c3) s1.n3 (gcs s1.K):=by have:=(HSD.out.ext hE).own.o3;rwa [HAB.out] at this
    obtain ⟨W1,hrun,ho1,hg1⟩:=aFT lkE rfl hW HKI.out (by have:=HBI.out;omega) ad HAD.out
    have HRUN:=zh hrun
    have HG1:=zh (show W.grownBy W1 (Value.ownBlock (.slice s1.A3 s1.n3 s1.c3)) from by rw [HAB.out];exact hg1)
    have HO1:=zh ho1
    have hb1:=(HSD.out.ext hE).blk.grown HG1.out (aL (HSD.out.ext hE).own.o3 (HSD.out.ext hE).blk ae)
    have HQ1:=zh (show W1.cell? ⟨w.heap.size,2,none⟩=some (.slice (some ⟨bb,0,none⟩) s1.n3 s1.c3) from by rw [← HAB.out];exact hb1.cell 2)
    have HF1:=zh (hb1.frozen 2)
    have HRD1:=zh ((HRS.out.ext hE).grown HG1.out (aL (HSD.out.ext hE).own.o3 (HRS.out.ext hE) ae))
    have aA:=hS
    refine za 9 (fun K hK=>?_)
    (refine lO rfl (.tmp 26) (.tmp 31) rfl (.slice (some ⟨bb,0,none⟩) k s1.c3) (.slice (some ad) (s1.n3 - (k+1)) (s1.c3 - (k+1))) dp dp _ _ (HRUN.out _) ?_)
    refine hK.out _ _ (trivial) (fun aA=>?_)
    try simp only [bB]
    refine zt 10 aA ?_
    refine za 11 (fun K hK=>?_)
    (have q9:=HQ1.out;have f9:=HF1.out;go_simp)
    refine hK.out _ _ (trivial) (fun aA=>?_)
    try simp only [bB]
    refine wpd ?_
    obtain ⟨WF,hWF⟩:=gx (W1.setCell ⟨w.heap.size,2,none⟩ (.slice (some ⟨bb,0,none⟩) (s1.n3 - 1) s1.c3))
    have HF:=zh (show StB w WF w.heap.size ({ s1 with A3:=some ⟨bb,0,none⟩,n3:=s1.n3 - 1,c3:=s1.c3,K:=s1.K.take k ++ s1.K.drop (k+1) }) from by rw [← hWF];exact (HSD.out.ext hE).row3 HG1.out HO1.out (fun d hd=>HSD.out.own.k3 d gd))
    have HRF:=zh (show Blk WF (w.heap.size+2) 30 (ssA ss0) from by rw [← hWF];exact HRD1.out.far (p:=⟨w.heap.size,2,none⟩) (show w.heap.size+2 ≠ w.heap.size by omega) _)
    try rw [hWF]
    obtain ⟨q0,q1,q2,q3,q4⟩:=aE HF.out.blk
    go_wp2_with ((with_reducible refine aH rfl (.tmp 4) (.tmp 34) rfl (w.heap.size+2) ({ s1 with A3:=some ⟨bb,0,none⟩,n3:=s1.n3 - 1,c3:=s1.c3,K:=s1.K.take k ++ s1.K.drop (k+1) }) rfl rfl HRF.out ?_);intro W9 h9)
    exact rtS _ _ HF.out HRF.out aa h9 im
  obtain rfl:k=s1.n3:=aa
  have HSP:=zh (show s1.V=⟨s0.C,s0.Q,fC x s0.K,s0.P,s0.G⟩ from by
   rw [← HKE.out,tX (fun j hj=>HPJ.out j (by rw [← HL1.out];exact hj)),HKE.out]
   exact HV1.out)
  go_upto_region 8 with fail
  have HF:=zh (HS7.out.ext HXW.out)
  have HRF:=zh (HR7.out.ext HXW.out)
  obtain ⟨q0,q1,q2,q3,q4⟩:=aE HF.out.blk
  go_wp2_with ((with_reducible refine aH rfl (.tmp 4) (.tmp 35) rfl (w.heap.size+2) (s1) rfl rfl HRF.out ?_);intro W9 h9)
  exact rtS _ _ HF.out HRF.out aa h9 (HSP.out)
structure CkF (w V:World) (X:Nat) (x:StpR) (R:OpR):Prop where
 g:Blk V w.heap.size 25 (genC x.gN x.gZ x.B1 x.m1 x.d1 x.B2 x.m2 x.d2 x.B3 x.m3 x.d3)
 s:Blk V (w.heap.size+1) 30 (ssA x.s)
 t:Blk V (w.heap.size+2) 33 (txA x.ac x.sq x.A x.n x.c)
 o:Blk V X 52 (opA R)
 low:Ext w V
section
variable {w V V':World} {X:Nat} {x:StpR} {R:OpR}
theorem CkF.ext (h:CkF w V X x R) (e:Ext V V'):CkF w V' X x R:=⟨h.g.ext e,h.s.ext e,h.t.ext e,h.o.ext e,h.low.trans e⟩
theorem CkF.f (h:CkF w V X x R) {k:Int} (hk:R.k=k):V.cell? ⟨w.heap.size,2,none⟩=some (.slice x.B1 x.m1 x.d1)∧V.cell? ⟨w.heap.size,3,none⟩=some (.slice x.B2 x.m2 x.d2)∧V.cell? ⟨w.heap.size+1,0,none⟩=some (.slice x.s.A1 x.s.n1 x.s.c1)∧V.cell? ⟨w.heap.size+1,1,none⟩=some (.slice x.s.A2 x.s.n2 x.s.c2)∧V.cell? ⟨w.heap.size+1,2,none⟩=some (.slice x.s.A3 x.s.n3 x.s.c3)∧V.cell? ⟨w.heap.size+1,3,none⟩=some (.slice x.s.A4 x.s.n4 x.s.c4)∧V.cell? ⟨w.heap.size+1,4,none⟩=some (.int .i64 x.s.G)∧V.cell? ⟨w.heap.size+2,0,none⟩=some (.int .i64 x.ac)∧V.cell? ⟨X,0,none⟩=some (.int .i64 k)∧V.cell? ⟨X,1,none⟩=some (.int .i64 R.tO)∧V.cell? ⟨X,2,none⟩=some (.int .i64 R.am)∧V.cell? ⟨X,3,none⟩=some (.int .i64 R.ul)∧V.cell? ⟨X,4,none⟩=some (.int .i64 R.va)∧V.cell? ⟨X,21,none⟩=some (.slice R.A1 R.n1 R.c1)∧V.cell? ⟨X,22,none⟩=some (.slice R.A2 R.n2 R.c2) :=
 ⟨h.g.cell 2,h.g.cell 3,h.s.cell 0,h.s.cell 1,h.s.cell 2,h.s.cell 3,h.s.cell 4,h.t.cell 0,hk ▸ h.o.cell 0,h.o.cell 1,h.o.cell 2,h.o.cell 3,h.o.cell 4,h.o.cell 21,h.o.cell 22⟩
end
def ckE (R:OpR) (ht:Int) (H:List UInt8→UInt64) (gt:Int) (l:LkR) (b:Bool) (tt:Int) (y3:Bool):Int :=
 if b=false then 6 else if ((R.tO != tt) || (R.am != gt))=true then 7 else if y3=true then 12 else if ((R.k == 3) && decide (l.ul≤ht) || (R.k == 4) && decide (ht < l.ul))=true then 102 else 0
theorem aKJ {na nv:Nat} {ht:Int} {H:List UInt8→UInt64} {ev:OpR→Bool} {ac:Int} {R:OpR} {S:StV} (hk:R.k=3):dG na nv ht H ev ac R S=ckE R ht H (cX S.C (bZ R.lk)) (lkO (fdK S.K R.lk)) (fdK S.K R.lk).isSome (lkO (fdK S.K R.lk)).tO (!decide (H R.pre=(lkO (fdK S.K R.lk)).hs)):=by
 unfold dG ckE
 rw [if_pos hk,hk]
 cases fdK S.K R.lk with
 | none=>rfl
 | some l=>by_cases h1:H R.pre=l.hs <;> by_cases h2:l.ul≤ht <;> simp [lkO,h1,h2]
theorem aKI {na nv:Nat} {ht:Int} {H:List UInt8→UInt64} {ev:OpR→Bool} {ac:Int} {R:OpR} {S:StV} (hk:R.k=4):dG na nv ht H ev ac R S=ckE R ht H (cX S.C (bZ R.lk)) (lkO (fdK S.K R.lk)) (fdK S.K R.lk).isSome (lkO (fdK S.K R.lk)).ow false:=by
 unfold dG ckE
 rw [if_neg aa,if_pos hk,hk]
 cases fdK S.K R.lk with
 | none=>rfl
 | some l=>by_cases h2:ht < l.ul <;> simp [lkO,h2]
def lwE (x:StpR) (R:OpR) (e1 e2 e3:Bool):Int:=if e1=true then 1 else if e2=true then 102 else if e3=true then 7 else if cX x.s.V.C (aV x.ac) < R.am then 100 else 0
theorem aKH {x:StpR} {H:List UInt8→UInt64} {ev:OpR→Bool} {R:OpR} (hk:R.k=1 ∨ R.k=2 ∨ R.k=5):dG x.m2 x.m1 x.ht H ev x.ac R x.s.V=lwE x R (if R.k=5 then decide ((x.m1:Int)≤R.va) else decide ((x.m2:Int)≤R.tO)) (decide (R.k=2) && decide (R.ul≤x.ht)) (decide (R.k=5) && fA x.s.V.G R.va.toNat):=by
 unfold dG lwE
 rcases hk with h | h | h <;> simp [h]
theorem aEU (x:StpR) (L:List OpR) (i:Nat) (VN:List UInt64) (w:World) (hs:x.s.ok w) (hS:SlO w x.A x.n x.c L) (hi:i < x.n) (hv:vTx x.ac x.sq L=true) (hp:SlG w x.B1 x.m1 x.d1 VN) (hm:x.m2≤9223372036854775807) (hpn:∀ R ∈ L,R.n1≤140737488355328) :
    Calls prog 38 #[.agg (genC x.gN x.gZ x.B1 x.m1 x.d1 x.B2 x.m2 x.d2 x.B3 x.m3 x.d3),.agg (ssA x.s),.agg (txA x.ac x.sq x.A x.n x.c),.int .i64 (i:Int),.int .i64 x.ht] w fun e w'=>e=.returned (.int .i64 (dG x.m2 x.m1 x.ht cL (evU VN) x.ac (bR L i) x.s.V))∧Ext w w':=by
  have HS:=zh hs
  have HPP:=zh hp
  have hml:=Nat.le_trans hp.le hp.cap
  obtain ⟨R,hR⟩:=gx (bR L i)
  have HMEM:=zh (show R ∈ L from by rw [← hR];exact oR rg)
  obtain ⟨hkk,-,-,-,-,-,hvb,-,-⟩:=jI ((dX hv).2 i rg)
  rw [hR] at hkk hvb
  have hac:wfI x.ac:=by obtain ⟨⟨q1,q2,q3,q4,q5,q6⟩,-⟩:=dX hv;exact wfS ⟨aa,aa⟩
  have HACW:=zh hac
  have HPN:=zh (hpn R HMEM.out)
  have HRO:=zh (show R.ok w from hS.g.ok R HMEM.out)
  obtain ⟨W,hW⟩:=gx (((w.alloc (.cells (genC x.gN x.gZ x.B1 x.m1 x.d1 x.B2 x.m2 x.d2 x.B3 x.m3 x.d3) 25)).alloc (.cells (ssA x.s) 30)).alloc (.cells (txA x.ac x.sq x.A x.n x.c) 33))
  have HG:=zh (show Blk W w.heap.size 25 (genC x.gN x.gZ x.B1 x.m1 x.d1 x.B2 x.m2 x.d2 x.B3 x.m3 x.d3) from by rw [← hW];exact ((Blk.new w 25 (genC x.gN x.gZ x.B1 x.m1 x.d1 x.B2 x.m2 x.d2 x.B3 x.m3 x.d3)).alloc _).alloc _)
  have HB:=zh (show Blk W (w.heap.size+1) 30 (ssA x.s) from aw)
  have HT:=zh (show Blk W (w.heap.size+2) 33 (txA x.ac x.sq x.A x.n x.c) from ag)
  have HE:=zh (show Ext w W from bc)
  obtain ⟨b,o,hA,hrow,-⟩:=(hS.ext HE.out).g.at aa
  have hr:W.rangeAt b (o+i * 23) (RowT.enc R):=by rw [← hR,mC];exact cN hrow rg
  have t2:W.cell? ⟨w.heap.size+2,2,none⟩=some (.slice (some ⟨b,o,none⟩) x.n x.c):=by rw [← hA];exact HT.out.cell 2
  have i0:(0:Int)≤(i:Int):=aa
  have i1:(i:Int) < (x.n:Int):=aa
  have hle:=hS.le
  have hcap:=hS.cap
  obtain ⟨v,hv⟩:=gx (Value.agg (opA R))
  have HV:=zh hv
  obtain ⟨X,hX⟩:=gx (W.heap.size)
  have HXS:=zh hX
  rw [hR]
  clear hrow hR hv hX hS hpn hp hs hA hac
  go_enter func38,ntmps38
  go_upto_region 2 with (first | (with_reducible refine aD opP rfl (.tmp 20) rfl b (o+i * 23) rfl R v HV.out hr ?_) | ((with_reducible refine aU opP rfl (.tmp 11) (.tmp 21) rfl jX rfl R v HV.out rfl rfl ?_);intro W4 h4))
  have hx4:Ext W W4:=bi
  have H0:=zh (show CkF w W4 X x R from ⟨HG.out.ext hx4,HB.out.ext hx4,HT.out.ext hx4,ax,HE.out.trans hx4⟩)
  rw [HXS.out]
  clear hx4 h4 hr t2 HG HB HT HE hW i0 i1 HV
  rcases (by omega:(R.k=1 ∨ R.k=2 ∨ R.k=5) ∨ (R.k=3 ∨ R.k=4) ∨ R.k=6) with hk | hk | hk
  · have HSP := zh (aKH (x := x) (H := cL) (ev := evU VN) hk)
    have HAC:=zh (show ceW (aV x.ac) from dP (k:=1) (wfS ⟨aa,aa⟩) HACW.out)
    obtain ⟨z,hz⟩:∃ z:Int,(if cX x.s.V.C (aV x.ac) < R.am then 100 else 0)=z:=⟨_,rfl⟩
    have HZ:=zh hz
    clear hz
    rcases hk with hk | hk | hk
    case' inl =>
      rw [hk] at HSP
      have HK:=zh hk
      by_cases h1:(x.m2:Int)≤R.tO
      · exact xe
      have HS2:=zh (HSP.out.trans (show _=z from by rw [← HZ.out];simp [lwE,h1]))
      obtain ⟨g2,g3,q0,q1,q2,q3,q4,t0,p0,p1,p2,p3,p4,p7,p8⟩:=H0.out.f HK.out
      go_upto_region 12 with fail
      obtain ⟨W9,rfl⟩:∃ W9,W9=W4:=⟨_,rfl⟩
      have H9:=H0
      clear g2 g3 q0 q1 q2 q3 q4 t0 p0 p1 p2 p3 p4 p7 p8 h1 HSP hk
    case' inr.inl =>
      rw [hk] at HSP
      have HK:=zh hk
      by_cases h1:(x.m2:Int)≤R.tO
      · exact xe
      by_cases h2:R.ul≤x.ht
      · have HS1 := zh (HSP.out.trans (show _ = (102 : Int) from by simp [lwE, h1, h2]))
        exact AY
      have HS2:=zh (HSP.out.trans (show _=z from by rw [← HZ.out];simp [lwE,h1,h2]))
      obtain ⟨g2,g3,q0,q1,q2,q3,q4,t0,p0,p1,p2,p3,p4,p7,p8⟩:=H0.out.f HK.out
      go_upto_region 12 with fail
      obtain ⟨W9,rfl⟩:∃ W9,W9=W4:=⟨_,rfl⟩
      have H9:=H0
      clear g2 g3 q0 q1 q2 q3 q4 t0 p0 p1 p2 p3 p4 p7 p8 h1 HSP h2 hk
    case' inr.inr =>
      rw [hk] at HSP
      have HK:=zh hk
      by_cases h1:(x.m1:Int)≤R.va
      · exact xe
      obtain ⟨mg,hmg⟩:=gx (fA x.s.V.G R.va.toNat)
      have HHA:=zh (fun (V:World)=>show Calls prog 91 #[.int .i64 x.s.G,.int .i64 R.va] V (fun e w'=>e=.returned (.bool mg)∧Ext V w') from by
        exact Cg)
      rw [hmg] at HSP
      clear hmg
      obtain ⟨g2,g3,q0,q1,q2,q3,q4,t0,p0,p1,p2,p3,p4,p7,p8⟩:=H0.out.f HK.out
      go_wp2_with fail
      refine zcl (HHA.out _) fun w5 he5=>?_
      have H9:=zh (H0.out.ext he5)
      clear g2 g3 q0 q1 q2 q3 q4 t0 p0 p1 p2 p3 p4 p7 p8 he5 H0
      cases mg
      rotate_left
      · have HS1 := zh (HSP.out.trans (show _ = (7 : Int) from by simp [lwE, show ¬ ((x.m1 : Int) ≤ R.va) from aa]))
        exact BJ
      have HS2:=zh (HSP.out.trans (show _=z from by rw [← HZ.out];simp [lwE,show ¬ ((x.m1:Int)≤R.va) from aa]))
      obtain ⟨g2,g3,q0,q1,q2,q3,q4,t0,p0,p1,p2,p3,p4,p7,p8⟩:=H9.out.f HK.out
      go_upto_region 12 with fail
      obtain ⟨W9,rfl⟩:∃ W9,W9=w5:=⟨_,rfl⟩
      clear g2 g3 q0 q1 q2 q3 q4 t0 p0 p1 p2 p3 p4 p7 p8 h1 HSP hk
    all_goals (
      refine wp_region_held_drew (S:=fun V=>Ext W9 V) ab ((Ext.refl W9).drew') (fun aA=>?_)
      refine zz0 [0,1,2,5,6] ?_;repeat first | refine zz1 ?_ (hy:=cr) | refine zz2 ?_ | refine zz9 ?_
      refine za 3 (fun K hK=>?_)
      (go_simp;go_at_call 21;refine (dC x.ac _).mono ?_;rintro e w5 ⟨rfl,he5⟩)
      refine hK.out _ _ (aA.trans he5) (fun aA=>?_)
      clear hK K
      try simp only [bB]
      refine za 4 (fun K hK=>?_)
      (go_simp;go_at_call 20;refine (kA x.s (aV x.ac) _ (HS.out.ext (H9.out.low.trans aA)) HAC.out).mono ?_;rintro e w5 ⟨rfl,he5⟩)
      refine hK.out _ _ (aA.trans he5) (fun aA=>?_)
      clear hK K
      try simp only [bB]
      refine zt 7 aA ?_
      refine wpd ?_
      have HX9:=zh (H9.out.low.trans aA)
      clear aA
      by_cases h3:cX x.s.V.C (aV x.ac) < R.am
      · have i3 : cX x.s.C (aV x.ac) < R.am := h3
        have HS3:=zh (HS2.out.trans (HZ.out.symm.trans (if_pos h3)))
        go_wp2_with fail
        go_ret
        exact ⟨by rw [HS3.out];rfl,HX9.out⟩
      have i3:¬ cX x.s.C (aV x.ac) < R.am:=h3
      have HS3:=zh (HS2.out.trans (HZ.out.symm.trans (if_neg h3)))
      go_wp2_with fail
      go_ret
      exact ⟨by rw [HS3.out];rfl,HX9.out⟩)
  · have HGC := zh (show ceW (bZ R.lk) from dP (k := 2) (i := 0) (wfS ⟨aa, aa⟩) (wfS ⟨aa, aa⟩))
    have HSUM:=zh (fun (V:World) (e:Ext w V)=>qJ R.A1 R.n1 R.c1 R.pre V (HRO.out.pre.ext e) HPN.out)
    obtain ⟨l,hl⟩:=gx (lkO (fdK x.s.V.K R.lk))
    obtain ⟨bf,hbf⟩:=gx ((fdK x.s.V.K R.lk).isSome)
    obtain ⟨gt,hgt⟩:=gx (cX x.s.V.C (bZ R.lk))
    obtain ⟨vl,hvl⟩:=gx (Value.agg (lkA l))
    have HVL:=zh hvl
    have HFL:=zh (fun (V:World) (e:Ext w V)=>show Calls prog 92 #[.agg (ssA x.s),.agg (nmc R.lk)] V (fun e w'=>e=.returned (.tuple #[vl,.bool bf])∧Ext V w') from by
      rw [← hvl,← hl,← hbf];exact pT x.s R.lk V (HS.out.ext e))
    have HGT:=zh (fun (V:World) (e:Ext w V)=>show Calls prog 20 #[.agg (ssA x.s),.agg (ceA (bZ R.lk))] V (fun e w'=>e=.returned (.int .i64 gt)∧Ext V w') from by
      rw [← hgt];exact kA x.s (bZ R.lk) V (HS.out.ext e) HGC.out)
    obtain ⟨y3,hy3⟩:∃ b:Bool,(!decide (cL R.pre=l.hs))=b:=⟨_,rfl⟩
    have HNE:=zh (fun W=>rP (cL R.pre) l.hs W)
    rw [hy3] at HNE
    rcases hk with hk | hk
    case' inl =>
      have HSP:=zh (aKJ (na:=x.m2) (nv:=x.m1) (ht:=x.ht) (H:=cL) (ev:=evU VN) (ac:=x.ac) (S:=x.s.V) hk)
      rw [hl,hbf,hgt,hy3] at HSP
      obtain ⟨tt,htt⟩:=gx (l.tO)
      have HCL:=zh (fun (V:World) (g:Nat) (h:Blk V g 81 (lkA l))=>show V.cell? ⟨g,17,none⟩=some (.int .i64 tt)∧V.cell? ⟨g,16,none⟩=some (.int .i64 l.ow)∧V.cell? ⟨g,18,none⟩=some (.int .i64 l.ul) from ⟨by rw [← htt];exact h.cell 17,h.cell 16,h.cell 18⟩)
      have HY3:=zh trivial
    case' inr =>
      have HSP:=zh (aKI (na:=x.m2) (nv:=x.m1) (ht:=x.ht) (H:=cL) (ev:=evU VN) (ac:=x.ac) (S:=x.s.V) hk)
      rw [hl,hbf,hgt] at HSP
      clear hy3 HNE
      obtain ⟨y3,hy3⟩:=gx (false)
      have HNE:=zh trivial
      have HY3:=zh hy3
      obtain ⟨tt,htt⟩:=gx (l.ow)
      have HCL:=zh (fun (V:World) (g:Nat) (h:Blk V g 81 (lkA l))=>show V.cell? ⟨g,17,none⟩=some (.int .i64 l.tO)∧V.cell? ⟨g,16,none⟩=some (.int .i64 tt)∧V.cell? ⟨g,18,none⟩=some (.int .i64 l.ul) from ⟨h.cell 17,by rw [← htt];exact h.cell 16,h.cell 18⟩)
      rw [hy3] at HSP
    all_goals (
      rw [htt] at HSP
      have HK:=zh hk
      unfold ckE at HSP
      rw [hk] at HSP
      clear hl hbf hgt hvl hy3 htt hk
      obtain ⟨g2,g3,q0,q1,q2,q3,q4,t0,p0,p1,p2,p3,p4,p7,p8⟩:=H0.out.f HK.out
      have ro:W4.rangeAt X 5 (RowT.enc R.lk):=kJ H0.out.o
      go_wp2_with (first | (with_reducible refine aD nmP rfl (.tmp 94) rfl X 5 rfl R.lk _ rfl ro ?_) | fail "A")
      refine zcl (HFL.out _ H0.out.low) fun w5 he5=>?_
      have H5:=zh (H0.out.ext he5)
      obtain ⟨X2,hX2⟩:=gx (w5.heap.size)
      have HXS2:=zh hX2
      clear g2 g3 q0 q1 q2 q3 q4 t0 p0 p1 p2 p3 p4 p7 p8 ro he5 H0 hX2 HFL
      go_upto_region 17 with ((with_reducible refine aU lkP rfl (.tmp 12) (.tmp 97) rfl lk0 rfl l vl HVL.out rfl rfl ?_);intro W9 h6)
      have hx6:Ext w5 W9:=a8
      have HL:=zh (show Blk W9 X2 81 (lkA l) from by rw [← h6.out,← HXS2.out];exact Blk.new w5 81 (lkA l))
      have H9:=zh (H5.out.ext hx6)
      rw [HXS2.out]
      clear h6 hx6 H5
      cases bf
      · go_wp2_with fail
        go_ret
        exact ⟨bm,H9.out.low⟩
      obtain ⟨g2,g3,q0,q1,q2,q3,q4,t0,p0,p1,p2,p3,p4,p7,p8⟩:=H9.out.f HK.out
      obtain ⟨l1,l2,l3⟩:=HCL.out _ _ HL.out
      obtain ⟨y1,hy1⟩:=gx (R.tO != tt)
      obtain ⟨y2,hy2⟩:=gx (R.am != gt)
      rw [hy1,hy2] at HSP
      go_upto_region 22 with fail
      clear g2 g3 q0 q1 q2 q3 q4 t0 p0 p1 p2 p3 p4 p7 p8 l1 l2 l3
      cases y1
      case' false=>cases y2
      all_goals (
        refine wp_region_held_drew (S:=fun V=>Ext W9 V) ab ((Ext.refl W9).drew') (fun aA=>?_)
        refine zz0 [0,1,2,3,4,5,6,7,8] ?_;repeat first | refine zz1 ?_ (hy:=cr) | refine zz2 ?_ | refine zz9 ?_
        first | refine zu 9 (v:=.agg (nmc R.lk)) aA ?_ (hy:=by exact aG nmP dp (.tmp 116) rfl X 5 rfl R.lk _ rfl (fun V h=>kJ (H9.out.ext h).o)) | (refine zs 9 aA ?_)
        try simp only [bB]
        refine za 10 (fun K hK=>?_)
        (go_simp;first | (go_at_call 93;refine (jQ R.lk _).mono ?_;rintro e w5 ⟨rfl,he5⟩) | skip)
        refine hK.out _ _ lj (fun aA=>?_)
        clear hK K
        try simp only [bB]
        refine za 11 (fun K hK=>?_)
        (go_simp;first | (go_at_call 20;refine (HGT.out _ (H9.out.low.trans aA)).mono ?_;rintro e w5 ⟨rfl,he5⟩) | skip)
        refine hK.out _ _ lj (fun aA=>?_)
        clear hK K
        try simp only [bB]
        refine zzr [12,13] ?_
        refine wpd ?_
        have H10:=zh (H9.out.ext aA)
        have HL10:=zh (HL.out.ext aA)
        clear H9 aA HL hy1 hy2)
      rotate_left
      · go_wp2_with fail
        go_ret
        exact ⟨bm,H10.out.low⟩
      · go_wp2_with fail
        go_ret
        exact ⟨by rw [HSP.out];simp,H10.out.low⟩
      obtain ⟨W9,rfl⟩:∃ W,W=w5:=⟨_,rfl⟩
      have HL:=HL10
      have H9:=H10
      clear HL10 H10
      obtain ⟨g2,g3,q0,q1,q2,q3,q4,t0,p0,p1,p2,p3,p4,p7,p8⟩:=H9.out.f HK.out
      obtain ⟨l1,l2,l3⟩:=HCL.out _ _ HL.out
      go_upto_region 24 with fail
      clear g2 g3 q0 q1 q2 q3 q4 t0 p0 p1 p2 p3 p4 p7 p8 l1 l2 l3
      refine wp_region_held_drew (S:=fun V=>Ext W9 V) ab ((Ext.refl W9).drew') (fun aA=>?_)
      refine zz0 [0,1,2,3,4,5,7] ?_;repeat first | refine zz1 ?_ (hy:=cr) | refine zz2 ?_ | refine zz9 ?_
      first | refine zu 8 (v:=.agg (nmc l.hs)) aA ?_ (hy:=by exact aG nmP dp (.tmp 129) rfl X2 8 rfl l.hs _ rfl (fun V h=>aBF (HL.out.ext h))) | (refine zs 8 aA ?_)
      try simp only [bB]
      refine za 6 (fun K hK=>?_)
      (go_simp;first | (go_at_call 94;refine (HSUM.out _ (H9.out.low.trans aA)).mono ?_;rintro e w5 ⟨rfl,he5⟩) | skip)
      refine hK.out _ _ lj (fun aA=>?_)
      clear hK K
      try simp only [bB]
      first | refine zu 9 (v:=.bool y3) aA ?_ (hy:=by exact cK dp (.tmp 128) (.tmp 130) dp (vx:=.agg (nmc (cL R.pre))) (vy:=.agg (nmc l.hs)) dp dp (fZ _ _ _ _ _) (HNE.out)) | (refine zs 9 aA ?_)
      try simp only [bB]
      refine zt 10 aA ?_
      refine wpd ?_
      have H10:=zh (H9.out.ext aA)
      have HL10:=zh (HL.out.ext aA)
      clear H9 aA HL
      cases y3
      rotate_left
      · first
        | exact absurd HY3.out ae
        | (go_wp2_with fail
           go_ret
           exact ⟨bm,H10.out.low⟩)
      obtain ⟨g2,g3,q0,q1,q2,q3,q4,t0,p0,p1,p2,p3,p4,p7,p8⟩:=H10.out.f HK.out
      obtain ⟨l1,l2,l3⟩:=HCL.out _ _ HL10.out
      by_cases h5:l.ul≤x.ht
      · have i5 : ¬ x.ht < l.ul := aa
        exact Cy
      have i5:x.ht < l.ul:=aa
      exact Cy)
  skip
  have HSP:=zh (show dG x.m2 x.m1 x.ht cL (evU VN) x.ac R x.s.V=if (x.m1:Int)≤R.va then 1 else if fA x.s.V.G R.va.toNat=true then 7 else if evU VN R=true then 0 else 12 from by
    unfold dG;rw [if_neg aa,if_neg aa,if_pos hk])
  have HK:=zh hk
  clear hk
  by_cases h1:(x.m1:Int)≤R.va
  · have HS1 := zh (HSP.out.trans (show _ = (1 : Int) from by simp [h1]))
    exact AY
  obtain ⟨mg,hmg⟩:=gx (fA x.s.V.G R.va.toNat)
  have HHA:=zh (fun (V:World)=>show Calls prog 91 #[.int .i64 x.s.G,.int .i64 R.va] V (fun e w'=>e=.returned (.bool mg)∧Ext V w') from by
    exact Cg)
  rw [hmg] at HSP
  clear hmg
  obtain ⟨g2,g3,q0,q1,q2,q3,q4,t0,p0,p1,p2,p3,p4,p7,p8⟩:=H0.out.f HK.out
  go_wp2_with fail
  refine zcl (HHA.out _) fun w5 he5=>?_
  have H9:=zh (H0.out.ext he5)
  clear g2 g3 q0 q1 q2 q3 q4 t0 p0 p1 p2 p3 p4 p7 p8 he5 H0
  cases mg
  rotate_left
  · have HS1 := zh (HSP.out.trans (show _ = (7 : Int) from by simp [show ¬ ((x.m1 : Int) ≤ R.va) from aa]))
    exact BJ
  have HS2:=zh (HSP.out.trans (show _=if evU VN R=true then (0:Int) else 12 from by simp [show ¬ ((x.m1:Int)≤R.va) from aa]))
  obtain ⟨g2,g3,q0,q1,q2,q3,q4,t0,p0,p1,p2,p3,p4,p7,p8⟩:=H9.out.f HK.out
  clear HSP h1
  go_wp2_with fail
  refine (zX R.A2 R.n2 R.c2 R.prf _ (HRO.out.prf.ext H9.out.low)).mono ?_
  rintro e w2 ⟨E,rfl,hok,he2,hev⟩
  obtain ⟨kc,hkc⟩:=gx (evR R.prf)
  rw [hkc] at hev ⊢
  obtain ⟨vE,hvE⟩:=gx (Value.agg (evA E))
  rw [hvE]
  have HVE:=zh hvE
  have HEV:=zh hev
  have HKC:=zh (show decide (evC R.prf=0)=decide (kc=0) from by rw [← hkc];exact decide_eq_decide.2 (aJp R.prf).symm)
  have HOK:=zh hok
  have H2:=zh (H9.out.ext he2)
  obtain ⟨X2,hX⟩:=gx (w2.heap.size)
  have HXS:=zh hX
  clear g2 g3 q0 q1 q2 q3 q4 t0 p0 p1 p2 p3 p4 p7 p8 he2 H9 hvE hev hkc hok hX
  go_upto_region 32 with ((with_reducible refine aU evP rfl (.tmp 15) (.tmp 164) rfl ev0 rfl E vE HVE.out rfl rfl ?_);intro W9 h4)
  have hx4:Ext w2 W9:=qm
  have H4:=zh (H2.out.ext hx4)
  have HOK4:=zh (show RowT.ok E W9 from RowT.ext E w2 W9 HOK.out hx4)
  have HR4:=zh (show Blk W9 X2 128 (evA E) from nr)
  obtain ⟨g2,g3,q0,q1,q2,q3,q4,t0,p0,p1,p2,p3,p4,p7,p8⟩:=H4.out.f HK.out
  have x4:W9.cell? ⟨X2,4,none⟩=some (.int .i64 E.a.v.si):=HR4.out.cell 4
  have rE:W9.rangeAt X2 0 (RowT.enc E):=aC HR4.out
  try rw [HXS.out]
  clear h4 hx4 H2 HOK
  by_cases h1:kc=0
  rotate_left
  · have HF := zh (HS2.out.trans (show _ = (12 : Int) from by unfold evU; rw [HKC.out, decide_eq_false h1]; rfl))
    have b1:(kc != 0)=true:=bne_iff_ne.2 h1
    go_wp2_with fail
    go_ret
    exact ⟨av,H4.out.low⟩
  subst h1
  obtain ⟨f1,f2,f3,f4⟩:=HEV.out rfl
  obtain ⟨si,hsi⟩:=gx (E.a.v.si)
  obtain ⟨z,hz⟩:=gx (evV VN E.a.v E.a.sig E.b.v E.b.sig)
  have HU:=zh (show evU VN R=(decide (si=R.va) && z) from by
    unfold evU
    rw [HKC.out,← f1,← f2,← f3,← f4,hz,hsi];rfl)
  have HVL:=zh (aBy x.B1 x.m1 x.d1 VN E W9 (HPP.out.ext H4.out.low) HOK4.out)
  rw [hz,HVE.out] at HVL
  rw [hsi] at x4
  clear f1 f2 f3 f4 hz hsi
  by_cases h2:si=R.va
  rotate_left
  · have HF := zh (HS2.out.trans (show _ = (12 : Int) from by rw [HU.out, decide_eq_false h2]; rfl))
    have b1:(si != R.va)=true:=bne_iff_ne.2 h2
    go_wp2_with fail
    go_ret
    exact ⟨av,H4.out.low⟩
  have HU2:=zh (show evU VN R=z from by rw [HU.out,decide_eq_true h2];rfl)
  have b1:(si != R.va)=false:=by rw [h2];exact bne_self_eq_false _
  clear h2
  go_wp2_with (with_reducible refine aX evP ay (.tmp 15) rfl X2 0 rfl E vE HVE.out rE ?_)
  refine zcl HVL.out fun w5 he5=>?_
  have HX5:=zh (H4.out.low.trans he5)
  clear g2 g3 q0 q1 q2 q3 q4 t0 p0 p1 p2 p3 p4 p7 p8 x4 rE he5
  cases z
  · have HF := zh (HS2.out.trans (show _ = (12 : Int) from by rw [HU2.out]; rfl))
    go_wp2_with fail
    go_ret
    exact ⟨av,HX5.out⟩
  have HF:=zh (HS2.out.trans (show _=(0:Int) from by rw [HU2.out];rfl))
  go_wp2_with fail
  go_ret
  exact ⟨av,HX5.out⟩
section
variable {ops:Array Oper} {rest:List Oper} {o o2:Oper} {a:Act} {w:World} {K:Act→World→Prop} {Q:Exit→Act→World→Prop}
theorem fE (hgd:o.guard=none) (ty:TypeId) (x y:Operand) (ho:o.op=.store ty x y) (cs ds:Array Value) (v:Value) (hv:Value.agg ds=v) (hx:a.eval x=.pointer (some ⟨w.heap.size,0,none⟩)) (hy:a.eval y=v) (hcs:ds.size=cs.size) (hi:(prog.info? ty).map (·.size)=some ds.size) (h1:ds.all (·.oneCell')=true)
  (h:∀ W2 g,Hid (Blk W2 g ty ds∧Ext w W2∧w.heap.size=g)→wpList prog ops Q rest (a.put o.dst undef) W2):wpList prog ops Q (o :: rest) a (w.alloc (.cells cs ty)):=by
 subst hv
 refine wpList_store_mid hgd ty x y ho w.heap.size 0 ds hx hy (by rw [hcs];exact aI (Blk.new w ty cs)) hi h1 ?_
 rw [eD w ty cs ds hcs]
 exact h _ _ (zh ⟨Blk.new w ty ds,(Ext.refl w).alloc' _,rfl⟩)
theorem eA (hgd:o.guard=none) (ty:TypeId) (x y:Operand) (ho:o.op=.store ty x y) (g:Nat) (cs ds:Array Value) (v:Value) (hv:Value.agg ds=v) (hx:a.eval x=.pointer (some ⟨g,0,none⟩)) (hy:a.eval y=v) (hcs:ds.size=cs.size) (hi:(prog.info? ty).map (·.size)=some ds.size) (h1:ds.all (·.oneCell')=true) (hb:Blk w g ty cs)
  (h:∀ W2,Hid (Blk W2 g ty ds∧w.setCells g 0 ds.toList=W2)→wpList prog ops Q rest (a.put o.dst undef) W2):wpList prog ops Q (o :: rest) a w:=by
 subst hv
 exact wpList_store_mid hgd ty x y ho g 0 ds hx hy (by rw [hcs];exact aI hb) hi h1 (h _ (zh ⟨aN hb hcs,rfl⟩))
end
theorem aHg (n:Int):opA (opW n none 0 none 0)=#[.int .i64 1,.int .i64 1,.int .i64 n,.int .i64 0,.int .i64 0,.int .u8 0,.int .u8 0,.int .u8 0,.int .u8 0,.int .u8 0,.int .u8 0,.int .u8 0,.int .u8 0,.int .u8 0,.int .u8 0,.int .u8 0,.int .u8 0,.int .u8 0,.int .u8 0,.int .u8 0,.int .u8 0,.slice none 0 0,.slice none 0 0]:=by
 unfold opA opW;simp only [bJ 0 aa,bJ 1 aa,bJ 2 aa,bJ 3 aa,bJ 4 aa,bJ 5 aa,bJ 6 aa,bJ 7 aa]
theorem aNc (n:Int) (w:World) (g:Nat) (t:TypeId) (h:Blk w g t (opA (opW n none 0 none 0))):SlO w (some ⟨g,0,none⟩) 1 1 [opW n none 0 none 0] :=
 ⟨rfl,Nat.le_refl _,by omega,by
  have e:ocs [opW n none 0 none 0]=(opA (opW n none 0 none 0)).toList:=by rw [oQ,aGb,List.append_nil];rfl
  rw [e];exact Rd.of_blk h,fun R hR=>by
  rw [List.mem_singleton] at hR
  subst hR
  exact ⟨SlB.nil w,SlB.nil w⟩⟩
def tS (n:Int) (A:Option Addr) (c:Nat) (S:Option Addr) (m d:Nat) (A1:Option Addr) (c1:Nat) (A2:Option Addr) (c2:Nat) (sg:List UInt8):TxR:=⟨0,0,A,1,c,S,m,d,[opW n A1 c1 A2 c2],sg⟩
def aOj (n:Int) (w:World) (e:Ending) (w':World):Prop:=∃ (A:Option Addr) (c:Nat) (S:Option Addr) (m d:Nat) (A1:Option Addr) (c1:Nat) (A2:Option Addr) (c2:Nat) (sg:List UInt8),e=.returned (.tuple #[.agg (stA 0 0 A 1 c S m d),.int .i64 0])∧(tS n A c S m d A1 c1 A2 c2 sg).ok w'∧vSg (mB eU 1) (tS n A c S m d A1 c1 A2 c2 sg)=true∧Ext w w'
theorem wN (n:Int) (hn:n=6 ∨ n=4) (w:World):Calls prog 14 #[.agg #[.int .u8 1,.int .u8 0,.int .u8 0,.int .u8 0,.int .u8 0,.int .u8 0,.int .u8 0,.int .u8 0],.agg #[.int .i64 0,.int .i64 0,.slice (some ⟨w.heap.size,0,none⟩) 1 1]] (w.alloc (.cells #[.int .i64 1,.int .i64 1,.int .i64 n,.int .i64 0,.int .i64 0,.int .u8 0,.int .u8 0,.int .u8 0,.int .u8 0,.int .u8 0,.int .u8 0,.int .u8 0,.int .u8 0,.int .u8 0,.int .u8 0,.int .u8 0,.int .u8 0,.int .u8 0,.int .u8 0,.int .u8 0,.int .u8 0,.slice none 0 0,.slice none 0 0] 52)) (aOj n w):=by
 rw [← lZ,← aHg n]
 refine (zJ eU 0 0 (some ⟨w.heap.size,0,none⟩) 1 1 [opW n none 0 none 0] _ (aNc n _ _ 52 (Blk.new w _ _))).mono ?_
 have hV:vTx 0 0 [opW n none 0 none 0]=true:=by rcases hn with rfl | rfl;exact vW6 none 0 none 0;exact vW4 none 0 none 0
 rintro e w' ⟨he,h⟩
 rcases h with ⟨h,-⟩ | ⟨-,T,rfl,hT,hv⟩
 ·rw [hV] at h;cases h
 have hl:aFF [opW n none 0 none 0]:=by
  intro R hR
  rw [List.mem_singleton] at hR
  subst hR
  exact ⟨rfl,rfl⟩
 have h1:=aGK eU _ 0 0 _ rfl hl hV T (aKq hT) hv
 obtain ⟨ac,sq,A,k,c,S,m,d,L,sg⟩:=T
 unfold TxR.v at hv
 simp only [Prod.mk.injEq] at hv
 obtain ⟨rfl,rfl,h3,h4⟩:=hv
 have hops:=hT.ops
 simp only at hops h3 h4
 obtain ⟨A1,c1,A2,c2,rfl⟩:=aLZ hops.ok h3
 have h5:1=k:=hops.len
 subst h5
 exact ⟨A,c,S,m,d,A1,c1,A2,c2,sg,rfl,hT,h1,((Ext.refl w).alloc' _).trans he⟩
theorem aNE (H:List UInt8→UInt64) (ev:OpR→Bool) (A1:Option Addr) (c1:Nat) (A2:Option Addr) (c2:Nat):nX (dG 2 1 1 H ev 0) true 2 true S22 0 0 [opW 6 A1 c1 A2 c2]=S22:=by kernel_rfl
theorem aLS {w:World} {A:Option Addr} {n c:Nat} {l:List Int} (h:SlG w A n c l):SlZ w A n c l:=⟨h.len,h.le,h.cap,by
 have e:gcs l=ics l:=by
  induction l with
  | nil=>rfl
  | cons x r ih =>
   clear h ih
   generalize x :: r=L
   induction L with
   | nil=>rfl
   | cons y q iq=>rw [dK,iq];rfl
 rw [← e];exact h.rd⟩
theorem aFE {w:World} {s:StR} (h:s.ok w) (hv:s.V=S22):s.n1≤200000∧s.n2≤200000∧s.n3≤200000∧s.n4≤200000:=by
 rw [aNV] at hv
 have e1:s.C=_:=congrArg StV.C hv
 have e2:s.Q=_:=congrArg StV.Q hv
 have e3:s.K=_:=congrArg StV.K hv
 have e4:s.P=_:=congrArg StV.P hv
 have l1:=h.s1.len
 have l2:=h.s2.len
 have l3:=h.s3.len
 have l4:=h.s4.len
 rw [e1] at l1;rw [e2] at l2;rw [e3] at l3;rw [e4] at l4
 simp only [List.length_cons,List.length_nil] at l1 l2 l3 l4
 omega
theorem yI (n:Int) (hn:n=6 ∨ n=4) (s:StR) (hv:s.V=S22) (B1 B2 B3 A:Option Addr) (c:Nat) (S:Option Addr) (m d:Nat) (A1:Option Addr) (c1:Nat) (A2:Option Addr) (c2:Nat) (sg:List UInt8) (w:World) (hs:s.ok w) (hN:SlG w B2 2 2 [mB eU 1,mB nA 1]) (hB:SlG w B3 2 2 [(5:Int),0]) (hT:(tS n A c S m d A1 c1 A2 c2 sg).ok w) (hg:vSg (mB eU 1) (tS n A c S m d A1 c1 A2 c2 sg)=true) :
  Calls prog 8 #[.agg (genC 1 3 B1 1 1 B2 2 2 B3 2 2),.agg (ssA s),.agg (stA 0 0 A 1 c S m d),.int .i64 1] w (fun e w'=>∃ (s2:StR) (A9:Option Addr) (n9 c9:Nat) (g9:Int),e=.returned (.tuple #[.agg (ssA s2),.agg (rcA ⟨if n=6 then 100 else 0,A9,n9,c9,if n=6 then 0 else 4,g9⟩)])∧s2.ok w'∧(n=6→s2.V=S22)∧(n=4→s2.C=[⟨aV 0,1⟩,⟨aV 1,4⟩,⟨bY 0,3⟩]∧n9=2)∧Ext w w'):=by
 have hA:=uT ⟨1,3,B1,1,1,B2,2,2,B3,2,2,s,0,0,A,1,c,1⟩ S m d [opW n A1 c1 A2 c2] sg [mB eU 1,mB nA 1] [5,0] (fun _=>false) true true _ w hs hT hN (aLS hB) (show (1:Nat)≤9223372036854775807 from ae) (aFE hs hv) (by
  intro R hR
  rw [List.mem_singleton] at hR
  subst hR
  exact Nat.zero_le _) aOb hg rfl (by
  intro R hR hk
  rw [List.mem_singleton] at hR
  subst hR
  exact absurd (show (1:Int)=6 from hk) ae)
 refine hA.mono ?_
 simp only
 rw [hv]
 rintro e w' ⟨s2,A9,n9,c9,rfl,ho,hV,hl,he⟩
 rcases hn with rfl | rfl
 ·rw [aNQ] at hl ⊢
  rw [aNE] at hV ⊢
  exact ⟨s2,A9,n9,c9,_,rfl,ho.ok,fun _=>hV,fun h=>absurd h ae,he⟩
 rw [aNR] at hl ⊢
 refine ⟨s2,A9,n9,c9,rcG 0 S22 (nX (dG 2 1 1 cL (fun _=>false) 0) true 2 true S22 0 0 [opW 4 A1 c1 A2 c2]),?_,ho.ok,fun h=>absurd h ae,fun _=>⟨?_,?_⟩,he⟩
 ·rw [if_neg ae,if_neg ae,show rcO 0 0 0 [opW 4 A1 c1 A2 c2]=4 from by unfold rcO;rw [if_pos rfl,aNI]]
 ·exact (congrArg StV.C hV).trans (aNF _ _ A1 c1 A2 c2)
 have h1:=hl.len
 unfold rcE at h1
 rw [if_pos rfl,aNP] at h1
 exact h1.symm
def sR (L:List OpR) (n:Nat):Nat:=2 * ((List.range n).filter fun i=>decide ((bR L i).k ≠ 6)).length
theorem tW (L:List OpR) (n:Nat):sR L (n+1)=sR L n+(if (bR L n).k ≠ 6 then 2 else 0):=by
 unfold sR
 rw [List.range_succ,List.filter_append,List.length_append,List.filter_cons,List.filter_nil]
 by_cases h:(bR L n).k ≠ 6
 ·rw [if_pos (decide_eq_true h),if_pos h];simp;omega
 rw [if_neg lx,if_neg h];simp
theorem aDN {ac sq:Int} {L:List OpR} {i:Nat} (h:1≤(bR L i).k∧(bR L i).k≤6):(cP ac sq L i).length=if (bR L i).k ≠ 6 then 2 else 0:=by
 unfold cP
 by_cases h6:(bR L i).k=6
 ·rw [if_neg aa,if_neg aa,if_neg aa,if_neg aa,if_neg aa];rfl
 rw [if_pos h6]
 split
 ·rfl
 split
 ·rfl
 split
 ·rfl
 split
 ·rfl
 omega
theorem aJt {ac sq:Int} {L:List OpR} (n:Nat) (h:∀ i,i < n→1≤(bR L i).k∧(bR L i).k≤6):(jD ac sq L n).length=sR L n:=by
 induction n with
 | zero=>rfl
 | succ n ih=>rw [eL,List.length_append,ih (fun i hi=>h i aa),aDN (h n aa),tW]
theorem aHC (ac sq:Int) (L:List OpR) (i m:Nat):∃ r,jD ac sq L (i+1+m)=jD ac sq L i ++ (cP ac sq L i ++ r):=by
 induction m with
 | zero=>exact ⟨[],by rw [Nat.add_zero,eL,List.append_nil]⟩
 | succ m ih =>
  obtain ⟨r,hr⟩:=ih
  exact ⟨r ++ cP ac sq L (i+1+m),by rw [← Nat.add_assoc,eL,hr];simp only [List.append_assoc]⟩
theorem aJr {ac sq:Int} {L:List OpR} (hv:vTx ac sq L=true) {i:Nat} (hi:i < L.length) (h6:(bR L i).k ≠ 6) :
  sR L i+2≤(iO ac sq L).length∧((iO ac sq L).drop (sR L i)).take 2=cP ac sq L i:=by
 have hk:∀ j,j < L.length→1≤(bR L j).k∧(bR L j).k≤6:=fun j hj=>(jI ((dX hv).2 j hj)).1
 have e:iO ac sq L=jD ac sq L L.length:=pm
 obtain ⟨r,hr⟩:=aHC ac sq L i (L.length - (i+1))
 rw [show i+1+(L.length - (i+1))=L.length by omega] at hr
 have hc:=aJt (ac:=ac) (sq:=sq) i (fun j hj=>hk j aa)
 have h2:(cP ac sq L i).length=2:=by rw [aDN (hk i hi),if_pos h6]
 rw [e,hr]
 refine ⟨by rw [List.length_append,List.length_append,hc,h2];omega,?_⟩
 rw [← hc,List.drop_left,← h2,List.take_left]
theorem aDL {o:Oper} {a:Act} (x y z:Operand) (ho:o.op=.slice 26 x (some y) (some z) none) (A:Option Addr) (n c k m:Nat) (hx:a.eval x=.slice A n c) (hy:a.eval y=.int .i64 (k:Int)) (hz:a.eval z=.int .i64 (m:Int)) (hkm:k≤m) (hmn:m≤n) (hnc:n≤c) (w:World) :
  (execOp a.eval o).run prog w=.ok (.value (.slice (if c=k then A else A.map (·.add (k * 11))) (m - k) (c - k))) w:=by
 have i0:(0:Int)≤(k:Int):=aa
 have i1:(k:Int)≤(m:Int):=aa
 have i2:(m:Int)≤(c:Int):=aa
 have i3:(0:Int)≤(m:Int):=aa
 unfold execOp
 simp only [ho,hx,Option.map,hy,hz]
 go_simp
 split <;> (try rfl) <;> (cases A <;> rfl)
theorem yT {o:Oper} {a:Act} {w:World} {ops:Array Oper} {rest:List Oper} {Q:Exit→Act→World→Prop} (hgd:o.guard=none) (x y z:Operand) (ho:o.op=.slice 26 x (some y) (some z) none) (A:Option Addr) (n c k m:Nat) (hx:a.eval x=.slice A n c) (hy:a.eval y=.int .i64 (k:Int)) (hz:a.eval z=.int .i64 (m:Int)) (hkm:k≤m) (hmn:m≤n) (hnc:n≤c)
  (h:∀ A8,Hid ((if c=k then A else A.map (·.add (k * 11)))=A8)→wpList prog ops Q rest (a.put o.dst (.slice A8 (m - k) (c - k))) w):wpList prog ops Q (o :: rest) a w :=
 dV hgd (aDL x y z ho A n c k m hx hy hz hkm hmn hnc) (h _ (zh rfl))
theorem aES (ac sq:Int) (A:Option Addr) (n c:Nat) (L:List OpR) (i:Nat) (w:World) (hS:SlO w A n c L) (hi:i < n) (hv:vTx ac sq L=true) :
  Calls prog 98 #[.agg (txA ac sq A n c),.int .i64 (i:Int)] w (aJI w (cP ac sq L i)):=by
 obtain ⟨W,hW⟩:=gx (w.alloc (.cells (txA ac sq A n c) 33))
 have HB:=zh (show Blk W w.heap.size 33 (txA ac sq A n c) from cw)
 have HE:=zh (show Ext w W from be)
 have HS:=zh hS
 have hle:=hS.le
 have hcap:=hS.cap
 have HLEN:=zh hS.len
 obtain ⟨⟨a1,a2,a3,a4,a5,a6⟩,hop⟩:=dX hv
 have hn4:n≤4:=fj
 have HVT:=zh hv
 have HKB:=zh (show ∀ j,j < n→1≤(bR L j).k∧(bR L j).k≤6 from fun j hj=>(jI (hop j (by rw [HLEN.out];exact hj))).1)
 obtain ⟨b,o,hA,-,-⟩:=HS.out.g.at aa
 subst hA
 have HCELL:=zh (fun (V:World) (e:Ext w V) (j:Nat) (hj:j < n)=>show V.cell? ⟨b,o+j * 23,none⟩=some (.int .i64 (bR L j).k) from by
  obtain ⟨b2,o2,e2,hr2,-⟩:=(HS.out.ext e).g.at aa
  injection e2 with e3
  injection e3 with e4 e5
  subst e4
  subst e5
  have h1:=cN (k:=j) hr2 (by rw [HLEN.out];exact hj)
  rw [← mC] at h1
  exact h1 0 _ rfl)
 clear hS hv hop a1 a2 a3 a4 a5 a6
 go_enter func98,ntmps98
 go_wp2_with fail
 go_loopw [5,6] (fun vk vj wr=>∃ j:Nat,vj=.int .i64 (j:Int)∧j≤i∧vk=.int .i64 (sR L j:Int)∧sR L j≤2 * j∧wr=W) (fun _ j _=>i - (intOf j).toNat)
 case atStart=>exact ⟨0,rfl,Nat.zero_le _,rfl,Nat.le_refl _,rfl⟩
 case round =>
  obtain ⟨j,rfl,hj,rfl,hc,rfl⟩:=hrel
  have t2:=HB.out.cell 2
  by_cases hlt:j < i
  ·have i0 : (0 : Int) ≤ (j : Int) := aa
   have i1:(j:Int) < (i:Int):=aa
   have i2:(j:Int) < (n:Int):=aa
   have c0:=HCELL.out _ HE.out j aa
   by_cases h6:(bR L j).k=6
   ·have HC := zh (show sR L (j + 1) = sR L j from by rw [tW, if_neg (by simp [h6])]; rfl)
    rw [h6] at c0
    clear h6
    go_wp2_with fail
    go_roundw
    case rel=>exact ⟨j+1,ar,hlt,ia,by rw [HC.out];omega,trivial⟩
    case measure=>simp [intOf];omega
   have HC:=zh (show sR L (j+1)=sR L j+2 from by rw [tW,if_pos h6])
   obtain ⟨z,hz⟩:=gx ((bR L j).k)
   rw [hz] at c0 h6
   obtain ⟨ct,hct⟩:=gx (sR L j)
   rw [hct] at hc HC ⊢
   have b1:(z != 6)=true:=bne_iff_ne.2 h6
   clear hz hct h6
   go_wp2_with fail
   go_roundw
   case rel=>exact ⟨j+1,ar,hlt,by rw [HC.out];go_num,by rw [HC.out];omega,trivial⟩
   case measure=>simp [intOf];omega
  obtain rfl:i=j:=aa
  have i1:¬ (i:Int) < (i:Int):=aa
  have i2:(i:Int) < (n:Int):=aa
  have i3:(0:Int)≤(i:Int):=aa
  have t0:=HB.out.cell 0
  have t1:=HB.out.cell 1
  have c0:=HCELL.out _ HE.out i hi
  by_cases h6:(bR L i).k=6
  ·have HZ:=zh (show cP ac sq L i=[] from by
    unfold cP
    rw [if_neg aa,if_neg aa,if_neg aa,if_neg aa])
   rw [h6] at c0
   clear h6
   go_wp2_with fail
   go_ret
   exact ⟨none,0,0,rfl,by rw [HZ.out];exact SlG.nil _,HE.out⟩
  obtain ⟨p1,p2⟩:=aJr HVT.out gh h6
  have HP2:=zh p2
  obtain ⟨z,hz⟩:=gx ((bR L i).k)
  rw [hz] at c0 h6
  obtain ⟨ct,hct⟩:=gx (sR L i)
  rw [hct] at hc p1 HP2 ⊢
  have b1:(z == 6)=false:=beq_eq_false_iff_ne.2 h6
  have b2:decide (z=6)=false:=decide_eq_false h6
  have HEF:=zh (uP ac sq (some ⟨b,o,none⟩) n c L _ (HS.out.ext HE.out))
  clear hz hct h6 p2
  go_wp2_with fail
  refine HEF.out.mono ?_
  rintro e w5 ⟨A5,n5,c5,rfl,ho5,hw5,he5⟩
  have HSL:=zh (show SlG w5 A5 n5 c5 (iO ac sq L) from OwnG.sl (e:=92) ho5 hw5)
  have hn5:(iO ac sq L).length=n5:=HSL.out.len
  have hle5:=HSL.out.le
  have hcp5:=HSL.out.cap
  have hct5:ct≤ct+2:=aa
  have hct6:ct+2≤n5:=aa
  have HX5:=zh (HE.out.trans he5)
  clear ho5 hw5 he5 t0 t1 t2 c0 HEF
  go_wp2_with ((with_reducible refine yT rfl (.tmp 29) (.tmp 30) (.tmp 32) rfl A5 n5 c5 ct (ct+2) rfl rfl ?hz2 hct5 hct6 hle5 ?_);(case hz2=>go_num);intro A8 h8)
  go_ret
  refine ⟨A8,2,c5 - ct,rfl,?_,HX5.out⟩
  have hr:=Rd.cutG (k:=ct) (size:=11) HSL.out.rd rfl hn5 aa hle5
  rw [h8.out] at hr
  have hd:=hr.take (2 * 11)
  have e2:(gcs ((iO ac sq L).drop ct)).take (2 * 11)=gcs (((iO ac sq L).drop ct).take 2):=iV (α:=DeR) _ 2
  rw [e2,HP2.out] at hd
  exact ⟨by rw [← HP2.out,List.length_take,List.length_drop];omega,aa,aa,hd,fun d hd=>by
   rw [← HP2.out] at hd
   exact HSL.out.ok d (List.mem_of_mem_drop (List.mem_of_mem_take hd))⟩
end
end Go.Proofs.YtgmnmjeccfnmbaaGreat
