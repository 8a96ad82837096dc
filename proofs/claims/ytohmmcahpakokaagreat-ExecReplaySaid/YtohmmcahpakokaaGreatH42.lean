/- The reference's OpenLock, Mark, CloseLock. -/
import Derived.Test.YtohmmcahpakokaaGreatH30
import Derived.Test.YtohmmcahpakokaaGreatH38
import Derived.Test.YtohmmcahpakokaaGreatH39
import Derived.Test.YtohmmcahpakokaaGreatH40
set_option maxRecDepth 100000
set_option maxHeartbeats 8000000
set_option linter.unusedVariables false
set_option linter.unusedSimpArgs false
namespace Go.Proofs.YtohmmcahpakokaaGreat
section
open Go.RowKit
attribute [local go_sem ↓] Go.wp_at_zero Go.wp_at_succ
theorem aEt (s0:StR) (d:LkR) (w:World) (h:s0.ok w) (hd0:lkW d) (hn:s0.n1≤1000000∧s0.n2≤1000000∧s0.n3≤1000000∧s0.n4≤1000000):Calls Tryz.prog 119 #[.agg (ssA s0),.agg (lkA d)] w (gW w ⟨s0.C,s0.Q,eT s0.K d,s0.P,s0.G⟩):=by
 obtain ⟨W,hW,HB,HC,HR,HE⟩:=en2 w s0 (lkA d) 94
 obtain ⟨q0,q1,q2,q3,q4⟩:=aE HB.out
 have HS0:=zh h
 have HN:=zh hn
 clear h hn
 have HDW:=zh hd0
 clear hd0
 go_enter Tryz.func119,Tryz.ntmps119
 go_wp2_with fail
 refine (gJ s0 W (HS0.out.ext HE.out) (by have:=HN.out;omega)).mono ?_
 rintro e w5 ⟨s1,rfl,ho1,hv1,he5⟩
 clear q0 q1 q2 q3 q4
 go_upto_region 2 with ((with_reducible refine aF rfl (.tmp 2) (.tmp 10) rfl w.heap.size s1 rfl rfl (HB.out.ext he5) ?_);intro W7 h7)
 obtain ⟨HS7,hk7,HBD⟩:=cpS HS0 (by have:=HN.out;omega) HB HE ho1 hv1 he5 h7
 have HC7:=zh (hk7 _ _ _ HC.out (by omega))
 have HR7:=zh (hk7 _ _ _ HR.out (by omega))
 have HV1:=zh hv1
 clear hk7 h7 ho1 hv1 he5 HB HC HR HE
 have HL1:=zh HS7.out.own.l3
 obtain ⟨q0,q1,q2,q3,q4⟩:=aE HS7.out.blk
 have rn:W7.rangeAt (w.heap.size+1) 0 (RowT.enc d.nm):=aY (k:=8) (aD HC7.out)
 have HFL:=zh (wR s1 d.nm W7 HS7.out.own.ok)
 obtain ⟨l,hl⟩:∃ l,lkO (fdK s1.K d.nm)=l:=⟨_,rfl⟩
 obtain ⟨v,hv⟩:∃ v,Value.agg (lkA l)=v:=⟨_,rfl⟩
 obtain ⟨fb,hfb⟩:∃ b,(fdK s1.K d.nm).isSome=b:=⟨_,rfl⟩
 have HV:=zh hv
 have HFB:=zh hfb
 rw [hl,hv,hfb] at HFL
 clear hl hv hfb
 go_wp2_with (with_reducible refine aC nmP rfl (.tmp 13) rfl (w.heap.size+1) 0 rfl d.nm _ rfl rn ?_)
 refine HFL.out.mono ?_
 rintro e W0 ⟨rfl,he0⟩
 clear q0 q1 q2 q3 q4 rn HFL
 go_upto_region 3 with ((with_reducible refine aS lkP rfl (.tmp 5) (.tmp 16) rfl lk0 rfl l v HV.out rfl rfl ?_);intro W4 h4)
 have HX0:=zh (show Ext W7 W4 from by rw [← h4.out];exact he0.alloc' _)
 clear h4 he0
 cases fb
 rotate_left
 ·have HS8 := zh (HS7.out.ext HX0.out)
  have HRF:=zh (HR7.out.ext HX0.out)
  have HF:=HS8
  have HSP:=zh (show s1.V=⟨s0.C,s0.Q,eT s0.K d,s0.P,s0.G⟩ from by
   have e:s1.V=s0.V:=HV1.out
   have e3:s1.K=s0.K:=congrArg StV.K e
   obtain ⟨z,hz⟩:=Option.isSome_iff_exists.1 HFB.out
   have h1:eT s1.K d=s1.K:=by unfold eT;rw [hz]
   rw [← e3,h1,e3]
   exact e)
  go_upto_region 4 with fail
  obtain ⟨q0,q1,q2,q3,q4⟩:=aE HF.out.blk
  go_wp2_with ((with_reducible refine aF rfl (.tmp 4) (.tmp 19) rfl (w.heap.size+2) (s1) rfl rfl HRF.out ?_);intro W9 h9)
  exact rtS _ _ HF.out HRF.out (by omega) h9 (HSP.out)
 have HNO:=zh (show eT s1.K d=fM (fun y=>decide (un d.nm < un y.nm)) d s1.K from by
  have h9:fdK s1.K d.nm=none:=Option.not_isSome_iff_eq_none.1 (by rw [HFB.out];simp)
  unfold eT;rw [h9])
 have hn9:s1.n3≤1000000:=HBD.out.2.2.1
 go_wp2_with fail
 go_loopw [7] (fun vi wr=>∃ k:Nat,vi=.int .i64 (k:Int)∧k≤s1.n3∧Hid (∀ j,j < k→decide (un d.nm < un (aM s1.K j).nm)=false)∧Hid (Ext W7 wr)) (fun i _=>s1.n3 - (intOf i).toNat)
 case atStart=>exact ⟨0,rfl,Nat.zero_le _,zh (fun j hj=>absurd hj (Nat.not_lt_zero _)),HX0⟩
 case round =>
  obtain ⟨k,rfl,hk,HPJ,HXW⟩:=hrel
  have HKN:=zh hk
  clear HX0
  by_cases hlt:k < s1.n3
  ·have i0 : (0 : Int) ≤ (k : Int) := by omega
   have i1:(k:Int) < (s1.n3:Int):=by omega
   obtain ⟨d9,hd⟩:∃ d,aM s1.K k=d:=⟨_,rfl⟩
   obtain ⟨bb,hab,-,hrow⟩:=cI HS7.out.own.o3 (show 0 < s1.n3 by omega)
   have HAB:=zh hab
   have HDR:=zh (fun (V:World) (e:Ext W7 V)=>show V.rangeAt bb (k * 19) (RowT.enc d9.nm) from by
    rw [← hd]
    obtain ⟨b2,e2,-,hr2⟩:=cI (aU HS7.out.own.o3 e) (show 0 < s1.n3 by omega)
    rw [HAB.out] at e2
    injection e2 with e3
    injection e3 with e4
    subst e4
    have h1:=cP (k:=k) hr2 (by rw [HL1.out];exact hlt)
    rw [Nat.zero_add] at h1
    exact aY (k:=8) h1)
   have HCMP:=zh (fun V=>iJ d.nm d9.nm V)
   have HDK:=zh hd
   cases hb:decide (un d.nm < un d9.nm) with
   | false =>
    have HPN:=zh (show decide (un d.nm < un (aM s1.K k).nm)=false from by rw [HDK.out];exact hb)
    rw [hb] at HCMP
    clear hab hrow hd hb
    go_upto_region 6 with fail
    refine wp_region_held_drew (S:=fun V=>Blk V w.heap.size 44 (ssA s1)∧Blk V (w.heap.size+1) 94 (lkA d)∧Ext W7 V) (by kernel_rfl) (⟨(HS7.out.blk.ext HXW.out).drew,(HC7.out.ext HXW.out).drew,HXW.out.trans ((Ext.refl _).drew')⟩) (fun aA=>?_)
    refine zz0 [0,1,2,3,4,5,6] ?_;repeat first | refine zz1 ?_ (hy:=by intro W aI;have q9:W.cell? ⟨w.heap.size,2,none⟩=some (.slice (some ⟨bb,0,none⟩) s1.n3 s1.c3):=(by rw [← HAB.out];exact aI.1.cell 2);go_simp <;> with_reducible rfl) | refine zz2 ?_ | refine zz9 ?_
    refine zu 7 (v:=.agg (nmc d.nm)) aA ?_ (hy:=by exact aG nmP (by rfl) (.tmp 26) (by rfl) (w.heap.size+1) 0 (by rfl) d.nm _ rfl (fun V h=>aY (k:=8) (aD h.2.1)))
    refine zz0 [8,9,10,11,12] ?_;repeat first | refine zz1 ?_ (hy:=by intro W aI;have q9:W.cell? ⟨w.heap.size,2,none⟩=some (.slice (some ⟨bb,0,none⟩) s1.n3 s1.c3):=(by rw [← HAB.out];exact aI.1.cell 2);go_simp <;> with_reducible rfl) | refine zz2 ?_ | refine zz9 ?_
    refine zu 13 (v:=.agg (nmc d9.nm)) aA ?_ (hy:=by exact aG nmP (by rfl) (.tmp 32) (by rfl) bb (k * 19) (by rfl) d9.nm _ rfl (fun V h=>HDR.out V h.2.2))
    refine za 14 (fun K hK=>?_)
    (go_simp;go_at_call 74;refine (HCMP.out _).mono ?_;rintro e w8 ⟨rfl,he8⟩)
    refine hK.out _ _ (⟨aA.1.ext he8,aA.2.1.ext he8,aA.2.2.trans he8⟩) (fun aA=>?_)
    clear hK K
    try simp only [bH]
    refine zzr [15,16] ?_
    refine wpAnyH_done (by kernel_rfl) ?_ _
    have HX8:=zh aA.2.2
    clear aA HCMP HDR HAB
    go_wp2_with fail
    go_roundw
    case rel=>exact ⟨k+1,by go_num,hlt,zh (fun j hj=>by
     rcases (by omega:j < k ∨ j=k) with hj | rfl
     ·exact HPJ.out j hj
     exact HPN.out),HX8⟩
    case measure=>simp [intOf];omega
   | true =>
    have HPK:=zh (show k < s1.n3→decide (un d.nm < un (aM s1.K k).nm)=true from fun _=>by rw [HDK.out];exact hb)
    rw [hb] at HCMP
    clear hab hrow hd hb
    go_upto_region 6 with fail
    refine wp_region_held_drew (S:=fun V=>Blk V w.heap.size 44 (ssA s1)∧Blk V (w.heap.size+1) 94 (lkA d)∧Ext W7 V) (by kernel_rfl) (⟨(HS7.out.blk.ext HXW.out).drew,(HC7.out.ext HXW.out).drew,HXW.out.trans ((Ext.refl _).drew')⟩) (fun aA=>?_)
    refine zz0 [0,1,2,3,4,5,6] ?_;repeat first | refine zz1 ?_ (hy:=by intro W aI;have q9:W.cell? ⟨w.heap.size,2,none⟩=some (.slice (some ⟨bb,0,none⟩) s1.n3 s1.c3):=(by rw [← HAB.out];exact aI.1.cell 2);go_simp <;> with_reducible rfl) | refine zz2 ?_ | refine zz9 ?_
    refine zu 7 (v:=.agg (nmc d.nm)) aA ?_ (hy:=by exact aG nmP (by rfl) (.tmp 26) (by rfl) (w.heap.size+1) 0 (by rfl) d.nm _ rfl (fun V h=>aY (k:=8) (aD h.2.1)))
    refine zz0 [8,9,10,11,12] ?_;repeat first | refine zz1 ?_ (hy:=by intro W aI;have q9:W.cell? ⟨w.heap.size,2,none⟩=some (.slice (some ⟨bb,0,none⟩) s1.n3 s1.c3):=(by rw [← HAB.out];exact aI.1.cell 2);go_simp <;> with_reducible rfl) | refine zz2 ?_ | refine zz9 ?_
    refine zu 13 (v:=.agg (nmc d9.nm)) aA ?_ (hy:=by exact aG nmP (by rfl) (.tmp 32) (by rfl) bb (k * 19) (by rfl) d9.nm _ rfl (fun V h=>HDR.out V h.2.2))
    refine za 14 (fun K hK=>?_)
    (go_simp;go_at_call 74;refine (HCMP.out _).mono ?_;rintro e w8 ⟨rfl,he8⟩)
    refine hK.out _ _ (⟨aA.1.ext he8,aA.2.1.ext he8,aA.2.2.trans he8⟩) (fun aA=>?_)
    clear hK K
    try simp only [bH]
    refine zzr [15,16] ?_
    refine wpAnyH_done (by kernel_rfl) ?_ _
    have HX8:=zh aA.2.2
    clear aA HCMP HDR HAB
    go_upto_region 8 with fail
    obtain ⟨W8,hW8⟩:∃ W8,W8=w8:=⟨_,rfl⟩
    subst hW8
    have HS8:=zh (HS7.out.ext HX8.out)
    have HC8:=zh (HC7.out.ext HX8.out)
    have HR8:=zh (HR7.out.ext HX8.out)
    have HSP:=zh (show (⟨s1.C,s1.Q,s1.K.take k ++ d :: s1.K.drop k,s1.P,s1.G⟩:StV)=⟨s0.C,s0.Q,eT s0.K d,s0.P,s0.G⟩ from by
     have e:s1.V=s0.V:=HV1.out
     have e1:s1.C=s0.C:=congrArg StV.C e
     have e2:s1.Q=s0.Q:=congrArg StV.Q e
     have e3:s1.K=s0.K:=congrArg StV.K e
     have e4:s1.P=s0.P:=congrArg StV.P e
     have e5:s1.G=s0.G:=congrArg StV.G e
     have h1:eT s1.K d=fM (fun y=>decide (un d.nm < un y.nm)) d s1.K:=HNO.out
     rw [fL (fun y=>decide (un d.nm < un y.nm)) d s1.K k (by rw [HL1.out];exact HKN.out) (fun j hj hl=>by rw [cD hl];exact HPJ.out j hj) (fun h9=>by rw [cD h9];exact HPK.out (by rw [← HL1.out];exact h9))] at h1
     rw [← h1,e1,e2,e3,e4,e5])
    clear i0 i1
    have HSL:=zh (show SlG W8 s1.A3 s1.n3 s1.c3 s1.K from HS8.out.own.ok.s3)
    have hkn:k≤s1.n3:=HKN.out
    have hnc:s1.n3≤s1.c3:=HSL.out.le
    have hcm:s1.c3≤9223372036854775807:=HSL.out.cap
    have hn9:=HBD.out
    have z0:(0:Int)≤(k:Int):=by omega
    have z1:(k:Int)≤(s1.n3:Int):=by omega
    have z2:(k:Int)≤(s1.c3:Int):=by omega
    have z3:(s1.n3:Int)≤(s1.c3:Int):=by omega
    have q9:W8.cell? ⟨w.heap.size,2,none⟩=some (.slice s1.A3 s1.n3 s1.c3):=HS8.out.blk.cell 2
    go_upto_region 9 with (first | ((with_reducible refine iF (size:=19) rfl rfl qT ?_);intro A5 W5 h5;have HO5:=zh h5.out.1;have HX5:=zh h5.out.2;have HU5:=zh ((HSL.out.ext h5.out.2).upto hkn (Nat.le_trans hkn hnc) hcm);have HL5:=zh (show (gcs (s1.K.take k)).length=k * 19 from by rw [aH,HU5.out.len];rfl);have q9:W5.cell? ⟨w.heap.size,2,none⟩=some (.slice s1.A3 s1.n3 s1.c3):=(HS8.out.blk.ext h5.out.2).cell 2) | (at_builtin;go_must (refine gH lkE rfl (.tmp 39) (.tmp 43) rfl W8.heap.size A5 rfl HO5.out s1.A3 k s1.c3 (gcs (s1.K.take k)) rfl HU5.out.rd HL5.out (bF _) (by omega) (by omega) HX5.out.size ?_;intro A6 c6 W6 ho6 he6)))
    have HO6:=zh ho6
    have HX6:=zh (HX5.out.trans he6)
    have HC6:=zh (HC8.out.ext HX6.out)
    clear ho6 he6 h5 HO5 HX5 HU5 HL5 q9
    have rc:W6.rangeAt (w.heap.size+1) 0 (RowT.enc d):=aD HC6.out
    obtain ⟨vd,hvd⟩:∃ v,Value.agg (lkA d)=v:=⟨_,rfl⟩
    have HVD:=zh hvd
    have HBS:=zh (fun W=>mL (d) W)
    rw [hvd] at HBS
    clear hvd
    go_upto_region 10 with (first | (with_reducible refine aC lkP rfl (.tmp 3) rfl (w.heap.size+1) 0 rfl d vd HVD.out rc ?_) | ((with_reducible refine eK (vx:=vd) rfl (.tmp 46) rfl rfl (HBS.out _) ?_);intro g7 W7' h7;have HO7:=zh (aU HO6.out h7.out.2.1);have HZ7:=zh (Nat.le_trans HX6.out.size h7.out.2.1.size);have HRE:=zh (show Rd W7' (some ⟨g7,0,none⟩) (RowT.enc (d)) from Rd.of_blk h7.out.1);have HLE:=zh (show (RowT.enc (d)).length=1 * 19 from by rw [RowT.len];rfl)) | (at_builtin;go_must (refine bB lkE rfl (.tmp 45) (.tmp 47) rfl W8.heap.size A6 k c6 _ rfl HO7.out (some ⟨g7,0,none⟩) 1 1 (RowT.enc (d)) rfl HRE.out HLE.out (RowT.one (d)) (by omega) (by omega) HZ7.out ?_;intro A9 c9 W9 ho9 hg9)))
    have HX9:=zh (show Ext W8 W9 from Below.grown (HX6.out.trans h7.out.2.1) hg9 (HX6.out.trans h7.out.2.1).size (fun q hq=>(World.ownsRow.lt HO7.out q hq).1))
    have HO9:=zh (show W9.ownsRow W8.heap.size 94 19 (.slice A9 (k+1) c9) (k+1) (gcs (s1.K.take k ++ [d])) from by rw [bD,fO];exact ho9)
    have q9:W9.cell? ⟨w.heap.size,2,none⟩=some (.slice s1.A3 s1.n3 s1.c3):=(HS8.out.blk.ext HX9.out).cell 2
    have HRD:=zh (HSL.out.ext HX9.out).rd
    have HSN:=zh HSL.out.len
    clear h7 ho9 hg9 HO7 HRE HX6 HO6 HC6
    go_upto_region 11 with (first | ((with_reducible refine pA rfl (.tmp 51) (.tmp 52) rfl s1.A3 s1.n3 s1.c3 k rfl rfl hkn hnc ?_);intro A8 h8;have HR8':=zh (show Rd W9 A8 (gcs (s1.K.drop k)) from by rw [← h8.out];exact Rd.cutG HRD.out rfl HSN.out hkn hnc);have HL8:=zh (show (gcs (s1.K.drop k)).length=(s1.n3 - k) * 19 from by rw [aH,List.length_drop,HSN.out];rfl)) | (at_builtin;go_must (refine bB lkE rfl (.tmp 49) (.tmp 53) rfl W8.heap.size A9 (k+1) c9 _ rfl HO9.out A8 (s1.n3 - k) (s1.c3 - k) (gcs (s1.K.drop k)) rfl HR8'.out HL8.out (bF _) (by omega) (by omega) HX9.out.size ?_;intro A10 c10 W10 ho10 hg10;have HX10:=zh (show Ext W8 W10 from Below.grown HX9.out hg10 HX9.out.size (fun q hq=>(World.ownsRow.lt HO9.out q hq).1));have q9:W10.cell? ⟨w.heap.size,2,none⟩=some (.slice s1.A3 s1.n3 s1.c3):=(HS8.out.blk.ext HX10.out).cell 2;have f9:=(HS8.out.blk.ext HX10.out).frozen 2)))
    have HO10:=zh (show W10.ownsRow w.heap.size 94 19 (.slice A10 (k+1+(s1.n3 - k)) c10) (k+1+(s1.n3 - k)) (gcs (s1.K.take k ++ d :: s1.K.drop k)) from by
     have:=ho10
     rw [← bD,List.append_assoc] at this
     exact bC this HS8.out.low.size)
    have hwf:∀ l ∈ s1.K.take k ++ d :: s1.K.drop k,lkW l:=(by
     intro l hl
     rcases List.mem_append.1 hl with hl | hl
     ·exact HS8.out.own.k3 l (List.mem_of_mem_take hl)
     rcases List.mem_cons.1 hl with rfl | hl
     ·exact HDW.out
     exact HS8.out.own.k3 l (List.mem_of_mem_drop hl))
    have HF:=zh (HS8.out.row3 (Ext.grown HX10.out _) HO10.out hwf)
    obtain ⟨WF,hWF⟩:∃ WF,W10.setCell ⟨w.heap.size,2,none⟩ (.slice A10 (k+1+(s1.n3 - k)) c10)=WF:=⟨_,rfl⟩
    rw [hWF] at HF ⊢
    have HRF:=zh (show Blk WF (w.heap.size+2) 44 (ssA ss0) from by rw [← hWF];exact (HR8.out.ext HX10.out).far (p:=⟨w.heap.size,2,none⟩) (show w.heap.size+2 ≠ w.heap.size by omega) _)
    clear hWF ho10 hg10 h8 HR8' HL8 HRD q9 f9 HO9 HX9 HO10 HX10 hwf
    obtain ⟨q0,q1,q2,q3,q4⟩:=aE HF.out.blk
    go_wp2_with ((with_reducible refine aF rfl (.tmp 4) (.tmp 56) rfl (w.heap.size+2) ({ s1 with A3:=A10,n3:=k+1+(s1.n3 - k),c3:=c10,K:=s1.K.take k ++ d :: s1.K.drop k }) rfl rfl HRF.out ?_);intro W9 h9)
    exact rtS _ _ HF.out HRF.out (by omega) h9 (by rw [← HSP.out];rfl)
  have i1:¬ (k:Int) < (s1.n3:Int):=by omega
  have HPK:=zh (show k < s1.n3→decide (un d.nm < un (aM s1.K k).nm)=true from fun h=>absurd h hlt)
  go_upto_region 6 with fail
  refine wp_region_held_drew (S:=fun V=>Blk V w.heap.size 44 (ssA s1)∧Blk V (w.heap.size+1) 94 (lkA d)∧Ext W7 V) (by kernel_rfl) (⟨(HS7.out.blk.ext HXW.out).drew,(HC7.out.ext HXW.out).drew,HXW.out.trans ((Ext.refl _).drew')⟩) (fun aA=>?_)
  refine zz0 [0,1,2,3,4,5] ?_;repeat first | refine zz1 ?_ (hy:=by intro W aI;have q9:W.cell? ⟨w.heap.size,2,none⟩=some (.slice s1.A3 s1.n3 s1.c3):=aI.1.cell 2;go_simp <;> with_reducible rfl) | refine zz2 ?_ | refine zz9 ?_
  (refine zs 6 aA ?_)
  (refine zs 7 aA ?_)
  (refine zs 8 aA ?_)
  (refine zs 9 aA ?_)
  (refine zs 10 aA ?_)
  (refine zs 11 aA ?_)
  (refine zs 12 aA ?_)
  (refine zs 13 aA ?_)
  (refine zs 14 aA ?_)
  (refine zs 15 aA ?_)
  refine zt 16 aA ?_
  refine wpAnyH_done (by kernel_rfl) ?_ _
  have HX8:=zh aA.2.2
  clear aA
  go_upto_region 8 with fail
  obtain ⟨W8,hW8⟩:∃ W8,wr.drew=W8:=⟨_,rfl⟩
  rw [hW8] at HX8 ⊢
  clear hW8
  have HS8:=zh (HS7.out.ext HX8.out)
  have HC8:=zh (HC7.out.ext HX8.out)
  have HR8:=zh (HR7.out.ext HX8.out)
  have HSP:=zh (show (⟨s1.C,s1.Q,s1.K.take k ++ d :: s1.K.drop k,s1.P,s1.G⟩:StV)=⟨s0.C,s0.Q,eT s0.K d,s0.P,s0.G⟩ from by
   have e:s1.V=s0.V:=HV1.out
   have e1:s1.C=s0.C:=congrArg StV.C e
   have e2:s1.Q=s0.Q:=congrArg StV.Q e
   have e3:s1.K=s0.K:=congrArg StV.K e
   have e4:s1.P=s0.P:=congrArg StV.P e
   have e5:s1.G=s0.G:=congrArg StV.G e
   have h1:eT s1.K d=fM (fun y=>decide (un d.nm < un y.nm)) d s1.K:=HNO.out
   rw [fL (fun y=>decide (un d.nm < un y.nm)) d s1.K k (by rw [HL1.out];exact HKN.out) (fun j hj hl=>by rw [cD hl];exact HPJ.out j hj) (fun h9=>by rw [cD h9];exact HPK.out (by rw [← HL1.out];exact h9))] at h1
   rw [← h1,e1,e2,e3,e4,e5])
  clear i1
  have HSL:=zh (show SlG W8 s1.A3 s1.n3 s1.c3 s1.K from HS8.out.own.ok.s3)
  have hkn:k≤s1.n3:=HKN.out
  have hnc:s1.n3≤s1.c3:=HSL.out.le
  have hcm:s1.c3≤9223372036854775807:=HSL.out.cap
  have hn9:=HBD.out
  have z0:(0:Int)≤(k:Int):=by omega
  have z1:(k:Int)≤(s1.n3:Int):=by omega
  have z2:(k:Int)≤(s1.c3:Int):=by omega
  have z3:(s1.n3:Int)≤(s1.c3:Int):=by omega
  have q9:W8.cell? ⟨w.heap.size,2,none⟩=some (.slice s1.A3 s1.n3 s1.c3):=HS8.out.blk.cell 2
  go_upto_region 9 with (first | ((with_reducible refine iF (size:=19) rfl rfl qT ?_);intro A5 W5 h5;have HO5:=zh h5.out.1;have HX5:=zh h5.out.2;have HU5:=zh ((HSL.out.ext h5.out.2).upto hkn (Nat.le_trans hkn hnc) hcm);have HL5:=zh (show (gcs (s1.K.take k)).length=k * 19 from by rw [aH,HU5.out.len];rfl);have q9:W5.cell? ⟨w.heap.size,2,none⟩=some (.slice s1.A3 s1.n3 s1.c3):=(HS8.out.blk.ext h5.out.2).cell 2) | (at_builtin;go_must (refine gH lkE rfl (.tmp 39) (.tmp 43) rfl W8.heap.size A5 rfl HO5.out s1.A3 k s1.c3 (gcs (s1.K.take k)) rfl HU5.out.rd HL5.out (bF _) (by omega) (by omega) HX5.out.size ?_;intro A6 c6 W6 ho6 he6)))
  have HO6:=zh ho6
  have HX6:=zh (HX5.out.trans he6)
  have HC6:=zh (HC8.out.ext HX6.out)
  clear ho6 he6 h5 HO5 HX5 HU5 HL5 q9
  have rc:W6.rangeAt (w.heap.size+1) 0 (RowT.enc d):=aD HC6.out
  obtain ⟨vd,hvd⟩:∃ v,Value.agg (lkA d)=v:=⟨_,rfl⟩
  have HVD:=zh hvd
  have HBS:=zh (fun W=>mL (d) W)
  rw [hvd] at HBS
  clear hvd
  go_upto_region 10 with (first | (with_reducible refine aC lkP rfl (.tmp 3) rfl (w.heap.size+1) 0 rfl d vd HVD.out rc ?_) | ((with_reducible refine eK (vx:=vd) rfl (.tmp 46) rfl rfl (HBS.out _) ?_);intro g7 W7' h7;have HO7:=zh (aU HO6.out h7.out.2.1);have HZ7:=zh (Nat.le_trans HX6.out.size h7.out.2.1.size);have HRE:=zh (show Rd W7' (some ⟨g7,0,none⟩) (RowT.enc (d)) from Rd.of_blk h7.out.1);have HLE:=zh (show (RowT.enc (d)).length=1 * 19 from by rw [RowT.len];rfl)) | (at_builtin;go_must (refine bB lkE rfl (.tmp 45) (.tmp 47) rfl W8.heap.size A6 k c6 _ rfl HO7.out (some ⟨g7,0,none⟩) 1 1 (RowT.enc (d)) rfl HRE.out HLE.out (RowT.one (d)) (by omega) (by omega) HZ7.out ?_;intro A9 c9 W9 ho9 hg9)))
  have HX9:=zh (show Ext W8 W9 from Below.grown (HX6.out.trans h7.out.2.1) hg9 (HX6.out.trans h7.out.2.1).size (fun q hq=>(World.ownsRow.lt HO7.out q hq).1))
  have HO9:=zh (show W9.ownsRow W8.heap.size 94 19 (.slice A9 (k+1) c9) (k+1) (gcs (s1.K.take k ++ [d])) from by rw [bD,fO];exact ho9)
  have q9:W9.cell? ⟨w.heap.size,2,none⟩=some (.slice s1.A3 s1.n3 s1.c3):=(HS8.out.blk.ext HX9.out).cell 2
  have HRD:=zh (HSL.out.ext HX9.out).rd
  have HSN:=zh HSL.out.len
  clear h7 ho9 hg9 HO7 HRE HX6 HO6 HC6
  go_upto_region 11 with (first | ((with_reducible refine pA rfl (.tmp 51) (.tmp 52) rfl s1.A3 s1.n3 s1.c3 k rfl rfl hkn hnc ?_);intro A8 h8;have HR8':=zh (show Rd W9 A8 (gcs (s1.K.drop k)) from by rw [← h8.out];exact Rd.cutG HRD.out rfl HSN.out hkn hnc);have HL8:=zh (show (gcs (s1.K.drop k)).length=(s1.n3 - k) * 19 from by rw [aH,List.length_drop,HSN.out];rfl)) | (at_builtin;go_must (refine bB lkE rfl (.tmp 49) (.tmp 53) rfl W8.heap.size A9 (k+1) c9 _ rfl HO9.out A8 (s1.n3 - k) (s1.c3 - k) (gcs (s1.K.drop k)) rfl HR8'.out HL8.out (bF _) (by omega) (by omega) HX9.out.size ?_;intro A10 c10 W10 ho10 hg10;have HX10:=zh (show Ext W8 W10 from Below.grown HX9.out hg10 HX9.out.size (fun q hq=>(World.ownsRow.lt HO9.out q hq).1));have q9:W10.cell? ⟨w.heap.size,2,none⟩=some (.slice s1.A3 s1.n3 s1.c3):=(HS8.out.blk.ext HX10.out).cell 2;have f9:=(HS8.out.blk.ext HX10.out).frozen 2)))
  have HO10:=zh (show W10.ownsRow w.heap.size 94 19 (.slice A10 (k+1+(s1.n3 - k)) c10) (k+1+(s1.n3 - k)) (gcs (s1.K.take k ++ d :: s1.K.drop k)) from by
   have:=ho10
   rw [← bD,List.append_assoc] at this
   exact bC this HS8.out.low.size)
  have hwf:∀ l ∈ s1.K.take k ++ d :: s1.K.drop k,lkW l:=(by
   intro l hl
   rcases List.mem_append.1 hl with hl | hl
   ·exact HS8.out.own.k3 l (List.mem_of_mem_take hl)
   rcases List.mem_cons.1 hl with rfl | hl
   ·exact HDW.out
   exact HS8.out.own.k3 l (List.mem_of_mem_drop hl))
  have HF:=zh (HS8.out.row3 (Ext.grown HX10.out _) HO10.out hwf)
  obtain ⟨WF,hWF⟩:∃ WF,W10.setCell ⟨w.heap.size,2,none⟩ (.slice A10 (k+1+(s1.n3 - k)) c10)=WF:=⟨_,rfl⟩
  rw [hWF] at HF ⊢
  have HRF:=zh (show Blk WF (w.heap.size+2) 44 (ssA ss0) from by rw [← hWF];exact (HR8.out.ext HX10.out).far (p:=⟨w.heap.size,2,none⟩) (show w.heap.size+2 ≠ w.heap.size by omega) _)
  clear hWF ho10 hg10 h8 HR8' HL8 HRD q9 f9 HO9 HX9 HO10 HX10 hwf
  obtain ⟨q0,q1,q2,q3,q4⟩:=aE HF.out.blk
  go_wp2_with ((with_reducible refine aF rfl (.tmp 4) (.tmp 56) rfl (w.heap.size+2) ({ s1 with A3:=A10,n3:=k+1+(s1.n3 - k),c3:=c10,K:=s1.K.take k ++ d :: s1.K.drop k }) rfl rfl HRF.out ?_);intro W9 h9)
  exact rtS _ _ HF.out HRF.out (by omega) h9 (by rw [← HSP.out];rfl)
theorem qZ (s0:StR) (x:UInt64) (w:World) (h:s0.ok w)  (hn:s0.n1≤1000000∧s0.n2≤1000000∧s0.n3≤1000000∧s0.n4≤1000000):Calls Tryz.prog 62 #[.agg (ssA s0),.agg (nmc x)] w (gW w ⟨s0.C,s0.Q,s0.K,cE s0.P x,s0.G⟩):=by
 obtain ⟨W,hW,HB,HC,HR,HE⟩:=en2 w s0 (nmc x) 30
 obtain ⟨q0,q1,q2,q3,q4⟩:=aE HB.out
 have HS0:=zh h
 have HN:=zh hn
 clear h hn
 go_enter Tryz.func62,Tryz.ntmps62
 go_wp2_with fail
 refine (gJ s0 W (HS0.out.ext HE.out) (by have:=HN.out;omega)).mono ?_
 rintro e w5 ⟨s1,rfl,ho1,hv1,he5⟩
 clear q0 q1 q2 q3 q4
 go_upto_region 2 with ((with_reducible refine aF rfl (.tmp 2) (.tmp 8) rfl w.heap.size s1 rfl rfl (HB.out.ext he5) ?_);intro W7 h7)
 obtain ⟨HS7,hk7,HBD⟩:=cpS HS0 (by have:=HN.out;omega) HB HE ho1 hv1 he5 h7
 have HC7:=zh (hk7 _ _ _ HC.out (by omega))
 have HR7:=zh (hk7 _ _ _ HR.out (by omega))
 have HV1:=zh hv1
 clear hk7 h7 ho1 hv1 he5 HB HC HR HE
 have HL1:=zh HS7.out.own.l4
 have q9:W7.cell? ⟨w.heap.size,3,none⟩=some (.slice s1.A4 s1.n4 s1.c4):=HS7.out.blk.cell 3
 have rn:W7.rangeAt (w.heap.size+1) 0 (RowT.enc x):=bP HC7.out
 have HFL:=zh (lM s1.A4 s1.n4 s1.c4 s1.P x W7 HS7.out.own.ok.s4)
 obtain ⟨fb,hfb⟩:∃ b,decide (x ∈ s1.P)=b:=⟨_,rfl⟩
 have HFB:=zh hfb
 rw [hfb] at HFL
 clear hfb
 go_wp2_with (with_reducible refine aC nmP rfl (.tmp 3) rfl (w.heap.size+1) 0 rfl x _ rfl rn ?_)
 refine HFL.out.mono ?_
 rintro e W0 ⟨rfl,he0⟩
 have HX0:=zh he0
 clear q9 rn HFL he0
 cases fb
 rotate_left
 ·have HS8 := zh (HS7.out.ext HX0.out)
  have HRF:=zh (HR7.out.ext HX0.out)
  have HF:=HS8
  have HSP:=zh (show s1.V=⟨s0.C,s0.Q,s0.K,cE s0.P x,s0.G⟩ from by
   have e:s1.V=s0.V:=HV1.out
   have e3:s1.P=s0.P:=congrArg StV.P e
   have h1:cE s1.P x=s1.P:=aCN (of_decide_eq_true HFB.out)
   rw [← e3,h1,e3]
   exact e)
  go_upto_region 3 with fail
  obtain ⟨q0,q1,q2,q3,q4⟩:=aE HF.out.blk
  go_wp2_with ((with_reducible refine aF rfl (.tmp 4) (.tmp 13) rfl (w.heap.size+2) (s1) rfl rfl HRF.out ?_);intro W9 h9)
  exact rtS _ _ HF.out HRF.out (by omega) h9 (HSP.out)
 have HNO:=zh (show cE s1.P x=fM (fun y=>decide (un x < un y)) x s1.P from by
  unfold cE;rw [if_neg (of_decide_eq_false HFB.out)])
 have hn9:s1.n4≤1000000:=HBD.out.2.2.2
 go_wp2_with fail
 go_loopw [5] (fun vi wr=>∃ k:Nat,vi=.int .i64 (k:Int)∧k≤s1.n4∧Hid (∀ j,j < k→decide (un x < un (aM s1.P j))=false)∧Hid (Ext W7 wr)) (fun i _=>s1.n4 - (intOf i).toNat)
 case atStart=>exact ⟨0,rfl,Nat.zero_le _,zh (fun j hj=>absurd hj (Nat.not_lt_zero _)),HX0⟩
 case round =>
  obtain ⟨k,rfl,hk,HPJ,HXW⟩:=hrel
  have HKN:=zh hk
  clear HX0
  by_cases hlt:k < s1.n4
  ·have i0 : (0 : Int) ≤ (k : Int) := by omega
   have i1:(k:Int) < (s1.n4:Int):=by omega
   obtain ⟨d9,hd⟩:∃ d,aM s1.P k=d:=⟨_,rfl⟩
   obtain ⟨bb,hab,-,hrow⟩:=cI HS7.out.own.o4 (show 0 < s1.n4 by omega)
   have HAB:=zh hab
   have HDR:=zh (fun (V:World) (e:Ext W7 V)=>show V.rangeAt bb (k * 8) (RowT.enc d9) from by
    rw [← hd]
    obtain ⟨b2,e2,-,hr2⟩:=cI (aU HS7.out.own.o4 e) (show 0 < s1.n4 by omega)
    rw [HAB.out] at e2
    injection e2 with e3
    injection e3 with e4
    subst e4
    have h1:=cP (k:=k) hr2 (by rw [HL1.out];exact hlt)
    rw [Nat.zero_add] at h1
    exact h1)
   have HCMP:=zh (fun V=>iJ x d9 V)
   have HDK:=zh hd
   cases hb:decide (un x < un d9) with
   | false =>
    have HPN:=zh (show decide (un x < un (aM s1.P k))=false from by rw [HDK.out];exact hb)
    rw [hb] at HCMP
    clear hab hrow hd hb
    go_upto_region 5 with fail
    refine wp_region_held_drew (S:=fun V=>Blk V w.heap.size 44 (ssA s1)∧Blk V (w.heap.size+1) 30 (nmc x)∧Ext W7 V) (by kernel_rfl) (⟨(HS7.out.blk.ext HXW.out).drew,(HC7.out.ext HXW.out).drew,HXW.out.trans ((Ext.refl _).drew')⟩) (fun aA=>?_)
    refine zz0 [0,1,2,3,4,5] ?_;repeat first | refine zz1 ?_ (hy:=by intro W aI;have q9:W.cell? ⟨w.heap.size,3,none⟩=some (.slice (some ⟨bb,0,none⟩) s1.n4 s1.c4):=(by rw [← HAB.out];exact aI.1.cell 3);go_simp <;> with_reducible rfl) | refine zz2 ?_ | refine zz9 ?_
    refine zu 6 (v:=.agg (nmc x)) aA ?_ (hy:=by exact aG nmP (by rfl) (.tmp 3) (by rfl) (w.heap.size+1) 0 (by rfl) x _ rfl (fun V h=>bP h.2.1))
    refine zz0 [7,8,9,10] ?_;repeat first | refine zz1 ?_ (hy:=by intro W aI;have q9:W.cell? ⟨w.heap.size,3,none⟩=some (.slice (some ⟨bb,0,none⟩) s1.n4 s1.c4):=(by rw [← HAB.out];exact aI.1.cell 3);go_simp <;> with_reducible rfl) | refine zz2 ?_ | refine zz9 ?_
    refine zu 11 (v:=.agg (nmc d9)) aA ?_ (hy:=by exact aG nmP (by rfl) (.tmp 24) (by rfl) bb (k * 8) (by rfl) d9 _ rfl (fun V h=>HDR.out V h.2.2))
    refine za 12 (fun K hK=>?_)
    (go_simp;go_at_call 74;refine (HCMP.out _).mono ?_;rintro e w8 ⟨rfl,he8⟩)
    refine hK.out _ _ (⟨aA.1.ext he8,aA.2.1.ext he8,aA.2.2.trans he8⟩) (fun aA=>?_)
    clear hK K
    try simp only [bH]
    refine zzr [13,14] ?_
    refine wpAnyH_done (by kernel_rfl) ?_ _
    have HX8:=zh aA.2.2
    clear aA HCMP HDR HAB
    go_wp2_with fail
    go_roundw
    case rel=>exact ⟨k+1,by go_num,hlt,zh (fun j hj=>by
     rcases (by omega:j < k ∨ j=k) with hj | rfl
     ·exact HPJ.out j hj
     exact HPN.out),HX8⟩
    case measure=>simp [intOf];omega
   | true =>
    have HPK:=zh (show k < s1.n4→decide (un x < un (aM s1.P k))=true from fun _=>by rw [HDK.out];exact hb)
    rw [hb] at HCMP
    clear hab hrow hd hb
    go_upto_region 5 with fail
    refine wp_region_held_drew (S:=fun V=>Blk V w.heap.size 44 (ssA s1)∧Blk V (w.heap.size+1) 30 (nmc x)∧Ext W7 V) (by kernel_rfl) (⟨(HS7.out.blk.ext HXW.out).drew,(HC7.out.ext HXW.out).drew,HXW.out.trans ((Ext.refl _).drew')⟩) (fun aA=>?_)
    refine zz0 [0,1,2,3,4,5] ?_;repeat first | refine zz1 ?_ (hy:=by intro W aI;have q9:W.cell? ⟨w.heap.size,3,none⟩=some (.slice (some ⟨bb,0,none⟩) s1.n4 s1.c4):=(by rw [← HAB.out];exact aI.1.cell 3);go_simp <;> with_reducible rfl) | refine zz2 ?_ | refine zz9 ?_
    refine zu 6 (v:=.agg (nmc x)) aA ?_ (hy:=by exact aG nmP (by rfl) (.tmp 3) (by rfl) (w.heap.size+1) 0 (by rfl) x _ rfl (fun V h=>bP h.2.1))
    refine zz0 [7,8,9,10] ?_;repeat first | refine zz1 ?_ (hy:=by intro W aI;have q9:W.cell? ⟨w.heap.size,3,none⟩=some (.slice (some ⟨bb,0,none⟩) s1.n4 s1.c4):=(by rw [← HAB.out];exact aI.1.cell 3);go_simp <;> with_reducible rfl) | refine zz2 ?_ | refine zz9 ?_
    refine zu 11 (v:=.agg (nmc d9)) aA ?_ (hy:=by exact aG nmP (by rfl) (.tmp 24) (by rfl) bb (k * 8) (by rfl) d9 _ rfl (fun V h=>HDR.out V h.2.2))
    refine za 12 (fun K hK=>?_)
    (go_simp;go_at_call 74;refine (HCMP.out _).mono ?_;rintro e w8 ⟨rfl,he8⟩)
    refine hK.out _ _ (⟨aA.1.ext he8,aA.2.1.ext he8,aA.2.2.trans he8⟩) (fun aA=>?_)
    clear hK K
    try simp only [bH]
    refine zzr [13,14] ?_
    refine wpAnyH_done (by kernel_rfl) ?_ _
    have HX8:=zh aA.2.2
    clear aA HCMP HDR HAB
    go_upto_region 7 with fail
    obtain ⟨W8,hW8⟩:∃ W8,W8=w8:=⟨_,rfl⟩
    subst hW8
    have HS8:=zh (HS7.out.ext HX8.out)
    have HC8:=zh (HC7.out.ext HX8.out)
    have HR8:=zh (HR7.out.ext HX8.out)
    have HSP:=zh (show (⟨s1.C,s1.Q,s1.K,s1.P.take k ++ x :: s1.P.drop k,s1.G⟩:StV)=⟨s0.C,s0.Q,s0.K,cE s0.P x,s0.G⟩ from by
     have e:s1.V=s0.V:=HV1.out
     have e1:s1.C=s0.C:=congrArg StV.C e
     have e2:s1.Q=s0.Q:=congrArg StV.Q e
     have e3:s1.K=s0.K:=congrArg StV.K e
     have e4:s1.P=s0.P:=congrArg StV.P e
     have e5:s1.G=s0.G:=congrArg StV.G e
     have h1:cE s1.P x=fM (fun y=>decide (un x < un y)) x s1.P:=HNO.out
     rw [fL (fun y=>decide (un x < un y)) x s1.P k (by rw [HL1.out];exact HKN.out) (fun j hj hl=>by rw [cD hl];exact HPJ.out j hj) (fun h9=>by rw [cD h9];exact HPK.out (by rw [← HL1.out];exact h9))] at h1
     rw [← h1,e1,e2,e3,e4,e5])
    clear i0 i1
    have HSL:=zh (show SlG W8 s1.A4 s1.n4 s1.c4 s1.P from HS8.out.own.ok.s4)
    have hkn:k≤s1.n4:=HKN.out
    have hnc:s1.n4≤s1.c4:=HSL.out.le
    have hcm:s1.c4≤9223372036854775807:=HSL.out.cap
    have hn9:=HBD.out
    have z0:(0:Int)≤(k:Int):=by omega
    have z1:(k:Int)≤(s1.n4:Int):=by omega
    have z2:(k:Int)≤(s1.c4:Int):=by omega
    have z3:(s1.n4:Int)≤(s1.c4:Int):=by omega
    have q9:W8.cell? ⟨w.heap.size,3,none⟩=some (.slice s1.A4 s1.n4 s1.c4):=HS8.out.blk.cell 3
    go_upto_region 8 with (first | ((with_reducible refine iF (size:=8) rfl rfl qS ?_);intro A5 W5 h5;have HO5:=zh h5.out.1;have HX5:=zh h5.out.2;have HU5:=zh ((HSL.out.ext h5.out.2).upto hkn (Nat.le_trans hkn hnc) hcm);have HL5:=zh (show (gcs (s1.P.take k)).length=k * 8 from by rw [aH,HU5.out.len];rfl);have q9:W5.cell? ⟨w.heap.size,3,none⟩=some (.slice s1.A4 s1.n4 s1.c4):=(HS8.out.blk.ext h5.out.2).cell 3) | (at_builtin;go_must (refine gH cX rfl (.tmp 31) (.tmp 35) rfl W8.heap.size A5 rfl HO5.out s1.A4 k s1.c4 (gcs (s1.P.take k)) rfl HU5.out.rd HL5.out (bF _) (by omega) (by omega) HX5.out.size ?_;intro A6 c6 W6 ho6 he6)))
    have HO6:=zh ho6
    have HX6:=zh (HX5.out.trans he6)
    have HC6:=zh (HC8.out.ext HX6.out)
    clear ho6 he6 h5 HO5 HX5 HU5 HL5 q9
    have rc:W6.rangeAt (w.heap.size+1) 0 (RowT.enc x):=bP HC6.out
    obtain ⟨vd,hvd⟩:∃ v,Value.agg (nmc x)=v:=⟨_,rfl⟩
    have HVD:=zh hvd
    have HBS:=zh (fun W=>mK (x) W)
    rw [hvd] at HBS
    clear hvd
    go_upto_region 9 with (first | (with_reducible refine aC nmP rfl (.tmp 3) rfl (w.heap.size+1) 0 rfl x vd HVD.out rc ?_) | ((with_reducible refine eK (vx:=vd) rfl (.tmp 38) rfl rfl (HBS.out _) ?_);intro g7 W7' h7;have HO7:=zh (aU HO6.out h7.out.2.1);have HZ7:=zh (Nat.le_trans HX6.out.size h7.out.2.1.size);have HRE:=zh (show Rd W7' (some ⟨g7,0,none⟩) (RowT.enc (x)) from Rd.of_blk h7.out.1);have HLE:=zh (show (RowT.enc (x)).length=1 * 8 from by rw [RowT.len];rfl)) | (at_builtin;go_must (refine bB cX rfl (.tmp 37) (.tmp 39) rfl W8.heap.size A6 k c6 _ rfl HO7.out (some ⟨g7,0,none⟩) 1 1 (RowT.enc (x)) rfl HRE.out HLE.out (RowT.one (x)) (by omega) (by omega) HZ7.out ?_;intro A9 c9 W9 ho9 hg9)))
    have HX9:=zh (show Ext W8 W9 from Below.grown (HX6.out.trans h7.out.2.1) hg9 (HX6.out.trans h7.out.2.1).size (fun q hq=>(World.ownsRow.lt HO7.out q hq).1))
    have HO9:=zh (show W9.ownsRow W8.heap.size 30 8 (.slice A9 (k+1) c9) (k+1) (gcs (s1.P.take k ++ [x])) from by rw [bD,fO];exact ho9)
    have q9:W9.cell? ⟨w.heap.size,3,none⟩=some (.slice s1.A4 s1.n4 s1.c4):=(HS8.out.blk.ext HX9.out).cell 3
    have HRD:=zh (HSL.out.ext HX9.out).rd
    have HSN:=zh HSL.out.len
    clear h7 ho9 hg9 HO7 HRE HX6 HO6 HC6
    go_upto_region 10 with (first | ((with_reducible refine oZ rfl (.tmp 43) (.tmp 44) rfl s1.A4 s1.n4 s1.c4 k rfl rfl hkn hnc ?_);intro A8 h8;have HR8':=zh (show Rd W9 A8 (gcs (s1.P.drop k)) from by rw [← h8.out];exact Rd.cutG HRD.out rfl HSN.out hkn hnc);have HL8:=zh (show (gcs (s1.P.drop k)).length=(s1.n4 - k) * 8 from by rw [aH,List.length_drop,HSN.out];rfl)) | (at_builtin;go_must (refine bB cX rfl (.tmp 41) (.tmp 45) rfl W8.heap.size A9 (k+1) c9 _ rfl HO9.out A8 (s1.n4 - k) (s1.c4 - k) (gcs (s1.P.drop k)) rfl HR8'.out HL8.out (bF _) (by omega) (by omega) HX9.out.size ?_;intro A10 c10 W10 ho10 hg10;have HX10:=zh (show Ext W8 W10 from Below.grown HX9.out hg10 HX9.out.size (fun q hq=>(World.ownsRow.lt HO9.out q hq).1));have q9:W10.cell? ⟨w.heap.size,3,none⟩=some (.slice s1.A4 s1.n4 s1.c4):=(HS8.out.blk.ext HX10.out).cell 3;have f9:=(HS8.out.blk.ext HX10.out).frozen 3)))
    have HO10:=zh (show W10.ownsRow w.heap.size 30 8 (.slice A10 (k+1+(s1.n4 - k)) c10) (k+1+(s1.n4 - k)) (gcs (s1.P.take k ++ x :: s1.P.drop k)) from by
     have:=ho10
     rw [← bD,List.append_assoc] at this
     exact bC this HS8.out.low.size)
    have hwf:True:=trivial
    have HF:=zh (HS8.out.row4 (Ext.grown HX10.out _) HO10.out)
    obtain ⟨WF,hWF⟩:∃ WF,W10.setCell ⟨w.heap.size,3,none⟩ (.slice A10 (k+1+(s1.n4 - k)) c10)=WF:=⟨_,rfl⟩
    rw [hWF] at HF ⊢
    have HRF:=zh (show Blk WF (w.heap.size+2) 44 (ssA ss0) from by rw [← hWF];exact (HR8.out.ext HX10.out).far (p:=⟨w.heap.size,3,none⟩) (show w.heap.size+2 ≠ w.heap.size by omega) _)
    clear hWF ho10 hg10 h8 HR8' HL8 HRD q9 f9 HO9 HX9 HO10 HX10 hwf
    obtain ⟨q0,q1,q2,q3,q4⟩:=aE HF.out.blk
    go_wp2_with ((with_reducible refine aF rfl (.tmp 4) (.tmp 48) rfl (w.heap.size+2) ({ s1 with A4:=A10,n4:=k+1+(s1.n4 - k),c4:=c10,P:=s1.P.take k ++ x :: s1.P.drop k }) rfl rfl HRF.out ?_);intro W9 h9)
    exact rtS _ _ HF.out HRF.out (by omega) h9 (by rw [← HSP.out];rfl)
  have i1:¬ (k:Int) < (s1.n4:Int):=by omega
  have HPK:=zh (show k < s1.n4→decide (un x < un (aM s1.P k))=true from fun h=>absurd h hlt)
  go_upto_region 5 with fail
  refine wp_region_held_drew (S:=fun V=>Blk V w.heap.size 44 (ssA s1)∧Blk V (w.heap.size+1) 30 (nmc x)∧Ext W7 V) (by kernel_rfl) (⟨(HS7.out.blk.ext HXW.out).drew,(HC7.out.ext HXW.out).drew,HXW.out.trans ((Ext.refl _).drew')⟩) (fun aA=>?_)
  refine zz0 [0,1,2,3,4,5] ?_;repeat first | refine zz1 ?_ (hy:=by intro W aI;have q9:W.cell? ⟨w.heap.size,3,none⟩=some (.slice s1.A4 s1.n4 s1.c4):=aI.1.cell 3;go_simp <;> with_reducible rfl) | refine zz2 ?_ | refine zz9 ?_
  (refine zs 6 aA ?_)
  (refine zs 7 aA ?_)
  (refine zs 8 aA ?_)
  (refine zs 9 aA ?_)
  (refine zs 10 aA ?_)
  (refine zs 11 aA ?_)
  (refine zs 12 aA ?_)
  (refine zs 13 aA ?_)
  refine zt 14 aA ?_
  refine wpAnyH_done (by kernel_rfl) ?_ _
  have HX8:=zh aA.2.2
  clear aA
  go_upto_region 7 with fail
  obtain ⟨W8,hW8⟩:∃ W8,wr.drew=W8:=⟨_,rfl⟩
  rw [hW8] at HX8 ⊢
  clear hW8
  have HS8:=zh (HS7.out.ext HX8.out)
  have HC8:=zh (HC7.out.ext HX8.out)
  have HR8:=zh (HR7.out.ext HX8.out)
  have HSP:=zh (show (⟨s1.C,s1.Q,s1.K,s1.P.take k ++ x :: s1.P.drop k,s1.G⟩:StV)=⟨s0.C,s0.Q,s0.K,cE s0.P x,s0.G⟩ from by
   have e:s1.V=s0.V:=HV1.out
   have e1:s1.C=s0.C:=congrArg StV.C e
   have e2:s1.Q=s0.Q:=congrArg StV.Q e
   have e3:s1.K=s0.K:=congrArg StV.K e
   have e4:s1.P=s0.P:=congrArg StV.P e
   have e5:s1.G=s0.G:=congrArg StV.G e
   have h1:cE s1.P x=fM (fun y=>decide (un x < un y)) x s1.P:=HNO.out
   rw [fL (fun y=>decide (un x < un y)) x s1.P k (by rw [HL1.out];exact HKN.out) (fun j hj hl=>by rw [cD hl];exact HPJ.out j hj) (fun h9=>by rw [cD h9];exact HPK.out (by rw [← HL1.out];exact h9))] at h1
   rw [← h1,e1,e2,e3,e4,e5])
  clear i1
  have HSL:=zh (show SlG W8 s1.A4 s1.n4 s1.c4 s1.P from HS8.out.own.ok.s4)
  have hkn:k≤s1.n4:=HKN.out
  have hnc:s1.n4≤s1.c4:=HSL.out.le
  have hcm:s1.c4≤9223372036854775807:=HSL.out.cap
  have hn9:=HBD.out
  have z0:(0:Int)≤(k:Int):=by omega
  have z1:(k:Int)≤(s1.n4:Int):=by omega
  have z2:(k:Int)≤(s1.c4:Int):=by omega
  have z3:(s1.n4:Int)≤(s1.c4:Int):=by omega
  have q9:W8.cell? ⟨w.heap.size,3,none⟩=some (.slice s1.A4 s1.n4 s1.c4):=HS8.out.blk.cell 3
  go_upto_region 8 with (first | ((with_reducible refine iF (size:=8) rfl rfl qS ?_);intro A5 W5 h5;have HO5:=zh h5.out.1;have HX5:=zh h5.out.2;have HU5:=zh ((HSL.out.ext h5.out.2).upto hkn (Nat.le_trans hkn hnc) hcm);have HL5:=zh (show (gcs (s1.P.take k)).length=k * 8 from by rw [aH,HU5.out.len];rfl);have q9:W5.cell? ⟨w.heap.size,3,none⟩=some (.slice s1.A4 s1.n4 s1.c4):=(HS8.out.blk.ext h5.out.2).cell 3) | (at_builtin;go_must (refine gH cX rfl (.tmp 31) (.tmp 35) rfl W8.heap.size A5 rfl HO5.out s1.A4 k s1.c4 (gcs (s1.P.take k)) rfl HU5.out.rd HL5.out (bF _) (by omega) (by omega) HX5.out.size ?_;intro A6 c6 W6 ho6 he6)))
  have HO6:=zh ho6
  have HX6:=zh (HX5.out.trans he6)
  have HC6:=zh (HC8.out.ext HX6.out)
  clear ho6 he6 h5 HO5 HX5 HU5 HL5 q9
  have rc:W6.rangeAt (w.heap.size+1) 0 (RowT.enc x):=bP HC6.out
  obtain ⟨vd,hvd⟩:∃ v,Value.agg (nmc x)=v:=⟨_,rfl⟩
  have HVD:=zh hvd
  have HBS:=zh (fun W=>mK (x) W)
  rw [hvd] at HBS
  clear hvd
  go_upto_region 9 with (first | (with_reducible refine aC nmP rfl (.tmp 3) rfl (w.heap.size+1) 0 rfl x vd HVD.out rc ?_) | ((with_reducible refine eK (vx:=vd) rfl (.tmp 38) rfl rfl (HBS.out _) ?_);intro g7 W7' h7;have HO7:=zh (aU HO6.out h7.out.2.1);have HZ7:=zh (Nat.le_trans HX6.out.size h7.out.2.1.size);have HRE:=zh (show Rd W7' (some ⟨g7,0,none⟩) (RowT.enc (x)) from Rd.of_blk h7.out.1);have HLE:=zh (show (RowT.enc (x)).length=1 * 8 from by rw [RowT.len];rfl)) | (at_builtin;go_must (refine bB cX rfl (.tmp 37) (.tmp 39) rfl W8.heap.size A6 k c6 _ rfl HO7.out (some ⟨g7,0,none⟩) 1 1 (RowT.enc (x)) rfl HRE.out HLE.out (RowT.one (x)) (by omega) (by omega) HZ7.out ?_;intro A9 c9 W9 ho9 hg9)))
  have HX9:=zh (show Ext W8 W9 from Below.grown (HX6.out.trans h7.out.2.1) hg9 (HX6.out.trans h7.out.2.1).size (fun q hq=>(World.ownsRow.lt HO7.out q hq).1))
  have HO9:=zh (show W9.ownsRow W8.heap.size 30 8 (.slice A9 (k+1) c9) (k+1) (gcs (s1.P.take k ++ [x])) from by rw [bD,fO];exact ho9)
  have q9:W9.cell? ⟨w.heap.size,3,none⟩=some (.slice s1.A4 s1.n4 s1.c4):=(HS8.out.blk.ext HX9.out).cell 3
  have HRD:=zh (HSL.out.ext HX9.out).rd
  have HSN:=zh HSL.out.len
  clear h7 ho9 hg9 HO7 HRE HX6 HO6 HC6
  go_upto_region 10 with (first | ((with_reducible refine oZ rfl (.tmp 43) (.tmp 44) rfl s1.A4 s1.n4 s1.c4 k rfl rfl hkn hnc ?_);intro A8 h8;have HR8':=zh (show Rd W9 A8 (gcs (s1.P.drop k)) from by rw [← h8.out];exact Rd.cutG HRD.out rfl HSN.out hkn hnc);have HL8:=zh (show (gcs (s1.P.drop k)).length=(s1.n4 - k) * 8 from by rw [aH,List.length_drop,HSN.out];rfl)) | (at_builtin;go_must (refine bB cX rfl (.tmp 41) (.tmp 45) rfl W8.heap.size A9 (k+1) c9 _ rfl HO9.out A8 (s1.n4 - k) (s1.c4 - k) (gcs (s1.P.drop k)) rfl HR8'.out HL8.out (bF _) (by omega) (by omega) HX9.out.size ?_;intro A10 c10 W10 ho10 hg10;have HX10:=zh (show Ext W8 W10 from Below.grown HX9.out hg10 HX9.out.size (fun q hq=>(World.ownsRow.lt HO9.out q hq).1));have q9:W10.cell? ⟨w.heap.size,3,none⟩=some (.slice s1.A4 s1.n4 s1.c4):=(HS8.out.blk.ext HX10.out).cell 3;have f9:=(HS8.out.blk.ext HX10.out).frozen 3)))
  have HO10:=zh (show W10.ownsRow w.heap.size 30 8 (.slice A10 (k+1+(s1.n4 - k)) c10) (k+1+(s1.n4 - k)) (gcs (s1.P.take k ++ x :: s1.P.drop k)) from by
   have:=ho10
   rw [← bD,List.append_assoc] at this
   exact bC this HS8.out.low.size)
  have hwf:True:=trivial
  have HF:=zh (HS8.out.row4 (Ext.grown HX10.out _) HO10.out)
  obtain ⟨WF,hWF⟩:∃ WF,W10.setCell ⟨w.heap.size,3,none⟩ (.slice A10 (k+1+(s1.n4 - k)) c10)=WF:=⟨_,rfl⟩
  rw [hWF] at HF ⊢
  have HRF:=zh (show Blk WF (w.heap.size+2) 44 (ssA ss0) from by rw [← hWF];exact (HR8.out.ext HX10.out).far (p:=⟨w.heap.size,3,none⟩) (show w.heap.size+2 ≠ w.heap.size by omega) _)
  clear hWF ho10 hg10 h8 HR8' HL8 HRD q9 f9 HO9 HX9 HO10 HX10 hwf
  obtain ⟨q0,q1,q2,q3,q4⟩:=aE HF.out.blk
  go_wp2_with ((with_reducible refine aF rfl (.tmp 4) (.tmp 48) rfl (w.heap.size+2) ({ s1 with A4:=A10,n4:=k+1+(s1.n4 - k),c4:=c10,P:=s1.P.take k ++ x :: s1.P.drop k }) rfl rfl HRF.out ?_);intro W9 h9)
  exact rtS _ _ HF.out HRF.out (by omega) h9 (by rw [← HSP.out];rfl)
theorem uB (s0:StR) (x:UInt64) (w:World) (h:s0.ok w) (hn:s0.n1≤1000000∧s0.n2≤1000000∧s0.n3≤1000000∧s0.n4≤1000000):Calls Tryz.prog 120 #[.agg (ssA s0),.agg (nmc x)] w (gW w ⟨s0.C,s0.Q,eG x s0.K,s0.P,s0.G⟩):=by
 obtain ⟨W,hW,HB,HC,HR,HE⟩:=en2 w s0 (nmc x) 30
 obtain ⟨q0,q1,q2,q3,q4⟩:=aE HB.out
 have HS0:=zh h
 have HN:=zh hn
 clear h hn
 go_enter Tryz.func120,Tryz.ntmps120
 go_wp2_with fail
 refine (gJ s0 W (HS0.out.ext HE.out) (by have:=HN.out;omega)).mono ?_
 rintro e w5 ⟨s1,rfl,ho1,hv1,he5⟩
 clear q0 q1 q2 q3 q4
 go_upto_region 2 with ((with_reducible refine aF rfl (.tmp 2) (.tmp 7) rfl w.heap.size s1 rfl rfl (HB.out.ext he5) ?_);intro W7 h7)
 obtain ⟨HS7,hk7,HBD⟩:=cpS HS0 (by have:=HN.out;omega) HB HE ho1 hv1 he5 h7
 have HC7:=zh (hk7 _ _ _ HC.out (by omega))
 have HR7:=zh (hk7 _ _ _ HR.out (by omega))
 have HV1:=zh hv1
 clear hk7 h7 ho1 hv1 he5 HB HC HR HE
 have HL1:=zh HS7.out.own.l3
 have hn9:s1.n3≤1000000:=HBD.out.2.2.1
 have HX0:=zh (Ext.refl W7)
 have HSPV:=zh (show ∀ X:List LkR,(⟨s1.C,s1.Q,X,s1.P,s1.G⟩:StV)=⟨s0.C,s0.Q,X,s0.P,s0.G⟩ from fun X=>by
  have e:s1.V=s0.V:=HV1.out
  rw [show s1.C=s0.C from congrArg StV.C e,show s1.Q=s0.Q from congrArg StV.Q e,show s1.P=s0.P from congrArg StV.P e,show s1.G=s0.G from congrArg StV.G e])
 have HKE:=zh (show s1.K=s0.K from congrArg StV.K HV1.out)
 go_wp2_with fail
 go_loopw [5] (fun vi wr=>∃ k:Nat,vi=.int .i64 (k:Int)∧k≤s1.n3∧Hid (∀ j,j < k→decide ((aM s1.K j).nm=x)=false)∧Hid (Ext W7 wr)) (fun i _=>s1.n3 - (intOf i).toNat)
 case atStart=>exact ⟨0,rfl,Nat.zero_le _,zh (fun j hj=>absurd hj (Nat.not_lt_zero _)),HX0⟩
 case round =>
  obtain ⟨k,rfl,hk,HPJ,HXW⟩:=hrel
  clear HX0
  have q8:wr.cell? ⟨w.heap.size,2,none⟩=some (.slice s1.A3 s1.n3 s1.c3):=(HS7.out.blk.ext HXW.out).cell 2
  by_cases hlt:k < s1.n3
  ·have HKN := zh hlt
   have i0:(0:Int)≤(k:Int):=by omega
   have i1:(k:Int) < (s1.n3:Int):=by omega
   obtain ⟨d9,hd⟩:∃ d,aM s1.K k=d:=⟨_,rfl⟩
   obtain ⟨bb,hab,-,hrow⟩:=cI HS7.out.own.o3 (show 0 < s1.n3 by omega)
   have HAB:=zh hab
   have HDR:=zh (fun (V:World) (e:Ext W7 V)=>show V.rangeAt bb (k * 19) (RowT.enc d9.nm) from by
    rw [← hd]
    obtain ⟨b2,e2,-,hr2⟩:=cI (aU HS7.out.own.o3 e) (show 0 < s1.n3 by omega)
    rw [HAB.out] at e2
    injection e2 with e3
    injection e3 with e4
    subst e4
    have h1:=cP (k:=k) hr2 (by rw [HL1.out];exact hlt)
    rw [Nat.zero_add] at h1
    exact aY (k:=8) h1)
   have HEQ:=zh (fun V=>cZ d9.nm x V)
   obtain ⟨eq,heq⟩:∃ eq,decide (d9.nm=x)=eq:=⟨_,rfl⟩
   rw [heq] at HEQ
   have HDK:=zh (show decide ((aM s1.K k).nm=x)=eq from by rw [hd];exact heq)
   clear hab hrow hd heq
   go_upto_region 5 with fail
   clear q8
   refine wp_region_held_drew (S:=fun V=>Blk V w.heap.size 44 (ssA s1)∧Blk V (w.heap.size+1) 30 (nmc x)∧Ext W7 V) (by kernel_rfl) (⟨(HS7.out.blk.ext HXW.out).drew,(HC7.out.ext HXW.out).drew,HXW.out.trans ((Ext.refl _).drew')⟩) (fun aA=>?_)
   refine zz0 [0,1,2,3,4] ?_;repeat first | refine zz1 ?_ (hy:=by intro W aI;have q9:W.cell? ⟨w.heap.size,2,none⟩=some (.slice (some ⟨bb,0,none⟩) s1.n3 s1.c3):=(by rw [← HAB.out];exact aI.1.cell 2);go_simp <;> with_reducible rfl) | refine zz2 ?_ | refine zz9 ?_
   refine zu 5 (v:=.agg (nmc d9.nm)) aA ?_ (hy:=by exact aG nmP (by rfl) (.tmp 19) (by rfl) bb (k * 19) (by rfl) d9.nm _ rfl (fun V h=>HDR.out V h.2.2))
   refine zu 6 (v:=.agg (nmc x)) aA ?_ (hy:=by exact aG nmP (by rfl) (.tmp 3) (by rfl) (w.heap.size+1) 0 (by rfl) x _ rfl (fun V h=>bP h.2.1))
   refine zu 7 (v:=.bool eq) aA ?_ (hy:=by exact cK (by rfl) (.tmp 20) (.tmp 21) (by rfl) (vx:=.agg (nmc d9.nm)) (vy:=.agg (nmc x)) (by rfl) (by rfl) (fZ _ _ _ _ _) HEQ.out)
   refine wpAnyH_done (by kernel_rfl) ?_ _
   have HX8:=zh aA.2.2
   clear aA HEQ HDR
   cases eq
   ·go_wp2_with fail
    go_roundw
    case rel=>exact ⟨k+1,by go_num,hlt,zh (fun j hj=>by
     rcases (by omega:j < k ∨ j=k) with hj | rfl
     ·exact HPJ.out j hj
     exact HDK.out),HX8⟩
    case measure=>simp [intOf];omega
   have HSP:=zh (show (⟨s1.C,s1.Q,s1.K.take k ++ s1.K.drop (k+1),s1.P,s1.G⟩:StV)=⟨s0.C,s0.Q,eG x s0.K,s0.P,s0.G⟩ from by
    rw [HSPV.out,← rK (by rw [HL1.out];exact HKN.out) HDK.out HPJ.out,HKE.out])
   go_upto_region 6 with fail
   have HS8:=zh (HS7.out.ext HX8.out)
   have HR8:=zh (HR7.out.ext HX8.out)
   clear i0 i1
   have HSD:=zh (HS8.out.ext ((Ext.refl wr.drew).drew'))
   have HRS:=zh (HR8.out.ext ((Ext.refl wr.drew).drew'))
   have HKI:=zh (show k < s1.n3 from HKN.out)
   have HBI:=zh HBD.out
   obtain ⟨ad,had⟩:∃ ad:Addr,(if s1.c3=k+1 then ⟨bb,0,none⟩ else (⟨bb,(k+1) * 19,none⟩:Addr))=ad:=⟨_,rfl⟩
   have HAD:=zh had
   have z0:(0:Int)≤(k:Int):=by omega
   have hz9:k < s1.n3:=HKN.out
   have hzc:s1.n3≤s1.c3:=(dO HSD.out.own.o3).1
   have z1:(k:Int)≤(s1.n3:Int):=by omega
   have z2:(k:Int)≤(s1.c3:Int):=by omega
   have z3:(s1.n3:Int)≤(s1.c3:Int):=by omega
   have HZC:=zh hzc
   have HAD2:=zh (show (if s1.c3=k+1 then (some ⟨bb,0,none⟩:Option Addr) else Option.map (fun x:Addr=>x.add ((k+1) * 19)) (some (⟨bb,0,none⟩:Addr)))=some ad from by
    rw [← had]
    split
    ·rfl
    rw [Option.map_some,Addr.add_mid,Nat.zero_add])
   clear had hzc hz9
   refine wp_region_held_drew (S:=fun _=>True) (by kernel_rfl) (trivial) (fun aA=>?_)
   refine zzr [0,2,4,6] ?_
   refine zu 7 (v:=.int .i64 ((k+1:Nat):Int)) aA ?_ (hy:=by refine .inl ⟨by rfl,fun V _=>?_⟩;go_simp;exact (iV ⟨by have:=HKI.out;have:=HBI.out;omega,by have:=HKI.out;have:=HBI.out;omega⟩).trans (by omega))
   refine zzj (VE 1 (.slice (some ⟨bb,0,none⟩) s1.n3 s1.c3) (VE 3 (.slice (some ⟨bb,0,none⟩) k s1.c3) (VE 5 (.slice (some ⟨bb,0,none⟩) s1.n3 s1.c3) (VE 8 (.slice (some ad) (s1.n3 - (k+1)) (s1.c3 - (k+1))) VN)))) [(1,some 24),(3,some 26),(5,some 28),(8,some 31)] 3 (fun _ _ h _=>h) (ve (ve (ve (ve VN.ext)))) (zzc ?_ (zzc ?_ (zzc ?_ (zzc ?_ zzn)))) ?_
   ·refine zzp fun W hE hS K hK => ?_
    have q9:W.cell? ⟨w.heap.size,2,none⟩=some (.slice (some ⟨bb,0,none⟩) s1.n3 s1.c3):=(by rw [← HAB.out];exact (HSD.out.blk.ext hE).cell 2)
    go_simp
    exact zzF hK (.slice (some ⟨bb,0,none⟩) s1.n3 s1.c3)
   ·refine zm [(1, some 24)] fun env W hE hS hD K hK => ?_
    obtain ⟨h1,-⟩:=zzV hD
    clear hD
    simp only [aJ,h1] at hK ⊢
    clear h1
    go_simp
    exact zzF hK (.slice (some ⟨bb,0,none⟩) k s1.c3)
   ·refine zzp fun W hE hS K hK => ?_
    have q9:W.cell? ⟨w.heap.size,2,none⟩=some (.slice (some ⟨bb,0,none⟩) s1.n3 s1.c3):=(by rw [← HAB.out];exact (HSD.out.blk.ext hE).cell 2)
    go_simp
    exact zzF hK (.slice (some ⟨bb,0,none⟩) s1.n3 s1.c3)
   ·refine zm [(5, some 28)] fun env W hE hS hD K hK => ?_
    obtain ⟨h5,-⟩:=zzV hD
    clear hD
    simp only [aJ,h5] at hK ⊢
    clear h5
    refine iD (aBE (.tmp 28) (.tmp 30) rfl (some ⟨bb,0,none⟩) s1.n3 s1.c3 (k+1) (by rfl) (by rfl) HKI.out HZC.out (some ad) HAD2.out) ?_
    exact zzF hK (.slice (some ad) (s1.n3 - (k+1)) (s1.c3 - (k+1)))
   intro env W hE hS hV
   obtain ⟨h1,h3,h5,h8,-⟩:=zzV hV
   clear hV
   simp only [aJ,h1,h3,h5,h8]
   clear h1
   clear h3
   clear h5
   clear h8
   have hW:W.ownsRow w.heap.size 94 19 (.slice (some ⟨bb,0,none⟩) s1.n3 s1.c3) s1.n3 (gcs s1.K):=by have:=(HSD.out.ext hE).own.o3;rwa [HAB.out] at this
   obtain ⟨W1,hrun,ho1,hg1⟩:=aDB lkE rfl hW HKI.out (by have:=HBI.out;omega) ad HAD.out
   have HRUN:=zh hrun
   have HG1:=zh (show W.grownBy W1 (Value.ownBlock (.slice s1.A3 s1.n3 s1.c3)) from by rw [HAB.out];exact hg1)
   have HO1:=zh ho1
   have hb1:=(HSD.out.ext hE).blk.grown HG1.out (aK (HSD.out.ext hE).own.o3 (HSD.out.ext hE).blk (by decide))
   have HQ1:=zh (show W1.cell? ⟨w.heap.size,2,none⟩=some (.slice (some ⟨bb,0,none⟩) s1.n3 s1.c3) from by rw [← HAB.out];exact hb1.cell 2)
   have HF1:=zh (hb1.frozen 2)
   have HRD1:=zh ((HRS.out.ext hE).grown HG1.out (aK (HSD.out.ext hE).own.o3 (HRS.out.ext hE) (by decide)))
   clear hW hrun ho1 hg1 hb1
   have aA:=hS
   refine za 9 (fun K hK=>?_)
   (refine jY rfl (.tmp 26) (.tmp 31) rfl (.slice (some ⟨bb,0,none⟩) k s1.c3) (.slice (some ad) (s1.n3 - (k+1)) (s1.c3 - (k+1))) (by rfl) (by rfl) _ _ (HRUN.out _) ?_)
   refine hK.out _ _ (trivial) (fun aA=>?_)
   clear hK K
   try simp only [bH]
   refine zt 10 aA ?_
   refine za 11 (fun K hK=>?_)
   (have q9:=HQ1.out;have f9:=HF1.out;go_simp)
   refine hK.out _ _ (trivial) (fun aA=>?_)
   clear hK K
   try simp only [bH]
   refine wpAnyH_done (by kernel_rfl) ?_ _
   obtain ⟨WF,hWF⟩:∃ WF,W1.setCell ⟨w.heap.size,2,none⟩ (.slice (some ⟨bb,0,none⟩) (s1.n3 - 1) s1.c3)=WF:=⟨_,rfl⟩
   have HF:=zh (show StB w WF w.heap.size ({ s1 with A3:=some ⟨bb,0,none⟩,n3:=s1.n3 - 1,c3:=s1.c3,K:=s1.K.take k ++ s1.K.drop (k+1) }) from by rw [← hWF];exact (HSD.out.ext hE).row3 HG1.out HO1.out (fun d hd=>HSD.out.own.k3 d (by rcases List.mem_append.1 hd with hd | hd;exact List.mem_of_mem_take hd;exact List.mem_of_mem_drop hd)))
   have HRF:=zh (show Blk WF (w.heap.size+2) 44 (ssA ss0) from by rw [← hWF];exact HRD1.out.far (p:=⟨w.heap.size,2,none⟩) (show w.heap.size+2 ≠ w.heap.size by omega) _)
   try rw [hWF]
   clear hWF HRUN HG1 HO1 HQ1 HF1 HRD1 hE hS aA z0 z1 z2 z3
   obtain ⟨q0,q1,q2,q3,q4⟩:=aE HF.out.blk
   go_wp2_with ((with_reducible refine aF rfl (.tmp 4) (.tmp 34) rfl (w.heap.size+2) ({ s1 with A3:=some ⟨bb,0,none⟩,n3:=s1.n3 - 1,c3:=s1.c3,K:=s1.K.take k ++ s1.K.drop (k+1) }) rfl rfl HRF.out ?_);intro W9 h9)
   exact rtS _ _ HF.out HRF.out (by omega) h9 (by rw [← HSP.out];rfl)
  obtain rfl:k=s1.n3:=by omega
  have i1:¬ (s1.n3:Int) < (s1.n3:Int):=by omega
  have HSP:=zh (show s1.V=⟨s0.C,s0.Q,eG x s0.K,s0.P,s0.G⟩ from by
   rw [← HKE.out,rJ (fun j hj=>HPJ.out j (by rw [← HL1.out];exact hj)),HKE.out]
   exact HV1.out)
  go_upto_region 8 with fail
  clear q8
  have HF:=zh (HS7.out.ext HXW.out)
  have HRF:=zh (HR7.out.ext HXW.out)
  obtain ⟨q0,q1,q2,q3,q4⟩:=aE HF.out.blk
  go_wp2_with ((with_reducible refine aF rfl (.tmp 4) (.tmp 35) rfl (w.heap.size+2) (s1) rfl rfl HRF.out ?_);intro W9 h9)
  exact rtS _ _ HF.out HRF.out (by omega) h9 (HSP.out)
end
end Go.Proofs.YtohmmcahpakokaaGreat
