/- The law ExecCover: the walk. -/
import Derived.Test.YtohmmcahpakokaaGreatC44
import Derived.Test.YtohmmcahpakokaaGreatC48
import Derived.Test.YtohmmcahpakokaaGreatC50
set_option maxRecDepth 100000
set_option maxHeartbeats 8000000
set_option linter.unusedVariables false
set_option linter.unusedSimpArgs false
namespace Go.Proofs.YtohmmcahpakokaaGreat
open Go.RowKit
attribute [local go_sem ↓] Go.wp_at_zero Go.wp_at_succ
theorem cov_bd {w w':World} {s t:StR} (h:s.ok w) (ht:t.ok w') (hv:t.V=covS s.V) (hn:s.n1≤100∧s.n2≤100∧s.n3≤100∧s.n4≤100):t.n1≤200000∧t.n2≤200000∧t.n3≤200000∧t.n4≤200000:=by
 have e1:t.C=_:=congrArg StV.C hv
 have e2:t.Q=s.Q:=congrArg StV.Q hv
 have e3:t.K=s.K:=congrArg StV.K hv
 have e4:t.P=s.P:=congrArg StV.P hv
 have m1:=ht.s1.len;have m2:=ht.s2.len;have m3:=ht.s3.len;have m4:=ht.s4.len
 have l1:=h.s1.len;have l2:=h.s2.len;have l3:=h.s3.len;have l4:=h.s4.len
 have h5:=covN_len (covL s.C) s.C
 have h6:(covL s.C).length≤s.C.length:=Nat.le_trans (by unfold covL;exact canonO_len _ _) (Nat.le_trans (List.length_filter_le _ _) (by rw [List.length_map];exact Nat.le_refl _))
 rw [e1] at m1;rw [e2] at m2;rw [e3] at m3;rw [e4] at m4
 have h7:(covS s.V).C.length≤300:=by show ((covL s.C).foldl cov1 s.C).length≤300;omega
 omega
theorem cov_ent {S:StV} (h:VldS S) {d:DeR} (hd:d ∈ S.C) (hk:d.c.k ≠ 4):d.a≤getC (covC S.C) d.c∧(getC (covC S.C) d.c < 0→getC (covC S.C) polC≤0)∧(0≤d.a→getC (covC S.C) d.c=d.a):=by
 have hg:getC S.C d.c=d.a:=getC_mem h.asc hd
 have hp:d.c ≠ polC:=fun e=>hk (by rw [e];rfl)
 obtain ⟨h1,h2,-,-⟩:=cov_law (covL S.C) h.asc h.nz (covL_nodup S.C) (pol_covL S.C)
 have hm:d.c ∈ covL S.C:=mem_covL.2 ⟨⟨d,hd,rfl⟩,by have:=(h.am d hd).2.2.2;unfold kindB;exact decide_eq_true (by omega)⟩
 have h3:=h1 d.c hp
 rw [hg] at h3
 exact ⟨h3.1,h2 d.c hm,h3.2⟩
theorem execCover_any (s:StR) (w:World) (hs:s.ok w) :
  Calls Tryz.prog 6 #[.agg (ssA s)] w fun e w'=>e=.returned (.bool true)∧Ext w w':=by
 obtain ⟨W,hW⟩:∃ W,w.alloc (.cells (ssA s) 44)=W:=⟨_,rfl⟩
 have HP:=zh (show Blk W w.heap.size 44 (ssA s) from by rw [← hW];exact Blk.new w 44 (ssA s))
 have HE:=zh (show Ext w W from by rw [← hW];exact (Ext.refl w).alloc' _)
 have HO:=zh (hs.ext HE.out)
 clear hs
 obtain ⟨p0,p1,p2,p3,p4⟩:=ss_facts HP.out
 go_enter Tryz.func6,Tryz.ntmps6
 go_wp2_with fail
 refine (large22_any s W HO.out).mono ?_
 rintro e w1 ⟨⟨b,rfl,hb⟩,he1⟩
 have HP1:=zh (HP.out.ext he1)
 have HE1:=zh (HE.out.trans he1)
 have HO1:=zh (HO.out.ext he1)
 clear p0 p1 p2 p3 p4 he1 HE hW HP HO
 cases b with
 | true =>
  go_wp2_with fail
  refine (awake22_any w1).mono ?_
  rintro e w2 ⟨rfl,he2⟩
  have HE2:=zh (HE1.out.trans he2)
  clear he2
  go_wp2_with fail
  go_ret
  exact ⟨rfl,HE2.out⟩
 | false =>
  have HNN:=zh (hb rfl)
  clear hb
  have HN:=zh (show s.n1≤200000∧s.n2≤200000∧s.n3≤200000∧s.n4≤200000 from by have:=HNN.out;omega)
  obtain ⟨p0,p1,p2,p3,p4⟩:=ss_facts HP1.out
  go_wp2_with fail
  refine (cover_any s w1 HO1.out HN.out).mono ?_
  rintro e w4 ⟨s5,rfl,ho,hv,he⟩
  have HV5:=zh hv
  have HQ:=zh ho.ok
  have HN5:=zh (cov_bd HO1.out HQ.out HV5.out HNN.out)
  have HP4:=zh (HP1.out.ext he)
  have HE4:=zh (HE1.out.trans he)
  have HO4:=zh (HO1.out.ext he)
  clear p0 p1 p2 p3 p4 he HP1 HE1 HO1 ho hv
  go_wp2_with ((with_reducible refine wpList_newB rfl 44 (.tmp 3) (.tmp 11) rfl _ (ssA s5) _ rfl rfl rfl rfl (by kernel_rfl) (by kernel_rfl) ?_);intro W5 g5 h5;(try rw [h5.out.2.2]))
  have e5:=h5.out.2.1.trans ((Ext.refl W5).drew')
  have H53:=zh (h5.out.1.ext ((Ext.refl W5).drew'))
  have HQ3:=zh (HQ.out.ext e5)
  have HP3:=zh (HP4.out.ext e5)
  have HE3:=zh (HE4.out.trans e5)
  have HO3:=zh (HO4.out.ext e5)
  have HTE:=zh (show totC s5.C=totC s.C from by
   have e1:s5.C=covC s.C:=congrArg StV.C HV5.out
   rw [e1];exact cov_tot _ _)
  clear h5 e5 HQ HP4 HE4 HO4
  refine wp_region_held_drew (S:=fun V=>Ext W5.drew V) (by kernel_rfl) (Ext.refl _) (fun hHeld=>?_)
  refine zu 0 (v:=.agg (ssA s5)) hHeld ?_ (hy:=by refine .inl ⟨by rfl,fun V hSW=>?_⟩;obtain ⟨q0,q1,q2,q3,q4⟩:=ss_facts (H53.out.ext hSW);go_simp;try rfl)
  refine zu 1 (v:=.agg (ssA s)) hHeld ?_ (hy:=by refine .inl ⟨by rfl,fun V hSW=>?_⟩;obtain ⟨q0,q1,q2,q3,q4⟩:=ss_facts (HP3.out.ext hSW);go_simp;try rfl)
  refine za 2 (fun K hK=>?_)
  (go_simp;go_at_call 27;refine (rCover_any s _ (HO3.out.ext hHeld) HN.out).mono ?_;rintro e w5 ⟨sR,rfl,hoR,hvR,he5⟩;have HR:=zh hoR.ok;have HVR:=zh hvR;clear hoR hvR)
  refine hK.out _ _ (hHeld.trans he5) (fun hHeld=>?_)
  clear hK K
  try simp only [lays]
  refine za 3 (fun K hK=>?_)
  (go_simp;go_at_call 22;refine (rSame_any s5 sR _ (HQ3.out.ext hHeld) HR.out).mono ?_;rw [HV5.out,HVR.out,decide_eq_true rfl];rintro e w5 ⟨rfl,he5⟩)
  refine hK.out _ _ (hHeld.trans he5) (fun hHeld=>?_)
  clear hK K
  try simp only [lays]
  refine zzr [4,5] ?_
  refine zu 6 (v:=.agg (ssA s5)) hHeld ?_ (hy:=by refine .inl ⟨by rfl,fun V hSW=>?_⟩;obtain ⟨q0,q1,q2,q3,q4⟩:=ss_facts (H53.out.ext hSW);go_simp;try rfl)
  refine zu 8 (v:=.agg (ssA s)) hHeld ?_ (hy:=by refine .inl ⟨by rfl,fun V hSW=>?_⟩;obtain ⟨q0,q1,q2,q3,q4⟩:=ss_facts (HP3.out.ext hSW);go_simp;try rfl)
  refine za 7 (fun K hK=>?_)
  (go_simp;go_at_call 28;refine (rTotal_any s5 _ (HQ3.out.ext hHeld)).mono ?_;rw [HTE.out];rintro e w5 ⟨rfl,he5⟩)
  refine hK.out _ _ (hHeld.trans he5) (fun hHeld=>?_)
  clear hK K
  try simp only [lays]
  refine za 9 (fun K hK=>?_)
  (go_simp;go_at_call 28;refine (rTotal_any s _ (HO3.out.ext hHeld)).mono ?_;rintro e w5 ⟨rfl,he5⟩)
  refine hK.out _ _ (hHeld.trans he5) (fun hHeld=>?_)
  clear hK K
  try simp only [lays]
  refine zzr [10,11] ?_
  refine wpAnyH_done (by kernel_rfl) ?_ _
  obtain ⟨W6,hW6⟩:∃ W6,W5.drew=W6:=⟨_,rfl⟩
  rw [hW6] at H53 HQ3 HP3 HE3 HO3 hHeld
  have HX9:=zh hHeld
  have HP9:=zh (HP3.out.ext HX9.out)
  clear hHeld hW6
  obtain ⟨p0,p1,p2,p3,p4⟩:=ss_facts HP9.out
  go_wp2_with fail
  refine (rValidState_any s _ (HO3.out.ext HX9.out)).mono ?_
  rintro e w9 ⟨vb,rfl,hvs,he9⟩
  have HX1:=zh (HX9.out.trans he9)
  clear p0 p1 p2 p3 p4 HX9 HP9 he9
  cases vb with
  | false =>
   go_wp2_with fail
   refine (awake22_any w9).mono ?_
   rintro e w2 ⟨rfl,he2⟩
   have HE2:=zh ((HE3.out.trans HX1.out).trans he2)
   clear he2
   go_wp2_with fail
   go_ret
   exact ⟨rfl,HE2.out⟩
  | true =>
   have HVS:=zh (hvs rfl)
   clear hvs
   have HL1:=zh HO3.out.s1.len
   have hle1:=HO3.out.s1.le
   have hc1:=HO3.out.s1.cap
   go_wp2_with fail
   go_loopw [4] (fun vi wr=>∃ k:Nat,vi=.int .i64 (k:Int)∧k≤s.n1∧Hid (Ext W6 wr)) (fun i _=>s.n1 - (intOf i).toNat)
   case atStart=>exact ⟨0,rfl,Nat.zero_le _,HX1⟩
   case round =>
    clear HX1
    obtain ⟨k,rfl,hk,HX1⟩:=hrel
    obtain ⟨W3,hW3⟩:∃ W3,W3=wr:=⟨_,rfl⟩
    subst hW3
    have HP1:=zh (HP3.out.ext HX1.out)
    have p0:W3.cell? ⟨w.heap.size,0,none⟩=some (.slice s.A1 s.n1 s.c1):=HP1.out.cell 0
    by_cases hlt:k < s.n1
    ·have i0 : (0 : Int) ≤ (k : Int) := by omega
     have i1:(k:Int) < (s.n1:Int):=by omega
     go_upto_region 11 with fail
     clear p0
     obtain ⟨b,o,hab,-,-⟩:=(HO3.out.ext HX1.out).s1.at (show 0 < s.n1 by omega)
     have HAB:=zh hab
     obtain ⟨d,hd⟩:∃ d,nthG s.C k=d:=⟨_,rfl⟩
     have HDR:=zh (fun (V:World) (e:Ext W6 V)=>show V.rangeAt b (o+k * 11) (RowT.enc d) from by
      rw [← hd]
      obtain ⟨b2,o2,e2,hr2,-⟩:=(HO3.out.ext e).s1.at (show 0 < s.n1 by omega)
      rw [HAB.out] at e2
      injection e2 with e3
      injection e3 with e4 e5
      subst e4
      subst e5
      exact el_at (k:=k) hr2 (by rw [HL1.out];exact hlt))
     have HAM:=zh (fun (V:World) (e:Ext W6 V)=>show V.cell? ⟨b,o+k * 11+10,none⟩=some (.int .i64 d.a) from HDR.out V e 10 _ rfl)
     have HDM:=zh (show d ∈ s.C from by rw [← hd];exact nthG_mem (by rw [HL1.out];exact hlt))
     have HCW:=zh (show ceW d.c from (HO3.out.s1.ok d HDM.out).1)
     obtain ⟨vc,hvc⟩:∃ v,Value.agg (ceA d.c)=v:=⟨_,rfl⟩
     have HVC:=zh hvc
     obtain ⟨X,hX⟩:∃ X,W3.heap.size=X:=⟨_,rfl⟩
     have HXS:=zh hX
     have hr:W3.rangeAt b (o+k * 11) (RowT.enc d.c):=rangeAt_take (k:=10) (HDR.out W3 HX1.out)
     have q9:W3.cell? ⟨w.heap.size,0,none⟩=some (.slice (some ⟨b,o,none⟩) s.n1 s.c1):=by rw [← hab];exact HP1.out.cell 0
     clear hd hvc hX hab
     go_upto_region 12 with (first | (with_reducible refine wpList_loadG ceP rfl (.tmp 39) rfl b (o+k * 11) rfl d.c vc HVC.out hr ?_) | ((with_reducible refine wpList_newG ceP rfl (.tmp 5) (.tmp 40) rfl ce0 rfl d.c vc HVC.out rfl rfl ?_);intro W4 h4))
     have hx4:Ext W3 W4:=by rw [← h4.out];exact (Ext.refl W3).alloc' _
     have HX4:=zh (HX1.out.trans hx4)
     have HD:=zh (show Blk W4 X 32 (ceA d.c) from by rw [← h4.out,← HXS.out];exact Blk.new W3 32 (ceA d.c))
     have x0:W4.cell? ⟨X,0,none⟩=some (.int .i64 d.c.k):=HD.out.cell 0
     try rw [HXS.out]
     clear h4 hr q9 hx4 HX1 HP1
     by_cases hk4:d.c.k=4
     ·have b4 : (d.c.k == 4) = true := beq_iff_eq.2 hk4
      have e4:decide (d.c.k=4)=true:=decide_eq_true hk4
      clear hk4
      go_wp2_with fail
      go_roundw
      case rel=>exact ⟨k+1,by go_num,hlt,HX4⟩
      case measure=>simp [intOf];omega
     obtain ⟨g1,g2,g3⟩:=cov_ent HVS.out HDM.out hk4
     have b4:(d.c.k == 4)=false:=beq_eq_false_iff_ne.2 hk4
     have e4:decide (d.c.k=4)=false:=decide_eq_false hk4
     have HC5:=zh (show s5.C=covC s.V.C from congrArg StV.C HV5.out)
     obtain ⟨nv,hnv⟩:∃ z,getC (covC s.V.C) d.c=z:=⟨_,rfl⟩
     obtain ⟨pv,hpv⟩:∃ z,getC (covC s.V.C) polC=z:=⟨_,rfl⟩
     rw [hnv] at g1 g2 g3
     rw [hpv] at g2
     have HG1:=zh (fun (V:World) (e:Ext W6 V)=>rGet_any s5 d.c V (HQ3.out.ext e) HCW.out)
     have HG2:=zh (fun (V:World) (e:Ext W6 V)=>rGet_any s5 polC V (HQ3.out.ext e) (ce_ok (k:=4) (i:=0) (wfS ⟨by omega,by omega⟩) (wfS ⟨by omega,by omega⟩)))
     rw [HC5.out,hnv,HVC.out] at HG1
     rw [HC5.out,hpv] at HG2
     obtain ⟨av,hav⟩:∃ z,d.a=z:=⟨_,rfl⟩
     rw [hav] at g1 g3 HAM
     have rc:W4.rangeAt X 0 (RowT.enc d.c):=rangeAt_of_blk HD.out
     obtain ⟨q0,q1,q2,q3,q4⟩:=ss_facts (H53.out.ext HX4.out)
     clear hk4 hnv hpv hav
     go_wp2_with (with_reducible refine wpList_loadG ceP rfl (.tmp 5) rfl X 0 rfl d.c vc HVC.out rc ?_)
     refine (HG1.out _ HX4.out).mono ?_
     rintro e W7 ⟨rfl,he7⟩
     have HX8:=zh (HX4.out.trans he7)
     clear q0 q1 q2 q3 q4 rc he7 HX4 x0 b4 e4 HD
     go_upto_region 14 with fail
     have j0:¬ nv < av:=by omega
     have hcs:(nv < 0∧¬ pv > 0∧¬ av ≥ 0) ∨ (¬ nv < 0∧¬ av ≥ 0) ∨ (¬ nv < 0∧av ≥ 0∧nv=av):=by
      by_cases h1:nv < 0
      ·exact .inl ⟨h1,by have:=g2 h1;omega,by omega⟩
      ·by_cases h2 : av ≥ 0
       ·exact .inr (.inr ⟨h1,h2,g3 h2⟩)
       ·exact .inr (.inl ⟨h1,h2⟩)
     clear g1 g2 g3
     rcases hcs with ⟨j1,j2,j3⟩ | ⟨j1,j3⟩ | ⟨j1,j3,rfl⟩
     all_goals
      refine wp_region_held_drew (S:=fun V=>Ext W6 V) (by kernel_rfl) (HX8.out.trans ((Ext.refl _).drew')) (fun hHeld=>?_)
      refine zz0 [0,1,2,3,4,5,6,7,8,9,10,11,12] ?_;repeat first | refine zz1 ?_ (hy:=by intro W hSW;obtain ⟨r0,r1,r2,r3,r4⟩:=ss_facts (H53.out.ext hSW);have q9:W.cell? ⟨w.heap.size,0,none⟩=some (.slice (some ⟨b,o,none⟩) s.n1 s.c1):=(by rw [← HAB.out];exact (HP3.out.ext hSW).cell 0);have c9:=HAM.out W hSW;go_simp <;> with_reducible rfl) | refine zz2 ?_ | refine zz9 ?_
      refine za 13 (fun K hK=>?_)
      (go_simp;first | (go_at_call 31;refine (rPool_any _).mono ?_;rintro e w5 ⟨rfl,he5⟩) | skip)
      refine hK.out _ _ (by first | exact hHeld.trans he5 | exact hHeld) (fun hHeld=>?_)
      clear hK K
      try simp only [lays]
      refine za 14 (fun K hK=>?_)
      (go_simp;first | (go_at_call 30;refine (HG2.out _ hHeld).mono ?_;rintro e w5 ⟨rfl,he5⟩) | skip)
      refine hK.out _ _ (by first | exact hHeld.trans he5 | exact hHeld) (fun hHeld=>?_)
      clear hK K
      try simp only [lays]
      refine zz0 [15,16,17,18,19,20,21,22,23,24,25,26,27,28,29,30,31,32,33,34,35,36] ?_;repeat first | refine zz1 ?_ (hy:=by intro W hSW;obtain ⟨r0,r1,r2,r3,r4⟩:=ss_facts (H53.out.ext hSW);have q9:W.cell? ⟨w.heap.size,0,none⟩=some (.slice (some ⟨b,o,none⟩) s.n1 s.c1):=(by rw [← HAB.out];exact (HP3.out.ext hSW).cell 0);have c9:=HAM.out W hSW;go_simp <;> with_reducible rfl) | refine zz2 ?_ | refine zz9 ?_
      refine wpAnyH_done (by kernel_rfl) ?_ _
      have HXF:=zh hHeld
      clear hHeld j1
      go_wp2_with fail
      go_roundw
      case rel=>exact ⟨k+1,by go_num,hlt,HXF⟩
      case measure=>simp [intOf];omega
    ·obtain rfl : k = s.n1 := by omega
     have i1:¬ (s.n1:Int) < (s.n1:Int):=by omega
     go_wp2_with fail
     refine (awake22_any W3).mono ?_
     rintro e w2 ⟨rfl,he2⟩
     have HE2:=zh ((HE3.out.trans HX1.out).trans he2)
     clear he2 p0
     go_wp2_with fail
     go_ret
     exact ⟨rfl,HE2.out⟩
end Go.Proofs.YtohmmcahpakokaaGreat
