/- state.Open, Close, Mark. -/
import Derived.Test.YtohmmcahpakokaaGreatJ32
set_option maxRecDepth 100000
set_option maxHeartbeats 8000000
set_option linter.unusedVariables false
set_option linter.unusedSimpArgs false
namespace Go.Proofs.YtohmmcahpakokaaGreat
section
open Go.RowKit
attribute [local go_sem ↓] Go.wp_at_zero Go.wp_at_succ
theorem yN:∀ {K:List LkR} {n:UInt64} {k:Nat},k < K.length→decide ((nthG K k).nm=n)=true→(∀ j,j < k→decide ((nthG K j).nm=n)=false)→fU n K=K.take k ++ K.drop (k+1)
 | [],n,k,hk,_,_=>by simp at hk
 | d :: r,n,0,_,h1,_=>by unfold fU;rw [if_pos (show d.nm=n from of_decide_eq_true h1)];rfl
 | d :: r,n,k+1,hk,h1,h2=>by
  have h0:=h2 0 (by omega)
  unfold fU
  rw [if_neg (show ¬ d.nm=n from of_decide_eq_false h0),yN (K:=r) (by simpa using hk) h1 (fun j hj=>h2 (j+1) (by omega))]
  rfl
theorem yM:∀ {K:List LkR} {n:UInt64},(∀ j,j < K.length→decide ((nthG K j).nm=n)=false)→fU n K=K
 | [],n,_=>rfl
 | d :: r,n,h=>by
  have h0:=h 0 (by simp)
  unfold fU
  rw [if_neg (show ¬ d.nm=n from of_decide_eq_false h0),yM (K:=r) (fun j hj=>h (j+1) (by simpa using hj))]
theorem jY (d:UInt64) (w:World):(Instr.buildSlice 37 1 #[(0,.agg (nmc d))]).run Tryz.prog w=.ok (.slice (some ⟨w.heap.size,0,none⟩) 1 1) (w.alloc (.cells (nmc d) 30)):=aBj d w
theorem aKF {s s1:StR} (h:s1.V=s.V):s1.C=s.C∧s1.Q=s.Q∧s1.K=s.K∧s1.P=s.P∧s1.G=s.G:=by
 unfold StR.V at h;injection h with h1 h2 h3 h4 h5;exact ⟨h1,h2,h3,h4,h5⟩
theorem aCR (s0:StR) (d:LkR) (w:World) (h:s0.ok w) (hd:lkW d) (hn:s0.n1≤1000000∧s0.n2≤1000000∧s0.n3≤1000000∧s0.n4≤1000000):Calls Tryz.prog 99 #[.agg (ssA s0),.agg (lkA d)] w (lZ w ⟨s0.C,s0.Q,lV s0.K d,s0.P,s0.G⟩):=by
 have HDW:=zh hd
 clear hd
 obtain ⟨W,hW⟩:∃ W,(((w.alloc (.cells (ssA s0) 44)).alloc (.cells (lkA d) 94)).alloc (.cells #[.slice none 0 0,.slice none 0 0,.slice none 0 0,.slice none 0 0,.int .i64 0] 44))=W:=⟨_,rfl⟩
 have HB:=zh (show Blk W w.heap.size 44 (ssA s0) from by rw [← hW];exact ((Blk.new w 44 (ssA s0)).alloc _).alloc _)
 have HD:=zh (show Blk W (w.heap.size+1) 94 (lkA d) from by rw [← hW];exact Blk.alloc (Blk.newAt _ _ _ _ (by simp)) _)
 have HR:=zh (show Blk W (w.heap.size+2) 44 (ssA ss0) from by rw [← hW];exact Blk.newAt _ _ _ _ (by simp))
 have HE:=zh (show Ext w W from by rw [← hW];exact (((Ext.refl w).alloc' _).alloc' _).alloc' _)
 have HS0:=zh h
 have HN:=zh hn
 obtain ⟨q0,q1,q2,q3,q4⟩:=aE HB.out
 clear h hn
 go_enter Tryz.func99,Tryz.ntmps99
 go_upto_region 2 with (first | (go_at_call 51;refine (cR s0 W (HS0.out.ext HE.out) HN.out).mono ?_;rintro e w5 ⟨s1,rfl,ho1,hv1,he1⟩;have HB1:=zh (HB.out.ext he1);have HD1:=zh (HD.out.ext he1);have HR1:=zh (HR.out.ext he1);have HO1:=zh (bJ ho1 HE.out.size);have HV1:=zh hv1;have HX1:=zh (HE.out.trans he1);clear ho1 hv1 he1) | ((with_reducible refine aK rfl (.tmp 2) (.tmp 6) rfl w.heap.size s1 rfl rfl HB1.out ?_);intro W2 h2))
 have HST:=zh (show StB w W2 w.heap.size s1 from by rw [← h2.out];exact StB.start HO1.out HB1.out HX1.out (Nat.le_refl _))
 have HD2:=zh (show Blk W2 (w.heap.size+1) 94 (lkA d) from by rw [← h2.out];exact HD1.out.grown (aC _ _ _ _) (fun e=>by injection e;omega))
 have HR2:=zh (show Blk W2 (w.heap.size+2) 44 (ssA ss0) from by rw [← h2.out];exact HR1.out.grown (aC _ _ _ _) (fun e=>by injection e;omega))
 obtain ⟨v1,v2,v3,v4,v5⟩:=aKF HV1.out
 have HVS:=zh (⟨v1,v2,v3,v4,v5⟩:s1.C=s0.C∧s1.Q=s0.Q∧s1.K=s0.K∧s1.P=s0.P∧s1.G=s0.G)
 have HBD:=zh (show s1.n3≤1000000∧s1.n4≤1000000 from by
  have h1:=HO1.out.l3
  have h2:=HO1.out.l4
  have h3:=HS0.out.s3.len
  have h4:=HS0.out.s4.len
  have h5:=HN.out
  rw [v3] at h1;rw [v4] at h2
  omega)
 clear v1 v2 v3 v4 v5 h2 q0 q1 q2 q3 q4 HB1 HD1 HR1 HO1 HX1 HV1 hW HB HD HR HE
 obtain ⟨q0,q1,q2,q3,q4⟩:=aE HST.out.blk
 have r4:W2.rangeAt (w.heap.size+1) 0 (RowT.enc d.nm):=aAf HD2.out
 rcases iS (fun l:LkR=>decide (l.nm=d.nm)) s1.K with hno | ⟨k,hk,h1,h3⟩
 ·have HFK := zh (aEs hno)
  have HFI:=zh (fE s1 d.nm W2 HST.out.own.ok (-1) (.inl ⟨rfl,hno⟩))
  clear hno
  go_upto_region 3 with (first | (with_reducible refine aB nmP rfl (.tmp 8) rfl (w.heap.size+1) 0 rfl d.nm _ rfl r4 ?_) | (go_at_call 152;refine HFI.out.mono ?_;rintro e W0 ⟨rfl,hE5⟩))
  clear r4
  have HA6:=zh (HST.out.ext ((hE5:Ext W2 W0).drew'))
  have HX6:=zh (HD2.out.ext (hE5.drew'))
  have HR6:=zh (HR2.out.ext (hE5.drew'))
  clear hE5 q0 q1 q2 q3 q4
  refine wp_region_held_drew (S:=fun _=>True) (by kernel_rfl) (trivial) (fun aA=>?_)
  refine zzr [0,2] ?_
  refine zzj (VE 1 (.slice s1.A3 s1.n3 s1.c3) (VE 3 (.slice s1.A3 s1.n3 s1.c3) (VE 4 (.agg (lkA d)) (VV 5 (fun v V=>∃ j:Nat,v=.int .i64 (j:Int)∧j≤s1.n3∧eB (fun y=>decide (un d.nm < un y.nm)) d s1.K=s1.K.take j ++ d :: s1.K.drop j) (VE 6 (.agg (lkA d)) (VV 7 (fun v V=>∃ gb,v=.slice (some ⟨gb,0,none⟩) 1 1∧Blk V gb 94 (lkA d)∧W0.heap.size≤gb) VN)))))) [(1,some 13),(3,some 15),(4,some 16),(5,some 17),(6,some 18),(7,some 19)] 3 (fun _ _ h _=>h) (ve (ve (ve (VV.ext (fun v w w' h e=>h) (ve (VV.ext (fun v w w' ⟨gb,h1,h2,h3⟩ e=>⟨gb,h1,h2.ext e,h3⟩) VN.ext)))))) (zzc ?_ (zzc ?_ (zzc ?_ (zzc ?_ (zzc ?_ (zzc ?_ zzn)))))) ?_
  ·refine zzp fun W6 hE hS K hK => ?_
   obtain ⟨q0,q1,q2,q3,q4⟩:=aE (HA6.out.blk.ext hE)
   go_simp
   exact zzF hK (.slice s1.A3 s1.n3 s1.c3)
  ·refine zzp fun W6 hE hS K hK => ?_
   obtain ⟨q0,q1,q2,q3,q4⟩:=aE (HA6.out.blk.ext hE)
   go_simp
   exact zzF hK (.slice s1.A3 s1.n3 s1.c3)
  ·refine zzp fun W6 hE hS K hK => ?_
   refine iN lkP (.tmp 3) rfl (w.heap.size+1) 0 rfl d _ rfl (aD (HX6.out.ext hE)) ?_
   exact zzF hK (.agg (lkA d))
  ·refine zm [(3, some 15), (4, some 16)] fun env W6 hE hS hD K hK => ?_
   obtain ⟨h3,h4,-⟩:=zzV hD
   clear hD
   simp only [aO,h3,h4] at hK ⊢
   clear h3
   clear h4
   go_simp
   go_at_call 154
   refine (aAK s1.A3 s1.n3 s1.c3 s1.K d W6 (HA6.out.own.ok.ext hE).s3).mono ?_
   rintro e w5 ⟨j,rfl,hj,hins,he5⟩
   exact zzK (hK.out (.int .i64 (j:Int)) _ (he5) (⟨j,rfl,hj,hins⟩))
  ·refine zzp fun W6 hE hS K hK => ?_
   refine iN lkP (.tmp 3) rfl (w.heap.size+1) 0 rfl d _ rfl (aD (HX6.out.ext hE)) ?_
   exact zzF hK (.agg (lkA d))
  ·refine zm [(6, some 18)] fun env W6 hE hS hD K hK => ?_
   obtain ⟨h6,-⟩:=zzV hD
   clear hD
   simp only [aO,h6] at hK ⊢
   clear h6
   refine qQ (.tmp 18) rfl rfl (aBk d W6) ?_
   exact zzK (hK.out (.slice (some ⟨W6.heap.size,0,none⟩) 1 1) _ ((Ext.refl _).alloc' _) (⟨_,rfl,Blk.new _ _ _,hE.size⟩))
  intro env W6 hE hS hV
  obtain ⟨h1,h3,h4,h5,h6,h7,-⟩:=zzV hV
  clear hV
  simp only [aO,h1,h3,h4,h6]
  clear h1
  clear h3
  clear h4
  generalize env 5=x5 at h5 ⊢
  clear h6
  generalize env 7=x7 at h7 ⊢
  have aA:=hS
  refine za 8 (fun K hK=>?_)
  (obtain ⟨j,rfl,hj,hins⟩:=h5;obtain ⟨gb,rfl,hgb,hgs⟩:=h7;go_simp;go_at_call 153;refine (aFB w.heap.size s1.A3 s1.n3 s1.c3 s1.K d j gb W6 (HA6.out.own.ext hE).o3 hgb (fun e=>by have h9:gb < W0.heap.size:=(World.ownsRow.lt HA6.out.own.o3 _ e).2;omega) (Nat.le_trans HA6.out.low.size hE.size) (by have:=HBD.out;omega) hj).mono ?_;rintro e w8 ⟨A8,c8,rfl,ho8,hg8⟩;have HO8:=zh ho8;have HG8:=zh hg8;have HI8:=zh hins;have HA7:=zh (HA6.out.ext hE);have HR7:=zh (HR6.out.ext hE);clear ho8 hg8 hins)
  refine hK.out _ _ (trivial) (fun aA=>?_)
  clear hK K
  try simp only [aS]
  refine zt 9 aA ?_
  refine za 10 (fun K hK=>?_)
  (have pb:=(HA7.out.blk.grown HG8.out (aI HA7.out.own.o3 HA7.out.blk (by decide)));have pc:=pb.cell 2;have pf:=pb.frozen 2;go_simp)
  refine hK.out _ _ (trivial) (fun aA=>?_)
  clear hK K
  try simp only [aS]
  refine wpAnyH_done (by kernel_rfl) ?_ _
  have HNX:=zh (HA7.out.row3 HG8.out HO8.out (by
   rw [← HI8.out]
   intro y hy
   rcases (mR _ _ _ _).1 hy with rfl | hy
   ·exact HDW.out
   exact HA7.out.own.k3 y hy))
  have HFR:=zh (show Blk (w8.setCell ⟨w.heap.size,2,none⟩ (.slice A8 (s1.n3+1) c8)) (w.heap.size+2) 44 (ssA ss0) from ((HR7.out.grown HG8.out (aI HA7.out.own.o3 HR7.out (by decide))).far (p:=⟨w.heap.size,2,none⟩) (by simp) _))
  obtain ⟨W8,hW8⟩:∃ W8,w8.setCell ⟨w.heap.size,2,none⟩ (.slice A8 (s1.n3+1) c8)=W8:=⟨_,rfl⟩
  rw [hW8] at HNX HFR ⊢
  obtain ⟨s2,hs2⟩:∃ s2:StR,{ s1 with A3:=A8,n3:=s1.n3+1,c3:=c8,K:=s1.K.take j ++ d :: s1.K.drop j }=s2:=⟨_,rfl⟩
  have HF:=zh (show StB w W8 w.heap.size s2 from by rw [← hs2];exact HNX.out)
  have HFV:=zh (show s2.V=⟨s0.C,s0.Q,lV s0.K d,s0.P,s0.G⟩ from by
   rw [← hs2]
   obtain ⟨v1,v2,v3,v4,v5⟩:=HVS.out
   unfold StR.V
   rw [← HI8.out]
   simp only [v1,v2,v3,v4,v5]
   rw [show lV s0.K d=eB (fun y=>decide (un d.nm < un y.nm)) d s0.K from by have hv:=HVS.out.2.2.1;rw [← hv];unfold lV;rw [HFK.out]])
  clear hW8 hs2 HNX HA7 HR7 HG8 HO8 HI8 hE hS aA pb pc pf hgb hgs HA6 HX6 HR6
  obtain ⟨q0,q1,q2,q3,q4⟩:=aE HF.out.blk
  go_wp2_with (first | ((with_reducible refine aK rfl (.tmp 4) (.tmp 22) rfl (w.heap.size+2) s2 rfl rfl HFR.out ?_);intro W9 h9))
  have hst:Blk W9 (w.heap.size+2) 44 (ssA s2):=by rw [← h9.out];exact aR (ds:=ssA s2) HFR.out rfl
  have HOW:=zh (show OwnS W9 w.heap.size s2 from by
   rw [← h9.out]
   exact HF.out.own.kept (aC _ _ _ _) HFR.out (by decide) (by decide) (by decide) (by decide))
  have HXE:=zh (show Ext w W9 from by rw [← h9.out];exact Below.setCells' HF.out.low (by omega) _ _)
  clear h9
  exact bodyPost_ret (v:=.agg (ssA s2)) (gB rfl _ _ (w.heap.size+2) _ rfl (run_loadVar_row _ _ _ _ _ (0,0) _ hst Tryz.underlying44 rfl (by kernel_rfl))) rfl ⟨s2,rfl,HOW.out,HFV.out,HXE.out⟩
 have HFK:=zh (aAn hk h1 h3)
 have HFI:=zh (fE s1 d.nm W2 HST.out.own.ok (k:Int) (.inr ⟨k,rfl,hk,h1,h3⟩))
 have k0:¬ (k:Int) < 0:=by omega
 clear h1 h3 hk
 go_upto_region 4 with (first | (with_reducible refine aB nmP rfl (.tmp 8) rfl (w.heap.size+1) 0 rfl d.nm _ rfl r4 ?_) | (go_at_call 152;refine HFI.out.mono ?_;rintro e W0 ⟨rfl,hE5⟩))
 clear r4
 have HF:=zh (show StB w W0 w.heap.size s1 from HST.out.ext hE5)
 have HFR:=zh (HR2.out.ext hE5)
 have HFV:=zh (show s1.V=⟨s0.C,s0.Q,lV s0.K d,s0.P,s0.G⟩ from by
  obtain ⟨v1,v2,v3,v4,v5⟩:=HVS.out
  unfold StR.V
  simp only [v1,v2,v3,v4,v5]
  rw [show lV s0.K d=s0.K from by have hv:=HVS.out.2.2.1;rw [← hv];unfold lV;rw [HFK.out]])
 obtain ⟨s2,hs2⟩:∃ s2,s1=s2:=⟨_,rfl⟩
 rw [hs2] at HF HFV
 clear hs2 hE5 q0 q1 q2 q3 q4
 obtain ⟨q0,q1,q2,q3,q4⟩:=aE HF.out.blk
 go_wp2_with (first | ((with_reducible refine aK rfl (.tmp 4) (.tmp 22) rfl (w.heap.size+2) s2 rfl rfl HFR.out ?_);intro W9 h9))
 have hst:Blk W9 (w.heap.size+2) 44 (ssA s2):=by rw [← h9.out];exact aR (ds:=ssA s2) HFR.out rfl
 have HOW:=zh (show OwnS W9 w.heap.size s2 from by
  rw [← h9.out]
  exact HF.out.own.kept (aC _ _ _ _) HFR.out (by decide) (by decide) (by decide) (by decide))
 have HXE:=zh (show Ext w W9 from by rw [← h9.out];exact Below.setCells' HF.out.low (by omega) _ _)
 clear h9
 exact bodyPost_ret (v:=.agg (ssA s2)) (gB rfl _ _ (w.heap.size+2) _ rfl (run_loadVar_row _ _ _ _ _ (0,0) _ hst Tryz.underlying44 rfl (by kernel_rfl))) rfl ⟨s2,rfl,HOW.out,HFV.out,HXE.out⟩
theorem oE (s0:StR) (d:UInt64) (w:World) (h:s0.ok w) (hn:s0.n1≤1000000∧s0.n2≤1000000∧s0.n3≤1000000∧s0.n4≤1000000):Calls Tryz.prog 55 #[.agg (ssA s0),.agg (nmc d)] w (lZ w ⟨s0.C,s0.Q,s0.K,cM s0.P d,s0.G⟩):=by
 obtain ⟨W,hW⟩:∃ W,(((w.alloc (.cells (ssA s0) 44)).alloc (.cells (nmc d) 30)).alloc (.cells #[.slice none 0 0,.slice none 0 0,.slice none 0 0,.slice none 0 0,.int .i64 0] 44))=W:=⟨_,rfl⟩
 have HB:=zh (show Blk W w.heap.size 44 (ssA s0) from by rw [← hW];exact ((Blk.new w 44 (ssA s0)).alloc _).alloc _)
 have HD:=zh (show Blk W (w.heap.size+1) 30 (nmc d) from by rw [← hW];exact Blk.alloc (Blk.newAt _ _ _ _ (by simp)) _)
 have HR:=zh (show Blk W (w.heap.size+2) 44 (ssA ss0) from by rw [← hW];exact Blk.newAt _ _ _ _ (by simp))
 have HE:=zh (show Ext w W from by rw [← hW];exact (((Ext.refl w).alloc' _).alloc' _).alloc' _)
 have HS0:=zh h
 have HN:=zh hn
 obtain ⟨q0,q1,q2,q3,q4⟩:=aE HB.out
 clear h hn
 go_enter Tryz.func55,Tryz.ntmps55
 go_upto_region 2 with (first | (go_at_call 51;refine (cR s0 W (HS0.out.ext HE.out) HN.out).mono ?_;rintro e w5 ⟨s1,rfl,ho1,hv1,he1⟩;have HB1:=zh (HB.out.ext he1);have HD1:=zh (HD.out.ext he1);have HR1:=zh (HR.out.ext he1);have HO1:=zh (bJ ho1 HE.out.size);have HV1:=zh hv1;have HX1:=zh (HE.out.trans he1);clear ho1 hv1 he1) | ((with_reducible refine aK rfl (.tmp 2) (.tmp 6) rfl w.heap.size s1 rfl rfl HB1.out ?_);intro W2 h2))
 have HST:=zh (show StB w W2 w.heap.size s1 from by rw [← h2.out];exact StB.start HO1.out HB1.out HX1.out (Nat.le_refl _))
 have HD2:=zh (show Blk W2 (w.heap.size+1) 30 (nmc d) from by rw [← h2.out];exact HD1.out.grown (aC _ _ _ _) (fun e=>by injection e;omega))
 have HR2:=zh (show Blk W2 (w.heap.size+2) 44 (ssA ss0) from by rw [← h2.out];exact HR1.out.grown (aC _ _ _ _) (fun e=>by injection e;omega))
 obtain ⟨v1,v2,v3,v4,v5⟩:=aKF HV1.out
 have HVS:=zh (⟨v1,v2,v3,v4,v5⟩:s1.C=s0.C∧s1.Q=s0.Q∧s1.K=s0.K∧s1.P=s0.P∧s1.G=s0.G)
 have HBD:=zh (show s1.n3≤1000000∧s1.n4≤1000000 from by
  have h1:=HO1.out.l3
  have h2:=HO1.out.l4
  have h3:=HS0.out.s3.len
  have h4:=HS0.out.s4.len
  have h5:=HN.out
  rw [v3] at h1;rw [v4] at h2
  omega)
 clear v1 v2 v3 v4 v5 h2 q0 q1 q2 q3 q4 HB1 HD1 HR1 HO1 HX1 HV1 hW HB HD HR HE
 obtain ⟨q0,q1,q2,q3,q4⟩:=aE HST.out.blk
 have r4:W2.rangeAt (w.heap.size+1) 0 (RowT.enc d):=bM HD2.out
 by_cases hm:d ∈ s1.P
 ·have HFK := zh hm
  have HFI:=zh (fM s1 d W2 HST.out.own.ok)
  rw [decide_eq_true hm] at HFI
  clear hm
  go_upto_region 4 with (first | (with_reducible refine aB nmP rfl (.tmp 3) rfl (w.heap.size+1) 0 rfl d _ rfl r4 ?_) | (go_at_call 63;refine HFI.out.mono ?_;rintro e W0 ⟨rfl,hE5⟩))
  clear r4
  have HF:=zh (show StB w W0 w.heap.size s1 from HST.out.ext hE5)
  have HFR:=zh (HR2.out.ext hE5)
  have HFV:=zh (show s1.V=⟨s0.C,s0.Q,s0.K,cM s0.P d,s0.G⟩ from by
   obtain ⟨v1,v2,v3,v4,v5⟩:=HVS.out
   unfold StR.V
   simp only [v1,v2,v3,v4,v5]
   rw [show cM s0.P d=s0.P from by have hv:=HVS.out.2.2.2.1;rw [← hv];unfold cM;rw [if_pos HFK.out]])
  obtain ⟨s2,hs2⟩:∃ s2,s1=s2:=⟨_,rfl⟩
  rw [hs2] at HF HFV
  clear hs2 hE5 q0 q1 q2 q3 q4
  obtain ⟨q0,q1,q2,q3,q4⟩:=aE HF.out.blk
  go_wp2_with (first | ((with_reducible refine aK rfl (.tmp 4) (.tmp 21) rfl (w.heap.size+2) s2 rfl rfl HFR.out ?_);intro W9 h9))
  have hst:Blk W9 (w.heap.size+2) 44 (ssA s2):=by rw [← h9.out];exact aR (ds:=ssA s2) HFR.out rfl
  have HOW:=zh (show OwnS W9 w.heap.size s2 from by
   rw [← h9.out]
   exact HF.out.own.kept (aC _ _ _ _) HFR.out (by decide) (by decide) (by decide) (by decide))
  have HXE:=zh (show Ext w W9 from by rw [← h9.out];exact Below.setCells' HF.out.low (by omega) _ _)
  clear h9
  exact bodyPost_ret (v:=.agg (ssA s2)) (gB rfl _ _ (w.heap.size+2) _ rfl (run_loadVar_row _ _ _ _ _ (0,0) _ hst Tryz.underlying44 rfl (by kernel_rfl))) rfl ⟨s2,rfl,HOW.out,HFV.out,HXE.out⟩
 have HFK:=zh hm
 have HFI:=zh (fM s1 d W2 HST.out.own.ok)
 rw [decide_eq_false hm] at HFI
 clear hm
 go_upto_region 3 with (first | (with_reducible refine aB nmP rfl (.tmp 3) rfl (w.heap.size+1) 0 rfl d _ rfl r4 ?_) | (go_at_call 63;refine HFI.out.mono ?_;rintro e W0 ⟨rfl,hE5⟩))
 clear r4
 have HA6:=zh (HST.out.ext ((hE5:Ext W2 W0).drew'))
 have HX6:=zh (HD2.out.ext (hE5.drew'))
 have HR6:=zh (HR2.out.ext (hE5.drew'))
 clear hE5 q0 q1 q2 q3 q4
 refine wp_region_held_drew (S:=fun _=>True) (by kernel_rfl) (trivial) (fun aA=>?_)
 refine zzr [0,2] ?_
 refine zzj (VE 1 (.slice s1.A4 s1.n4 s1.c4) (VE 3 (.slice s1.A4 s1.n4 s1.c4) (VE 4 (.agg (nmc d)) (VV 5 (fun v V=>∃ j:Nat,v=.int .i64 (j:Int)∧j≤s1.n4∧eB (fun y=>decide (un d < un y)) d s1.P=s1.P.take j ++ d :: s1.P.drop j) (VE 6 (.agg (nmc d)) (VV 7 (fun v V=>∃ gb,v=.slice (some ⟨gb,0,none⟩) 1 1∧Blk V gb 30 (nmc d)∧W0.heap.size≤gb) VN)))))) [(1,some 12),(3,some 14),(4,some 15),(5,some 16),(6,some 17),(7,some 18)] 3 (fun _ _ h _=>h) (ve (ve (ve (VV.ext (fun v w w' h e=>h) (ve (VV.ext (fun v w w' ⟨gb,h1,h2,h3⟩ e=>⟨gb,h1,h2.ext e,h3⟩) VN.ext)))))) (zzc ?_ (zzc ?_ (zzc ?_ (zzc ?_ (zzc ?_ (zzc ?_ zzn)))))) ?_
 ·refine zzp fun W6 hE hS K hK => ?_
  obtain ⟨q0,q1,q2,q3,q4⟩:=aE (HA6.out.blk.ext hE)
  go_simp
  exact zzF hK (.slice s1.A4 s1.n4 s1.c4)
 ·refine zzp fun W6 hE hS K hK => ?_
  obtain ⟨q0,q1,q2,q3,q4⟩:=aE (HA6.out.blk.ext hE)
  go_simp
  exact zzF hK (.slice s1.A4 s1.n4 s1.c4)
 ·refine zzp fun W6 hE hS K hK => ?_
  refine iN nmP (.tmp 3) rfl (w.heap.size+1) 0 rfl d _ rfl (bM (HX6.out.ext hE)) ?_
  exact zzF hK (.agg (nmc d))
 ·refine zm [(3, some 14), (4, some 15)] fun env W6 hE hS hD K hK => ?_
  obtain ⟨h3,h4,-⟩:=zzV hD
  clear hD
  simp only [aO,h3,h4] at hK ⊢
  clear h3
  clear h4
  go_simp
  go_at_call 107
  refine (aAJ s1.A4 s1.n4 s1.c4 s1.P d W6 (HA6.out.own.ok.ext hE).s4).mono ?_
  rintro e w5 ⟨j,rfl,hj,hins,he5⟩
  exact zzK (hK.out (.int .i64 (j:Int)) _ (he5) (⟨j,rfl,hj,hins⟩))
 ·refine zzp fun W6 hE hS K hK => ?_
  refine iN nmP (.tmp 3) rfl (w.heap.size+1) 0 rfl d _ rfl (bM (HX6.out.ext hE)) ?_
  exact zzF hK (.agg (nmc d))
 ·refine zm [(6, some 17)] fun env W6 hE hS hD K hK => ?_
  obtain ⟨h6,-⟩:=zzV hD
  clear hD
  simp only [aO,h6] at hK ⊢
  clear h6
  refine qQ (.tmp 17) rfl rfl (jY d W6) ?_
  exact zzK (hK.out (.slice (some ⟨W6.heap.size,0,none⟩) 1 1) _ ((Ext.refl _).alloc' _) (⟨_,rfl,Blk.new _ _ _,hE.size⟩))
 intro env W6 hE hS hV
 obtain ⟨h1,h3,h4,h5,h6,h7,-⟩:=zzV hV
 clear hV
 simp only [aO,h1,h3,h4,h6]
 clear h1
 clear h3
 clear h4
 generalize env 5=x5 at h5 ⊢
 clear h6
 generalize env 7=x7 at h7 ⊢
 have aA:=hS
 refine za 8 (fun K hK=>?_)
 (obtain ⟨j,rfl,hj,hins⟩:=h5;obtain ⟨gb,rfl,hgb,hgs⟩:=h7;go_simp;go_at_call 106;refine (aFz w.heap.size s1.A4 s1.n4 s1.c4 s1.P d j gb W6 (HA6.out.own.ext hE).o4 hgb (fun e=>by have h9:gb < W0.heap.size:=(World.ownsRow.lt HA6.out.own.o4 _ e).2;omega) (Nat.le_trans HA6.out.low.size hE.size) (by have:=HBD.out;omega) hj).mono ?_;rintro e w8 ⟨A8,c8,rfl,ho8,hg8⟩;have HO8:=zh ho8;have HG8:=zh hg8;have HI8:=zh hins;have HA7:=zh (HA6.out.ext hE);have HR7:=zh (HR6.out.ext hE);clear ho8 hg8 hins)
 refine hK.out _ _ (trivial) (fun aA=>?_)
 clear hK K
 try simp only [aS]
 refine zt 9 aA ?_
 refine za 10 (fun K hK=>?_)
 (have pb:=(HA7.out.blk.grown HG8.out (aI HA7.out.own.o4 HA7.out.blk (by decide)));have pc:=pb.cell 3;have pf:=pb.frozen 3;go_simp)
 refine hK.out _ _ (trivial) (fun aA=>?_)
 clear hK K
 try simp only [aS]
 refine wpAnyH_done (by kernel_rfl) ?_ _
 have HNX:=zh (HA7.out.row4 HG8.out HO8.out)
 have HFR:=zh (show Blk (w8.setCell ⟨w.heap.size,3,none⟩ (.slice A8 (s1.n4+1) c8)) (w.heap.size+2) 44 (ssA ss0) from ((HR7.out.grown HG8.out (aI HA7.out.own.o4 HR7.out (by decide))).far (p:=⟨w.heap.size,3,none⟩) (by simp) _))
 obtain ⟨W8,hW8⟩:∃ W8,w8.setCell ⟨w.heap.size,3,none⟩ (.slice A8 (s1.n4+1) c8)=W8:=⟨_,rfl⟩
 rw [hW8] at HNX HFR ⊢
 obtain ⟨s2,hs2⟩:∃ s2:StR,{ s1 with A4:=A8,n4:=s1.n4+1,c4:=c8,P:=s1.P.take j ++ d :: s1.P.drop j }=s2:=⟨_,rfl⟩
 have HF:=zh (show StB w W8 w.heap.size s2 from by rw [← hs2];exact HNX.out)
 have HFV:=zh (show s2.V=⟨s0.C,s0.Q,s0.K,cM s0.P d,s0.G⟩ from by
  rw [← hs2]
  obtain ⟨v1,v2,v3,v4,v5⟩:=HVS.out
  unfold StR.V
  rw [← HI8.out]
  simp only [v1,v2,v3,v4,v5]
  rw [show cM s0.P d=eB (fun y=>decide (un d < un y)) d s0.P from by have hv:=HVS.out.2.2.2.1;rw [← hv];unfold cM;rw [if_neg HFK.out]])
 clear hW8 hs2 HNX HA7 HR7 HG8 HO8 HI8 hE hS aA pb pc pf hgb hgs HA6 HX6 HR6
 obtain ⟨q0,q1,q2,q3,q4⟩:=aE HF.out.blk
 go_wp2_with (first | ((with_reducible refine aK rfl (.tmp 4) (.tmp 21) rfl (w.heap.size+2) s2 rfl rfl HFR.out ?_);intro W9 h9))
 have hst:Blk W9 (w.heap.size+2) 44 (ssA s2):=by rw [← h9.out];exact aR (ds:=ssA s2) HFR.out rfl
 have HOW:=zh (show OwnS W9 w.heap.size s2 from by
  rw [← h9.out]
  exact HF.out.own.kept (aC _ _ _ _) HFR.out (by decide) (by decide) (by decide) (by decide))
 have HXE:=zh (show Ext w W9 from by rw [← h9.out];exact Below.setCells' HF.out.low (by omega) _ _)
 clear h9
 exact bodyPost_ret (v:=.agg (ssA s2)) (gB rfl _ _ (w.heap.size+2) _ rfl (run_loadVar_row _ _ _ _ _ (0,0) _ hst Tryz.underlying44 rfl (by kernel_rfl))) rfl ⟨s2,rfl,HOW.out,HFV.out,HXE.out⟩
theorem rQ (s0:StR) (d:UInt64) (w:World) (h:s0.ok w) (hn:s0.n1≤1000000∧s0.n2≤1000000∧s0.n3≤1000000∧s0.n4≤1000000):Calls Tryz.prog 100 #[.agg (ssA s0),.agg (nmc d)] w (lZ w ⟨s0.C,s0.Q,fU d s0.K,s0.P,s0.G⟩):=by
 obtain ⟨W,hW⟩:∃ W,(((w.alloc (.cells (ssA s0) 44)).alloc (.cells (nmc d) 30)).alloc (.cells #[.slice none 0 0,.slice none 0 0,.slice none 0 0,.slice none 0 0,.int .i64 0] 44))=W:=⟨_,rfl⟩
 have HB:=zh (show Blk W w.heap.size 44 (ssA s0) from by rw [← hW];exact ((Blk.new w 44 (ssA s0)).alloc _).alloc _)
 have HD:=zh (show Blk W (w.heap.size+1) 30 (nmc d) from by rw [← hW];exact Blk.alloc (Blk.newAt _ _ _ _ (by simp)) _)
 have HR:=zh (show Blk W (w.heap.size+2) 44 (ssA ss0) from by rw [← hW];exact Blk.newAt _ _ _ _ (by simp))
 have HE:=zh (show Ext w W from by rw [← hW];exact (((Ext.refl w).alloc' _).alloc' _).alloc' _)
 have HS0:=zh h
 have HN:=zh hn
 obtain ⟨q0,q1,q2,q3,q4⟩:=aE HB.out
 clear h hn
 go_enter Tryz.func100,Tryz.ntmps100
 go_upto_region 2 with (first | (go_at_call 51;refine (cR s0 W (HS0.out.ext HE.out) HN.out).mono ?_;rintro e w5 ⟨s1,rfl,ho1,hv1,he1⟩;have HB1:=zh (HB.out.ext he1);have HD1:=zh (HD.out.ext he1);have HR1:=zh (HR.out.ext he1);have HO1:=zh (bJ ho1 HE.out.size);have HV1:=zh hv1;have HX1:=zh (HE.out.trans he1);clear ho1 hv1 he1) | ((with_reducible refine aK rfl (.tmp 2) (.tmp 7) rfl w.heap.size s1 rfl rfl HB1.out ?_);intro W2 h2))
 have HST:=zh (show StB w W2 w.heap.size s1 from by rw [← h2.out];exact StB.start HO1.out HB1.out HX1.out (Nat.le_refl _))
 have HD2:=zh (show Blk W2 (w.heap.size+1) 30 (nmc d) from by rw [← h2.out];exact HD1.out.grown (aC _ _ _ _) (fun e=>by injection e;omega))
 have HR2:=zh (show Blk W2 (w.heap.size+2) 44 (ssA ss0) from by rw [← h2.out];exact HR1.out.grown (aC _ _ _ _) (fun e=>by injection e;omega))
 obtain ⟨v1,v2,v3,v4,v5⟩:=aKF HV1.out
 have HVS:=zh (⟨v1,v2,v3,v4,v5⟩:s1.C=s0.C∧s1.Q=s0.Q∧s1.K=s0.K∧s1.P=s0.P∧s1.G=s0.G)
 have HBD:=zh (show s1.n3≤1000000∧s1.n4≤1000000 from by
  have h1:=HO1.out.l3
  have h2:=HO1.out.l4
  have h3:=HS0.out.s3.len
  have h4:=HS0.out.s4.len
  have h5:=HN.out
  rw [v3] at h1;rw [v4] at h2
  omega)
 clear v1 v2 v3 v4 v5 h2 q0 q1 q2 q3 q4 HB1 HD1 HR1 HO1 HX1 HV1 hW HB HD HR HE
 obtain ⟨q0,q1,q2,q3,q4⟩:=aE HST.out.blk
 have r4:W2.rangeAt (w.heap.size+1) 0 (RowT.enc d):=bM HD2.out
 rcases iS (fun l:LkR=>decide (l.nm=d)) s1.K with hno | ⟨k,hk,h1,h3⟩
 ·have HFK := zh (yM hno)
  have HFI:=zh (fE s1 d W2 HST.out.own.ok (-1) (.inl ⟨rfl,hno⟩))
  clear hno
  go_upto_region 5 with (first | (with_reducible refine aB nmP rfl (.tmp 3) rfl (w.heap.size+1) 0 rfl d _ rfl r4 ?_) | (go_at_call 152;refine HFI.out.mono ?_;rintro e W0 ⟨rfl,hE5⟩))
  clear r4
  have HF:=zh (show StB w W0 w.heap.size s1 from HST.out.ext hE5)
  have HFR:=zh (HR2.out.ext hE5)
  have HFV:=zh (show s1.V=⟨s0.C,s0.Q,fU d s0.K,s0.P,s0.G⟩ from by
   obtain ⟨v1,v2,v3,v4,v5⟩:=HVS.out
   unfold StR.V
   simp only [v1,v2,v3,v4,v5]
   rw [show fU d s0.K=s0.K from by have hv:=HVS.out.2.2.1;rw [← hv];exact HFK.out])
  obtain ⟨s2,hs2⟩:∃ s2,s1=s2:=⟨_,rfl⟩
  rw [hs2] at HF HFV
  clear hs2 hE5 q0 q1 q2 q3 q4
  obtain ⟨q0,q1,q2,q3,q4⟩:=aE HF.out.blk
  go_wp2_with (first | ((with_reducible refine aK rfl (.tmp 4) (.tmp 20) rfl (w.heap.size+2) s2 rfl rfl HFR.out ?_);intro W9 h9))
  have hst:Blk W9 (w.heap.size+2) 44 (ssA s2):=by rw [← h9.out];exact aR (ds:=ssA s2) HFR.out rfl
  have HOW:=zh (show OwnS W9 w.heap.size s2 from by
   rw [← h9.out]
   exact HF.out.own.kept (aC _ _ _ _) HFR.out (by decide) (by decide) (by decide) (by decide))
  have HXE:=zh (show Ext w W9 from by rw [← h9.out];exact Below.setCells' HF.out.low (by omega) _ _)
  clear h9
  exact bodyPost_ret (v:=.agg (ssA s2)) (gB rfl _ _ (w.heap.size+2) _ rfl (run_loadVar_row _ _ _ _ _ (0,0) _ hst Tryz.underlying44 rfl (by kernel_rfl))) rfl ⟨s2,rfl,HOW.out,HFV.out,HXE.out⟩
 have HFK:=zh (yN hk h1 h3)
 have HFI:=zh (fE s1 d W2 HST.out.own.ok (k:Int) (.inr ⟨k,rfl,hk,h1,h3⟩))
 have k0:(0:Int)≤(k:Int):=by omega
 have hkn:k < s1.n3:=by rw [← HST.out.own.l3];exact hk
 have k1:(k:Int) < (s1.n3:Int):=by omega
 have k2:=HBD.out.1
 clear h1 h3 hk
 go_upto_region 4 with (first | (with_reducible refine aB nmP rfl (.tmp 3) rfl (w.heap.size+1) 0 rfl d _ rfl r4 ?_) | (go_at_call 152;refine HFI.out.mono ?_;rintro e W0 ⟨rfl,hE5⟩))
 have HA6:=zh (HST.out.ext hE5)
 have HR6:=zh (HR2.out.ext hE5)
 clear hE5 q0 q1 q2 q3 q4 r4
 obtain ⟨bb,hA,-,-⟩:=cF HA6.out.own.o3 (by omega)
 have hq0:W0.cell? ⟨w.heap.size,2,none⟩=some (.slice (some ⟨bb,0,none⟩) s1.n3 s1.c3):=by rw [← hA];exact HA6.out.blk.cell 2
 have HDEL:=zh (aFK w.heap.size bb s1.n3 s1.c3 s1.K k W0 (by have:=HA6.out.own.o3;rwa [hA] at this) (by omega) hkn)
 have HAA:=zh hA
 clear hA
 go_upto_region 5 with (first | (go_at_call 156;refine HDEL.out.mono ?_;rintro e w8 ⟨A8,c8,rfl,ho8,hg8⟩;have hg9:W0.grownBy w8 (Value.ownBlock (.slice s1.A3 s1.n3 s1.c3)):=(by rw [HAA.out];exact hg8);have pb:=(HA6.out.blk.grown hg9 (aI HA6.out.own.o3 HA6.out.blk (by decide)));have pc:=pb.cell 2;have pf:=pb.frozen 2))
 have HNX:=zh (HA6.out.row3 hg9 ho8 (by
  intro y hy
  rcases List.mem_append.1 hy with hy | hy
  ·exact HA6.out.own.k3 y (List.mem_of_mem_take hy)
  exact HA6.out.own.k3 y (List.mem_of_mem_drop hy)))
 have HFR:=zh (show Blk (w8.setCell ⟨w.heap.size,2,none⟩ (.slice A8 (s1.n3 - 1) c8)) (w.heap.size+2) 44 (ssA ss0) from ((HR6.out.grown hg9 (aI HA6.out.own.o3 HR6.out (by decide))).far (p:=⟨w.heap.size,2,none⟩) (by simp) _))
 obtain ⟨W8,hW8⟩:∃ W8,w8.setCell ⟨w.heap.size,2,none⟩ (.slice A8 (s1.n3 - 1) c8)=W8:=⟨_,rfl⟩
 rw [hW8] at HNX HFR ⊢
 obtain ⟨s2,hs2⟩:∃ s2:StR,{ s1 with A3:=A8,n3:=s1.n3 - 1,c3:=c8,K:=s1.K.take k ++ s1.K.drop (k+1) }=s2:=⟨_,rfl⟩
 have HF:=zh (show StB w W8 w.heap.size s2 from by rw [← hs2];exact HNX.out)
 have HFV:=zh (show s2.V=⟨s0.C,s0.Q,fU d s0.K,s0.P,s0.G⟩ from by
  rw [← hs2]
  obtain ⟨v1,v2,v3,v4,v5⟩:=HVS.out
  unfold StR.V
  rw [← HFK.out]
  simp only [v1,v2,v3,v4,v5])
 clear hW8 hs2 HNX pb pc pf HDEL ho8 hg8 hg9 hq0 HA6 HR6
 obtain ⟨q0,q1,q2,q3,q4⟩:=aE HF.out.blk
 go_wp2_with (first | ((with_reducible refine aK rfl (.tmp 4) (.tmp 20) rfl (w.heap.size+2) s2 rfl rfl HFR.out ?_);intro W9 h9))
 have hst:Blk W9 (w.heap.size+2) 44 (ssA s2):=by rw [← h9.out];exact aR (ds:=ssA s2) HFR.out rfl
 have HOW:=zh (show OwnS W9 w.heap.size s2 from by
  rw [← h9.out]
  exact HF.out.own.kept (aC _ _ _ _) HFR.out (by decide) (by decide) (by decide) (by decide))
 have HXE:=zh (show Ext w W9 from by rw [← h9.out];exact Below.setCells' HF.out.low (by omega) _ _)
 clear h9
 exact bodyPost_ret (v:=.agg (ssA s2)) (gB rfl _ _ (w.heap.size+2) _ rfl (run_loadVar_row _ _ _ _ _ (0,0) _ hst Tryz.underlying44 rfl (by kernel_rfl))) rfl ⟨s2,rfl,HOW.out,HFV.out,HXE.out⟩
end
end Go.Proofs.YtohmmcahpakokaaGreat
