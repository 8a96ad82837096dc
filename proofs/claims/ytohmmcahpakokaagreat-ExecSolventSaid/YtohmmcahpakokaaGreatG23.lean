/- state.Open, Close, Mark. -/
import Derived.Shelf.SlSortCmp.WholeK
import Derived.Shelf.SlSortCmp.NoneTotal
import Derived.Test.YtohmmcahpakokaaGreatG22
set_option maxRecDepth 100000
set_option maxHeartbeats 8000000
set_option linter.unusedSectionVars false
set_option linter.unusedVariables false
set_option linter.unusedSimpArgs false
namespace Go.Proofs.YtohmmcahpakokaaGreat
section
open Go.RowKit
attribute [local go_sem ↓] Go.wp_at_zero Go.wp_at_succ
theorem zG:∀ {K:List LkR} {n:UInt64} {k:Nat},k < K.length→decide ((aH K k).nm=n)=true→(∀ j,j < k→decide ((aH K j).nm=n)=false)→gF n K=K.take k ++ K.drop (k+1)
 | [],n,k,hk,_,_=>by simp at hk
 | d :: r,n,0,_,h1,_=>by unfold gF;rw [if_pos (show d.nm=n from of_decide_eq_true h1)];rfl
 | d :: r,n,k+1,hk,h1,h2=>by
  have h0:=h2 0 (by omega)
  unfold gF
  rw [if_neg (show ¬ d.nm=n from of_decide_eq_false h0),zG (K:=r) (by simpa using hk) h1 (fun j hj=>h2 (j+1) (by omega))]
  rfl
theorem zF:∀ {K:List LkR} {n:UInt64},(∀ j,j < K.length→decide ((aH K j).nm=n)=false)→gF n K=K
 | [],n,_=>rfl
 | d :: r,n,h=>by
  have h0:=h 0 (by simp)
  unfold gF
  rw [if_neg (show ¬ d.nm=n from of_decide_eq_false h0),zF (K:=r) (fun j hj=>h (j+1) (by simpa using hj))]
theorem aBR (d:UInt64) (w:World):(Instr.buildSlice 37 1 #[(0,.agg (nmc d))]).run Tryz.prog w=.ok (.slice (some ⟨w.heap.size,0,none⟩) 1 1) (w.alloc (.cells (nmc d) 30)):=aBS d w
theorem aLN {s s1:StR} (h:s1.V=s.V):s1.C=s.C∧s1.Q=s.Q∧s1.K=s.K∧s1.P=s.P∧s1.G=s.G:=by
 unfold StR.V at h;injection h with h1 h2 h3 h4 h5;exact ⟨h1,h2,h3,h4,h5⟩
theorem aDA (s0:StR) (d:LkR) (w:World) (h:s0.ok w) (hd:lkW d) (hn:s0.n1≤1000000∧s0.n2≤1000000∧s0.n3≤1000000∧s0.n4≤1000000):Calls Tryz.prog 99 #[.agg (ssA s0),.agg (lkA d)] w (mE w ⟨s0.C,s0.Q,lZ s0.K d,s0.P,s0.G⟩):=by
 have HDW:=zh hd
 clear hd
 obtain ⟨W,hW⟩:∃ W,(((w.alloc (.cells (ssA s0) 44)).alloc (.cells (lkA d) 94)).alloc (.cells #[.slice none 0 0,.slice none 0 0,.slice none 0 0,.slice none 0 0,.int .i64 0] 44))=W:=⟨_,rfl⟩
 have HB:=zh (show Blk W w.heap.size 44 (ssA s0) from by rw [← hW];exact ((Blk.new w 44 (ssA s0)).alloc _).alloc _)
 have HD:=zh (show Blk W (w.heap.size+1) 94 (lkA d) from by rw [← hW];exact Blk.alloc (Blk.newAt _ _ _ _ (by simp)) _)
 have HR:=zh (show Blk W (w.heap.size+2) 44 (ssA ss0) from by rw [← hW];exact Blk.newAt _ _ _ _ (by simp))
 have HE:=zh (show Ext w W from by rw [← hW];exact (((Ext.refl w).alloc' _).alloc' _).alloc' _)
 have HS0:=zh h
 have HN:=zh hn
 obtain ⟨q0,q1,q2,q3,q4⟩:=aE HB.out
 clear h hn
 go_enter Tryz.func99,Tryz.ntmps99
 go_upto_region 2 with (first | (go_at_call 51;refine (cX s0 W (HS0.out.ext HE.out) HN.out).mono ?_;rintro e w5 ⟨s1,rfl,ho1,hv1,he1⟩;have HB1:=zh (HB.out.ext he1);have HD1:=zh (HD.out.ext he1);have HR1:=zh (HR.out.ext he1);have HO1:=zh (bS ho1 HE.out.size);have HV1:=zh hv1;have HX1:=zh (HE.out.trans he1);clear ho1 hv1 he1) | ((with_reducible refine aN rfl (.tmp 2) (.tmp 6) rfl w.heap.size s1 rfl rfl HB1.out ?_);intro W2 h2))
 have HST:=zh (show StB w W2 w.heap.size s1 from by rw [← h2.out];exact StB.start HO1.out HB1.out HX1.out (Nat.le_refl _))
 have HD2:=zh (show Blk W2 (w.heap.size+1) 94 (lkA d) from by rw [← h2.out];exact HD1.out.grown (aD _ _ _ _) (fun e=>by injection e;omega))
 have HR2:=zh (show Blk W2 (w.heap.size+2) 44 (ssA ss0) from by rw [← h2.out];exact HR1.out.grown (aD _ _ _ _) (fun e=>by injection e;omega))
 obtain ⟨v1,v2,v3,v4,v5⟩:=aLN HV1.out
 have HVS:=zh (⟨v1,v2,v3,v4,v5⟩:s1.C=s0.C∧s1.Q=s0.Q∧s1.K=s0.K∧s1.P=s0.P∧s1.G=s0.G)
 have HBD:=zh (show s1.n3≤1000000∧s1.n4≤1000000 from by
  have h1:=HO1.out.l3
  have h2:=HO1.out.l4
  have h3:=HS0.out.s3.len
  have h4:=HS0.out.s4.len
  have h5:=HN.out
  rw [v3] at h1;rw [v4] at h2
  omega)
 clear v1 v2 v3 v4 v5 h2 q0 q1 q2 q3 q4 HB1 HD1 HR1 HO1 HX1 HV1 hW HB HD HR HE
 obtain ⟨q0,q1,q2,q3,q4⟩:=aE HST.out.blk
 have r4:W2.rangeAt (w.heap.size+1) 0 (RowT.enc d.nm):=aAB HD2.out
 rcases iU (fun l:LkR=>decide (l.nm=d.nm)) s1.K with hno | ⟨k,hk,h1,h3⟩
 ·have HFK := zh (aFb hno)
  have HFI:=zh (fK s1 d.nm W2 HST.out.own.ok (-1) (.inl ⟨rfl,hno⟩))
  clear hno
  go_upto_region 3 with (first | (with_reducible refine aB nmP rfl (.tmp 8) rfl (w.heap.size+1) 0 rfl d.nm _ rfl r4 ?_) | (go_at_call 152;refine HFI.out.mono ?_;rintro e W0 ⟨rfl,hE5⟩))
  clear r4
  have HA6:=zh (HST.out.ext ((hE5:Ext W2 W0).drew'))
  have HX6:=zh (HD2.out.ext (hE5.drew'))
  have HR6:=zh (HR2.out.ext (hE5.drew'))
  clear hE5 q0 q1 q2 q3 q4
  refine wp_region_held_drew (S:=fun _=>True) (by kernel_rfl) (trivial) (fun aA=>?_)
  refine zzr [0,2] ?_
  refine zzj (VE 1 (.slice s1.A3 s1.n3 s1.c3) (VE 3 (.slice s1.A3 s1.n3 s1.c3) (VE 4 (.agg (lkA d)) (VV 5 (fun v V=>∃ j:Nat,v=.int .i64 (j:Int)∧j≤s1.n3∧eS (fun y=>decide (un d.nm < un y.nm)) d s1.K=s1.K.take j ++ d :: s1.K.drop j) (VE 6 (.agg (lkA d)) (VV 7 (fun v V=>∃ gb,v=.slice (some ⟨gb,0,none⟩) 1 1∧Blk V gb 94 (lkA d)∧W0.heap.size≤gb) VN)))))) [(1,some 13),(3,some 15),(4,some 16),(5,some 17),(6,some 18),(7,some 19)] 3 (fun _ _ h _=>h) (ve (ve (ve (VV.ext (fun v w w' h e=>h) (ve (VV.ext (fun v w w' ⟨gb,h1,h2,h3⟩ e=>⟨gb,h1,h2.ext e,h3⟩) VN.ext)))))) (zzc ?_ (zzc ?_ (zzc ?_ (zzc ?_ (zzc ?_ (zzc ?_ zzn)))))) ?_
  ·refine zzp fun W6 hE hS K hK => ?_
   obtain ⟨q0,q1,q2,q3,q4⟩:=aE (HA6.out.blk.ext hE)
   go_simp
   exact zzF hK (.slice s1.A3 s1.n3 s1.c3)
  ·refine zzp fun W6 hE hS K hK => ?_
   obtain ⟨q0,q1,q2,q3,q4⟩:=aE (HA6.out.blk.ext hE)
   go_simp
   exact zzF hK (.slice s1.A3 s1.n3 s1.c3)
  ·refine zzp fun W6 hE hS K hK => ?_
   refine iO lkP (.tmp 3) rfl (w.heap.size+1) 0 rfl d _ rfl (aC (HX6.out.ext hE)) ?_
   exact zzF hK (.agg (lkA d))
  ·refine zm [(3, some 15), (4, some 16)] fun env W6 hE hS hD K hK => ?_
   obtain ⟨h3,h4,-⟩:=zzV hD
   clear hD
   simp only [aV,h3,h4] at hK ⊢
   clear h3
   clear h4
   go_simp
   go_at_call 154
   refine (aBf s1.A3 s1.n3 s1.c3 s1.K d W6 (HA6.out.own.ok.ext hE).s3).mono ?_
   rintro e w5 ⟨j,rfl,hj,hins,he5⟩
   exact zzK (hK.out (.int .i64 (j:Int)) _ (he5) (⟨j,rfl,hj,hins⟩))
  ·refine zzp fun W6 hE hS K hK => ?_
   refine iO lkP (.tmp 3) rfl (w.heap.size+1) 0 rfl d _ rfl (aC (HX6.out.ext hE)) ?_
   exact zzF hK (.agg (lkA d))
  ·refine zm [(6, some 18)] fun env W6 hE hS hD K hK => ?_
   obtain ⟨h6,-⟩:=zzV hD
   clear hD
   simp only [aV,h6] at hK ⊢
   clear h6
   refine qS (.tmp 18) rfl rfl (aBT d W6) ?_
   exact zzK (hK.out (.slice (some ⟨W6.heap.size,0,none⟩) 1 1) _ ((Ext.refl _).alloc' _) (⟨_,rfl,Blk.new _ _ _,hE.size⟩))
  intro env W6 hE hS hV
  obtain ⟨h1,h3,h4,h5,h6,h7,-⟩:=zzV hV
  clear hV
  simp only [aV,h1,h3,h4,h6]
  clear h1
  clear h3
  clear h4
  generalize env 5=x5 at h5 ⊢
  clear h6
  generalize env 7=x7 at h7 ⊢
  have aA:=hS
  refine za 8 (fun K hK=>?_)
  (obtain ⟨j,rfl,hj,hins⟩:=h5;obtain ⟨gb,rfl,hgb,hgs⟩:=h7;go_simp;go_at_call 153;refine (aGl w.heap.size s1.A3 s1.n3 s1.c3 s1.K d j gb W6 (HA6.out.own.ext hE).o3 hgb (fun e=>by have h9:gb < W0.heap.size:=(World.ownsRow.lt HA6.out.own.o3 _ e).2;omega) (Nat.le_trans HA6.out.low.size hE.size) (by have:=HBD.out;omega) hj).mono ?_;rintro e w8 ⟨A8,c8,rfl,ho8,hg8⟩;have HO8:=zh ho8;have HG8:=zh hg8;have HI8:=zh hins;have HA7:=zh (HA6.out.ext hE);have HR7:=zh (HR6.out.ext hE);clear ho8 hg8 hins)
  refine hK.out _ _ (trivial) (fun aA=>?_)
  clear hK K
  try simp only [aX]
  refine zt 9 aA ?_
  refine za 10 (fun K hK=>?_)
  (have pb:=(HA7.out.blk.grown HG8.out (aM HA7.out.own.o3 HA7.out.blk (by decide)));have pc:=pb.cell 2;have pf:=pb.frozen 2;go_simp)
  refine hK.out _ _ (trivial) (fun aA=>?_)
  clear hK K
  try simp only [aX]
  refine wpAnyH_done (by kernel_rfl) ?_ _
  have HNX:=zh (HA7.out.row3 HG8.out HO8.out (by
   rw [← HI8.out]
   intro y hy
   rcases (mV _ _ _ _).1 hy with rfl | hy
   ·exact HDW.out
   exact HA7.out.own.k3 y hy))
  have HFR:=zh (show Blk (w8.setCell ⟨w.heap.size,2,none⟩ (.slice A8 (s1.n3+1) c8)) (w.heap.size+2) 44 (ssA ss0) from ((HR7.out.grown HG8.out (aM HA7.out.own.o3 HR7.out (by decide))).far (p:=⟨w.heap.size,2,none⟩) (by simp) _))
  obtain ⟨W8,hW8⟩:∃ W8,w8.setCell ⟨w.heap.size,2,none⟩ (.slice A8 (s1.n3+1) c8)=W8:=⟨_,rfl⟩
  rw [hW8] at HNX HFR ⊢
  obtain ⟨s2,hs2⟩:∃ s2:StR,{ s1 with A3:=A8,n3:=s1.n3+1,c3:=c8,K:=s1.K.take j ++ d :: s1.K.drop j }=s2:=⟨_,rfl⟩
  have HF:=zh (show StB w W8 w.heap.size s2 from by rw [← hs2];exact HNX.out)
  have HFV:=zh (show s2.V=⟨s0.C,s0.Q,lZ s0.K d,s0.P,s0.G⟩ from by
   rw [← hs2]
   obtain ⟨v1,v2,v3,v4,v5⟩:=HVS.out
   unfold StR.V
   rw [← HI8.out]
   simp only [v1,v2,v3,v4,v5]
   rw [show lZ s0.K d=eS (fun y=>decide (un d.nm < un y.nm)) d s0.K from by have hv:=HVS.out.2.2.1;rw [← hv];unfold lZ;rw [HFK.out]])
  clear hW8 hs2 HNX HA7 HR7 HG8 HO8 HI8 hE hS aA pb pc pf hgb hgs HA6 HX6 HR6
  obtain ⟨q0,q1,q2,q3,q4⟩:=aE HF.out.blk
  go_wp2_with (first | ((with_reducible refine aN rfl (.tmp 4) (.tmp 22) rfl (w.heap.size+2) s2 rfl rfl HFR.out ?_);intro W9 h9))
  have hst:Blk W9 (w.heap.size+2) 44 (ssA s2):=by rw [← h9.out];exact aQ (ds:=ssA s2) HFR.out rfl
  have HOW:=zh (show OwnS W9 w.heap.size s2 from by
   rw [← h9.out]
   exact HF.out.own.kept (aD _ _ _ _) HFR.out (by decide) (by decide) (by decide) (by decide))
  have HXE:=zh (show Ext w W9 from by rw [← h9.out];exact Below.setCells' HF.out.low (by omega) _ _)
  clear h9
  exact bodyPost_ret (v:=.agg (ssA s2)) (gM rfl _ _ (w.heap.size+2) _ rfl (run_loadVar_row _ _ _ _ _ (0,0) _ hst Tryz.underlying44 rfl (by kernel_rfl))) rfl ⟨s2,rfl,HOW.out,HFV.out,HXE.out⟩
 have HFK:=zh (aAH hk h1 h3)
 have HFI:=zh (fK s1 d.nm W2 HST.out.own.ok (k:Int) (.inr ⟨k,rfl,hk,h1,h3⟩))
 have k0:¬ (k:Int) < 0:=by omega
 clear h1 h3 hk
 go_upto_region 4 with (first | (with_reducible refine aB nmP rfl (.tmp 8) rfl (w.heap.size+1) 0 rfl d.nm _ rfl r4 ?_) | (go_at_call 152;refine HFI.out.mono ?_;rintro e W0 ⟨rfl,hE5⟩))
 clear r4
 have HF:=zh (show StB w W0 w.heap.size s1 from HST.out.ext hE5)
 have HFR:=zh (HR2.out.ext hE5)
 have HFV:=zh (show s1.V=⟨s0.C,s0.Q,lZ s0.K d,s0.P,s0.G⟩ from by
  obtain ⟨v1,v2,v3,v4,v5⟩:=HVS.out
  unfold StR.V
  simp only [v1,v2,v3,v4,v5]
  rw [show lZ s0.K d=s0.K from by have hv:=HVS.out.2.2.1;rw [← hv];unfold lZ;rw [HFK.out]])
 obtain ⟨s2,hs2⟩:∃ s2,s1=s2:=⟨_,rfl⟩
 rw [hs2] at HF HFV
 clear hs2 hE5 q0 q1 q2 q3 q4
 obtain ⟨q0,q1,q2,q3,q4⟩:=aE HF.out.blk
 go_wp2_with (first | ((with_reducible refine aN rfl (.tmp 4) (.tmp 22) rfl (w.heap.size+2) s2 rfl rfl HFR.out ?_);intro W9 h9))
 have hst:Blk W9 (w.heap.size+2) 44 (ssA s2):=by rw [← h9.out];exact aQ (ds:=ssA s2) HFR.out rfl
 have HOW:=zh (show OwnS W9 w.heap.size s2 from by
  rw [← h9.out]
  exact HF.out.own.kept (aD _ _ _ _) HFR.out (by decide) (by decide) (by decide) (by decide))
 have HXE:=zh (show Ext w W9 from by rw [← h9.out];exact Below.setCells' HF.out.low (by omega) _ _)
 clear h9
 exact bodyPost_ret (v:=.agg (ssA s2)) (gM rfl _ _ (w.heap.size+2) _ rfl (run_loadVar_row _ _ _ _ _ (0,0) _ hst Tryz.underlying44 rfl (by kernel_rfl))) rfl ⟨s2,rfl,HOW.out,HFV.out,HXE.out⟩
theorem oK (s0:StR) (d:UInt64) (w:World) (h:s0.ok w) (hn:s0.n1≤1000000∧s0.n2≤1000000∧s0.n3≤1000000∧s0.n4≤1000000):Calls Tryz.prog 55 #[.agg (ssA s0),.agg (nmc d)] w (mE w ⟨s0.C,s0.Q,s0.K,eR s0.P d,s0.G⟩):=by
 obtain ⟨W,hW⟩:∃ W,(((w.alloc (.cells (ssA s0) 44)).alloc (.cells (nmc d) 30)).alloc (.cells #[.slice none 0 0,.slice none 0 0,.slice none 0 0,.slice none 0 0,.int .i64 0] 44))=W:=⟨_,rfl⟩
 have HB:=zh (show Blk W w.heap.size 44 (ssA s0) from by rw [← hW];exact ((Blk.new w 44 (ssA s0)).alloc _).alloc _)
 have HD:=zh (show Blk W (w.heap.size+1) 30 (nmc d) from by rw [← hW];exact Blk.alloc (Blk.newAt _ _ _ _ (by simp)) _)
 have HR:=zh (show Blk W (w.heap.size+2) 44 (ssA ss0) from by rw [← hW];exact Blk.newAt _ _ _ _ (by simp))
 have HE:=zh (show Ext w W from by rw [← hW];exact (((Ext.refl w).alloc' _).alloc' _).alloc' _)
 have HS0:=zh h
 have HN:=zh hn
 obtain ⟨q0,q1,q2,q3,q4⟩:=aE HB.out
 clear h hn
 go_enter Tryz.func55,Tryz.ntmps55
 go_upto_region 2 with (first | (go_at_call 51;refine (cX s0 W (HS0.out.ext HE.out) HN.out).mono ?_;rintro e w5 ⟨s1,rfl,ho1,hv1,he1⟩;have HB1:=zh (HB.out.ext he1);have HD1:=zh (HD.out.ext he1);have HR1:=zh (HR.out.ext he1);have HO1:=zh (bS ho1 HE.out.size);have HV1:=zh hv1;have HX1:=zh (HE.out.trans he1);clear ho1 hv1 he1) | ((with_reducible refine aN rfl (.tmp 2) (.tmp 6) rfl w.heap.size s1 rfl rfl HB1.out ?_);intro W2 h2))
 have HST:=zh (show StB w W2 w.heap.size s1 from by rw [← h2.out];exact StB.start HO1.out HB1.out HX1.out (Nat.le_refl _))
 have HD2:=zh (show Blk W2 (w.heap.size+1) 30 (nmc d) from by rw [← h2.out];exact HD1.out.grown (aD _ _ _ _) (fun e=>by injection e;omega))
 have HR2:=zh (show Blk W2 (w.heap.size+2) 44 (ssA ss0) from by rw [← h2.out];exact HR1.out.grown (aD _ _ _ _) (fun e=>by injection e;omega))
 obtain ⟨v1,v2,v3,v4,v5⟩:=aLN HV1.out
 have HVS:=zh (⟨v1,v2,v3,v4,v5⟩:s1.C=s0.C∧s1.Q=s0.Q∧s1.K=s0.K∧s1.P=s0.P∧s1.G=s0.G)
 have HBD:=zh (show s1.n3≤1000000∧s1.n4≤1000000 from by
  have h1:=HO1.out.l3
  have h2:=HO1.out.l4
  have h3:=HS0.out.s3.len
  have h4:=HS0.out.s4.len
  have h5:=HN.out
  rw [v3] at h1;rw [v4] at h2
  omega)
 clear v1 v2 v3 v4 v5 h2 q0 q1 q2 q3 q4 HB1 HD1 HR1 HO1 HX1 HV1 hW HB HD HR HE
 obtain ⟨q0,q1,q2,q3,q4⟩:=aE HST.out.blk
 have r4:W2.rangeAt (w.heap.size+1) 0 (RowT.enc d):=bZ HD2.out
 by_cases hm:d ∈ s1.P
 ·have HFK := zh hm
  have HFI:=zh (fT s1 d W2 HST.out.own.ok)
  rw [decide_eq_true hm] at HFI
  clear hm
  go_upto_region 4 with (first | (with_reducible refine aB nmP rfl (.tmp 3) rfl (w.heap.size+1) 0 rfl d _ rfl r4 ?_) | (go_at_call 63;refine HFI.out.mono ?_;rintro e W0 ⟨rfl,hE5⟩))
  clear r4
  have HF:=zh (show StB w W0 w.heap.size s1 from HST.out.ext hE5)
  have HFR:=zh (HR2.out.ext hE5)
  have HFV:=zh (show s1.V=⟨s0.C,s0.Q,s0.K,eR s0.P d,s0.G⟩ from by
   obtain ⟨v1,v2,v3,v4,v5⟩:=HVS.out
   unfold StR.V
   simp only [v1,v2,v3,v4,v5]
   rw [show eR s0.P d=s0.P from by have hv:=HVS.out.2.2.2.1;rw [← hv];unfold eR;rw [if_pos HFK.out]])
  obtain ⟨s2,hs2⟩:∃ s2,s1=s2:=⟨_,rfl⟩
  rw [hs2] at HF HFV
  clear hs2 hE5 q0 q1 q2 q3 q4
  obtain ⟨q0,q1,q2,q3,q4⟩:=aE HF.out.blk
  go_wp2_with (first | ((with_reducible refine aN rfl (.tmp 4) (.tmp 21) rfl (w.heap.size+2) s2 rfl rfl HFR.out ?_);intro W9 h9))
  have hst:Blk W9 (w.heap.size+2) 44 (ssA s2):=by rw [← h9.out];exact aQ (ds:=ssA s2) HFR.out rfl
  have HOW:=zh (show OwnS W9 w.heap.size s2 from by
   rw [← h9.out]
   exact HF.out.own.kept (aD _ _ _ _) HFR.out (by decide) (by decide) (by decide) (by decide))
  have HXE:=zh (show Ext w W9 from by rw [← h9.out];exact Below.setCells' HF.out.low (by omega) _ _)
  clear h9
  exact bodyPost_ret (v:=.agg (ssA s2)) (gM rfl _ _ (w.heap.size+2) _ rfl (run_loadVar_row _ _ _ _ _ (0,0) _ hst Tryz.underlying44 rfl (by kernel_rfl))) rfl ⟨s2,rfl,HOW.out,HFV.out,HXE.out⟩
 have HFK:=zh hm
 have HFI:=zh (fT s1 d W2 HST.out.own.ok)
 rw [decide_eq_false hm] at HFI
 clear hm
 go_upto_region 3 with (first | (with_reducible refine aB nmP rfl (.tmp 3) rfl (w.heap.size+1) 0 rfl d _ rfl r4 ?_) | (go_at_call 63;refine HFI.out.mono ?_;rintro e W0 ⟨rfl,hE5⟩))
 clear r4
 have HA6:=zh (HST.out.ext ((hE5:Ext W2 W0).drew'))
 have HX6:=zh (HD2.out.ext (hE5.drew'))
 have HR6:=zh (HR2.out.ext (hE5.drew'))
 clear hE5 q0 q1 q2 q3 q4
 refine wp_region_held_drew (S:=fun _=>True) (by kernel_rfl) (trivial) (fun aA=>?_)
 refine zzr [0,2] ?_
 refine zzj (VE 1 (.slice s1.A4 s1.n4 s1.c4) (VE 3 (.slice s1.A4 s1.n4 s1.c4) (VE 4 (.agg (nmc d)) (VV 5 (fun v V=>∃ j:Nat,v=.int .i64 (j:Int)∧j≤s1.n4∧eS (fun y=>decide (un d < un y)) d s1.P=s1.P.take j ++ d :: s1.P.drop j) (VE 6 (.agg (nmc d)) (VV 7 (fun v V=>∃ gb,v=.slice (some ⟨gb,0,none⟩) 1 1∧Blk V gb 30 (nmc d)∧W0.heap.size≤gb) VN)))))) [(1,some 12),(3,some 14),(4,some 15),(5,some 16),(6,some 17),(7,some 18)] 3 (fun _ _ h _=>h) (ve (ve (ve (VV.ext (fun v w w' h e=>h) (ve (VV.ext (fun v w w' ⟨gb,h1,h2,h3⟩ e=>⟨gb,h1,h2.ext e,h3⟩) VN.ext)))))) (zzc ?_ (zzc ?_ (zzc ?_ (zzc ?_ (zzc ?_ (zzc ?_ zzn)))))) ?_
 ·refine zzp fun W6 hE hS K hK => ?_
  obtain ⟨q0,q1,q2,q3,q4⟩:=aE (HA6.out.blk.ext hE)
  go_simp
  exact zzF hK (.slice s1.A4 s1.n4 s1.c4)
 ·refine zzp fun W6 hE hS K hK => ?_
  obtain ⟨q0,q1,q2,q3,q4⟩:=aE (HA6.out.blk.ext hE)
  go_simp
  exact zzF hK (.slice s1.A4 s1.n4 s1.c4)
 ·refine zzp fun W6 hE hS K hK => ?_
  refine iO nmP (.tmp 3) rfl (w.heap.size+1) 0 rfl d _ rfl (bZ (HX6.out.ext hE)) ?_
  exact zzF hK (.agg (nmc d))
 ·refine zm [(3, some 14), (4, some 15)] fun env W6 hE hS hD K hK => ?_
  obtain ⟨h3,h4,-⟩:=zzV hD
  clear hD
  simp only [aV,h3,h4] at hK ⊢
  clear h3
  clear h4
  go_simp
  go_at_call 107
  refine (aBe s1.A4 s1.n4 s1.c4 s1.P d W6 (HA6.out.own.ok.ext hE).s4).mono ?_
  rintro e w5 ⟨j,rfl,hj,hins,he5⟩
  exact zzK (hK.out (.int .i64 (j:Int)) _ (he5) (⟨j,rfl,hj,hins⟩))
 ·refine zzp fun W6 hE hS K hK => ?_
  refine iO nmP (.tmp 3) rfl (w.heap.size+1) 0 rfl d _ rfl (bZ (HX6.out.ext hE)) ?_
  exact zzF hK (.agg (nmc d))
 ·refine zm [(6, some 17)] fun env W6 hE hS hD K hK => ?_
  obtain ⟨h6,-⟩:=zzV hD
  clear hD
  simp only [aV,h6] at hK ⊢
  clear h6
  refine qS (.tmp 17) rfl rfl (aBR d W6) ?_
  exact zzK (hK.out (.slice (some ⟨W6.heap.size,0,none⟩) 1 1) _ ((Ext.refl _).alloc' _) (⟨_,rfl,Blk.new _ _ _,hE.size⟩))
 intro env W6 hE hS hV
 obtain ⟨h1,h3,h4,h5,h6,h7,-⟩:=zzV hV
 clear hV
 simp only [aV,h1,h3,h4,h6]
 clear h1
 clear h3
 clear h4
 generalize env 5=x5 at h5 ⊢
 clear h6
 generalize env 7=x7 at h7 ⊢
 have aA:=hS
 refine za 8 (fun K hK=>?_)
 (obtain ⟨j,rfl,hj,hins⟩:=h5;obtain ⟨gb,rfl,hgb,hgs⟩:=h7;go_simp;go_at_call 106;refine (aGj w.heap.size s1.A4 s1.n4 s1.c4 s1.P d j gb W6 (HA6.out.own.ext hE).o4 hgb (fun e=>by have h9:gb < W0.heap.size:=(World.ownsRow.lt HA6.out.own.o4 _ e).2;omega) (Nat.le_trans HA6.out.low.size hE.size) (by have:=HBD.out;omega) hj).mono ?_;rintro e w8 ⟨A8,c8,rfl,ho8,hg8⟩;have HO8:=zh ho8;have HG8:=zh hg8;have HI8:=zh hins;have HA7:=zh (HA6.out.ext hE);have HR7:=zh (HR6.out.ext hE);clear ho8 hg8 hins)
 refine hK.out _ _ (trivial) (fun aA=>?_)
 clear hK K
 try simp only [aX]
 refine zt 9 aA ?_
 refine za 10 (fun K hK=>?_)
 (have pb:=(HA7.out.blk.grown HG8.out (aM HA7.out.own.o4 HA7.out.blk (by decide)));have pc:=pb.cell 3;have pf:=pb.frozen 3;go_simp)
 refine hK.out _ _ (trivial) (fun aA=>?_)
 clear hK K
 try simp only [aX]
 refine wpAnyH_done (by kernel_rfl) ?_ _
 have HNX:=zh (HA7.out.row4 HG8.out HO8.out)
 have HFR:=zh (show Blk (w8.setCell ⟨w.heap.size,3,none⟩ (.slice A8 (s1.n4+1) c8)) (w.heap.size+2) 44 (ssA ss0) from ((HR7.out.grown HG8.out (aM HA7.out.own.o4 HR7.out (by decide))).far (p:=⟨w.heap.size,3,none⟩) (by simp) _))
 obtain ⟨W8,hW8⟩:∃ W8,w8.setCell ⟨w.heap.size,3,none⟩ (.slice A8 (s1.n4+1) c8)=W8:=⟨_,rfl⟩
 rw [hW8] at HNX HFR ⊢
 obtain ⟨s2,hs2⟩:∃ s2:StR,{ s1 with A4:=A8,n4:=s1.n4+1,c4:=c8,P:=s1.P.take j ++ d :: s1.P.drop j }=s2:=⟨_,rfl⟩
 have HF:=zh (show StB w W8 w.heap.size s2 from by rw [← hs2];exact HNX.out)
 have HFV:=zh (show s2.V=⟨s0.C,s0.Q,s0.K,eR s0.P d,s0.G⟩ from by
  rw [← hs2]
  obtain ⟨v1,v2,v3,v4,v5⟩:=HVS.out
  unfold StR.V
  rw [← HI8.out]
  simp only [v1,v2,v3,v4,v5]
  rw [show eR s0.P d=eS (fun y=>decide (un d < un y)) d s0.P from by have hv:=HVS.out.2.2.2.1;rw [← hv];unfold eR;rw [if_neg HFK.out]])
 clear hW8 hs2 HNX HA7 HR7 HG8 HO8 HI8 hE hS aA pb pc pf hgb hgs HA6 HX6 HR6
 obtain ⟨q0,q1,q2,q3,q4⟩:=aE HF.out.blk
 go_wp2_with (first | ((with_reducible refine aN rfl (.tmp 4) (.tmp 21) rfl (w.heap.size+2) s2 rfl rfl HFR.out ?_);intro W9 h9))
 have hst:Blk W9 (w.heap.size+2) 44 (ssA s2):=by rw [← h9.out];exact aQ (ds:=ssA s2) HFR.out rfl
 have HOW:=zh (show OwnS W9 w.heap.size s2 from by
  rw [← h9.out]
  exact HF.out.own.kept (aD _ _ _ _) HFR.out (by decide) (by decide) (by decide) (by decide))
 have HXE:=zh (show Ext w W9 from by rw [← h9.out];exact Below.setCells' HF.out.low (by omega) _ _)
 clear h9
 exact bodyPost_ret (v:=.agg (ssA s2)) (gM rfl _ _ (w.heap.size+2) _ rfl (run_loadVar_row _ _ _ _ _ (0,0) _ hst Tryz.underlying44 rfl (by kernel_rfl))) rfl ⟨s2,rfl,HOW.out,HFV.out,HXE.out⟩
theorem rX (s0:StR) (d:UInt64) (w:World) (h:s0.ok w) (hn:s0.n1≤1000000∧s0.n2≤1000000∧s0.n3≤1000000∧s0.n4≤1000000):Calls Tryz.prog 100 #[.agg (ssA s0),.agg (nmc d)] w (mE w ⟨s0.C,s0.Q,gF d s0.K,s0.P,s0.G⟩):=by
 obtain ⟨W,hW⟩:∃ W,(((w.alloc (.cells (ssA s0) 44)).alloc (.cells (nmc d) 30)).alloc (.cells #[.slice none 0 0,.slice none 0 0,.slice none 0 0,.slice none 0 0,.int .i64 0] 44))=W:=⟨_,rfl⟩
 have HB:=zh (show Blk W w.heap.size 44 (ssA s0) from by rw [← hW];exact ((Blk.new w 44 (ssA s0)).alloc _).alloc _)
 have HD:=zh (show Blk W (w.heap.size+1) 30 (nmc d) from by rw [← hW];exact Blk.alloc (Blk.newAt _ _ _ _ (by simp)) _)
 have HR:=zh (show Blk W (w.heap.size+2) 44 (ssA ss0) from by rw [← hW];exact Blk.newAt _ _ _ _ (by simp))
 have HE:=zh (show Ext w W from by rw [← hW];exact (((Ext.refl w).alloc' _).alloc' _).alloc' _)
 have HS0:=zh h
 have HN:=zh hn
 obtain ⟨q0,q1,q2,q3,q4⟩:=aE HB.out
 clear h hn
 go_enter Tryz.func100,Tryz.ntmps100
 go_upto_region 2 with (first | (go_at_call 51;refine (cX s0 W (HS0.out.ext HE.out) HN.out).mono ?_;rintro e w5 ⟨s1,rfl,ho1,hv1,he1⟩;have HB1:=zh (HB.out.ext he1);have HD1:=zh (HD.out.ext he1);have HR1:=zh (HR.out.ext he1);have HO1:=zh (bS ho1 HE.out.size);have HV1:=zh hv1;have HX1:=zh (HE.out.trans he1);clear ho1 hv1 he1) | ((with_reducible refine aN rfl (.tmp 2) (.tmp 7) rfl w.heap.size s1 rfl rfl HB1.out ?_);intro W2 h2))
 have HST:=zh (show StB w W2 w.heap.size s1 from by rw [← h2.out];exact StB.start HO1.out HB1.out HX1.out (Nat.le_refl _))
 have HD2:=zh (show Blk W2 (w.heap.size+1) 30 (nmc d) from by rw [← h2.out];exact HD1.out.grown (aD _ _ _ _) (fun e=>by injection e;omega))
 have HR2:=zh (show Blk W2 (w.heap.size+2) 44 (ssA ss0) from by rw [← h2.out];exact HR1.out.grown (aD _ _ _ _) (fun e=>by injection e;omega))
 obtain ⟨v1,v2,v3,v4,v5⟩:=aLN HV1.out
 have HVS:=zh (⟨v1,v2,v3,v4,v5⟩:s1.C=s0.C∧s1.Q=s0.Q∧s1.K=s0.K∧s1.P=s0.P∧s1.G=s0.G)
 have HBD:=zh (show s1.n3≤1000000∧s1.n4≤1000000 from by
  have h1:=HO1.out.l3
  have h2:=HO1.out.l4
  have h3:=HS0.out.s3.len
  have h4:=HS0.out.s4.len
  have h5:=HN.out
  rw [v3] at h1;rw [v4] at h2
  omega)
 clear v1 v2 v3 v4 v5 h2 q0 q1 q2 q3 q4 HB1 HD1 HR1 HO1 HX1 HV1 hW HB HD HR HE
 obtain ⟨q0,q1,q2,q3,q4⟩:=aE HST.out.blk
 have r4:W2.rangeAt (w.heap.size+1) 0 (RowT.enc d):=bZ HD2.out
 rcases iU (fun l:LkR=>decide (l.nm=d)) s1.K with hno | ⟨k,hk,h1,h3⟩
 ·have HFK := zh (zF hno)
  have HFI:=zh (fK s1 d W2 HST.out.own.ok (-1) (.inl ⟨rfl,hno⟩))
  clear hno
  go_upto_region 5 with (first | (with_reducible refine aB nmP rfl (.tmp 3) rfl (w.heap.size+1) 0 rfl d _ rfl r4 ?_) | (go_at_call 152;refine HFI.out.mono ?_;rintro e W0 ⟨rfl,hE5⟩))
  clear r4
  have HF:=zh (show StB w W0 w.heap.size s1 from HST.out.ext hE5)
  have HFR:=zh (HR2.out.ext hE5)
  have HFV:=zh (show s1.V=⟨s0.C,s0.Q,gF d s0.K,s0.P,s0.G⟩ from by
   obtain ⟨v1,v2,v3,v4,v5⟩:=HVS.out
   unfold StR.V
   simp only [v1,v2,v3,v4,v5]
   rw [show gF d s0.K=s0.K from by have hv:=HVS.out.2.2.1;rw [← hv];exact HFK.out])
  obtain ⟨s2,hs2⟩:∃ s2,s1=s2:=⟨_,rfl⟩
  rw [hs2] at HF HFV
  clear hs2 hE5 q0 q1 q2 q3 q4
  obtain ⟨q0,q1,q2,q3,q4⟩:=aE HF.out.blk
  go_wp2_with (first | ((with_reducible refine aN rfl (.tmp 4) (.tmp 20) rfl (w.heap.size+2) s2 rfl rfl HFR.out ?_);intro W9 h9))
  have hst:Blk W9 (w.heap.size+2) 44 (ssA s2):=by rw [← h9.out];exact aQ (ds:=ssA s2) HFR.out rfl
  have HOW:=zh (show OwnS W9 w.heap.size s2 from by
   rw [← h9.out]
   exact HF.out.own.kept (aD _ _ _ _) HFR.out (by decide) (by decide) (by decide) (by decide))
  have HXE:=zh (show Ext w W9 from by rw [← h9.out];exact Below.setCells' HF.out.low (by omega) _ _)
  clear h9
  exact bodyPost_ret (v:=.agg (ssA s2)) (gM rfl _ _ (w.heap.size+2) _ rfl (run_loadVar_row _ _ _ _ _ (0,0) _ hst Tryz.underlying44 rfl (by kernel_rfl))) rfl ⟨s2,rfl,HOW.out,HFV.out,HXE.out⟩
 have HFK:=zh (zG hk h1 h3)
 have HFI:=zh (fK s1 d W2 HST.out.own.ok (k:Int) (.inr ⟨k,rfl,hk,h1,h3⟩))
 have k0:(0:Int)≤(k:Int):=by omega
 have hkn:k < s1.n3:=by rw [← HST.out.own.l3];exact hk
 have k1:(k:Int) < (s1.n3:Int):=by omega
 have k2:=HBD.out.1
 clear h1 h3 hk
 go_upto_region 4 with (first | (with_reducible refine aB nmP rfl (.tmp 3) rfl (w.heap.size+1) 0 rfl d _ rfl r4 ?_) | (go_at_call 152;refine HFI.out.mono ?_;rintro e W0 ⟨rfl,hE5⟩))
 have HA6:=zh (HST.out.ext hE5)
 have HR6:=zh (HR2.out.ext hE5)
 clear hE5 q0 q1 q2 q3 q4 r4
 obtain ⟨bb,hA,-,-⟩:=cY HA6.out.own.o3 (by omega)
 have hq0:W0.cell? ⟨w.heap.size,2,none⟩=some (.slice (some ⟨bb,0,none⟩) s1.n3 s1.c3):=by rw [← hA];exact HA6.out.blk.cell 2
 have HDEL:=zh (aGt w.heap.size bb s1.n3 s1.c3 s1.K k W0 (by have:=HA6.out.own.o3;rwa [hA] at this) (by omega) hkn)
 have HAA:=zh hA
 clear hA
 go_upto_region 5 with (first | (go_at_call 156;refine HDEL.out.mono ?_;rintro e w8 ⟨A8,c8,rfl,ho8,hg8⟩;have hg9:W0.grownBy w8 (Value.ownBlock (.slice s1.A3 s1.n3 s1.c3)):=(by rw [HAA.out];exact hg8);have pb:=(HA6.out.blk.grown hg9 (aM HA6.out.own.o3 HA6.out.blk (by decide)));have pc:=pb.cell 2;have pf:=pb.frozen 2))
 have HNX:=zh (HA6.out.row3 hg9 ho8 (by
  intro y hy
  rcases List.mem_append.1 hy with hy | hy
  ·exact HA6.out.own.k3 y (List.mem_of_mem_take hy)
  exact HA6.out.own.k3 y (List.mem_of_mem_drop hy)))
 have HFR:=zh (show Blk (w8.setCell ⟨w.heap.size,2,none⟩ (.slice A8 (s1.n3 - 1) c8)) (w.heap.size+2) 44 (ssA ss0) from ((HR6.out.grown hg9 (aM HA6.out.own.o3 HR6.out (by decide))).far (p:=⟨w.heap.size,2,none⟩) (by simp) _))
 obtain ⟨W8,hW8⟩:∃ W8,w8.setCell ⟨w.heap.size,2,none⟩ (.slice A8 (s1.n3 - 1) c8)=W8:=⟨_,rfl⟩
 rw [hW8] at HNX HFR ⊢
 obtain ⟨s2,hs2⟩:∃ s2:StR,{ s1 with A3:=A8,n3:=s1.n3 - 1,c3:=c8,K:=s1.K.take k ++ s1.K.drop (k+1) }=s2:=⟨_,rfl⟩
 have HF:=zh (show StB w W8 w.heap.size s2 from by rw [← hs2];exact HNX.out)
 have HFV:=zh (show s2.V=⟨s0.C,s0.Q,gF d s0.K,s0.P,s0.G⟩ from by
  rw [← hs2]
  obtain ⟨v1,v2,v3,v4,v5⟩:=HVS.out
  unfold StR.V
  rw [← HFK.out]
  simp only [v1,v2,v3,v4,v5])
 clear hW8 hs2 HNX pb pc pf HDEL ho8 hg8 hg9 hq0 HA6 HR6
 obtain ⟨q0,q1,q2,q3,q4⟩:=aE HF.out.blk
 go_wp2_with (first | ((with_reducible refine aN rfl (.tmp 4) (.tmp 20) rfl (w.heap.size+2) s2 rfl rfl HFR.out ?_);intro W9 h9))
 have hst:Blk W9 (w.heap.size+2) 44 (ssA s2):=by rw [← h9.out];exact aQ (ds:=ssA s2) HFR.out rfl
 have HOW:=zh (show OwnS W9 w.heap.size s2 from by
  rw [← h9.out]
  exact HF.out.own.kept (aD _ _ _ _) HFR.out (by decide) (by decide) (by decide) (by decide))
 have HXE:=zh (show Ext w W9 from by rw [← h9.out];exact Below.setCells' HF.out.low (by omega) _ _)
 clear h9
 exact bodyPost_ret (v:=.agg (ssA s2)) (gM rfl _ _ (w.heap.size+2) _ rfl (run_loadVar_row _ _ _ _ _ (0,0) _ hst Tryz.underlying44 rfl (by kernel_rfl))) rfl ⟨s2,rfl,HOW.out,HFV.out,HXE.out⟩
end
section
open Go.RowKit
theorem wM (a b:CeR):decide (jD a b < 0)=eJ a b:=by
 unfold jD gS eJ wP
 rcases Int.lt_trichotomy a.k b.k with h | h | h
 ·rw [iL h,if_pos (by decide),eX,if_neg (by omega),decide_eq_true h];rfl
 ·rw [h, iN, if_neg (by decide), eX, if_pos rfl]
  rcases Int.lt_trichotomy a.id b.id with h2 | h2 | h2
  ·rw [iL h2,if_pos (by decide),eX,if_neg (by omega),decide_eq_true h2];rfl
  ·rw [h2, iN, if_neg (by decide), eX, if_pos rfl, eX]
   rcases Int.lt_trichotomy (un a.lk) (un b.lk) with h3 | h3 | h3
   ·rw [iL h3,if_neg (by omega),decide_eq_true h3];rfl
   ·rw [h3,iN,if_pos rfl];rfl
   rw [iM h3,if_neg (by omega),decide_eq_false (by omega:¬ un a.lk < un b.lk)];rfl
  rw [iM h2,if_pos (by decide),eX,if_neg (by omega),decide_eq_false (by omega:¬ a.id < b.id)];rfl
 rw [iM h,if_pos (by decide),eX,if_neg (by omega),decide_eq_false (by omega:¬ a.k < b.k)];rfl
section
variable {α:Type} [RowT α]
theorem yX (d:Array α):Sort.flatK RowT.enc (RowT.sz α) d=(gcs d.toList).toArray:=by
 have hl:(gcs d.toList).length=d.size * RowT.sz α:=by rw [aI];simp
 refine Sort.ext_get! (by simp [hl]) (fun t ht=>?_)
 have ht':t < d.size * RowT.sz α:=by simpa using ht
 rw [Sort.get_flatK _ _ _ _ ht']
 have hp:=RowT.pos (α:=α)
 have hq:t / RowT.sz α < d.size:=Nat.div_lt_of_lt_mul (by rwa [Nat.mul_comm] at ht')
 have hm:=Nat.mod_lt t hp
 have h1:=aIf (L:=d.toList) (k:=t / RowT.sz α) (by simpa using hq)
 rw [qQ,← h1]
 have hlen:(List.take (RowT.sz α) (List.drop (t / RowT.sz α * RowT.sz α) (gcs d.toList))).length=RowT.sz α:=by rw [h1,RowT.len]
 rw [getElem!_pos _ _ (by rw [hlen];exact hm),List.getElem_take,List.getElem_drop,getElem!_pos _ _ (by simp [hl];exact ht'),List.getElem_toArray]
 congr 1
 have:=Nat.div_add_mod t (RowT.sz α)
 rw [Nat.mul_comm] at this
 exact this
end
theorem aCE {w:World} {g n:Nat} {os:Array Obj} (d:Array Value):w.grownBy (sortWorld id w g 0 n d os) (some g):=by
 unfold sortWorld
 refine ⟨rfl,rfl,rfl,by simp,fun k hk hne=>?_⟩
 rw [Sort.heap_grow_old _ _ (by simpa using hk)]
 have:g ≠ k:=fun e=>hne (by rw [e])
 simp [Sort.putRow,Sort.mapBlock,Sort.ahead,Array.getElem?_modify,this]
theorem aHZ {w:World} {g n:Nat} {os:Array Obj} {cur:Array Value} {e:TypeId} {fr:Nat × Nat} (d:Array Value) (hb:w.heap[g]?=some (.cells cur e fr)) :
  (sortWorld id w g 0 n d os).heap[g]?=some (.cells (Sort.putCells id 0 d cur) e fr):=by
 have hg:g < w.heap.size:=(Array.getElem?_eq_some_iff.1 hb).1
 unfold sortWorld
 rw [Sort.heap_grow_old _ _ (by simpa using hg)]
 simp [Sort.putRow,Sort.mapBlock,Sort.ahead,Array.getElem?_modify,hb,Sort.onCells]
theorem aFA (cur d:Array Value) (h:d.size≤cur.size):(Sort.putCells id 0 d cur).toList.take d.size=d.toList:=by
 apply List.ext_getElem?
 intro j
 by_cases hj:j < d.size
 ·rw [List.getElem?_take_of_lt hj, Array.getElem?_toList]
  simp [Sort.putCells,hj,show j < cur.size by omega]
 rw [List.getElem?_take_eq_none (by omega),List.getElem?_eq_none (by simp;omega)]
theorem aIZ {w:World} {base g c n m size:Nat} {e:TypeId} {os:Array Obj} {xs:List Value} (d:Array Value) (hd:d.size=n * size) (h:w.ownsRow base e size (.slice (some ⟨g,0,none⟩) n c) n xs) :
  (sortWorld id w g 0 m d os).ownsRow base e size (.slice (some ⟨g,0,none⟩) n c) n d.toList:=by
 have hl:=h.1
 rcases h.2 with ⟨hv,_⟩ | ⟨g',cap,cur,hv,hb,hh,hn,hm,hs,ht⟩
 ·cases hv
 cases hv
 have hle:d.size≤cur.size:=by
  have:=congrArg List.length ht
  rw [List.length_take,hl] at this
  simp at this;omega
 exact ⟨by simp [hd],.inr ⟨g,c,_,rfl,hb,aHZ d hh,hn,hm,by simp [Sort.putCells,hs],by rw [← hd];exact aFA cur d hle⟩⟩
theorem aMz:Sort.SWO (ltOf jD):=by
 have e:ltOf jD=eJ:=funext fun x=>funext fun y=>wM x y
 rw [e]
 exact ⟨fV.irrefl,fun x y z h1 h2=>fV.trans _ _ _ h1 h2,fun x y z h1 h2=>fV.ntrans h1 h2⟩
theorem aMA {g n size:Nat} {w:World}:CmpLays Tryz.prog 65 #[] (RowT.enc (α:=CeR)) 10 jD g 0 size w:=fun m os dk hs x y=>by
 have h:=GW.compareC_any x y (sortWorldK RowT.enc 10 w g 0 m dk os)
 rw [Array.append_empty,ceP.eq,ceP.eq]
 refine h.mono ?_
 rintro e w' ⟨rfl,hg⟩
 exact ⟨rfl,hg.grow⟩
theorem aDC (w0 w:World) (base:Nat) (A:Option Addr) (n c:Nat) (d:Array CeR) (h:RowS w0 w base 32 A n c d) (hn:n≤1000000000) :
  Calls Tryz.prog 64 #[.slice A n c,.func (.func 65) #[] #[]] w (fun e w'=>e=.returned (.tuple #[])∧∃ d',RowS w0 w' base 32 A n c d'∧Sort.PermIn 0 n d d'∧Sort.SortedIn eJ 0 n d'):=by
 rcases Nat.eq_zero_or_pos n with rfl | hpos
 ·refine (AnyF.slices_SortFunc_none (P := Tryz.prog) (ρ := uD) { aHe with } A c (.func (.func 65) #[] #[]) w).mono ?_
  rintro e w' ⟨rfl,rfl⟩
  exact ⟨rfl,d,h,Sort.permIn_refl _ _ _,fun i j _ _ hj=>absurd hj (Nat.not_lt_zero _)⟩
 obtain ⟨g,rfl,-,hr⟩:=h.at hpos
 have hsz:=h.size
 have ho:w.ownsRow base 32 10 (.slice (some ⟨g,0,none⟩) n c) n (gcs d.toList):=h.own
 have hH:Sort.HoldsK (RowT.enc (α:=CeR)) 10 w g 0 d:=fun j hj=>by
  have e1:=yX d
  rw [show RowT.sz CeR=10 from rfl] at e1
  rw [Sort.size_flatK,hsz] at hj
  have hl:(gcs d.toList).length=n * 10:=ho.1
  refine ⟨?_,ho.frozenAt _⟩
  rw [e1,ho.cellAt (0+j) (by omega),Nat.zero_add,List.getElem?_eq_getElem (by omega),getElem!_pos _ j (by simp;omega)]
  simp
 have hlt:g < w.heap.size:=(ho.lt g rfl).2
 have eg:∀ args w,(callFunc 65 args).run Tryz.prog w=.ok (.enter 65 args) w:=enters_of Tryz.func65 (by kernel_rfl) rfl
 have hc:=AnyQ.slices_SortFunc aHe 10 (fun w=>by kernel_rfl) (fun w=>by kernel_rfl) (RowT.enc (α:=CeR)) (RowT.len (α:=CeR)) (fun x v hv=>RowT.one x v hv) jD aMz 65 #[] g 0 c d w eg (aMA (n:=n)) hH hlt (by omega)
 rw [hsz] at hc
 change Calls Tryz.prog 64 _ _ _ at hc
 refine hc.mono ?_
 rintro e w' ⟨rfl,d',m,os,hp,hs,rfl⟩
 have hw:sortWorldK (RowT.enc (α:=CeR)) 10 w g 0 m d' os=sortWorld id w g 0 m (Sort.flatK RowT.enc 10 d') os:=rfl
 rw [hw]
 have hf:=yX d'
 rw [show RowT.sz CeR=10 from rfl] at hf
 refine ⟨rfl,d',⟨?_,fun x hx=>?_,Grown.trans h.gr (aCE _),h.ne⟩,hp,fun i j h1 h2 h3=>?_⟩
 ·have := aIZ (os := os) (m := m) (Sort.flatK RowT.enc 10 d') (by rw [Sort.size_flatK, hp.1, hsz]) ho
  rw [hf] at this ⊢
  simp only [List.toList_toArray] at this ⊢
  exact this
 ·have hm:x ∈ d.toList:=by
   obtain ⟨p1,p2,p3⟩:=hp
   have e1:d'.extract 0 n=d':=by rw [← hsz,← p1];exact Array.extract_size
   have e2:d.extract 0 n=d:=by rw [← hsz];exact Array.extract_size
   rw [e1,e2] at p3
   exact p3.mem_iff.1 hx
  exact h.ow x hm
 have:=hs i j h1 h2 h3
 unfold ltOf at this
 rwa [wM] at this
end
section
open Go.RowKit
attribute [local go_sem ↓] Go.wp_at_zero Go.wp_at_succ
structure RcR where
 cd:Int
 A:Option Addr
 n:Nat
 c:Nat
 o:Int
 g:Int
abbrev rcA (x:RcR):Array Value:=#[.int .i64 x.cd,.slice x.A x.n x.c,.int .i64 x.o,.int .i64 x.g]
def rcL (x:RcR):List Value:=(rcA x).toList
theorem aIX (x:RcR):∀ u ∈ rcL x,u.oneCell'=true:=by
 intro u hu
 simp only [rcL,List.mem_cons,List.not_mem_nil,or_false] at hu
 rcases hu with rfl | rfl | rfl | rfl <;> rfl
instance:RowT RcR where
 sz:=4
 z:=⟨0,none,0,0,0,0⟩
 enc:=rcL
 ok _ _:=True
 pos:=by decide
 len _:=rfl
 one:=aIX
 ext _ _ _ h _:=h
theorem rcP:RowP RcR 52 rcA:=⟨fun _=>rfl,by kernel_rfl,_,Tryz.underlying52,rfl⟩
def rc0:RcR:=⟨0,none,0,0,0,0⟩
theorem aHo {fn:Func} {p q:Tmp} {ty ty2:TypeId} (hres:fn.results=#[.cell p ty,.cell q ty2]) (tmps:Array Value) (w1:World) (g g2:Nat) (cs cs2:Array Value) (hp:tmps.getD p undef=.pointer (some ⟨g,0,none⟩)) (hq:tmps.getD q undef=.pointer (some ⟨g2,0,none⟩)) (hl:(loadVar ty ⟨g,0,none⟩).run Tryz.prog w1=.ok (.agg cs) w1) (hl2:(loadVar ty2 ⟨g2,0,none⟩).run Tryz.prog w1=.ok (.agg cs2) w1) :
  (results fn tmps).run Tryz.prog w1=.ok (.tuple #[.agg cs,.agg cs2]) w1:=by
 have hp':tmps[p]?.getD undef=.pointer (some ⟨g,0,none⟩):=by simpa using hp
 have hq':tmps[q]?.getD undef=.pointer (some ⟨g2,0,none⟩):=by simpa using hq
 simp [results,hres,hp',hq',asAddr,hl,hl2]
def rcE (cd ac sq:Int) (L:List OpR):List DeR:=if cd=0 then oW ac sq L else []
def rcO (cd ac sq:Int) (L:List OpR):Int:=if cd=0 then kX ac sq L else 0
def rcG (cd:Int) (S S1:StV):Int:=if cd=0 then bits .andNot .i64 S1.G S.G else 0
def aIB (w:World) (V:StV) (cd:Int) (l:List DeR) (o g:Int) (e:Ending) (w':World):Prop :=
 ∃ (s:StR) (A:Option Addr) (n c:Nat),e=.returned (.tuple #[.agg (ssA s),.agg (rcA ⟨cd,A,n,c,o,g⟩)])∧OwnS w' w.heap.size s∧s.V=V∧SlG w' A n c l∧Ext w w'
structure StpB (w0 w:World) (P:Nat) (x:StpR):Prop where
 blk:Blk w P 86 (stpA x)
 own:OwnS w w0.heap.size x.s
 low:Ext w0 w
 hP:w0.heap.size≤P
section
variable {w0 w w':World} {P:Nat} {x:StpR}
theorem StpB.ext (h:StpB w0 w P x) (e:Ext w w'):StpB w0 w' P x:=⟨h.blk.ext e,h.own.ext e,h.low.trans e,h.hP⟩
theorem StpB.put (h:StpB w0 w P x) {s:StR} (ho:OwnS w w0.heap.size s):StpB w0 (w.setCells P 5 (ssA s).toList) P { x with s:=s }:=by
 refine ⟨?_,ho.kept (aD _ _ _ _) h.blk (by decide) (by decide) (by decide) (by decide),Below.setCells' h.low h.hP _ _,h.hP⟩
 exact ((((h.blk.set 5 _).set 6 _).set 7 _).set 8 _).set 9 _
theorem StpB.cell2 (h:StpB w0 w P x) {b:Nat} (hA:x.s.A2=some ⟨b,0,none⟩) (j:Nat) (z:Int) (hz:wfI z) :
  StpB w0 (w.setCell ⟨b,j,none⟩ (.int .i64 z)) P { x with s:={ x.s with Q:=x.s.Q.set j z } }:=by
 obtain ⟨gN,gZ,B1,m1,d1,B2,m2,d2,B3,m3,d3,s,ac,sq,A,n,c,ht⟩:=x
 obtain ⟨A1,n1,c1,C1,A2,n2,c2,Q1,A3,n3,c3,K1,A4,n4,c4,P1,G1⟩:=s
 simp only at hA
 subst hA
 have hl:=h.own.l2
 obtain ⟨k1,k2⟩:=World.ownsRow.stored h.own.o2 j (.int .i64 z)
 have hc:(gcs Q1).set j (.int .i64 z)=gcs (Q1.set j z):=by
  have e:∀ L:List Int,gcs L=L.map fun z=>Value.int .i64 z:=fun L=>by
   induction L with
   | nil=>rfl
   | cons x r ih=>rw [dD,ih];rfl
  rw [e,e,List.map_set]
 simp only at k1
 rw [hc] at k1
 have hg:w.grownBy (w.setCell ⟨b,j,none⟩ (.int .i64 z)) (some b):=k2
 have hb:Blk (w.setCell ⟨b,j,none⟩ (.int .i64 z)) P 86 _:=h.blk.grown hg (aM h.own.o2 h.blk (by decide))
 have o1:=World.ownsRow.kept h.own.o1 hg (dP h.own.o1 h.own.o2 (by decide))
 have o3:=World.ownsRow.kept h.own.o3 hg (dP h.own.o3 h.own.o2 (by decide))
 have o4:=World.ownsRow.kept h.own.o4 hg (dP h.own.o4 h.own.o2 (by decide))
 exact ⟨hb,⟨o1,k1,o3,o4,h.own.k1,fun y hy=>by
  rcases List.mem_or_eq_of_mem_set hy with hy | rfl
  ·exact h.own.k2 _ hy
  exact hz,h.own.k3,h.own.g⟩,Below.grown h.low hg h.low.size (fun k hk=>(World.ownsRow.lt h.own.o2 k hk).1),h.hP⟩
end
section
variable {ops:Array Oper} {rest:List Oper} {o:Oper} {a:Act} {w:World} {K:Act→World→Prop} {Q:Exit→Act→World→Prop} {X:Prop}
theorem zV (hgd:o.guard=none) (x y:Operand) (ho:o.op=.store 44 x y) (P:Nat) (v:Value) (s:StR) (hv:Value.agg (ssA s)=v) (hx:a.eval x=.pointer (some ⟨P,5,none⟩)) (hy:a.eval y=v) {z:StpR} (hb:Blk w P 86 (stpA z))
  (h:∀ W,Hid (w.setCells P 5 (ssA s).toList=W)→K (a.put o.dst undef) W):if Region.wanted o (yielded ops a.tmps)=true then Oper.wp Tryz.prog o a w K Q else X:=by
 have hw:Region.wanted o (yielded ops a.tmps)=true:=by simp [Region.wanted,hgd]
 rw [if_pos hw]
 exact wp_store_mid (P:=Tryz.prog) (Q:=Q) (op:=o) (K:=K) 44 x y ho P 5 (ssA s) hx (by rw [hy,hv]) (show w.there P 5 5 from yH hb (show 5+5≤14 from by decide)) (by kernel_rfl) (zW s) (h _ (zh rfl))
theorem aAd (w:World):(Instr.alloc 86 true (.tuple #[])).run Tryz.prog w=.ok (.pointer (some ⟨w.heap.size,0,none⟩)) (w.alloc (.cells (stpA RowT.z) 86)):=by kernel_rfl
theorem aBl (ho:o.op=.alloc 86)
  (h:∀ (g:Nat) (W2:World),Hid (Blk W2 g 86 (stpA RowT.z)∧Ext w W2∧w.heap.size≤g)→K (a.put o.dst (.pointer (some ⟨g,0,none⟩))) W2):o.wp Tryz.prog a w K Q:=by
 have this:=aAd w
 have h2:=h _ _ (zh ⟨Blk.new w 86 (stpA RowT.z),(Ext.refl w).alloc' _,Nat.le_refl _⟩)
 clear h
 generalize w.alloc (.cells (stpA RowT.z) 86)=W2 at *
 unfold Oper.wp execOp
 simp only [ho,Sem.run_bind,Sem.run_pure,this,Result.andThen_ok,Oper.upon]
 exact h2
theorem aGF {v:Value} (hr:∀ w,(execOp a.eval o).run Tryz.prog w=.ok (.value v) w) (h:K (a.put o.dst v) w):o.wp Tryz.prog a w K Q:=by
 unfold Oper.wp
 rw [hr w]
 exact h
theorem zA {ty:TypeId} {i j k l:Nat} (x y z u:Operand) (ho:o.op=.build ty #[(i,x),(j,y),(k,z),(l,u)]) {vx vy vz vu v:Value} (hx:a.eval x=vx) (hy:a.eval y=vy) (hz:a.eval z=vz) (hu:a.eval u=vu) (hr:∀ w,(Instr.build ty #[(i,vx),(j,vy),(k,vz),(l,vu)]).run Tryz.prog w=.ok v w) (w:World):(execOp a.eval o).run Tryz.prog w=.ok (.value v) w:=by
 unfold execOp
 simp only [ho,List.map_toArray,List.map_cons,List.map_nil,hx,hy,hz,hu,Sem.run_bind,hr,Result.andThen_ok,Sem.run_pure]
end
section
variable {α:Type} [RowT α] {ty:TypeId} {arr:α→Array Value} {o:Oper} {a:Act} {w:World} {ops:Array Oper} {rest:List Oper} {Q:Exit→Act→World→Prop} {K:Act→World→Prop} {X:Prop}
theorem dN (h:RowP α ty arr) (hgd:o.guard=none) (x y:Operand) (ho:o.op=.store ty x y) (b of:Nat) (hx:a.eval x=.pointer (some ⟨b,of,none⟩)) (R:α) (v:Value) (hv:Value.agg (arr R)=v) (hy:a.eval y=v) (ht:w.there b of (RowT.sz α))
  (hn:∀ W2,Hid (w.setCells b of (RowT.enc R)=W2)→wpList Tryz.prog ops Q rest (a.put o.dst undef) W2):wpList Tryz.prog ops Q (o :: rest) a w :=
 bT h hgd x y ho b of hx R v hv hy ht (hn _ (zh rfl))
theorem pM (h:RowP α ty arr) (hgd:o.guard=none) (x y:Operand) (ho:o.op=.store ty x y) (b of:Nat) (hx:a.eval x=.pointer (some ⟨b,of,none⟩)) (R:α) (v:Value) (hv:Value.agg (arr R)=v) (hy:a.eval y=v) (ht:w.there b of (RowT.sz α))
  (hn:∀ W2,Hid (w.setCells b of (RowT.enc R)=W2)→K (a.put o.dst undef) W2):if Region.wanted o (yielded ops a.tmps)=true then Oper.wp Tryz.prog o a w K Q else X :=
 aBI h hgd x y ho b of hx R v hv hy ht (hn _ (zh rfl))
end
theorem aDJ (x:StpR) (w:World):(Instr.build 86 #[(0,.agg (genC x.gN x.gZ x.B1 x.m1 x.d1 x.B2 x.m2 x.d2 x.B3 x.m3 x.d3)),(1,.agg (ssA x.s)),(2,.agg (txA x.ac x.sq x.A x.n x.c)),(3,.int .i64 x.ht)]).run Tryz.prog w=.ok (.agg (stpA x)) w:=by kernel_rfl
theorem aDK (x:RcR) (w:World):(Instr.build 52 #[(0,.int .i64 x.cd),(1,.slice x.A x.n x.c),(2,.int .i64 x.o),(3,.int .i64 x.g)]).run Tryz.prog w=.ok (.agg (rcA x)) w:=by kernel_rfl
section
variable {P:Program} {t e:TypeId} {z:Value} {size bytes:Nat}
theorem aHr (w:World) (e:TypeId) (size:Nat):(w.alloc (.cells #[] e)).ownsRow w.heap.size e size (.slice (some ⟨w.heap.size,0,none⟩) 0 0) 0 [] :=
 ⟨by simp,.inr ⟨w.heap.size,0,#[],rfl,Nat.le_refl _,heap_alloc_new w _,Nat.le_refl _,Nat.zero_le _,by simp,by simp⟩⟩
theorem aHm (E:Elem P t e z size bytes) (ty:TypeId) (w:World) (base:Nat) (A:Option Addr) (hown:w.ownsRow base e size (.slice A 0 0) 0 [])
  (A2:Option Addr) (m c2:Nat) (ys:List Value) (hr:Rd w A2 ys) (hl:ys.length=m * size) (h1:∀ u ∈ ys,u.oneCell'=true)
  (hb:m * bytes≤140737488355328) (h63:m≤4611686018427387904) (hbase:base≤w.heap.size) :
  ∃ A' c' w',(Builtin.append_ #[t,t] ty #[.slice A 0 0,.slice A2 m c2]).run P w=.ok (.slice A' m c') w'∧w'.ownsRow base e size (.slice A' m c') m ys∧Ext w w':=by
 rcases Nat.eq_zero_or_pos m with rfl | hm
 ·have hy : ys = [] := List.eq_nil_of_length_eq_zero (by rw [hl]; exact Nat.zero_mul _)
  subst hy
  obtain ⟨i,hi,hz,hs,hby⟩:=E.get
  refine ⟨A,0,w,?_,hown,Ext.refl w⟩
  cases A <;> cases A2 <;> simp [Builtin.append_,run_underlying E.ut,sizeOf,typeInfo,hi,Builtin.lenOf,Builtin.firstCells,storeCells,loadCells,loadCellsFrom]
 obtain ⟨A',c',w',h2,h3,h4⟩:=aBX E ty w A 0 [] .nil (by simp) A2 m c2 ys hr hl hm (by simpa using hb) (by omega)
 simp only [Nat.zero_add,List.nil_append] at h2 h3
 exact ⟨A',c',w',h2,bB h3 hbase,h4⟩
variable {ops:Array Oper} {rest:List Oper} {o:Oper} {a:Act} {w:World} {K:Act→World→Prop} {Q:Exit→Act→World→Prop} {X:Prop}
theorem pD (E:Elem P t e z size bytes) (s x:Operand)
  (ho:o.op=.call { callee:=.builtin .append,args:=#[s,x],argTypes:=#[t,t] })
  (base:Nat) (A:Option Addr) (hs:a.eval s=.slice A 0 0) (hown:w.ownsRow base e size (.slice A 0 0) 0 [])
  (A2:Option Addr) (m c2:Nat) (ys:List Value) (hx:a.eval x=.slice A2 m c2) (hr:Rd w A2 ys) (hl:ys.length=m * size) (h1:∀ u ∈ ys,u.oneCell'=true)
  (hb:m * bytes≤140737488355328) (h63:m≤4611686018427387904) (hbase:base≤w.heap.size)
  (h:∀ A' c' w',w'.ownsRow base e size (.slice A' m c') m ys→Ext w w'→K (a.put o.dst (.slice A' m c')) w'):o.wp P a w K Q:=by
 obtain ⟨A',c',w',hrun,h2,h3⟩:=aHm E o.type w base A hown A2 m c2 ys hr hl h1 hb h63 hbase
 unfold Oper.wp execOp
 simp only [ho,resolve,invoke,builtin,Sem.run_bind,Sem.run_pure,Result.andThen_ok,List.map_toArray,List.map_cons,List.map_nil,hs,hx,hrun]
 exact h A' c' w' h2 h3
theorem rV (E:Elem P t e z size bytes) (hgd:o.guard=none) (s x:Operand)
  (ho:o.op=.call { callee:=.builtin .append,args:=#[s,x],argTypes:=#[t,t] })
  (base:Nat) (A:Option Addr) (hs:a.eval s=.slice A 0 0) (hown:w.ownsRow base e size (.slice A 0 0) 0 [])
  (A2:Option Addr) (m c2:Nat) (ys:List Value) (hx:a.eval x=.slice A2 m c2) (hr:Rd w A2 ys) (hl:ys.length=m * size) (h1:∀ u ∈ ys,u.oneCell'=true)
  (hb:m * bytes≤140737488355328) (h63:m≤4611686018427387904) (hbase:base≤w.heap.size)
  (h:∀ A' c' w',w'.ownsRow base e size (.slice A' m c') m ys→Ext w w'→wpList P ops Q rest (a.put o.dst (.slice A' m c')) w'):wpList P ops Q (o :: rest) a w :=
 wpList_plain hgd fun K hK=>pD E s x ho base A hs hown A2 m c2 ys hx hr hl h1 hb h63 hbase fun A' c' w' h2 h3=>hK _ _ (h A' c' w' h2 h3)
theorem tP {ty:TypeId} (ho:o.op=.buildSlice ty 0 #[]) (hr:∀ w,(Instr.buildSlice ty 0 #[]).run P w=.ok (.slice (some ⟨w.heap.size,0,none⟩) 0 0) (w.alloc (.cells #[] e)))
  (h:∀ A W2,Hid (W2.ownsRow w.heap.size e size (.slice A 0 0) 0 []∧Ext w W2)→K (a.put o.dst (.slice A 0 0)) W2):o.wp P a w K Q:=by
 have:=h _ _ (zh ⟨aHr w e size,(Ext.refl w).alloc' _⟩)
 unfold Oper.wp execOp
 simp only [ho,List.map_toArray,List.map_nil,Sem.run_bind,hr,Result.andThen_ok,Sem.run_pure]
 exact this
theorem tV (hgd:o.guard=none) {ty:TypeId} (ho:o.op=.buildSlice ty 0 #[]) (hr:∀ w,(Instr.buildSlice ty 0 #[]).run P w=.ok (.slice (some ⟨w.heap.size,0,none⟩) 0 0) (w.alloc (.cells #[] e)))
  (h:∀ A W2,Hid (W2.ownsRow w.heap.size e size (.slice A 0 0) 0 []∧Ext w W2)→wpList P ops Q rest (a.put o.dst (.slice A 0 0)) W2):wpList P ops Q (o :: rest) a w :=
 wpList_plain hgd fun K hK=>tP ho hr fun A W2 h2=>hK _ _ (h A W2 h2)
end
theorem qU (w:World):(Instr.buildSlice 27 0 #[]).run Tryz.prog w=.ok (.slice (some ⟨w.heap.size,0,none⟩) 0 0) (w.alloc (.cells #[] 34)):=by kernel_rfl
theorem aFI (w:World):(Instr.buildSlice 38 0 #[]).run Tryz.prog w=.ok (.slice (some ⟨w.heap.size,0,none⟩) 0 0) (w.alloc (.cells #[] 3)):=by kernel_rfl
theorem aFH (w:World):(Instr.buildSlice 41 0 #[]).run Tryz.prog w=.ok (.slice (some ⟨w.heap.size,0,none⟩) 0 0) (w.alloc (.cells #[] 94)):=by kernel_rfl
theorem aFG (w:World):(Instr.buildSlice 37 0 #[]).run Tryz.prog w=.ok (.slice (some ⟨w.heap.size,0,none⟩) 0 0) (w.alloc (.cells #[] 30)):=by kernel_rfl
theorem aFO (s:StR) (w:World) (h:s.ok w) (hn:s.n1≤1000000∧s.n2≤1000000∧s.n3≤1000000∧s.n4≤1000000):Calls Tryz.prog 57 #[.agg (ssA s)] w (mE w s.V):=by
 have HP:=zh (show Blk ((w.alloc (.cells (ssA s) 44)).alloc (.cells (ssA ss0) 44)).drew w.heap.size 44 (ssA s) from ((Blk.new w 44 (ssA s)).alloc _).drew)
 have HZ:=zh (show Blk ((w.alloc (.cells (ssA s) 44)).alloc (.cells (ssA ss0) 44)).drew (w.heap.size+1) 44 (ssA ss0) from Blk.drew (Blk.newAt _ _ _ _ (by simp)))
 have HEW:=zh (show Ext w ((w.alloc (.cells (ssA s) 44)).alloc (.cells (ssA ss0) 44)).drew from (((Ext.refl w).alloc' _).alloc' _).drew')
 have HO:=zh h
 have HNN:=zh hn
 clear h hn
 go_enter Tryz.func57,Tryz.ntmps57
 go_wp2_with fail
 refine wp_region_held_drew (S:=fun W=>Blk W w.heap.size 44 (ssA s)∧(∃ z,Blk W (w.heap.size+1) 44 (ssA z))∧Ext w W) (by kernel_rfl) (⟨HP.out,⟨ss0,HZ.out⟩,HEW.out⟩) (fun aA=>?_)
 refine zz0 [1,2,5,6,9,10,13,14,16,17] ?_;repeat first | refine zz1 ?_ (hy:=by intro W aL;obtain ⟨c0,c1,c2,c3,c4⟩:=aE aL.1;go_simp <;> with_reducible rfl) | refine zz2 ?_ | refine zz9 ?_
 refine zzj (VV 0 (fun v W=>∃ A,v=.slice A 0 0∧W.ownsRow w.heap.size 34 11 (.slice A 0 0) 0 []) (VV 3 (fun v W=>∃ A c,v=.slice A s.n1 c∧W.ownsRow w.heap.size 34 11 (.slice A s.n1 c) s.n1 (gcs s.C)) (VV 4 (fun v W=>∃ A,v=.slice A 0 0∧W.ownsRow w.heap.size 3 1 (.slice A 0 0) 0 []) (VV 7 (fun v W=>∃ A c,v=.slice A s.n2 c∧W.ownsRow w.heap.size 3 1 (.slice A s.n2 c) s.n2 (gcs s.Q)) (VV 8 (fun v W=>∃ A,v=.slice A 0 0∧W.ownsRow w.heap.size 94 19 (.slice A 0 0) 0 []) (VV 11 (fun v W=>∃ A c,v=.slice A s.n3 c∧W.ownsRow w.heap.size 94 19 (.slice A s.n3 c) s.n3 (gcs s.K)) (VV 12 (fun v W=>∃ A,v=.slice A 0 0∧W.ownsRow w.heap.size 30 8 (.slice A 0 0) 0 []) (VV 15 (fun v W=>∃ A c,v=.slice A s.n4 c∧W.ownsRow w.heap.size 30 8 (.slice A s.n4 c) s.n4 (gcs s.P)) VN)))))))) [(0,some 3),(3,some 6),(4,some 7),(7,some 10),(8,some 11),(11,some 14),(12,some 15),(15,some 18)] 2 (fun W W' h e=>⟨h.1.ext e,(by obtain ⟨z,hz⟩:=h.2.1;exact ⟨z,hz.ext e⟩),h.2.2.trans e⟩) (VV.ext (fun v w w' ⟨A,h1,h2⟩ e=>⟨A,h1,bF h2 e⟩) (VV.ext (fun v w w' ⟨A,c,h1,h2⟩ e=>⟨A,c,h1,bF h2 e⟩) (VV.ext (fun v w w' ⟨A,h1,h2⟩ e=>⟨A,h1,bF h2 e⟩) (VV.ext (fun v w w' ⟨A,c,h1,h2⟩ e=>⟨A,c,h1,bF h2 e⟩) (VV.ext (fun v w w' ⟨A,h1,h2⟩ e=>⟨A,h1,bF h2 e⟩) (VV.ext (fun v w w' ⟨A,c,h1,h2⟩ e=>⟨A,c,h1,bF h2 e⟩) (VV.ext (fun v w w' ⟨A,h1,h2⟩ e=>⟨A,h1,bF h2 e⟩) (VV.ext (fun v w w' ⟨A,c,h1,h2⟩ e=>⟨A,c,h1,bF h2 e⟩) VN.ext)))))))) (zzc ?_ (zzc ?_ (zzc ?_ (zzc ?_ (zzc ?_ (zzc ?_ (zzc ?_ (zzc ?_ zzn)))))))) ?_
 ·refine zzp fun W hE hS K hK => ?_
  refine tP (size:=11) rfl qU ?_
  intro A5 W5 h5
  exact zzK (hK.out (.slice A5 0 0) _ (h5.out.2) (⟨A5,rfl,bB h5.out.1 hS.2.2.size⟩))
 ·refine zm [(0, some 3)] fun env W hE hS hD K hK => ?_
  obtain ⟨h0,-⟩:=zzV hD
  clear hD
  simp only [aV] at hK ⊢
  generalize env 0=x0 at h0 hK ⊢
  obtain ⟨A7,rfl,ho7⟩:=h0
  have hs7:=(HO.out.ext hS.2.2).s1
  have hl7:(gcs s.C).length=s.n1 * 11:=by rw [aI,hs7.len];rfl
  refine pD deE (.tmp 3) (.tmp 5) rfl w.heap.size A7 rfl ho7 s.A1 s.n1 s.c1 (gcs s.C) rfl hs7.rd hl7 (cG _) (by have:=HNN.out;omega) (by have:=HNN.out;omega) hS.2.2.size ?_
  intro A5 c5 w5 ho5 he5
  exact zzK (hK.out (.slice A5 s.n1 c5) _ (he5) (⟨A5,c5,rfl,ho5⟩))
 ·refine zzp fun W hE hS K hK => ?_
  refine tP (size:=1) rfl aFI ?_
  intro A5 W5 h5
  exact zzK (hK.out (.slice A5 0 0) _ (h5.out.2) (⟨A5,rfl,bB h5.out.1 hS.2.2.size⟩))
 ·refine zm [(4, some 7)] fun env W hE hS hD K hK => ?_
  obtain ⟨h4,-⟩:=zzV hD
  clear hD
  simp only [aV] at hK ⊢
  generalize env 4=x4 at h4 hK ⊢
  obtain ⟨A7,rfl,ho7⟩:=h4
  have hs7:=(HO.out.ext hS.2.2).s2
  have hl7:(gcs s.Q).length=s.n2 * 1:=by rw [aI,hs7.len];rfl
  refine pD inE (.tmp 7) (.tmp 9) rfl w.heap.size A7 rfl ho7 s.A2 s.n2 s.c2 (gcs s.Q) rfl hs7.rd hl7 (cG _) (by have:=HNN.out;omega) (by have:=HNN.out;omega) hS.2.2.size ?_
  intro A5 c5 w5 ho5 he5
  exact zzK (hK.out (.slice A5 s.n2 c5) _ (he5) (⟨A5,c5,rfl,ho5⟩))
 ·refine zzp fun W hE hS K hK => ?_
  refine tP (size:=19) rfl aFH ?_
  intro A5 W5 h5
  exact zzK (hK.out (.slice A5 0 0) _ (h5.out.2) (⟨A5,rfl,bB h5.out.1 hS.2.2.size⟩))
 ·refine zm [(8, some 11)] fun env W hE hS hD K hK => ?_
  obtain ⟨h8,-⟩:=zzV hD
  clear hD
  simp only [aV] at hK ⊢
  generalize env 8=x8 at h8 hK ⊢
  obtain ⟨A7,rfl,ho7⟩:=h8
  have hs7:=(HO.out.ext hS.2.2).s3
  have hl7:(gcs s.K).length=s.n3 * 19:=by rw [aI,hs7.len];rfl
  refine pD lkE (.tmp 11) (.tmp 13) rfl w.heap.size A7 rfl ho7 s.A3 s.n3 s.c3 (gcs s.K) rfl hs7.rd hl7 (cG _) (by have:=HNN.out;omega) (by have:=HNN.out;omega) hS.2.2.size ?_
  intro A5 c5 w5 ho5 he5
  exact zzK (hK.out (.slice A5 s.n3 c5) _ (he5) (⟨A5,c5,rfl,ho5⟩))
 ·refine zzp fun W hE hS K hK => ?_
  refine tP (size:=8) rfl aFG ?_
  intro A5 W5 h5
  exact zzK (hK.out (.slice A5 0 0) _ (h5.out.2) (⟨A5,rfl,bB h5.out.1 hS.2.2.size⟩))
 ·refine zm [(12, some 15)] fun env W hE hS hD K hK => ?_
  obtain ⟨h12,-⟩:=zzV hD
  clear hD
  simp only [aV] at hK ⊢
  generalize env 12=x12 at h12 hK ⊢
  obtain ⟨A7,rfl,ho7⟩:=h12
  have hs7:=(HO.out.ext hS.2.2).s4
  have hl7:(gcs s.P).length=s.n4 * 8:=by rw [aI,hs7.len];rfl
  refine pD dV (.tmp 15) (.tmp 17) rfl w.heap.size A7 rfl ho7 s.A4 s.n4 s.c4 (gcs s.P) rfl hs7.rd hl7 (cG _) (by have:=HNN.out;omega) (by have:=HNN.out;omega) hS.2.2.size ?_
  intro A5 c5 w5 ho5 he5
  exact zzK (hK.out (.slice A5 s.n4 c5) _ (he5) (⟨A5,c5,rfl,ho5⟩))
 intro env W hE hS hV
 obtain ⟨h0,h3,h4,h7,h8,h11,h12,h15,-⟩:=zzV hV
 clear hV
 simp only [aV]
 generalize env 0=x0 at h0 ⊢
 generalize env 3=x3 at h3 ⊢
 generalize env 4=x4 at h4 ⊢
 generalize env 7=x7 at h7 ⊢
 generalize env 8=x8 at h8 ⊢
 generalize env 11=x11 at h11 ⊢
 generalize env 12=x12 at h12 ⊢
 generalize env 15=x15 at h15 ⊢
 obtain ⟨B1,rfl,-⟩:=h0
 obtain ⟨B2,rfl,-⟩:=h4
 obtain ⟨B3,rfl,-⟩:=h8
 obtain ⟨B4,rfl,-⟩:=h12
 obtain ⟨A1,c1,rfl,k1⟩:=h3
 obtain ⟨A2,c2,rfl,k2⟩:=h7
 obtain ⟨A3,c3,rfl,k3⟩:=h11
 obtain ⟨A4,c4,rfl,k4⟩:=h15
 have HK1:=zh k1
 have HK2:=zh k2
 have HK3:=zh k3
 have HK4:=zh k4
 clear k1 k2 k3 k4
 have aA:=hS
 refine zt 18 aA ?_
 refine za 19 (fun K hK=>?_)
 (obtain ⟨z6,hz6⟩:=aA.2.1;refine bY rfl (.tmp 2) (.tmp 21) (by rfl) (w.heap.size+1) (.agg (ssA ⟨A1,s.n1,c1,s.C,A2,s.n2,c2,s.Q,A3,s.n3,c3,s.K,A4,s.n4,c4,s.P,s.G⟩)) ⟨A1,s.n1,c1,s.C,A2,s.n2,c2,s.Q,A3,s.n3,c3,s.K,A4,s.n4,c4,s.P,s.G⟩ rfl (by rfl) (by rfl) hz6 ?_;intro W6 h6)
 refine hK.out _ _ (⟨by rw [← h6.out.1];exact aA.1.grown (aD _ _ _ _) (fun e=>by injection e;omega),⟨_,h6.out.2⟩,by rw [← h6.out.1];exact Below.setCells' aA.2.2 (by omega) _ _⟩) (fun aA=>?_)
 clear hK K
 try simp only [aX]
 refine wpAnyH_done (by kernel_rfl) ?_ _
 have hst:=h6.out.2
 have HOW:=zh (show OwnS W6 w.heap.size ⟨A1,s.n1,c1,s.C,A2,s.n2,c2,s.Q,A3,s.n3,c3,s.K,A4,s.n4,c4,s.P,s.G⟩ from by
  refine OwnS.kept (X:=w.heap.size+1) ⟨HK1.out,HK2.out,HK3.out,HK4.out,HO.out.s1.ok,HO.out.s2.ok,HO.out.s3.ok,HO.out.g⟩ (by rw [← h6.out.1];exact aD _ _ _ _) hz6 (by decide) (by decide) (by decide) (by decide))
 have HX:=zh aA.2.2
 clear h6 hz6 hS hE aA
 go_wp2_with fail
 exact bodyPost_ret (v:=.agg (ssA ⟨A1,s.n1,c1,s.C,A2,s.n2,c2,s.Q,A3,s.n3,c3,s.K,A4,s.n4,c4,s.P,s.G⟩)) (gM rfl _ _ (w.heap.size+1) _ rfl (run_loadVar_row _ _ _ _ _ (0,0) _ hst Tryz.underlying44 rfl (by kernel_rfl))) rfl ⟨_,rfl,HOW.out,rfl,HX.out⟩
end
end Go.Proofs.YtohmmcahpakokaaGreat
