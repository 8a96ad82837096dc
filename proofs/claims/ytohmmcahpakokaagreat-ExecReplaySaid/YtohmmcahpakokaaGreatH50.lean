/- The reference's Replay. -/
import Derived.Test.YtohmmcahpakokaaGreatH49
set_option maxRecDepth 100000
set_option maxHeartbeats 8000000
set_option linter.unusedVariables false
set_option linter.unusedSimpArgs false
namespace Go.Proofs.YtohmmcahpakokaaGreat
section
open Go.RowKit
attribute [local go_sem ↓] Go.wp_at_zero Go.wp_at_succ
theorem aAY (s0:StR) (ac sq:Int) (A:Option Addr) (n c:Nat) (L:List OpR) (w:World) (h:s0.ok w) (hS:SlO w A n c L) (hn:s0.n1≤200000∧s0.n2≤200000∧s0.n3≤200000∧s0.n4≤200000) :
  Calls Tryz.prog 25 #[.agg (ssA s0),.agg (txA ac sq A n c)] w (gW w (eP s0.V ac sq L)):=by
 obtain ⟨W,hW,HB,HC,HR,HE⟩:=en2 w s0 (txA ac sq A n c) 24
 obtain ⟨q0,q1,q2,q3,q4⟩:=aE HB.out
 have HS0:=zh h
 have HN:=zh hn
 clear h hn
 have HS:=zh hS
 have hle:=hS.le
 have hcap:=hS.cap
 have HLEN:=zh hS.len
 have HVAL:=zh (fun (V:World) (e:Ext w V)=>fE ac sq A n c L V (HS.out.ext e))
 clear hS
 cases hv:vTx ac sq L with
 | false =>
  have HREP:=zh (show eP s0.V ac sq L=s0.V from by unfold eP;rw [if_pos (.inl hv)])
  rw [hv] at HVAL
  clear hv
  go_enter Tryz.func25,Tryz.ntmps25
  go_wp2_with fail
  refine (gJ s0 W (HS0.out.ext HE.out) (by have:=HN.out;omega)).mono ?_
  rintro e w5 ⟨s1,rfl,ho1,hv1,he5⟩
  clear q0 q1 q2 q3 q4
  go_upto_region 2 with ((with_reducible refine aF rfl (.tmp 2) (.tmp 7) rfl w.heap.size s1 rfl rfl (HB.out.ext he5) ?_);intro W7 h7)
  obtain ⟨HS7,hk7,HBD⟩:=cpS HS0 (by have:=HN.out;omega) HB HE ho1 hv1 he5 h7
  have HC7:=zh (hk7 _ _ _ HC.out (by omega))
  have HR7:=zh (hk7 _ _ _ HR.out (by omega))
  have HV1:=zh hv1
  clear hk7 h7 ho1 hv1 he5 HB HC HR HE
  clear HBD
  refine wp_region_held_drew (S:=fun V=>Blk V w.heap.size 44 (ssA s1)∧Blk V (w.heap.size+1) 24 (txA ac sq A n c)∧Blk V (w.heap.size+2) 44 (ssA ss0)∧Ext w V) (by kernel_rfl) (⟨HS7.out.blk.drew,HC7.out.drew,HR7.out.drew,HS7.out.low.trans ((Ext.refl _).drew')⟩) (fun aA=>?_)
  refine zz0 [0] ?_;repeat first | refine zz1 ?_ (hy:=by intro W aI;obtain ⟨q0,q1,q2,q3,q4⟩:=aE aI.1;have t0:=aI.2.1.cell 0;have t1:=aI.2.1.cell 1;have t2:=aI.2.1.cell 2;go_simp <;> with_reducible rfl) | refine zz2 ?_ | refine zz9 ?_
  refine zzj (VE 1 (.bool false) VN) [(1,some 9)] 8 (fun V V' h e=>⟨h.1.ext e,h.2.1.ext e,h.2.2.1.ext e,h.2.2.2.trans e⟩) (ve VN.ext) (zzc ?_ zzn) ?_
  ·refine zzp fun W hE hS K hK => ?_
   go_simp
   go_at_call 46
   refine (HVAL.out _ hS.2.2.2).mono ?_
   rintro e w5 ⟨rfl,he5⟩
   exact zzK (hK.out (.bool false) _ (he5) (rfl))
  intro env W hE hS hV
  obtain ⟨h1,-⟩:=zzV hV
  clear hV
  simp only [aJ,h1]
  clear h1
  have aA:=hS
  refine zzr [2,3] ?_
  (refine zs 4 aA ?_)
  (refine zs 5 aA ?_)
  (refine zs 6 aA ?_)
  (refine zs 7 aA ?_)
  (refine zs 8 aA ?_)
  refine zt 9 aA ?_
  refine wpAnyH_done (by kernel_rfl) ?_ _
  have HF:=zh (show StB w W w.heap.size s1 from ⟨aA.1,HS7.out.own.ext (((Ext.refl W7).drew').trans hE),aA.2.2.2,Nat.le_refl _⟩)
  have HRF:=zh aA.2.2.1
  clear hE hS aA
  go_upto_region 3 with fail
  obtain ⟨q0,q1,q2,q3,q4⟩:=aE HF.out.blk
  go_wp2_with ((with_reducible refine aF rfl (.tmp 4) (.tmp 18) rfl (w.heap.size+2) (s1) rfl rfl HRF.out ?_);intro W9 h9)
  exact rtS _ _ HF.out HRF.out (by omega) h9 (HV1.out.trans HREP.out.symm)
 | true =>
  rw [hv] at HVAL
  obtain ⟨⟨a1,a2,a3,a4,a5,a6⟩,-⟩:=dT hv
  obtain ⟨a,rfl⟩:∃ a:Nat,ac=(a:Int):=⟨ac.toNat,by omega⟩
  have HVT:=zh hv
  have hn4:n≤4:=by have:=HLEN.out;omega
  obtain ⟨b,o,hA,-,-⟩:=HS.out.g.at (by have:=HLEN.out;omega)
  subst hA
  clear hv
  go_enter Tryz.func25,Tryz.ntmps25
  go_wp2_with fail
  refine (gJ s0 W (HS0.out.ext HE.out) (by have:=HN.out;omega)).mono ?_
  rintro e w5 ⟨s1,rfl,ho1,hv1,he5⟩
  clear q0 q1 q2 q3 q4
  go_upto_region 2 with ((with_reducible refine aF rfl (.tmp 2) (.tmp 7) rfl w.heap.size s1 rfl rfl (HB.out.ext he5) ?_);intro W7 h7)
  obtain ⟨HS7,hk7,HBD⟩:=cpS HS0 (by have:=HN.out;omega) HB HE ho1 hv1 he5 h7
  have HC7:=zh (hk7 _ _ _ HC.out (by omega))
  have HR7:=zh (hk7 _ _ _ HR.out (by omega))
  have HV1:=zh hv1
  clear hk7 h7 ho1 hv1 he5 HB HC HR HE
  clear HBD
  by_cases hm:(bG (a:Int) sq L) ∈ s0.P
  ·have HREP := zh (show eP s0.V (a : Int) sq L = s0.V from by unfold eP; rw [if_pos (.inr hm)])
   have HAPP:=zh (fun (V:World) (e:Ext w V) (e7:Ext W7 V)=>lM s1.A4 s1.n4 s1.c4 s1.P (bG (a:Int) sq L) V (HS7.out.own.ok.ext e7).s4)
   rw [show s1.P=s0.P from congrArg StV.P HV1.out,decide_eq_true hm] at HAPP
   clear hm
   refine wp_region_held_drew (S:=fun V=>Blk V w.heap.size 44 (ssA s1)∧Blk V (w.heap.size+1) 24 (txA (a:Int) sq (some ⟨b,o,none⟩) n c)∧Blk V (w.heap.size+2) 44 (ssA ss0)∧Ext w V∧Ext W7 V) (by kernel_rfl) (⟨HS7.out.blk.drew,HC7.out.drew,HR7.out.drew,HS7.out.low.trans ((Ext.refl _).drew'),(Ext.refl _).drew'⟩) (fun aA=>?_)
   refine zz0 [0] ?_;repeat first | refine zz1 ?_ (hy:=by intro W aI;obtain ⟨q0,q1,q2,q3,q4⟩:=aE aI.1;have t0:=aI.2.1.cell 0;have t1:=aI.2.1.cell 1;have t2:=aI.2.1.cell 2;go_simp <;> with_reducible rfl) | refine zz2 ?_ | refine zz9 ?_
   refine zzj (VE 1 (.bool true) VN) [(1,some 9)] 8 (fun V V' h e=>⟨h.1.ext e,h.2.1.ext e,h.2.2.1.ext e,h.2.2.2.1.trans e,h.2.2.2.2.trans e⟩) (ve VN.ext) (zzc ?_ zzn) ?_
   ·refine zzp fun W hE hS K hK => ?_
    go_simp
    go_at_call 46
    refine (HVAL.out _ hS.2.2.2.1).mono ?_
    rintro e w5 ⟨rfl,he5⟩
    exact zzK (hK.out (.bool true) _ (he5) (rfl))
   intro env W hE hS hV
   obtain ⟨h1,-⟩:=zzV hV
   clear hV
   simp only [aJ,h1]
   clear h1
   have aA:=hS
   refine zz0 [2,3,4,5,6] ?_;repeat first | refine zz1 ?_ (hy:=by intro W aI;obtain ⟨q0,q1,q2,q3,q4⟩:=aE aI.1;have t0:=aI.2.1.cell 0;have t1:=aI.2.1.cell 1;have t2:=aI.2.1.cell 2;go_simp <;> with_reducible rfl) | refine zz2 ?_ | refine zz9 ?_
   refine za 7 (fun K hK=>?_)
   (go_simp;go_at_call 35;refine (dV (a:Int) sq (some ⟨b,o,none⟩) n c L _ (HS.out.ext aA.2.2.2.1)).mono ?_;rintro e w8 ⟨rfl,he8⟩)
   refine hK.out _ _ (⟨aA.1.ext he8,aA.2.1.ext he8,aA.2.2.1.ext he8,aA.2.2.2.1.trans he8,aA.2.2.2.2.trans he8⟩) (fun aA=>?_)
   clear hK K
   try simp only [bH]
   refine za 8 (fun K hK=>?_)
   (go_simp;go_at_call 34;refine (HAPP.out _ aA.2.2.2.1 aA.2.2.2.2).mono ?_;rintro e w8 ⟨rfl,he8⟩)
   refine hK.out _ _ (⟨aA.1.ext he8,aA.2.1.ext he8,aA.2.2.1.ext he8,aA.2.2.2.1.trans he8,aA.2.2.2.2.trans he8⟩) (fun aA=>?_)
   clear hK K
   try simp only [bH]
   refine zt 9 aA ?_
   refine wpAnyH_done (by kernel_rfl) ?_ _
   have HF:=zh (show StB w w8 w.heap.size s1 from ⟨aA.1,HS7.out.own.ext aA.2.2.2.2,aA.2.2.2.1,Nat.le_refl _⟩)
   have HRF:=zh aA.2.2.1
   clear aA
   go_upto_region 3 with fail
   obtain ⟨q0,q1,q2,q3,q4⟩:=aE HF.out.blk
   go_wp2_with ((with_reducible refine aF rfl (.tmp 4) (.tmp 18) rfl (w.heap.size+2) (s1) rfl rfl HRF.out ?_);intro W9 h9)
   exact rtS _ _ HF.out HRF.out (by omega) h9 (HV1.out.trans HREP.out.symm)
  have HREP:=zh (show eP s0.V (a:Int) sq L=⟨(doN (a:Int) sq L s0.V L.length).C,pP (doN (a:Int) sq L s0.V L.length).Q (a:Int) sq,(doN (a:Int) sq L s0.V L.length).K,cE (doN (a:Int) sq L s0.V L.length).P (bG (a:Int) sq L),(doN (a:Int) sq L s0.V L.length).G⟩ from by
   unfold eP
   rw [if_neg (fun h=>h.elim (fun h=>by rw [HVT.out] at h;cases h) hm)])
  have HAPP:=zh (fun (V:World) (e:Ext w V) (e7:Ext W7 V)=>lM s1.A4 s1.n4 s1.c4 s1.P (bG (a:Int) sq L) V (HS7.out.own.ok.ext e7).s4)
  rw [show s1.P=s0.P from congrArg StV.P HV1.out,decide_eq_false hm] at HAPP
  clear hm
  refine wp_region_held_drew (S:=fun V=>Blk V w.heap.size 44 (ssA s1)∧Blk V (w.heap.size+1) 24 (txA (a:Int) sq (some ⟨b,o,none⟩) n c)∧Blk V (w.heap.size+2) 44 (ssA ss0)∧Ext w V∧Ext W7 V) (by kernel_rfl) (⟨HS7.out.blk.drew,HC7.out.drew,HR7.out.drew,HS7.out.low.trans ((Ext.refl _).drew'),(Ext.refl _).drew'⟩) (fun aA=>?_)
  refine zz0 [0] ?_;repeat first | refine zz1 ?_ (hy:=by intro W aI;obtain ⟨q0,q1,q2,q3,q4⟩:=aE aI.1;have t0:=aI.2.1.cell 0;have t1:=aI.2.1.cell 1;have t2:=aI.2.1.cell 2;go_simp <;> with_reducible rfl) | refine zz2 ?_ | refine zz9 ?_
  refine zzj (VE 1 (.bool true) VN) [(1,some 9)] 8 (fun V V' h e=>⟨h.1.ext e,h.2.1.ext e,h.2.2.1.ext e,h.2.2.2.1.trans e,h.2.2.2.2.trans e⟩) (ve VN.ext) (zzc ?_ zzn) ?_
  ·refine zzp fun W hE hS K hK => ?_
   go_simp
   go_at_call 46
   refine (HVAL.out _ hS.2.2.2.1).mono ?_
   rintro e w5 ⟨rfl,he5⟩
   exact zzK (hK.out (.bool true) _ (he5) (rfl))
  intro env W hE hS hV
  obtain ⟨h1,-⟩:=zzV hV
  clear hV
  simp only [aJ,h1]
  clear h1
  have aA:=hS
  refine zz0 [2,3,4,5,6] ?_;repeat first | refine zz1 ?_ (hy:=by intro W aI;obtain ⟨q0,q1,q2,q3,q4⟩:=aE aI.1;have t0:=aI.2.1.cell 0;have t1:=aI.2.1.cell 1;have t2:=aI.2.1.cell 2;go_simp <;> with_reducible rfl) | refine zz2 ?_ | refine zz9 ?_
  refine za 7 (fun K hK=>?_)
  (go_simp;go_at_call 35;refine (dV (a:Int) sq (some ⟨b,o,none⟩) n c L _ (HS.out.ext aA.2.2.2.1)).mono ?_;rintro e w8 ⟨rfl,he8⟩)
  refine hK.out _ _ (⟨aA.1.ext he8,aA.2.1.ext he8,aA.2.2.1.ext he8,aA.2.2.2.1.trans he8,aA.2.2.2.2.trans he8⟩) (fun aA=>?_)
  clear hK K
  try simp only [bH]
  refine za 8 (fun K hK=>?_)
  (go_simp;go_at_call 34;refine (HAPP.out _ aA.2.2.2.1 aA.2.2.2.2).mono ?_;rintro e w8 ⟨rfl,he8⟩)
  refine hK.out _ _ (⟨aA.1.ext he8,aA.2.1.ext he8,aA.2.2.1.ext he8,aA.2.2.2.1.trans he8,aA.2.2.2.2.trans he8⟩) (fun aA=>?_)
  clear hK K
  try simp only [bH]
  refine zt 9 aA ?_
  refine wpAnyH_done (by kernel_rfl) ?_ _
  have HA0:=zh (show StB w w8 w.heap.size s1∧Blk w8 (w.heap.size+1) 24 (txA (a:Int) sq (some ⟨b,o,none⟩) n c)∧Blk w8 (w.heap.size+2) 44 (ssA ss0)∧s1.V=doN (a:Int) sq L s0.V 0 from ⟨⟨aA.1,HS7.out.own.ext aA.2.2.2.2,aA.2.2.2.1,Nat.le_refl _⟩,aA.2.1,aA.2.2.1,HV1.out⟩)
  clear aA HS7 HC7 HR7 HAPP HVAL
  go_wp2_with fail
  go_loopw [5] (fun vi wr=>∃ (k:Nat) (s:StR),vi=.int .i64 (k:Int)∧k≤n∧Hid (StB w wr w.heap.size s∧Blk wr (w.heap.size+1) 24 (txA (a:Int) sq (some ⟨b,o,none⟩) n c)∧Blk wr (w.heap.size+2) 44 (ssA ss0)∧s.V=doN (a:Int) sq L s0.V k)) (fun i _=>n - (intOf i).toNat)
  case atStart=>exact ⟨0,s1,rfl,Nat.zero_le _,HA0⟩
  case round =>
   clear HA0 HV1
   obtain ⟨k,s,rfl,hk,HA⟩:=hrel
   have HBD:=zh (show s.n1≤500000∧s.n2≤500000∧s.n3≤500000∧s.n4≤500000 from by
    have hV:=HA.out.2.2.2
    have e1:s.C=(doN (a:Int) sq L s0.V k).C:=congrArg StV.C hV
    have e2:s.Q=s0.Q:=(congrArg StV.Q hV).trans (mX ..).1
    have e3:s.K=(doN (a:Int) sq L s0.V k).K:=congrArg StV.K hV
    have e4:s.P=s0.P:=(congrArg StV.P hV).trans (mX ..).2
    have m1:=HA.out.1.own.l1;have m2:=HA.out.1.own.l2;have m3:=HA.out.1.own.l3;have m4:=HA.out.1.own.l4
    have l1:=HS0.out.s1.len;have l2:=HS0.out.s2.len;have l3:=HS0.out.s3.len;have l4:=HS0.out.s4.len
    rw [e1] at m1;rw [e2] at m2;rw [e3] at m3;rw [e4] at m4
    have h5:=sX (a:Int) sq L s0.V k
    have e6:s0.V.C=s0.C:=rfl
    have e7:s0.V.K=s0.K:=rfl
    rw [e6,e7] at h5
    have:=HN.out
    omega)
   obtain ⟨q0,q1,q2,q3,q4⟩:=aE HA.out.1.blk
   have t0:=HA.out.2.1.cell 0
   have t1:=HA.out.2.1.cell 1
   have t2:=HA.out.2.1.cell 2
   by_cases hlt:k < n
   ·have i0 : (0 : Int) ≤ (k : Int) := by omega
    have i1:(k:Int) < (n:Int):=by omega
    have HDO:=zh (aEv s (a:Int) sq (some ⟨b,o,none⟩) n c L k wr HA.out.1.own.ok (HS.out.ext HA.out.1.low) hlt HVT.out (by have:=HBD.out;omega))
    go_wp2_with fail
    refine HDO.out.mono ?_
    rintro e w9 ⟨s2,rfl,ho2,hv2,he9⟩
    have HB9:=zh (HA.out.1.blk.ext he9)
    have HT9:=zh (HA.out.2.1.ext he9)
    have HR9:=zh (HA.out.2.2.1.ext he9)
    have HX9:=zh (HA.out.1.low.trans he9)
    have HO2:=zh (aX ho2 HA.out.1.low.size)
    have HV2:=zh (show s2.V=doN (a:Int) sq L s0.V (k+1) from by rw [hv2,mW,← HA.out.2.2.2])
    clear ho2 hv2 he9 HDO q0 q1 q2 q3 q4 t0 t1 t2
    go_wp2_with ((with_reducible refine aF rfl (.tmp 2) (.tmp 29) rfl w.heap.size s2 rfl rfl HB9.out ?_);intro W10 h10)
    have HF:=zh (show StB w W10 w.heap.size s2∧Blk W10 (w.heap.size+1) 24 (txA (a:Int) sq (some ⟨b,o,none⟩) n c)∧Blk W10 (w.heap.size+2) 44 (ssA ss0)∧s2.V=doN (a:Int) sq L s0.V (k+1) from by
     rw [← h10.out]
     exact ⟨StB.start HO2.out HB9.out HX9.out (Nat.le_refl _),HT9.out.grown (aB _ _ _ _) (fun e=>by injection e;omega),HR9.out.grown (aB _ _ _ _) (fun e=>by injection e;omega),HV2.out⟩)
    clear h10 HB9 HT9 HR9 HX9 HO2
    go_roundw
    case rel=>exact ⟨k+1,s2,by go_num,hlt,HF⟩
    case measure=>simp [intOf];omega
   obtain rfl:n=k:=by omega
   have i1:¬ (n:Int) < (n:Int):=by omega
   have HQL:=zh (show s.Q.length=s.n2 from HA.out.1.own.l2)
   by_cases haq:a < s.n2
   ·have i2 : (a : Int) < (s.n2 : Int) := by omega
    have i3:(0:Int)≤(a:Int):=by omega
    obtain ⟨bb,hA2,-,-⟩:=cI HA.out.1.own.o2 (show 0 < s.n2 by omega)
    have HBB:=zh hA2
    have HAN:=zh haq
    have HC9:=zh (fun (V:World) (e:Ext wr V)=>pG (HA.out.1.own.ext e) HBB.out HAN.out)
    clear hA2
    by_cases hq:aM s.Q a < sq+1
    ·have b1 : decide (aM s.Q a < sq + 1) = true := decide_eq_true hq
     have HQN:=zh hq
     clear hq
     go_upto_region 8 with fail
     clear q0 q1 q2 q3 q4 t0 t1 t2
     refine wp_region_held_drew (S:=fun V=>Blk V w.heap.size 44 (ssA s)∧Blk V (w.heap.size+1) 24 (txA (a:Int) sq (some ⟨b,o,none⟩) n c)∧Blk V (w.heap.size+2) 44 (ssA ss0)∧Ext w V∧Ext wr V) (by kernel_rfl) (⟨HA.out.1.blk.drew,HA.out.2.1.drew,HA.out.2.2.1.drew,HA.out.1.low.trans ((Ext.refl _).drew'),(Ext.refl _).drew'⟩) (fun aA=>?_)
     refine zz0 [0,1,2,3,4,5,6,7,8,9,10,11,12,13,14] ?_;repeat first | refine zz1 ?_ (hy:=by intro W aI;have q1:W.cell? ⟨w.heap.size,1,none⟩=some (.slice (some ⟨bb,0,none⟩) s.n2 s.c2):=(by rw [← HBB.out];exact aI.1.cell 1);have t0:=aI.2.1.cell 0;have t1:=aI.2.1.cell 1;have t2:=aI.2.1.cell 2;have c9:=HC9.out W aI.2.2.2.2;go_simp <;> with_reducible rfl) | refine zz2 ?_ | refine zz9 ?_
     refine zu 15 (v:=.int .i64 (sq+1)) aA ?_ (hy:=by refine .inl ⟨by rfl,fun V aI=>?_⟩;go_simp;exact iV ⟨by omega,by omega⟩)
     refine zzr [16,17] ?_
     refine wpAnyH_done (by kernel_rfl) ?_ _
     have HA9:=zh (show StB w wr.drew w.heap.size s from HA.out.1.ext ((Ext.refl _).drew'))
     have hb5:wr.drew.ownsRow w.heap.size 3 1 (.slice (some ⟨bb,0,none⟩) s.n2 s.c2) s.n2 (gcs s.Q):=by have:=HA9.out.own.o2;rwa [HBB.out] at this
     have HN1:=zh (show w.heap.size ≠ bb from fun e=>aK hb5 aA.1 (by decide) (by rw [e];rfl))
     have HN2:=zh (show w.heap.size+1 ≠ bb from fun e=>aK hb5 aA.2.1 (by decide) (by rw [e];rfl))
     have HN3:=zh (show w.heap.size+2 ≠ bb from fun e=>aK hb5 aA.2.2.1 (by decide) (by rw [e];rfl))
     have q1:wr.drew.cell? ⟨w.heap.size,1,none⟩=some (.slice (some ⟨bb,0,none⟩) s.n2 s.c2):=by rw [← HBB.out];exact aA.1.cell 1
     have t0:=aA.2.1.cell 0
     have t1:=aA.2.1.cell 1
     have c9:=HC9.out _ aA.2.2.2.2
     have f9:=oE HA9.out.own HBB.out a
     have hw9:wrap64 (sq+1)=sq+1:=by rw [← oW];exact iV ⟨by omega,by omega⟩
     have HT8:=zh aA.2.1
     have HR8:=zh aA.2.2.1
     clear hb5 aA b1
     go_upto_region 10 with fail
     clear q1 t0 t1 c9 f9 hw9
     obtain ⟨W9,hW9⟩:∃ W9,(wr.setCell ⟨bb,a,none⟩ (.int .i64 (sq+1))).drew=W9:=⟨_,rfl⟩
     rw [hW9]
     obtain ⟨s4,hs4⟩:∃ s4:StR,{ s with Q:=s.Q.set a (sq+1) }=s4:=⟨_,rfl⟩
     have HS9:=zh (show StB w W9 w.heap.size s4 from by rw [← hW9,← hs4];exact HA9.out.cell2 HBB.out a (sq+1) (wfS ⟨by omega,by omega⟩) HAN.out)
     have HT9:=zh (show Blk W9 (w.heap.size+1) 24 (txA (a:Int) sq (some ⟨b,o,none⟩) n c) from by rw [← hW9];exact HT8.out.far (p:=⟨bb,a,none⟩) HN2.out _)
     have HR9:=zh (show Blk W9 (w.heap.size+2) 44 (ssA ss0) from by rw [← hW9];exact HR8.out.far (p:=⟨bb,a,none⟩) HN3.out _)
     have HV4:=zh (show (⟨s4.C,s4.Q,s4.K,cE s4.P (bG (a:Int) sq L),s4.G⟩:StV)=eP s0.V (a:Int) sq L from by
      rw [HREP.out,HLEN.out,← HA.out.2.2.2,← hs4]
      show _=(⟨s.C,pP s.Q (a:Int) sq,s.K,cE s.P (bG (a:Int) sq L),s.G⟩:StV)
      rw [aCH (by rw [HQL.out];exact HAN.out),if_pos HQN.out])
     have HB4:=zh (show s4.n1≤1000000∧s4.n2≤1000000∧s4.n3≤1000000∧s4.n4≤1000000 from by
      rw [← hs4]
      have:=HBD.out
      show s.n1≤1000000∧s.n2≤1000000∧s.n3≤1000000∧s.n4≤1000000
      omega)
     clear hs4 hW9 HA HA9 HC9
     refine wp_region_held_drew (S:=fun V=>Blk V w.heap.size 44 (ssA s4)∧Blk V (w.heap.size+1) 24 (txA (a:Int) sq (some ⟨b,o,none⟩) n c)∧(∃ z,Blk V (w.heap.size+2) 44 (ssA z))∧Ext w V) (by kernel_rfl) (⟨HS9.out.blk.drew,HT9.out.drew,⟨_,HR9.out.drew⟩,HS9.out.low.trans ((Ext.refl _).drew')⟩) (fun aA=>?_)
     refine zz0 [0,1] ?_;repeat first | refine zz1 ?_ (hy:=by intro W aI;obtain ⟨q0,q1,q2,q3,q4⟩:=aE aI.1;have t0:=aI.2.1.cell 0;have t1:=aI.2.1.cell 1;have t2:=aI.2.1.cell 2;go_simp <;> with_reducible rfl) | refine zz2 ?_ | refine zz9 ?_
     refine bR (VV 2 (fun v V=>v=.agg (nmc (bG (a:Int) sq L))) (VV 3 (fun v V=>∃ s5,v=.agg (ssA s5)∧OwnS V w.heap.size s5∧s5.V=⟨s4.C,s4.Q,s4.K,cE s4.P (bG (a:Int) sq L),s4.G⟩) (VN))) [(2,some 58),(3,some 59)] (fuel:=1) (by kernel_rfl) (by kernel_rfl) (fun V V' h e=>⟨h.1.ext e,h.2.1.ext e,(by obtain ⟨z,hz⟩:=h.2.2.1;exact ⟨z,hz.ext e⟩),h.2.2.2.trans e⟩) (VV.ext (fun v w w' h e=>h) (VV.ext (fun v w w' ⟨s2,h1,h2,h3⟩ e=>⟨s2,h1,h2.ext e,h3⟩) (VN.ext))) aA ?hm5 rfl ?hr5
     case hm5 =>
      refine Members.cons ?mm5_2 (Members.cons ?mm5_3 (Members.nil _))
      case mm5_2 =>
       refine zm [] (fun env W hE hS hD K hK=>?_)
       clear hD
       try simp only [aJ]
       go_simp
       go_at_call 35
       refine (dV (a:Int) sq (some ⟨b,o,none⟩) n c L _ (HS.out.ext hS.2.2.2)).mono ?_
       rintro e w5 ⟨rfl,he5⟩
       have hk:=hK.out (.agg (nmc (bG (a:Int) sq L))) _ (he5) (rfl)
       try simp only [aJ] at hk
       exact hk
      case mm5_3 =>
       refine zm [(2,some 58)] (fun env W hE hS hD K hK=>?_)
       have h2:(fun v V=>v=.agg (nmc (bG (a:Int) sq L))) (env 2) W:=hD (2,some 58) (by simp)
       clear hD
       try simp only [aJ] at hK ⊢
       generalize env 2=x2 at h2 hK ⊢
       subst h2
       go_simp
       go_at_call 62
       refine (qZ s4 (bG (a:Int) sq L) _ (HS9.out.own.ok.ext (((Ext.refl _).drew').trans hE)) HB4.out).mono ?_
       rintro e w5 ⟨s5,rfl,ho5,hv5,he5⟩
       have hk:=hK.out (.agg (ssA s5)) _ (he5) (⟨s5,rfl,aX ho5 hS.2.2.2.size,hv5⟩)
       try simp only [aJ] at hk
       exact hk
     case hr5 =>
      intro env W hE hS hV
      have h2:(fun v V=>v=.agg (nmc (bG (a:Int) sq L))) (env 2) W:=hV (2,some 58) (by simp)
      have h3:(fun v V=>∃ s5,v=.agg (ssA s5)∧OwnS V w.heap.size s5∧s5.V=⟨s4.C,s4.Q,s4.K,cE s4.P (bG (a:Int) sq L),s4.G⟩) (env 3) W:=hV (3,some 59) (by simp)
      clear hV
      try simp only [aJ]
      generalize env 2=x2 at h2 ⊢
      generalize env 3=x3 at h3 ⊢
      subst h2
      obtain ⟨s5,rfl,ho5,hv5⟩:=h3
      have aA:=hS
      refine za 4 (fun K hK=>?_)
      (obtain ⟨z6,hz6⟩:=aA.2.2.1;refine bE rfl (.tmp 4) (.tmp 59) (by rfl) (w.heap.size+2) (.agg (ssA s5)) s5 rfl (by rfl) (by rfl) hz6 ?_;intro W6 h6)
      refine hK.out _ _ (⟨aA.1.grown (by rw [← h6.out.1];exact aB _ _ _ _) (fun e=>by injection e;omega),aA.2.1.grown (by rw [← h6.out.1];exact aB _ _ _ _) (fun e=>by injection e;omega),⟨_,h6.out.2⟩,by rw [← h6.out.1];exact Below.setCells' aA.2.2.2 (by omega) _ _⟩) (fun aA=>?_)
      clear hK K
      try simp only [bH]
      refine wpAnyH_done (by kernel_rfl) ?_ _
      have HOW:=zh (show OwnS W6 w.heap.size s5 from by
       rw [← h6.out.1]
       exact ho5.kept (aB _ _ _ _) hz6 (by decide) (by decide) (by decide) (by decide))
      have HV5:=zh hv5
      have HXE:=zh aA.2.2.2
      have hst:=h6.out.2
      clear h6 ho5 hv5 hE hS aA hz6
      go_wp2_with fail
      exact bodyPost_ret (v:=.agg (ssA s5)) (eI rfl _ _ (w.heap.size+2) _ rfl (run_loadVar_row _ _ _ _ _ (0,0) _ hst Tryz.underlying44 rfl (by kernel_rfl))) rfl ⟨s5,rfl,HOW.out,by rw [HV5.out,HV4.out],HXE.out⟩
    have b1:decide (aM s.Q a < sq+1)=false:=decide_eq_false hq
    have HQN:=zh hq
    clear hq
    go_upto_region 8 with fail
    clear q0 q1 q2 q3 q4 t0 t1 t2
    refine wp_region_held_drew (S:=fun V=>Blk V w.heap.size 44 (ssA s)∧Blk V (w.heap.size+1) 24 (txA (a:Int) sq (some ⟨b,o,none⟩) n c)∧Blk V (w.heap.size+2) 44 (ssA ss0)∧Ext w V∧Ext wr V) (by kernel_rfl) (⟨HA.out.1.blk.drew,HA.out.2.1.drew,HA.out.2.2.1.drew,HA.out.1.low.trans ((Ext.refl _).drew'),(Ext.refl _).drew'⟩) (fun aA=>?_)
    refine zz0 [0,1,2,3,4,5,6,7,8,9,10,11,12,13,14] ?_;repeat first | refine zz1 ?_ (hy:=by intro W aI;have q1:W.cell? ⟨w.heap.size,1,none⟩=some (.slice (some ⟨bb,0,none⟩) s.n2 s.c2):=(by rw [← HBB.out];exact aI.1.cell 1);have t0:=aI.2.1.cell 0;have t1:=aI.2.1.cell 1;have t2:=aI.2.1.cell 2;have c9:=HC9.out W aI.2.2.2.2;go_simp <;> with_reducible rfl) | refine zz2 ?_ | refine zz9 ?_
    refine zu 15 (v:=.int .i64 (sq+1)) aA ?_ (hy:=by refine .inl ⟨by rfl,fun V aI=>?_⟩;go_simp;exact iV ⟨by omega,by omega⟩)
    refine zzr [16,17] ?_
    refine wpAnyH_done (by kernel_rfl) ?_ _
    have HV4:=zh (show (⟨s.C,s.Q,s.K,cE s.P (bG (a:Int) sq L),s.G⟩:StV)=eP s0.V (a:Int) sq L from by
     rw [HREP.out,HLEN.out,← HA.out.2.2.2]
     show _=(⟨s.C,pP s.Q (a:Int) sq,s.K,cE s.P (bG (a:Int) sq L),s.G⟩:StV)
     have hal:a < s.Q.length:=by rw [HQL.out];exact HAN.out
     rw [aCH hal,if_neg HQN.out,← cD hal,List.set_getElem_self])
    have HB4:=zh (show s.n1≤1000000∧s.n2≤1000000∧s.n3≤1000000∧s.n4≤1000000 from by have:=HBD.out;omega)
    have HS9:=zh (show StB w wr.drew w.heap.size s from HA.out.1.ext ((Ext.refl _).drew'))
    have HT9:=zh aA.2.1
    have HR9:=zh aA.2.2.1
    clear aA b1 HC9
    go_upto_region 10 with fail
    refine wp_region_held_drew (S:=fun V=>Blk V w.heap.size 44 (ssA s)∧Blk V (w.heap.size+1) 24 (txA (a:Int) sq (some ⟨b,o,none⟩) n c)∧(∃ z,Blk V (w.heap.size+2) 44 (ssA z))∧Ext w V) (by kernel_rfl) (⟨HS9.out.blk.drew,HT9.out.drew,⟨_,HR9.out.drew⟩,HS9.out.low.trans ((Ext.refl _).drew')⟩) (fun aA=>?_)
    refine zz0 [0,1] ?_;repeat first | refine zz1 ?_ (hy:=by intro W aI;obtain ⟨q0,q1,q2,q3,q4⟩:=aE aI.1;have t0:=aI.2.1.cell 0;have t1:=aI.2.1.cell 1;have t2:=aI.2.1.cell 2;go_simp <;> with_reducible rfl) | refine zz2 ?_ | refine zz9 ?_
    refine bR (VV 2 (fun v V=>v=.agg (nmc (bG (a:Int) sq L))) (VV 3 (fun v V=>∃ s5,v=.agg (ssA s5)∧OwnS V w.heap.size s5∧s5.V=⟨s.C,s.Q,s.K,cE s.P (bG (a:Int) sq L),s.G⟩) (VN))) [(2,some 58),(3,some 59)] (fuel:=1) (by kernel_rfl) (by kernel_rfl) (fun V V' h e=>⟨h.1.ext e,h.2.1.ext e,(by obtain ⟨z,hz⟩:=h.2.2.1;exact ⟨z,hz.ext e⟩),h.2.2.2.trans e⟩) (VV.ext (fun v w w' h e=>h) (VV.ext (fun v w w' ⟨s2,h1,h2,h3⟩ e=>⟨s2,h1,h2.ext e,h3⟩) (VN.ext))) aA ?hm6 rfl ?hr6
    case hm6 =>
     refine Members.cons ?mm6_2 (Members.cons ?mm6_3 (Members.nil _))
     case mm6_2 =>
      refine zm [] (fun env W hE hS hD K hK=>?_)
      clear hD
      try simp only [aJ]
      go_simp
      go_at_call 35
      refine (dV (a:Int) sq (some ⟨b,o,none⟩) n c L _ (HS.out.ext hS.2.2.2)).mono ?_
      rintro e w5 ⟨rfl,he5⟩
      have hk:=hK.out (.agg (nmc (bG (a:Int) sq L))) _ (he5) (rfl)
      try simp only [aJ] at hk
      exact hk
     case mm6_3 =>
      refine zm [(2,some 58)] (fun env W hE hS hD K hK=>?_)
      have h2:(fun v V=>v=.agg (nmc (bG (a:Int) sq L))) (env 2) W:=hD (2,some 58) (by simp)
      clear hD
      try simp only [aJ] at hK ⊢
      generalize env 2=x2 at h2 hK ⊢
      subst h2
      go_simp
      go_at_call 62
      refine (qZ s (bG (a:Int) sq L) _ (HS9.out.own.ok.ext (((Ext.refl _).drew').trans hE)) HB4.out).mono ?_
      rintro e w5 ⟨s5,rfl,ho5,hv5,he5⟩
      have hk:=hK.out (.agg (ssA s5)) _ (he5) (⟨s5,rfl,aX ho5 hS.2.2.2.size,hv5⟩)
      try simp only [aJ] at hk
      exact hk
    case hr6 =>
     intro env W hE hS hV
     have h2:(fun v V=>v=.agg (nmc (bG (a:Int) sq L))) (env 2) W:=hV (2,some 58) (by simp)
     have h3:(fun v V=>∃ s5,v=.agg (ssA s5)∧OwnS V w.heap.size s5∧s5.V=⟨s.C,s.Q,s.K,cE s.P (bG (a:Int) sq L),s.G⟩) (env 3) W:=hV (3,some 59) (by simp)
     clear hV
     try simp only [aJ]
     generalize env 2=x2 at h2 ⊢
     generalize env 3=x3 at h3 ⊢
     subst h2
     obtain ⟨s5,rfl,ho5,hv5⟩:=h3
     have aA:=hS
     refine za 4 (fun K hK=>?_)
     (obtain ⟨z6,hz6⟩:=aA.2.2.1;refine bE rfl (.tmp 4) (.tmp 59) (by rfl) (w.heap.size+2) (.agg (ssA s5)) s5 rfl (by rfl) (by rfl) hz6 ?_;intro W6 h6)
     refine hK.out _ _ (⟨aA.1.grown (by rw [← h6.out.1];exact aB _ _ _ _) (fun e=>by injection e;omega),aA.2.1.grown (by rw [← h6.out.1];exact aB _ _ _ _) (fun e=>by injection e;omega),⟨_,h6.out.2⟩,by rw [← h6.out.1];exact Below.setCells' aA.2.2.2 (by omega) _ _⟩) (fun aA=>?_)
     clear hK K
     try simp only [bH]
     refine wpAnyH_done (by kernel_rfl) ?_ _
     have HOW:=zh (show OwnS W6 w.heap.size s5 from by
      rw [← h6.out.1]
      exact ho5.kept (aB _ _ _ _) hz6 (by decide) (by decide) (by decide) (by decide))
     have HV5:=zh hv5
     have HXE:=zh aA.2.2.2
     have hst:=h6.out.2
     clear h6 ho5 hv5 hE hS aA hz6
     go_wp2_with fail
     exact bodyPost_ret (v:=.agg (ssA s5)) (eI rfl _ _ (w.heap.size+2) _ rfl (run_loadVar_row _ _ _ _ _ (0,0) _ hst Tryz.underlying44 rfl (by kernel_rfl))) rfl ⟨s5,rfl,HOW.out,by rw [HV5.out,HV4.out],HXE.out⟩
   have i2:¬ (a:Int) < (s.n2:Int):=by omega
   have HV4:=zh (show (⟨s.C,s.Q,s.K,cE s.P (bG (a:Int) sq L),s.G⟩:StV)=eP s0.V (a:Int) sq L from by
    rw [HREP.out,HLEN.out,← HA.out.2.2.2]
    show _=(⟨s.C,pP s.Q (a:Int) sq,s.K,cE s.P (bG (a:Int) sq L),s.G⟩:StV)
    rw [aDI (by rw [HQL.out];exact haq)])
   have HB4:=zh (show s.n1≤1000000∧s.n2≤1000000∧s.n3≤1000000∧s.n4≤1000000 from by have:=HBD.out;omega)
   go_upto_region 8 with fail
   clear q0 q1 q2 q3 q4 t0 t1 t2
   refine wp_region_held_drew (S:=fun V=>Blk V w.heap.size 44 (ssA s)∧Blk V (w.heap.size+1) 24 (txA (a:Int) sq (some ⟨b,o,none⟩) n c)∧Blk V (w.heap.size+2) 44 (ssA ss0)∧Ext w V∧Ext wr V) (by kernel_rfl) (⟨HA.out.1.blk.drew,HA.out.2.1.drew,HA.out.2.2.1.drew,HA.out.1.low.trans ((Ext.refl _).drew'),(Ext.refl _).drew'⟩) (fun aA=>?_)
   refine zz0 [0,1,2,3,4,5,6] ?_;repeat first | refine zz1 ?_ (hy:=by intro W aI;obtain ⟨q0,q1,q2,q3,q4⟩:=aE aI.1;have t0:=aI.2.1.cell 0;have t1:=aI.2.1.cell 1;have t2:=aI.2.1.cell 2;go_simp <;> with_reducible rfl) | refine zz2 ?_ | refine zz9 ?_
   (refine zs 7 aA ?_)
   (refine zs 8 aA ?_)
   (refine zs 9 aA ?_)
   (refine zs 10 aA ?_)
   (refine zs 11 aA ?_)
   (refine zs 12 aA ?_)
   (refine zs 13 aA ?_)
   (refine zs 14 aA ?_)
   (refine zs 15 aA ?_)
   (refine zs 16 aA ?_)
   refine zt 17 aA ?_
   refine wpAnyH_done (by kernel_rfl) ?_ _
   have HS9:=zh (show StB w wr.drew w.heap.size s from HA.out.1.ext ((Ext.refl _).drew'))
   have HT9:=zh aA.2.1
   have HR9:=zh aA.2.2.1
   clear aA
   go_upto_region 10 with fail
   refine wp_region_held_drew (S:=fun V=>Blk V w.heap.size 44 (ssA s)∧Blk V (w.heap.size+1) 24 (txA (a:Int) sq (some ⟨b,o,none⟩) n c)∧(∃ z,Blk V (w.heap.size+2) 44 (ssA z))∧Ext w V) (by kernel_rfl) (⟨HS9.out.blk.drew,HT9.out.drew,⟨_,HR9.out.drew⟩,HS9.out.low.trans ((Ext.refl _).drew')⟩) (fun aA=>?_)
   refine zz0 [0,1] ?_;repeat first | refine zz1 ?_ (hy:=by intro W aI;obtain ⟨q0,q1,q2,q3,q4⟩:=aE aI.1;have t0:=aI.2.1.cell 0;have t1:=aI.2.1.cell 1;have t2:=aI.2.1.cell 2;go_simp <;> with_reducible rfl) | refine zz2 ?_ | refine zz9 ?_
   refine bR (VV 2 (fun v V=>v=.agg (nmc (bG (a:Int) sq L))) (VV 3 (fun v V=>∃ s5,v=.agg (ssA s5)∧OwnS V w.heap.size s5∧s5.V=⟨s.C,s.Q,s.K,cE s.P (bG (a:Int) sq L),s.G⟩) (VN))) [(2,some 58),(3,some 59)] (fuel:=1) (by kernel_rfl) (by kernel_rfl) (fun V V' h e=>⟨h.1.ext e,h.2.1.ext e,(by obtain ⟨z,hz⟩:=h.2.2.1;exact ⟨z,hz.ext e⟩),h.2.2.2.trans e⟩) (VV.ext (fun v w w' h e=>h) (VV.ext (fun v w w' ⟨s2,h1,h2,h3⟩ e=>⟨s2,h1,h2.ext e,h3⟩) (VN.ext))) aA ?hm7 rfl ?hr7
   case hm7 =>
    refine Members.cons ?mm7_2 (Members.cons ?mm7_3 (Members.nil _))
    case mm7_2 =>
     refine zm [] (fun env W hE hS hD K hK=>?_)
     clear hD
     try simp only [aJ]
     go_simp
     go_at_call 35
     refine (dV (a:Int) sq (some ⟨b,o,none⟩) n c L _ (HS.out.ext hS.2.2.2)).mono ?_
     rintro e w5 ⟨rfl,he5⟩
     have hk:=hK.out (.agg (nmc (bG (a:Int) sq L))) _ (he5) (rfl)
     try simp only [aJ] at hk
     exact hk
    case mm7_3 =>
     refine zm [(2,some 58)] (fun env W hE hS hD K hK=>?_)
     have h2:(fun v V=>v=.agg (nmc (bG (a:Int) sq L))) (env 2) W:=hD (2,some 58) (by simp)
     clear hD
     try simp only [aJ] at hK ⊢
     generalize env 2=x2 at h2 hK ⊢
     subst h2
     go_simp
     go_at_call 62
     refine (qZ s (bG (a:Int) sq L) _ (HS9.out.own.ok.ext (((Ext.refl _).drew').trans hE)) HB4.out).mono ?_
     rintro e w5 ⟨s5,rfl,ho5,hv5,he5⟩
     have hk:=hK.out (.agg (ssA s5)) _ (he5) (⟨s5,rfl,aX ho5 hS.2.2.2.size,hv5⟩)
     try simp only [aJ] at hk
     exact hk
   case hr7 =>
    intro env W hE hS hV
    have h2:(fun v V=>v=.agg (nmc (bG (a:Int) sq L))) (env 2) W:=hV (2,some 58) (by simp)
    have h3:(fun v V=>∃ s5,v=.agg (ssA s5)∧OwnS V w.heap.size s5∧s5.V=⟨s.C,s.Q,s.K,cE s.P (bG (a:Int) sq L),s.G⟩) (env 3) W:=hV (3,some 59) (by simp)
    clear hV
    try simp only [aJ]
    generalize env 2=x2 at h2 ⊢
    generalize env 3=x3 at h3 ⊢
    subst h2
    obtain ⟨s5,rfl,ho5,hv5⟩:=h3
    have aA:=hS
    refine za 4 (fun K hK=>?_)
    (obtain ⟨z6,hz6⟩:=aA.2.2.1;refine bE rfl (.tmp 4) (.tmp 59) (by rfl) (w.heap.size+2) (.agg (ssA s5)) s5 rfl (by rfl) (by rfl) hz6 ?_;intro W6 h6)
    refine hK.out _ _ (⟨aA.1.grown (by rw [← h6.out.1];exact aB _ _ _ _) (fun e=>by injection e;omega),aA.2.1.grown (by rw [← h6.out.1];exact aB _ _ _ _) (fun e=>by injection e;omega),⟨_,h6.out.2⟩,by rw [← h6.out.1];exact Below.setCells' aA.2.2.2 (by omega) _ _⟩) (fun aA=>?_)
    clear hK K
    try simp only [bH]
    refine wpAnyH_done (by kernel_rfl) ?_ _
    have HOW:=zh (show OwnS W6 w.heap.size s5 from by
     rw [← h6.out.1]
     exact ho5.kept (aB _ _ _ _) hz6 (by decide) (by decide) (by decide) (by decide))
    have HV5:=zh hv5
    have HXE:=zh aA.2.2.2
    have hst:=h6.out.2
    clear h6 ho5 hv5 hE hS aA hz6
    go_wp2_with fail
    exact bodyPost_ret (v:=.agg (ssA s5)) (eI rfl _ _ (w.heap.size+2) _ rfl (run_loadVar_row _ _ _ _ _ (0,0) _ hst Tryz.underlying44 rfl (by kernel_rfl))) rfl ⟨s5,rfl,HOW.out,by rw [HV5.out,HV4.out],HXE.out⟩
end
end Go.Proofs.YtohmmcahpakokaaGreat
