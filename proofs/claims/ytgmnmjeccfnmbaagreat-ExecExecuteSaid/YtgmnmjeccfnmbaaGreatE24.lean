import Derived.Test.YtgmnmjeccfnmbaaGreatE22
import Derived.Test.YtgmnmjeccfnmbaaGreatE23
set_option maxRecDepth 100000
set_option maxHeartbeats 8000000
set_option linter.unusedVariables false
set_option linter.unusedSimpArgs false
namespace Go.Proofs.YtgmnmjeccfnmbaaGreat
theorem tg {p:Prop} (h:p:=by
 clear hkk
 have HEF:=zh (show cP (a:Int) sq L k=dF (bZ R.lk) (aV R.tO) R.am from gy)
 have HWX:=zh (show ceW (bZ R.lk) from dP (k:=2) (i:=0) (wfS ⟨aa,aa⟩) (wfS ⟨aa,aa⟩))
 have HWY:=zh (show ceW (aV R.tO) from dP (k:=1) (wfS ⟨aa,aa⟩) HTOW.out)
 go_upto_region 15 with fail
 refine wp_region_held_drew (S:=fun V=>Blk V w.heap.size 33 (txA (a:Int) sq (some ⟨b,o,none⟩) n c)∧Blk V X 52 (opA R)∧Ext w V) ab (⟨HB4.out.drew,HD.out.drew,HX4.out.trans ((Ext.refl _).drew')⟩) (fun aA=>?_)
 refine zzr [0,1] ?_
 refine zu 2 (v:=.agg (nmc R.lk)) aA ?_ (hy:=mi)
 refine zz0 [4,5] ?_;repeat first | refine zz1 ?_ (hy:=af) | refine zz2 ?_ | refine zz9 ?_
 refine zu 6 (v:=.int .i64 (Go.Proofs.YtgmnmjeccfnmbaaGreat.wr (-R.am))) aA ?_ (hy:=bn)
 refine zz0 [8,9,11,12] ?_;repeat first | refine zz1 ?_ (hy:=af) | refine zz2 ?_ | refine zz9 ?_
 refine zzj (VE 3 (.agg (ceA (bZ R.lk))) (VE 7 (.agg (deA ⟨(bZ R.lk),Go.Proofs.YtgmnmjeccfnmbaaGreat.wr (-R.am)⟩)) (VE 10 (.agg (ceA (aV R.tO))) (VE 13 (.agg (deA ⟨(aV R.tO),R.am⟩)) (VV 14 (fun v V=>∃ g,v=.slice (some ⟨g,0,none⟩) 2 2∧Blk V g 92 (deA ⟨(bZ R.lk),Go.Proofs.YtgmnmjeccfnmbaaGreat.wr (-R.am)⟩ ++ deA ⟨(aV R.tO),R.am⟩)) VN))))) [(3,some 66),(7,some 70),(10,some 73),(13,some 76),(14,some 77)] 2 (fun V V' h e=>⟨h.1.ext e,h.2.1.ext e,h.2.2.trans e⟩) (ve (ve (ve (ve (VV.ext (fun v w w' ⟨g,h1,h2⟩ e=>⟨g,h1,h2.ext e⟩) VN.ext))))) (zzc ?_ (zzc ?_ (zzc ?_ (zzc ?_ (zzc ?_ zzn))))) ?_
 ·refine zzp fun W hE hS K hK => ?_
  go_simp
  go_at_call 93
  refine zcl (jQ R.lk _) fun w5 he5=>?_
  exact zzK (hK.out (.agg (ceA (bZ R.lk))) _ (he5) (rfl))
 ·refine zm [(3, some 66)] fun env W hE hS hD K hK => ?_
  obtain ⟨h3,-⟩:=zzV hD
  clear hD
  simp only [aR,h3] at hK ⊢
  clear h3
  refine jF (cV (vx:=.agg (ceA (bZ R.lk))) (vy:=.int .i64 (Go.Proofs.YtgmnmjeccfnmbaaGreat.wr (-R.am))) (.tmp 66) (.tmp 69) dp dp dp (dR (bZ R.lk) (Go.Proofs.YtgmnmjeccfnmbaaGreat.wr (-R.am)))) ?_
  exact zzF hK (.agg (deA ⟨(bZ R.lk),Go.Proofs.YtgmnmjeccfnmbaaGreat.wr (-R.am)⟩))
 ·exact Cp
 ·refine zm [(10, some 73)] fun env W hE hS hD K hK => ?_
  obtain ⟨h10,-⟩:=zzV hD
  clear hD
  simp only [aR,h10] at hK ⊢
  clear h10
  refine jF (cV (vx:=.agg (ceA (aV R.tO))) (vy:=.int .i64 (R.am)) (.tmp 73) (.tmp 75) dp dp dp (dR (aV R.tO) (R.am))) ?_
  exact zzF hK (.agg (deA ⟨(aV R.tO),R.am⟩))
 ·refine zm [(7, some 70), (13, some 76)] fun env W hE hS hD K hK => ?_
  obtain ⟨h7,h13,-⟩:=zzV hD
  clear hD
  simp only [aR,h7,h13] at hK ⊢
  clear h7 h13
  refine wB (.tmp 70) (.tmp 76) rfl dp dp (gE ⟨(bZ R.lk),Go.Proofs.YtgmnmjeccfnmbaaGreat.wr (-R.am)⟩ ⟨(aV R.tO),R.am⟩ W) ?_
  exact CF
 intro env W hE hS hV
 obtain ⟨h3,h7,h10,h13,h14,-⟩:=zzV hV
 clear hV
 simp only [aR,h3,h7,h10,h13]
 clear h3 h7 h10 h13
 generalize env 14=x14 at h14 ⊢
 obtain ⟨g8,rfl,hb8⟩:=h14
 have aA:=hS
 refine za 15 (fun K hK=>?_)
 (have ho3:=bC HO4.out (((Ext.refl _).drew').trans hE);have hs8:SlG W (some ⟨g8,0,none⟩) 2 2 (dF (bZ R.lk) (aV R.tO) R.am):=aAG HWX.out HWY.out HWA.out hb8;refine kW deE rfl (.tmp 63) (.tmp 77) rfl w.heap.size A' m d (gcs (jD (a:Int) sq L k)) dp ho3 (some ⟨g8,0,none⟩) 2 2 (gcs (dF (bZ R.lk) (aV R.tO) R.am)) dp hs8.rd qc (bP _) dz dz aA.2.2.size ?_;intro A5 c5 W5 ho5 hg5)
 exact Ak):p:=h
open Go.Proofs.Tryz
section
open Go.RowKit
attribute [local go_sem ↓] Go.wp_at_zero Go.wp_at_succ
theorem aJD (g:Int) {k:Nat} (hk:k≤9):(bits .and .i64 (g / 2 ^ k) 1 == 1)=fA g k:=by
 have h:=kQ (g / 2 ^ k) (k:=0) ae
 rw [show ((2:Int) ^ 0)=1 from rfl] at h
 rw [h]
 have e:fA (g / 2 ^ k) 0=fA g k:=by unfold fA;rw [show ((2:Int) ^ 0)=1 from rfl,Int.ediv_one]
 rw [e]
 cases fA g k <;> rfl
theorem rU (g:Int) (k:Nat) (w:World) (hg:wfI g) (hk:k≤9):Calls prog 91 #[.int .i64 g,.int .i64 (k:Int)] w fun e w'=>e=.returned (.bool (fA g k))∧Ext w w':=by
 have i0:(0:Int)≤(k:Int):=aa
 have i1:(k:Int) < 10:=aa
 have i2:((k:Int)).toNat=k:=aa
 have i3:¬ (64:Int)≤(k:Int):=aa
 have i4:(k:Int) < 64:=aa
 have i5:IntKind.u64.wrap (k:Int)=(k:Int):=oc
 have HF:=zh (aJD g hk)
 go_enter func91,ntmps91
 go_wp2_with fail
 go_ret
 exact ⟨by rw [← HF.out];rfl,Ext.refl w⟩
theorem aDe (k:Nat) (w:World) (hk:k≤9):Calls prog 103 #[.int .i64 (k:Int)] w fun e w'=>e=.returned (.int .i64 (2 ^ k))∧Ext w w':=by
 have i0:(0:Int)≤(k:Int):=aa
 have i1:(k:Int) < 10:=aa
 have i2:((k:Int)).toNat=k:=aa
 have i3:¬ (64:Int)≤(k:Int):=aa
 have i4:(k:Int) < 64:=aa
 have i5:IntKind.u64.wrap (k:Int)=(k:Int):=oc
 have HF:=zh (show wrap64 (2 ^ k)=2 ^ k from by rw [← rB];exact kT (tG hk))
 go_enter func103,ntmps103
 go_wp2_with fail
 go_ret
 exact ⟨by have:=HF.out;(first | rw [this];rfl | (rw [← this];rfl)),Ext.refl w⟩
theorem aLX {w w':World} {base b2:Nat} {s s2:StR} {c:CeR} {a:Int} (h2:OwnS w base s2) (hv:s2.V=⟨eB s.C c a,s.Q,s.K,s.P,s.G⟩) (h:OwnS w' b2 s) (hb:s.n1≤999999∧s.n2≤1000000∧s.n3≤1000000∧s.n4≤1000000):s2.n1≤1000000∧s2.n2≤1000000∧s2.n3≤1000000∧s2.n4≤1000000:=by
 have e1:s2.C=eB s.C c a:=congrArg StV.C hv
 have e2:s2.Q=s.Q:=congrArg StV.Q hv
 have e3:s2.K=s.K:=congrArg StV.K hv
 have e4:s2.P=s.P:=congrArg StV.P hv
 have m1:=h2.l1;have m2:=h2.l2;have m3:=h2.l3;have m4:=h2.l4
 have l1:=h.l1;have l2:=h.l2;have l3:=h.l3;have l4:=h.l4
 rw [e1] at m1;rw [e2] at m2;rw [e3] at m3;rw [e4] at m4
 have h5:=sW s.C c a
 omega
theorem aET (s0:StR) (g:Int) (w:World) (h:s0.ok w) (hg:wfI g) (hn:s0.n1≤900000∧s0.n2≤1000000∧s0.n3≤1000000∧s0.n4≤1000000):Calls prog 102 #[.agg (ssA s0),.int .i64 g] w (jB w (yE g s0.V)):=by
 have HGM:=zh hg
 clear hg
 obtain ⟨W,hW,HB,HR,HE⟩:=en1 w s0
 obtain ⟨q0,q1,q2,q3,q4⟩:=aE HB.out
 have HS0:=zh h
 have HN:=zh hn
 clear h hn
 go_enter func102,ntmps102
 go_wp2_with fail
 refine (iK s0 W (HS0.out.ext HE.out) du).mono ?_
 rintro e w5 ⟨s1,rfl,ho1,hv1,he5⟩
 clear q0 q1 q2 q3 q4
 go_upto_region 2 with ((with_reducible refine aH rfl (.tmp 2) (.tmp 8) rfl w.heap.size s1 rfl rfl (HB.out.ext he5) ?_);intro W7 h7)
 obtain ⟨HS7,hk7,HBD⟩:=cpS HS0 du HB HE ho1 hv1 he5 h7
 have HR7:=zh (hk7 _ _ _ HR.out aa)
 have HV1:=zh hv1
 clear hk7 h7 ho1 hv1 he5 HB HR HE
 have HV0:=zh (show s1.V=expN g s0.V 0 from HV1.out)
 have HN1:=HN
 go_wp2_with fail
 go_loopw [5] (fun vi wr=>∃ (k:Nat) (s:StR),vi=.int .i64 (k:Int)∧k≤10∧Hid (StB w wr w.heap.size s)∧Hid (Blk wr (w.heap.size+1) 30 (ssA ss0))∧Hid (s.V=expN g s0.V k)) (fun i _=>10 - (intOf i).toNat)
 case atStart=>exact ⟨0,s1,rfl,Nat.zero_le _,HS7,HR7,HV0⟩
 case round =>
  clear HS7 HR7 HV0 HV1 HBD
  obtain ⟨k,s,rfl,hk,HS,HR,HV⟩:=hrel
  by_cases hlt:k < 10
  ·have i0 : (0 : Int) ≤ (k : Int) := aa
   have i1:(k:Int) < 10:=aa
   have HK9:=zh (show k≤9 by omega)
   have HSG:=zh HS.out.own.g
   have HBS:=zh (show s.n1≤900000+20 * k∧s.n2≤1000000∧s.n3≤1000000∧s.n4≤1000000 from by
    have e1:s.C=(expN g s0.V k).C:=congrArg StV.C HV.out
    have e2:s.Q=s0.Q:=(congrArg StV.Q HV.out).trans (sL ..).1
    have e3:s.K=s0.K:=(congrArg StV.K HV.out).trans (aJm ..)
    have e4:s.P=s0.P:=(congrArg StV.P HV.out).trans (sL ..).2
    have m1:=HS.out.own.l1;have m2:=HS.out.own.l2;have m3:=HS.out.own.l3;have m4:=HS.out.own.l4
    have l1:=HS0.out.s1.len;have l2:=HS0.out.s2.len;have l3:=HS0.out.s3.len;have l4:=HS0.out.s4.len
    rw [e1] at m1;rw [e2] at m2;rw [e3] at m3;rw [e4] at m4
    have h5:=aBO g s0.V k
    have e6:s0.V.C=s0.C:=rfl
    rw [e6] at h5
    have:=HN1.out
    omega)
   have HS1:=zh (rU g k wr HGM.out HK9.out)
   go_wp2_with fail
   refine zcl HS1.out fun W1 he1=>?_
   have HSa:=zh (HS.out.ext he1)
   have HRa:=zh (HR.out.ext he1)
   clear HS HR HS1 he1
   have q4:W1.cell? ⟨w.heap.size,4,none⟩=some (.int .i64 s.G):=HSa.out.blk.cell 4
   cases hg1:fA g k with
   | false =>
    have HVF:=zh (show s.V=expN g s0.V (k+1) from by
     rw [gM,← HV.out]
     unfold oV
     rw [if_neg (fun h=>by rw [hg1] at h;cases h.1)])
    go_wp2_with fail
    go_roundw
    case rel=>exact ⟨k+1,s,ar,hlt,HSa,HRa,HVF⟩
    case measure=>simp [intOf];omega
   | true =>
    have HG1:=zh hg1
    have HS2:=zh (rU s.G k W1 HSG.out HK9.out)
    go_wp2_with fail
    refine zcl HS2.out fun W2 he2=>?_
    have HSb:=zh (HSa.out.ext he2)
    have HRb:=zh (HRa.out.ext he2)
    clear HSa HRa HS2 he2 q4
    cases hg2:fA s.G k with
    | true =>
     have HVF:=zh (show s.V=expN g s0.V (k+1) from by
      rw [gM,← HV.out]
      unfold oV
      rw [if_neg (fun h=>by have h2:fA s.G k=false:=h.2;rw [hg2] at h2;cases h2)])
     go_wp2_with fail
     go_roundw
     case rel=>exact ⟨k+1,s,ar,hlt,HSb,HRb,HVF⟩
     case measure=>simp [intOf];omega
    | false =>
     obtain ⟨gv,hgv⟩:=gx (cX s.C (bY (k:Int)))
     have HGV:=zh hgv
     have HGW:=zh (show wfI gv from by rw [← hgv];exact vS HSb.out.own.k1)
     have HSW:=zh (show ceW (bY (k:Int)) from dP (k:=3) (wfS ⟨aa,aa⟩) (wfS ⟨aa,aa⟩))
     have HPW:=zh (show ceW cA from dP (k:=4) (i:=0) (wfS ⟨aa,aa⟩) (wfS ⟨aa,aa⟩))
     have HB1:=zh (show s.n1≤1000000∧s.n2≤1000000∧s.n3≤1000000∧s.n4≤1000000 from by have:=HBS.out;omega)
     have HB2:=zh (show s.n1≤999999∧s.n2≤1000000∧s.n3≤1000000∧s.n4≤1000000 from by have:=HBS.out;omega)
     have HVF:=zh (show (⟨eB (eB s.C (bY (k:Int)) (Go.Proofs.YtgmnmjeccfnmbaaGreat.wr (-gv))) cA gv,s.Q,s.K,s.P,nN s.G k⟩:StV)=expN g s0.V (k+1) from by
      rw [gM,← HV.out,← hgv]
      unfold oV
      rw [if_pos ⟨HG1.out,hg2⟩];rfl)
     have HOR:=zh (uX HSG.out HK9.out)
     clear hgv hg2
     have HS6:=zh (HSb.out.ext ((Ext.refl W2).drew'))
     have HR6:=zh (HRb.out.ext ((Ext.refl W2).drew'))
     have HGET:=zh (fun (V:World) (e:Ext W2.drew V)=>kA s (bY (k:Int)) V (HS6.out.own.ok.ext e) HSW.out)
     rw [HGV.out] at HGET
     go_upto_region 6 with fail
     refine wp_region_held_drew (S:=fun _=>True) ab (trivial) (fun aA=>?_)
     refine zt 1 aA ?_
     refine zzj (VE 0 (.agg (ssA s)) (VE 2 (.agg (ceA (bY (k:Int)))) (VE 3 (.int .i64 gv) VN))) [(0,some 23),(2,some 25),(3,some 26)] 1 (fun _ _ h _=>h) (ve (ve (ve VN.ext))) (zzc ?_ (zzc ?_ (zzc ?_ zzn))) ?_
     ·refine zzp fun W5 hE hS K hK => ?_
      exact zd
     ·refine zzp fun W5 hE hS K hK => ?_
      exact BH
     ·refine zm [(0, some 23), (2, some 25)] fun env W5 hE hS hD K hK => ?_
      obtain ⟨h0,h2,-⟩:=zzV hD
      clear hD
      simp only [aR,h0,h2] at hK ⊢
      clear h0 h2
      go_simp
      go_at_call 20
      refine zcl (HGET.out _ hE) fun w5 he5=>?_
      exact zzK (hK.out (.int .i64 gv) _ (he5) (rfl))
     intro env W5 hE hS hV
     obtain ⟨h0,h2,h3,-⟩:=zzV hV
     clear hV
     simp only [aR,h0,h2,h3]
     clear h0 h2 h3
     have aA:=hS
     refine zt 4 aA ?_
     refine wpd ?_
     have HS7a:=zh (HS6.out.ext hE)
     have HR7a:=zh (HR6.out.ext hE)
     clear hE hS aA HS6 HR6 HSb HRb HGET
     go_upto_region 7 with fail
     have HS7b:=zh (HS7a.out.ext ((Ext.refl W5).drew'))
     have HR7b:=zh (HR7a.out.ext ((Ext.refl W5).drew'))
     refine wp_region_held_drew (S:=fun _=>True) ab (trivial) (fun aA=>?_)
     refine zzr [1,3] ?_
     refine zu 4 (v:=.int .i64 (Go.Proofs.YtgmnmjeccfnmbaaGreat.wr (-gv))) aA ?_ (hy:=by refine .inl ⟨dp,fun V _=>?_⟩;go_simp;(try rfl);(try exact congrArg _ (rB _).symm))
     refine zt 7 aA ?_
     refine cC (VV 0 (fun v V=>v=.agg (ssA s)) (VV 2 (fun v V=>v=.agg (ceA (bY (k:Int)))) (VV 5 (fun v V=>∃ s2,v=.agg (ssA s2)∧OwnS V w.heap.size s2∧s2.V=⟨eB s.C (bY (k:Int)) (Go.Proofs.YtgmnmjeccfnmbaaGreat.wr (-gv)),s.Q,s.K,s.P,s.G⟩) (VV 6 (fun v V=>v=.agg (ceA cA)) (VV 8 (fun v V=>∃ s2,v=.agg (ssA s2)∧OwnS V w.heap.size s2∧s2.V=⟨eB (eB s.C (bY (k:Int)) (Go.Proofs.YtgmnmjeccfnmbaaGreat.wr (-gv))) cA gv,s.Q,s.K,s.P,s.G⟩) (VN)))))) [(0,some 27),(2,some 29),(5,some 32),(6,some 33),(8,some 35)] (fuel:=1) ab ab (fun _ _ h _=>h) (VV.ext (fun v w w' h e=>h) (VV.ext (fun v w w' h e=>h) (VV.ext (fun v w w' ⟨s2,h1,h2,h3⟩ e=>⟨s2,h1,h2.ext e,h3⟩) (VV.ext (fun v w w' h e=>h) (VV.ext (fun v w w' ⟨s2,h1,h2,h3⟩ e=>⟨s2,h1,h2.ext e,h3⟩) (VN.ext)))))) aA ?hm2 rfl ?hr2
     case hm2 =>
      refine Members.cons ?mm2_0 (Members.cons ?mm2_2 (Members.cons ?mm2_5 (Members.cons ?mm2_6 (Members.cons ?mm2_8 (Members.nil _)))))
      case mm2_0 =>
       refine zm [] (fun env W hE hS hD K hK=>?_)
       clear hD
       try simp only [aR]
       obtain ⟨q0,q1,q2,q3,q4⟩:=aE (HS7b.out.blk.ext hE)
       exact Bc
      case mm2_2 =>
       refine zm [] (fun env W hE hS hD K hK=>?_)
       clear hD
       try simp only [aR]
       go_simp
       go_at_call 47
       refine zcl (nG (k:Int) _) fun w5 he5=>?_
       have hk:=hK.out (.agg (ceA (bY (k:Int)))) _ (he5) (rfl)
       try simp only [aR] at hk
       exact hk
      case mm2_5 =>
       refine zm [(0,some 27),(2,some 29)] (fun env W hE hS hD K hK=>?_)
       have h0:(fun v V=>v=.agg (ssA s)) (env 0) W:=hD (0,some 27) dr
       have h2:(fun v V=>v=.agg (ceA (bY (k:Int)))) (env 2) W:=hD (2,some 29) dr
       clear hD
       try simp only [aR] at hK ⊢
       generalize env 0=x0 at h0 hK ⊢
       generalize env 2=x2 at h2 hK ⊢
       subst h0
       subst h2
       go_simp
       go_at_call 17
       refine (mM s (bY (k:Int)) (Go.Proofs.YtgmnmjeccfnmbaaGreat.wr (-gv)) _ (HS7b.out.own.ok.ext hE) HSW.out (fU.2 (aFG _)) HB1.out).mono ?_
       rintro e w5 ⟨s2,rfl,ho2,hv2,he5⟩
       have hk:=hK.out (.agg (ssA s2)) _ (he5) (⟨s2,rfl,bO ho2 (Nat.le_trans HS7b.out.low.size hE.size),hv2⟩)
       try simp only [aR] at hk
       exact hk
      case mm2_6 =>
       refine zm [] (fun env W hE hS hD K hK=>?_)
       clear hD
       try simp only [aR]
       go_simp
       go_at_call 18
       refine zcl (pF _) fun w5 he5=>?_
       exact Cl
      case mm2_8 =>
       refine zm [(5,some 32),(6,some 33)] (fun env W hE hS hD K hK=>?_)
       have h5:(fun v V=>∃ s2,v=.agg (ssA s2)∧OwnS V w.heap.size s2∧s2.V=⟨eB s.C (bY (k:Int)) (Go.Proofs.YtgmnmjeccfnmbaaGreat.wr (-gv)),s.Q,s.K,s.P,s.G⟩) (env 5) W:=hD (5,some 32) dr
       have h6:(fun v V=>v=.agg (ceA cA)) (env 6) W:=hD (6,some 33) dr
       clear hD
       try simp only [aR] at hK ⊢
       generalize env 5=x5 at h5 hK ⊢
       generalize env 6=x6 at h6 hK ⊢
       obtain ⟨s9,rfl,ho9,hv9⟩:=h5
       subst h6
       go_simp
       go_at_call 17
       refine (mM s9 cA gv _ ho9.ok HPW.out HGW.out (aLX ho9 hv9 HS7b.out.own HB2.out)).mono ?_
       rintro e w5 ⟨s2,rfl,ho2,hv2,he5⟩
       have hk:=hK.out (.agg (ssA s2)) _ (he5) (⟨s2,rfl,bO ho2 (Nat.le_trans HS7b.out.low.size hE.size),by rw [hv2,show s9.C=_ from congrArg StV.C hv9,show s9.Q=_ from congrArg StV.Q hv9,show s9.K=_ from congrArg StV.K hv9,show s9.P=_ from congrArg StV.P hv9,show s9.G=_ from congrArg StV.G hv9]⟩)
       try simp only [aR] at hk
       exact hk
     case hr2 =>
      intro env W hE hS hV
      have h0:(fun v V=>v=.agg (ssA s)) (env 0) W:=hV (0,some 27) dr
      have h2:(fun v V=>v=.agg (ceA (bY (k:Int)))) (env 2) W:=hV (2,some 29) dr
      have h5:(fun v V=>∃ s2,v=.agg (ssA s2)∧OwnS V w.heap.size s2∧s2.V=⟨eB s.C (bY (k:Int)) (Go.Proofs.YtgmnmjeccfnmbaaGreat.wr (-gv)),s.Q,s.K,s.P,s.G⟩) (env 5) W:=hV (5,some 32) dr
      have h6:(fun v V=>v=.agg (ceA cA)) (env 6) W:=hV (6,some 33) dr
      have h8:(fun v V=>∃ s2,v=.agg (ssA s2)∧OwnS V w.heap.size s2∧s2.V=⟨eB (eB s.C (bY (k:Int)) (Go.Proofs.YtgmnmjeccfnmbaaGreat.wr (-gv))) cA gv,s.Q,s.K,s.P,s.G⟩) (env 8) W:=hV (8,some 35) dr
      clear hV
      try simp only [aR]
      generalize env 0=x0 at h0 ⊢
      generalize env 2=x2 at h2 ⊢
      generalize env 5=x5 at h5 ⊢
      generalize env 6=x6 at h6 ⊢
      generalize env 8=x8 at h8 ⊢
      subst h0
      subst h2
      subst h6
      obtain ⟨s9,rfl,-,-⟩:=h5
      obtain ⟨s2,rfl,ho2,hv2⟩:=h8
      have aA:=hS
      refine za 9 (fun K hK=>?_)
      (refine bQ rfl (.tmp 2) (.tmp 35) dp w.heap.size (.agg (ssA s2)) s2 rfl dp dp (HS7b.out.blk.ext hE) ?_;intro W9 h9)
      refine hK.out _ _ (trivial) (fun aA=>?_)
      clear hK K
      try simp only [bB]
      refine wpd ?_
      have HS8a:=zh (show StB w W9 w.heap.size s2 from by rw [← h9.out.1];exact StB.start ho2 (HS7b.out.blk.ext hE) (HS7b.out.low.trans hE) (Nat.le_refl _))
      have HR8a:=zh (show Blk W9 (w.heap.size+1) 30 (ssA ss0) from by rw [← h9.out.1];exact (HR7b.out.ext hE).grown (aB _ _ _ _) (fun e=>dq))
      have HV8:=zh hv2
      have HG8:=zh (show s2.G=s.G from congrArg StV.G hv2)
      rw [← HG8.out] at HOR HVF HSG
      clear h9 ho2 hv2 hE hS aA HS7a HR7a HS7b HR7b
      go_upto_region 8 with fail
      have HS8:=zh (HS8a.out.ext ((Ext.refl W9).drew'))
      have HR8:=zh (HR8a.out.ext ((Ext.refl W9).drew'))
      refine wp_region_held_drew (S:=fun _=>True) ab (trivial) (fun aA=>?_)
      refine zzr [0,2] ?_
      refine cC (VV 1 (fun v V=>v=.int .i64 s2.G) (VV 3 (fun v V=>v=.int .i64 (2 ^ k)) (VN))) [(1,some 37),(3,some 39)] (fuel:=3) ab ab (fun _ _ h _=>h) (VV.ext (fun v w w' h e=>h) (VV.ext (fun v w w' h e=>h) (VN.ext))) aA ?hm3 rfl ?hr3
      case hm3 =>
       refine Members.cons ?mm3_1 (Members.cons ?mm3_3 (Members.nil _))
       case mm3_1 =>
        refine zm [] (fun env W hE hS hD K hK=>?_)
        clear hD
        try simp only [aR]
        have q4:=(HS8.out.blk.ext hE).cell 4
        have q5:W.cell? ⟨w.heap.size,4,none⟩=some (.int .i64 s2.G):=q4
        go_simp
        have hk:=hK.out (.int .i64 s2.G) _ (Ext.refl _) (rfl)
        try simp only [aR] at hk
        exact hk
       case mm3_3 =>
        refine zm [] (fun env W hE hS hD K hK=>?_)
        clear hD
        try simp only [aR]
        go_simp
        go_at_call 103
        refine zcl (aDe k _ HK9.out) fun w5 he5=>?_
        have hk:=hK.out (.int .i64 (2 ^ k)) _ (he5) (rfl)
        try simp only [aR] at hk
        exact hk
      case hr3 =>
       intro env W hE hS hV
       have h1:(fun v V=>v=.int .i64 s2.G) (env 1) W:=hV (1,some 37) dr
       have h3:(fun v V=>v=.int .i64 (2 ^ k)) (env 3) W:=hV (3,some 39) dr
       clear hV
       try simp only [aR]
       generalize env 1=x1 at h1 ⊢
       generalize env 3=x3 at h3 ⊢
       subst h1
       subst h3
       have aA:=hS
       refine zu 4 (v:=.int .i64 (nN s2.G k)) aA ?_ (hy:=by refine .inl ⟨dp,fun V _=>?_⟩;rw [← HOR.out];go_simp;try rfl)
       refine zt 5 aA ?_
       refine za 6 (fun K hK=>?_)
       (have q9:W.cell? ⟨w.heap.size,4,none⟩=some (.int .i64 s2.G):=(HS8.out.blk.ext hE).cell 4;have f9:=(HS8.out.blk.ext hE).frozen 4;go_simp)
       refine hK.out _ _ (trivial) (fun aA=>?_)
       clear hK K
       try simp only [bB]
       refine wpd ?_
       have HF:=zh (show StB w (W.setCell ⟨w.heap.size,4,none⟩ (.int .i64 (nN s2.G k))) w.heap.size { s2 with G:=nN s2.G k } from (HS8.out.ext hE).guilty (nN s2.G k) (wF HSG.out HK9.out))
       have HRF:=zh (show Blk (W.setCell ⟨w.heap.size,4,none⟩ (.int .i64 (nN s2.G k))) (w.heap.size+1) 30 (ssA ss0) from (HR8.out.ext hE).far (p:=⟨w.heap.size,4,none⟩) (show w.heap.size+1 ≠ w.heap.size by omega) _)
       have HVN:=zh (show (⟨s2.C,s2.Q,s2.K,s2.P,nN s2.G k⟩:StV)=expN g s0.V (k+1) from by
        rw [← HVF.out]
        have h8:=HV8.out
        rw [show s2.C=_ from congrArg StV.C h8,show s2.Q=_ from congrArg StV.Q h8,show s2.K=_ from congrArg StV.K h8,show s2.P=_ from congrArg StV.P h8])
       obtain ⟨WF,hWF⟩:=gx (W.setCell ⟨w.heap.size,4,none⟩ (.int .i64 (nN s2.G k)))
       try rw [hWF]
       rw [hWF] at HF HRF
       clear hWF hE hS aA HS8 HR8 HS8a HR8a
       go_wp2_with fail
       go_roundw
       case rel=>exact ⟨k+1,{ s2 with G:=nN s2.G k },ar,hlt,HF,HRF,HVN⟩
       case measure=>simp [intOf];omega
  obtain rfl:k=10:=aa
  have HSP:=zh (show s.V=yE g s0.V from HV.out)
  go_upto_region 9 with fail
  have HF:=HS
  have HRF:=HR
  obtain ⟨q0,q1,q2,q3,q4⟩:=aE HF.out.blk
  go_wp2_with ((with_reducible refine aH rfl (.tmp 4) (.tmp 42) rfl (w.heap.size+1) (s) rfl rfl HRF.out ?_);intro W9 h9)
  exact rtS _ _ HF.out HRF.out aa h9 (HSP.out)
theorem aAC (s t:StR) (w:World) (hs:s.ok w) (ht:t.ok w):Calls prog 10 #[.agg (ssA s),.agg (ssA t)] w fun e w'=>e=.returned (.bool (decide (s.V=t.V)))∧Ext w w':=by
 obtain ⟨W,hW⟩:=gx ((w.alloc (.cells (ssA s) 30)).alloc (.cells (ssA t) 30))
 have HB:=zh (show Blk W w.heap.size 30 (ssA s) from cg)
 have HC:=zh (show Blk W (w.heap.size+1) 30 (ssA t) from ag)
 have HE:=zh (show Ext w W from ai)
 have HS:=zh hs
 have HT:=zh ht
 have hle:=hs.s3.le
 have hcap:=hs.s3.cap
 have hle2:=ht.s3.le
 have hcap2:=ht.s3.cap
 obtain ⟨q0,q1,q2,q3,q4⟩:=aE HB.out
 obtain ⟨p0,p1,p2,p3,p4⟩:=aE HC.out
 clear hs ht
 by_cases hnm:s.n3=t.n3
 ·have b0 : ((s.n3 : Int) != (t.n3 : Int)) = false := by rw [hnm]; exact bne_self_eq_false _
  have HNM:=zh hnm
  clear hnm
  go_enter func10,ntmps10
  go_wp2_with fail
  clear b0 q0 q1 q2 q3 q4 p0 p1 p2 p3 p4
  go_loopw [5] (fun vi wr=>∃ k:Nat,vi=.int .i64 (k:Int)∧k≤s.n3∧Hid (∀ j,j < k→aS s.K j=aS t.K j)∧Hid (Ext W wr)) (fun i _=>s.n3 - (intOf i).toNat)
  case atStart=>exact ⟨0,rfl,Nat.zero_le _,zh (fun j hj=>absurd hj (Nat.not_lt_zero _)),zh (Ext.refl W)⟩
  case round =>
   obtain ⟨k,rfl,hk,HN,HXW⟩:=hrel
   have HB1:=zh (HB.out.ext HXW.out)
   have HC1:=zh (HC.out.ext HXW.out)
   have HX:=zh (HE.out.trans HXW.out)
   have q2:wr.cell? ⟨w.heap.size,2,none⟩=some (.slice s.A3 s.n3 s.c3):=HB1.out.cell 2
   by_cases hlt:k < s.n3
   ·have i0 : (0 : Int) ≤ (k : Int) := aa
    have i1:(k:Int) < (s.n3:Int):=aa
    have hlt2:k < t.n3:=by have:=HNM.out;omega
    have i2:(k:Int) < (t.n3:Int):=aa
    obtain ⟨d,hd⟩:=gx (aS s.K k)
    obtain ⟨d2,hd2⟩:=gx (aS t.K k)
    obtain ⟨b,o,hab,-,-⟩:=HS.out.s3.at aa
    obtain ⟨b2,o2,hab2,-,-⟩:=HT.out.s3.at aa
    have HAB:=zh hab
    have HAB2:=zh hab2
    have HR1:=zh (fun (V:World) (e:Ext w V)=>show V.rangeAt b (o+k * 19) (RowT.enc d) from by
     rw [← hd]
     obtain ⟨b9,o9,e2,hr2,-⟩:=(HS.out.ext e).s3.at aa
     rw [HAB.out] at e2
     injection e2 with e3
     injection e3 with e4 e5
     subst e4
     subst e5
     exact cN (k:=k) hr2 (by rw [HS.out.s3.len];omega))
    have HR2:=zh (fun (V:World) (e:Ext w V)=>show V.rangeAt b2 (o2+k * 19) (RowT.enc d2) from by
     rw [← hd2]
     obtain ⟨b9,o9,e2,hr2,-⟩:=(HT.out.ext e).s3.at aa
     rw [HAB2.out] at e2
     injection e2 with e3
     injection e3 with e4 e5
     subst e4
     subst e5
     exact cN (k:=k) hr2 (by rw [HT.out.s3.len];omega))
    have hw1:lkW d:=by rw [← hd];exact HS.out.s3.nth hlt
    have hw2:lkW d2:=by rw [← hd2];exact HT.out.s3.nth hlt2
    have HNE:=zh (fun W=>aGP d d2 hw1 hw2 W)
    obtain ⟨ne,hne⟩:=gx (!decide (d=d2))
    rw [hne] at HNE
    have HDK:=zh (show (!decide (aS s.K k=aS t.K k))=ne from ml)
    clear hab hab2 hd hd2 hne hw1 hw2
    go_upto_region 6 with fail
    clear q2
    refine wp_region_held_drew (S:=fun V=>Blk V w.heap.size 30 (ssA s)∧Blk V (w.heap.size+1) 30 (ssA t)∧Ext w V) ab (⟨HB1.out.drew,HC1.out.drew,HX.out.trans ((Ext.refl _).drew')⟩) (fun aA=>?_)
    refine zz0 [0,1,2,3] ?_;repeat first | refine zz1 ?_ (hy:=ce) | refine zz2 ?_ | refine zz9 ?_
    refine zu 4 (v:=.agg (lkA d)) aA ?_ (hy:=by exact aG lkP dp (.tmp 23) rfl b (o+k * 19) rfl d _ rfl (fun V h=>HR1.out V h.2.2))
    refine zz0 [5,6,7,8] ?_;repeat first | refine zz1 ?_ (hy:=ce) | refine zz2 ?_ | refine zz9 ?_
    refine zu 9 (v:=.agg (lkA d2)) aA ?_ (hy:=by exact aG lkP dp (.tmp 28) rfl b2 (o2+k * 19) rfl d2 _ rfl (fun V h=>HR2.out V h.2.2))
    refine zu 10 (v:=.bool ne) aA ?_ (hy:=by exact cK dp (.tmp 24) (.tmp 29) dp (vx:=.agg (lkA d)) (vy:=.agg (lkA d2)) dp dp (aJf _ _ _ _ _) HNE.out)
    refine wpd ?_
    have HXN:=zh (HXW.out.trans ((Ext.refl _).drew'))
    have HXX:=zh aA.2.2
    clear aA
    cases ne
    ·exact AE
    have HF:=zh (show decide (s.V=t.V)=false from decide_eq_false (fun e=>by
     have e1:s.K=t.K:=congrArg StV.K e
     have h9:=HDK.out
     rw [e1] at h9
     simp at h9))
    go_wp2_with fail
    go_ret
    exact ⟨av,HXX.out⟩
   obtain rfl:k=s.n3:=aa
   have i1:¬ (s.n3:Int) < (s.n3:Int):=aa
   have HEK:=zh (show s.K=t.K from sN (by rw [HS.out.s3.len,HT.out.s3.len];exact HNM.out) (fun j hj=>HN.out j (by rw [← HS.out.s3.len];exact hj)))
   clear q2
   have HXr:=HX
   clear HB HC
   obtain ⟨q0,q1,q2,q3,q4⟩:=aE HB1.out
   obtain ⟨p0,p1,p2,p3,p4⟩:=aE HC1.out
   have HD:=zh (nS s.A1 s.n1 s.c1 s.C t.A1 t.n1 t.c1 t.C wr (HS.out.ext HX.out).s1 (HT.out.ext HX.out).s1)
   cases h1:decide (s.C=t.C) with
   | false =>
    rw [h1] at HD
    have HF:=zh (show decide (s.V=t.V)=false from decide_eq_false (fun e=>(of_decide_eq_false h1) (congrArg StV.C e)))
    clear h1
    go_wp2_with fail
    refine zcl HD.out fun W2 he2=>?_
    have HX2:=zh (HX.out.trans he2)
    clear he2 q0 q1 q2 q3 q4 p0 p1 p2 p3 p4
    go_wp2_with fail
    go_ret
    exact ⟨av,HX2.out⟩
   | true =>
    rw [h1] at HD
    have HE1:=zh (of_decide_eq_true h1)
    clear h1
    go_wp2_with fail
    refine zcl HD.out fun W2 he2=>?_
    have HX2:=zh (HX.out.trans he2)
    have HB2:=zh (HB1.out.ext he2)
    have HC2:=zh (HC1.out.ext he2)
    clear he2 q0 q1 q2 q3 q4 p0 p1 p2 p3 p4 HD HB1 HC1
    obtain ⟨q0,q1,q2,q3,q4⟩:=aE HB2.out
    obtain ⟨p0,p1,p2,p3,p4⟩:=aE HC2.out
    have HD:=zh (zW s.A2 s.n2 s.c2 s.Q t.A2 t.n2 t.c2 t.Q W2 (HS.out.ext HX2.out).s2 (HT.out.ext HX2.out).s2)
    cases h2:decide (s.Q=t.Q) with
    | false =>
     rw [h2] at HD
     have HF:=zh (show decide (s.V=t.V)=false from decide_eq_false (fun e=>(of_decide_eq_false h2) (congrArg StV.Q e)))
     clear h2
     go_wp2_with fail
     refine zcl HD.out fun W3 he3=>?_
     have HX3:=zh (HX2.out.trans he3)
     clear he3 q0 q1 q2 q3 q4 p0 p1 p2 p3 p4
     go_wp2_with fail
     go_ret
     exact ⟨av,HX3.out⟩
    | true =>
     rw [h2] at HD
     have HE2:=zh (of_decide_eq_true h2)
     clear h2
     go_wp2_with fail
     refine zcl HD.out fun W3 he3=>?_
     have HX3:=zh (HX2.out.trans he3)
     have HB3:=zh (HB2.out.ext he3)
     have HC3:=zh (HC2.out.ext he3)
     clear he3 q0 q1 q2 q3 q4 p0 p1 p2 p3 p4 HD HB2 HC2
     obtain ⟨q0,q1,q2,q3,q4⟩:=aE HB3.out
     obtain ⟨p0,p1,p2,p3,p4⟩:=aE HC3.out
     have HD:=zh (wZ s.A4 s.n4 s.c4 s.P t.A4 t.n4 t.c4 t.P W3 (HS.out.ext HX3.out).s4 (HT.out.ext HX3.out).s4)
     cases h3:decide (s.P=t.P) with
     | false =>
      rw [h3] at HD
      have HF:=zh (show decide (s.V=t.V)=false from decide_eq_false (fun e=>(of_decide_eq_false h3) (congrArg StV.P e)))
      clear h3
      go_wp2_with fail
      refine zcl HD.out fun W4 he4=>?_
      have HX4:=zh (HX3.out.trans he4)
      clear he4 q0 q1 q2 q3 q4 p0 p1 p2 p3 p4
      go_wp2_with fail
      go_ret
      exact ⟨av,HX4.out⟩
     | true =>
      rw [h3] at HD
      have HF:=zh (show decide (s.V=t.V)=(s.G == t.G) from by
       have e3:=of_decide_eq_true h3
       rw [Bool.eq_iff_iff,decide_eq_true_eq,beq_iff_eq]
       refine ⟨fun e=>congrArg StV.G e,fun e=>?_⟩
       show (⟨s.C,s.Q,s.K,s.P,s.G⟩:StV)=⟨t.C,t.Q,t.K,t.P,t.G⟩
       rw [HE1.out,HE2.out,HEK.out,e3,e])
      clear h3
      go_wp2_with fail
      refine zcl HD.out fun W4 he4=>?_
      have HX4:=zh (HX3.out.trans he4)
      have q4:W4.cell? ⟨w.heap.size,4,none⟩=some (.int .i64 s.G):=(HB3.out.ext he4).cell 4
      have p4:W4.cell? ⟨w.heap.size+1,4,none⟩=some (.int .i64 t.G):=(HC3.out.ext he4).cell 4
      clear he4 q0 q1 q2 q3 p0 p1 p2 p3
      go_wp2_with fail
      go_ret
      exact ⟨av,HX4.out⟩
 have HF:=zh (show decide (s.V=t.V)=false from decide_eq_false (fun e=>hnm (by have e1:s.K=t.K:=congrArg StV.K e;have h1:=HS.out.s3.len;have h2:=HT.out.s3.len;rw [e1] at h1;omega)))
 have b0:((s.n3:Int) != (t.n3:Int))=true:=bne_iff_ne.2 aa
 clear hnm
 go_enter func10,ntmps10
 go_wp2_with fail
 go_ret
 exact ⟨av,HE.out⟩
def evR (l:List UInt8):Int:=if l.length < 786 then 2 else if 786 < l.length then 3 else if sdC (l.take 393)=0∧sdC (l.drop 393)=0 then 0 else 11
theorem aJp (l:List UInt8):evR l=0 ↔ evC l=0:=by
 unfold evR evC
 split
 ·simp
 split
 ·simp
 by_cases h1:sdC (l.take 393)=0
 ·by_cases h2:sdC (l.drop 393)=0 <;> simp [h1,h2]
 simp [h1]
def aJK (w:World) (l:List UInt8) (e:Ending) (w':World):Prop:=∃ E:EvR,e=.returned (.tuple #[.agg (evA E),.int .i64 (evR l)])∧RowT.ok E w'∧Ext w w'∧(evR l=0→aLh l E)
theorem aIr {fn:Func} {p q:Tmp} {a:Act} {w W9 WF:World} {l:List UInt8} {cs:Array Value} (g:Nat) (E:EvR) (c:Int) (hB:Blk WF g 128 cs) (hcs:cs.size=46) (hX:Ext w WF) (hg:w.heap.size≤g) (h9:Hid (WF.setCells g 0 (RowT.enc E)=W9))
  (hoa:OwnB WF w.heap.size 5 E.a.A E.a.n E.a.c E.a.sig) (hob:OwnB WF w.heap.size 5 E.b.A E.b.n E.b.c E.b.sig) (wa:E.a.v.wf) (wb:E.b.v.wf) (hc:evR l=c) (hh:c=0→aLh l E)
  (hres:fn.results=#[.cell p 128,.tmp q]:=by rfl) (hp:a.tmps.getD p undef=.pointer (some ⟨g,0,none⟩):=by rfl) (hq:a.tmps.getD q undef=.int .i64 c:=by rfl) (hd:a.defers=[]:=by rfl):bodyPost prog fn (aJK w l) .ret a W9:=by
 exact vh
theorem zX (A:Option Addr) (n c:Nat) (l:List UInt8) (w:World) (hS:SlB w A n c l):Calls prog 95 #[.slice A n c] w (aJK w l):=by
 have hcap:=hS.cap
 have hle:=hS.le
 have hlen:=hS.len
 obtain ⟨W,hW⟩:=gx (w.alloc (.cells ev0 128))
 have HB:=zh (show Blk W w.heap.size 128 ev0 from sk)
 have HE:=zh (show Ext w W from be)
 rcases Nat.lt_trichotomy n 786 with h | rfl | h
 ·have HC := zh (show evR l = 2 from by unfold evR; rw [hlen, if_pos h])
  have i1:(n:Int) < 786:=aa
  have HTH:W.there w.heap.size 0 (RowT.sz EvR):=aI HB.out
  clear hS h hlen
  go_enter func95,ntmps95
  go_wp2_with ((with_reducible refine bH evP rfl (.tmp 2) (.tmp 11) rfl w.heap.size 0 rfl zE (.agg ev0) uC rfl HTH ?_);intro W9 h9)
  exact aIr w.heap.size zE 2 HB.out rfl HE.out (Nat.le_refl _) h9 (OwnB.nil _ _ _) (OwnB.nil _ _ _) dB dB HC.out (fun h=>absurd h ae)
 ·have HS := zh hS
  obtain ⟨b,o,rfl,hr,-⟩:=hS.at aa
  have HD1:=zh (show SlB w (some ⟨b,o,none⟩) 393 c (l.take 393) from hS.upto aa)
  obtain ⟨A2,hA2⟩:∃ A2:Option Addr,(if c=393 then (some ⟨b,o,none⟩:Option Addr) else (some ⟨b,o,none⟩:Option Addr).map (·.add 393))=A2:=⟨_,rfl⟩
  have HD2:=zh (show SlB w A2 393 (c - 393) (l.drop 393) from by
   rw [← hA2,if_neg aa]
   exact hS.cut aa aa)
  obtain ⟨k1,hk1⟩:=gx (sdC (l.take 393))
  obtain ⟨k2,hk2⟩:=gx (sdC (l.drop 393))
  have HC:=zh (show evR l=if k1=0∧k2=0 then 0 else 11 from by unfold evR;rw [hlen,if_neg aa,if_neg aa,hk1,hk2])
  have HC1:=zh (fun (V:World) (e:Ext w V)=>wY _ 393 c (l.take 393) V (HD1.out.ext e))
  have HC2:=zh (fun (V:World) (e:Ext w V)=>wY A2 393 (c - 393) (l.drop 393) V (HD2.out.ext e))
  have z0:(393:Int)≤(c:Int):=aa
  have z1:(786:Int)≤(c:Int):=aa
  have z2:¬ c=393:=aa
  have HA2:=zh hA2
  rw [if_neg z2] at hA2
  have hA3:(some (⟨b,o+393,none⟩:Addr))=A2:=re
  clear hS hr hlen hA2
  go_enter func95,ntmps95
  go_wp2_with fail
  refine (HC1.out _ HE.out).mono ?_
  rintro e w1 ⟨S1,rfl,hok1,he1,hy1,hn1,ho1⟩
  rw [hk1] at hy1 hn1
  obtain ⟨v1,hv1⟩:=gx (Value.agg (sgA S1))
  have HV1:=zh hv1
  have HY1:=zh hy1
  have HOK1:=zh hok1
  have HO1:=zh (bA ho1 HE.out.size)
  have HX1:=zh (HE.out.trans he1)
  have HB1:=zh (HB.out.ext he1)
  obtain ⟨X,hX⟩:=gx (w1.heap.size)
  have HXS:=zh hX
  rw [hk1,hv1]
  clear hv1 hy1 hn1 hok1 ho1 he1 HB HE HC1 hX
  go_upto_region 6 with ((with_reducible refine aU sgP rfl (.tmp 4) (.tmp 20) rfl sg0 rfl S1 v1 HV1.out rfl rfl ?_);intro W4 h4)
  have hx4:Ext w1 W4:=qn
  have HX4:=zh (HX1.out.trans hx4)
  have HB4:=zh (HB1.out.ext hx4)
  have HO4:=zh (OwnB.ext HO1.out hx4)
  have HR1:=zh (show Blk W4 X 126 (sgA S1) from nl)
  try rw [HXS.out]
  clear h4 hx4 HX1 HB1 HO1
  have HTH:W4.there w.heap.size 0 (RowT.sz EvR):=aI HB4.out
  go_wp2_with fail
  try rw [hA3]
  refine (HC2.out _ HX4.out).mono ?_
  rintro e w5 ⟨S2,rfl,hok2,he5,hy2,hn2,ho2⟩
  rw [hk2] at hy2 hn2
  obtain ⟨v2,hv2⟩:=gx (Value.agg (sgA S2))
  have HV2:=zh hv2
  have HY2:=zh hy2
  have HOK2:=zh hok2
  have HO5:=zh (OwnB.ext HO4.out he5)
  have HO2:=zh (bA ho2 HX4.out.size)
  have HX5:=zh (HX4.out.trans he5)
  have HB5:=zh (HB4.out.ext he5)
  have HR5:=zh (HR1.out.ext he5)
  obtain ⟨Y,hY⟩:=gx (w5.heap.size)
  have HYS:=zh hY
  rw [hk2,hv2]
  clear hv2 hy2 hn2 hok2 ho2 he5 HX4 HB4 HO4 HR1 HC2 hY HTH
  go_upto_region 7 with ((with_reducible refine aU sgP rfl (.tmp 6) (.tmp 26) rfl sg0 rfl S2 v2 HV2.out rfl rfl ?_);intro W6 h6)
  have hx6:Ext w5 W6:=a8
  have HX6:=zh (HX5.out.trans hx6)
  have HB6:=zh (HB5.out.ext hx6)
  have HO6:=zh (OwnB.ext HO5.out hx6)
  have HP6:=zh (OwnB.ext HO2.out hx6)
  have HR6:=zh (HR5.out.ext hx6)
  have HR2:=zh (show Blk W6 Y 126 (sgA S2) from nk)
  try rw [HYS.out]
  clear h6 hx6 HX5 HB5 HO5 HR5 HO2
  have HTH:W6.there w.heap.size 0 (RowT.sz EvR):=aI HB6.out
  by_cases hk:k1=0∧k2=0
  ·have HK1 := zh hk.1
   have HK2:=zh hk.2
   have b1:(k1 == 0)=true:=beq_iff_eq.2 hk.1
   have b2:(k1 != 0)=false:=qa
   have b3:decide (k1=0)=true:=decide_eq_true hk.1
   have d1:(k2 == 0)=true:=beq_iff_eq.2 hk.2
   have d2:(k2 != 0)=false:=by rw [bne,d1];rfl
   have d3:decide (k2=0)=true:=decide_eq_true hk.2
   clear hk
   have r1:W6.rangeAt X 0 (RowT.enc S1):=aC HR6.out
   have r2:W6.rangeAt Y 0 (RowT.enc S2):=aC HR2.out
   obtain ⟨vE,hvE⟩:=gx (Value.agg (evA ⟨S1,S2⟩))
   have HVE:=zh hvE
   have HBD:=zh (fun (V:World)=>aAz S1 S2 V)
   rw [HV1.out,HV2.out,hvE] at HBD
   clear hvE
   go_wp2_with (first | (with_reducible refine aD sgP rfl (.tmp 4) rfl X 0 rfl S1 v1 HV1.out r1 ?_) | (with_reducible refine aD sgP rfl (.tmp 6) rfl Y 0 rfl S2 v2 HV2.out r2 ?_) | (with_reducible refine dV rfl (cV (vx:=v1) (vy:=v2) (.tmp 35) (.tmp 36) rfl rfl rfl HBD.out) ?_) | ((with_reducible refine bH evP rfl (.tmp 2) (.tmp 37) rfl w.heap.size 0 rfl ⟨S1,S2⟩ vE HVE.out rfl HTH ?_);intro W9 h9))
   exact aIr w.heap.size ⟨S1,S2⟩ 0 HB6.out rfl HX6.out (Nat.le_refl _) h9 HO6.out HP6.out HOK1.out.v HOK2.out.v (by rw [HC.out,if_pos ⟨HK1.out,HK2.out⟩]) (fun _=>⟨(HY1.out HK1.out).1,(HY1.out HK1.out).2.2.2,(HY2.out HK2.out).1,(HY2.out HK2.out).2.2.2⟩)
  have HC3:=zh (show evR l=11 from by rw [HC.out,if_neg hk])
  have hcs:k1 ≠ 0 ∨ (k1=0∧k2 ≠ 0):=aa
  clear hk
  rcases hcs with hk | ⟨hk0,hk⟩
  ·have b1 : (k1 == 0) = false := beq_eq_false_iff_ne.2 hk
   have b2:(k1 != 0)=true:=qa
   have b3:decide (k1=0)=false:=decide_eq_false hk
   clear hk
   exact wj
  have b1:(k1 == 0)=true:=beq_iff_eq.2 hk0
  have b2:(k1 != 0)=false:=qa
  have b3:decide (k1=0)=true:=decide_eq_true hk0
  have d1:(k2 == 0)=false:=beq_eq_false_iff_ne.2 hk
  have d2:(k2 != 0)=true:=by rw [bne,d1];rfl
  have d3:decide (k2=0)=false:=decide_eq_false hk
  clear hk hk0
  exact wj
 have HC:=zh (show evR l=3 from by unfold evR;rw [hlen,if_neg aa,if_pos h])
 have i1:¬ (n:Int) < 786:=aa
 have i2:(n:Int) > 786:=aa
 have HTH:W.there w.heap.size 0 (RowT.sz EvR):=aI HB.out
 clear hS h hlen
 go_enter func95,ntmps95
 go_wp2_with ((with_reducible refine bH evP rfl (.tmp 2) (.tmp 15) rfl w.heap.size 0 rfl zE (.agg ev0) uC rfl HTH ?_);intro W9 h9)
 exact aIr w.heap.size zE 3 HB.out rfl HE.out (Nat.le_refl _) h9 (OwnB.nil _ _ _) (OwnB.nil _ _ _) dB dB HC.out (fun h=>absurd h ae)
theorem uP (ac sq:Int) (A:Option Addr) (n c:Nat) (L:List OpR) (w:World) (hS:SlO w A n c L) :
  Calls prog 41 #[.agg (txA ac sq A n c)] w (aJL w (iO ac sq L)):=by
 obtain ⟨W,hW⟩:=gx (w.alloc (.cells (txA ac sq A n c) 33))
 have HB:=zh (show Blk W w.heap.size 33 (txA ac sq A n c) from cw)
 have HE:=zh (show Ext w W from be)
 have HS:=zh hS
 have HV:=zh (eE ac sq A n c L W (hS.ext HE.out))
 have hle:=hS.le
 have hcap:=hS.cap
 have HLEN:=zh hS.len
 have t0:=HB.out.cell 0
 have t1:=HB.out.cell 1
 have t2:=HB.out.cell 2
 clear hS
 cases hv:vTx ac sq L with
 | false =>
  have HT:=zh (show iO ac sq L=[] from by unfold iO;rw [hv];rfl)
  rw [hv] at HV
  clear hv
  go_enter func41,ntmps41
  go_wp2_with fail
  refine zcl HV.out fun w1 he1=>?_
  have HX:=zh (HE.out.trans he1)
  clear he1 t0 t1 t2 hW
  go_wp2_with fail
  go_ret
  exact ⟨none,0,0,rfl,qu,by rw [HT.out];exact fun d hd=>by (cases hd),HX.out⟩
 | true =>
  have HT:=zh (show iO ac sq L=jD ac sq L L.length from pm)
  obtain ⟨⟨a1,a2,a3,a4,a5,a6⟩,hop⟩:=dX hv
  obtain ⟨a,rfl⟩:∃ a:Nat,ac=(a:Int):=⟨ac.toNat,aa⟩
  have HVT:=zh hv
  rw [hv] at HV
  clear hv
  have HACW:=zh (show wfI (a:Int) from wfS ⟨aa,aa⟩)
  have hn4:n≤4:=fj
  obtain ⟨b,o,hA,-,-⟩:=HS.out.g.at fj
  subst hA
  go_enter func41,ntmps41
  go_wp2_with fail
  refine zcl HV.out fun w1 he1=>?_
  have HX1:=zh (HE.out.trans he1)
  have HB1:=zh (HB.out.ext he1)
  clear he1 t0 t1 t2 hW HE HB HV
  go_wp2_with fail
  go_loopw [3,4] (fun vl vi wr=>∃ (k:Nat) (A':Option Addr) (m d:Nat),vl=.slice A' m d∧vi=.int .i64 (k:Int)∧k≤n∧m≤2 * k∧Hid (wr.ownsRow w.heap.size 92 11 (.slice A' m d) m (gcs (jD (a:Int) sq L k)))∧Hid (Blk wr w.heap.size 33 (txA (a:Int) sq (some ⟨b,o,none⟩) n c))∧Hid (Ext w wr)) (fun _ i _=>n - (intOf i).toNat)
  case atStart=>exact ⟨0,none,0,0,rfl,rfl,Nat.zero_le _,Nat.zero_le _,zh (World.ownsRow_nil _ _ _ _),HB1,HX1⟩
  case round =>
   clear HB1 HX1
   obtain ⟨k,A',m,d,rfl,rfl,hk,hm,HO,HB,HX⟩:=hrel
   have t0:=HB.out.cell 0
   have t1:=HB.out.cell 1
   have t2:=HB.out.cell 2
   by_cases hlt:k < n
   ·have i0 : (0 : Int) ≤ (k : Int) := aa
    have i1:(k:Int) < (n:Int):=aa
    have HM:=zh (show m≤2 * k∧m≤8 from aa)
    obtain ⟨hkk,hto,ham,hva,-,-,-,-,-⟩:=jI (hop k ak)
    obtain ⟨R,hR⟩:=gx (bR L k)
    rw [hR] at hkk hto ham hva
    have hr:wr.rangeAt b (o+k * 23) (RowT.enc R):=by
     rw [← hR,mC]
     obtain ⟨b2,o2,e2,hr2,-⟩:=(HS.out.ext HX.out).g.at aa
     exact CS
    have HRR:=zh hR
    have HTOW:=zh hto
    have HVAW:=zh hva
    have HWA:=zh ham
    obtain ⟨vo,hvo⟩:=gx (Value.agg (opA R))
    have HVO:=zh hvo
    obtain ⟨X,hX⟩:=gx (wr.heap.size)
    have HXS:=zh hX
    clear hR hvo hX hto hva ham
    go_upto_region 8 with (first | (with_reducible refine aD opP rfl (.tmp 19) rfl b (o+k * 23) rfl R vo HVO.out hr ?_) | ((with_reducible refine aU opP rfl (.tmp 5) (.tmp 20) rfl jX rfl R vo HVO.out rfl rfl ?_);intro W4 h4))
    have HXX:=zh (show Ext wr W4 from eh)
    have HD:=zh (show Blk W4 X 52 (opA R) from fv)
    have HB4:=zh (HB.out.ext HXX.out)
    have HX4:=zh (HX.out.trans HXX.out)
    have HO4:=zh (bC HO.out HXX.out)
    have k0:W4.cell? ⟨X,0,none⟩=some (.int .i64 R.k):=HD.out.cell 0
    rw [HXS.out]
    clear h4 hr t0 t1 t2 HB HX HO HXX i0 i1
    rcases (by omega:R.k=1 ∨ R.k=2 ∨ R.k=3 ∨ R.k=4 ∨ R.k=5 ∨ R.k=6) with hkk | hkk | hkk | hkk | hkk | hkk
    ·have HKK := zh hkk
     obtain ⟨b1,d1,b2,d2,b3,d3,b4,d4,b5,d5,b6,d6⟩:=kd1 HKK.out
     clear hkk
     have HEF:=zh (show cP (a:Int) sq L k=dF (aV (a:Int)) (aV R.tO) R.am from gy)
     have HWX:=zh (show ceW (aV (a:Int)) from dP (k:=1) (wfS ⟨aa,aa⟩) HACW.out)
     have HWY:=zh (show ceW (aV R.tO) from dP (k:=1) (wfS ⟨aa,aa⟩) HTOW.out)
     go_upto_region 10 with fail
     refine wp_region_held_drew (S:=fun V=>Blk V w.heap.size 33 (txA (a:Int) sq (some ⟨b,o,none⟩) n c)∧Blk V X 52 (opA R)∧Ext w V) ab (⟨HB4.out.drew,HD.out.drew,HX4.out.trans ((Ext.refl _).drew')⟩) (fun aA=>?_)
     refine zz0 [0,1,2,4,5] ?_;repeat first | refine zz1 ?_ (hy:=af) | refine zz2 ?_ | refine zz9 ?_
     refine zu 6 (v:=.int .i64 (Go.Proofs.YtgmnmjeccfnmbaaGreat.wr (-R.am))) aA ?_ (hy:=bn)
     refine zz0 [8,9,11,12] ?_;repeat first | refine zz1 ?_ (hy:=af) | refine zz2 ?_ | refine zz9 ?_
     refine zzj (VE 3 (.agg (ceA (aV (a:Int)))) (VE 7 (.agg (deA ⟨(aV (a:Int)),Go.Proofs.YtgmnmjeccfnmbaaGreat.wr (-R.am)⟩)) (VE 10 (.agg (ceA (aV R.tO))) (VE 13 (.agg (deA ⟨(aV R.tO),R.am⟩)) (VV 14 (fun v V=>∃ g,v=.slice (some ⟨g,0,none⟩) 2 2∧Blk V g 92 (deA ⟨(aV (a:Int)),Go.Proofs.YtgmnmjeccfnmbaaGreat.wr (-R.am)⟩ ++ deA ⟨(aV R.tO),R.am⟩)) VN))))) [(3,some 28),(7,some 32),(10,some 35),(13,some 38),(14,some 39)] 2 (fun V V' h e=>⟨h.1.ext e,h.2.1.ext e,h.2.2.trans e⟩) (ve (ve (ve (ve (VV.ext (fun v w w' ⟨g,h1,h2⟩ e=>⟨g,h1,h2.ext e⟩) VN.ext))))) (zzc ?_ (zzc ?_ (zzc ?_ (zzc ?_ (zzc ?_ zzn))))) ?_
     ·exact B6
     ·refine zm [(3, some 28)] fun env W hE hS hD K hK => ?_
      obtain ⟨h3,-⟩:=zzV hD
      clear hD
      simp only [aR,h3] at hK ⊢
      clear h3
      refine jF (cV (vx:=.agg (ceA (aV (a:Int)))) (vy:=.int .i64 (Go.Proofs.YtgmnmjeccfnmbaaGreat.wr (-R.am))) (.tmp 28) (.tmp 31) dp dp dp (dR (aV (a:Int)) (Go.Proofs.YtgmnmjeccfnmbaaGreat.wr (-R.am)))) ?_
      exact CO
     ·exact Cp
     ·refine zm [(10, some 35)] fun env W hE hS hD K hK => ?_
      obtain ⟨h10,-⟩:=zzV hD
      clear hD
      simp only [aR,h10] at hK ⊢
      clear h10
      refine jF (cV (vx:=.agg (ceA (aV R.tO))) (vy:=.int .i64 (R.am)) (.tmp 35) (.tmp 37) dp dp dp (dR (aV R.tO) (R.am))) ?_
      exact zzF hK (.agg (deA ⟨(aV R.tO),R.am⟩))
     ·refine zm [(7, some 32), (13, some 38)] fun env W hE hS hD K hK => ?_
      obtain ⟨h7,h13,-⟩:=zzV hD
      clear hD
      simp only [aR,h7,h13] at hK ⊢
      clear h7 h13
      refine wB (.tmp 32) (.tmp 38) rfl dp dp (gE ⟨(aV (a:Int)),Go.Proofs.YtgmnmjeccfnmbaaGreat.wr (-R.am)⟩ ⟨(aV R.tO),R.am⟩ W) ?_
      exact CF
     intro env W hE hS hV
     obtain ⟨h3,h7,h10,h13,h14,-⟩:=zzV hV
     clear hV
     simp only [aR,h3,h7,h10,h13]
     clear h3 h7 h10 h13
     generalize env 14=x14 at h14 ⊢
     obtain ⟨g8,rfl,hb8⟩:=h14
     have aA:=hS
     refine za 15 (fun K hK=>?_)
     (have ho3:=bC HO4.out (((Ext.refl _).drew').trans hE);have hs8:SlG W (some ⟨g8,0,none⟩) 2 2 (dF (aV (a:Int)) (aV R.tO) R.am):=aAG HWX.out HWY.out HWA.out hb8;refine kW deE rfl (.tmp 25) (.tmp 39) rfl w.heap.size A' m d (gcs (jD (a:Int) sq L k)) dp ho3 (some ⟨g8,0,none⟩) 2 2 (gcs (dF (aV (a:Int)) (aV R.tO) R.am)) dp hs8.rd qc (bP _) dz dz aA.2.2.size ?_;intro A5 c5 W5 ho5 hg5)
     exact Ak
    ·have HKK := zh hkk
     obtain ⟨b1,d1,b2,d2,b3,d3,b4,d4,b5,d5,b6,d6⟩:=kd2 HKK.out
     clear hkk
     have HEF:=zh (show cP (a:Int) sq L k=dF (aV (a:Int)) (bZ (bI (a:Int) sq L (k:Int))) R.am from gy)
     have HWX:=zh (show ceW (aV (a:Int)) from dP (k:=1) (wfS ⟨aa,aa⟩) HACW.out)
     have HWY:=zh (show ceW (bZ (bI (a:Int) sq L (k:Int))) from dP (k:=2) (i:=0) (wfS ⟨aa,aa⟩) (wfS ⟨aa,aa⟩))
     go_upto_region 12 with fail
     refine wp_region_held_drew (S:=fun V=>Blk V w.heap.size 33 (txA (a:Int) sq (some ⟨b,o,none⟩) n c)∧Blk V X 52 (opA R)∧Ext w V) ab (⟨HB4.out.drew,HD.out.drew,HX4.out.trans ((Ext.refl _).drew')⟩) (fun aA=>?_)
     refine zz0 [0,1,2,4,5] ?_;repeat first | refine zz1 ?_ (hy:=af) | refine zz2 ?_ | refine zz9 ?_
     refine zu 6 (v:=.int .i64 (Go.Proofs.YtgmnmjeccfnmbaaGreat.wr (-R.am))) aA ?_ (hy:=bn)
     refine zz0 [8,9,12,13] ?_;repeat first | refine zz1 ?_ (hy:=af) | refine zz2 ?_ | refine zz9 ?_
     refine zzj (VE 3 (.agg (ceA (aV (a:Int)))) (VE 7 (.agg (deA ⟨(aV (a:Int)),Go.Proofs.YtgmnmjeccfnmbaaGreat.wr (-R.am)⟩)) (VE 10 (.agg (nmc (bI (a:Int) sq L (k:Int)))) (VE 11 (.agg (ceA (bZ (bI (a:Int) sq L (k:Int))))) (VE 14 (.agg (deA ⟨(bZ (bI (a:Int) sq L (k:Int))),R.am⟩)) (VV 15 (fun v V=>∃ g,v=.slice (some ⟨g,0,none⟩) 2 2∧Blk V g 92 (deA ⟨(aV (a:Int)),Go.Proofs.YtgmnmjeccfnmbaaGreat.wr (-R.am)⟩ ++ deA ⟨(bZ (bI (a:Int) sq L (k:Int))),R.am⟩)) VN)))))) [(3,some 46),(7,some 50),(10,some 53),(11,some 54),(14,some 57),(15,some 58)] 2 (fun V V' h e=>⟨h.1.ext e,h.2.1.ext e,h.2.2.trans e⟩) (ve (ve (ve (ve (ve (VV.ext (fun v w w' ⟨g,h1,h2⟩ e=>⟨g,h1,h2.ext e⟩) VN.ext)))))) (zzc ?_ (zzc ?_ (zzc ?_ (zzc ?_ (zzc ?_ (zzc ?_ zzn)))))) ?_
     ·exact B6
     ·refine zm [(3, some 46)] fun env W hE hS hD K hK => ?_
      obtain ⟨h3,-⟩:=zzV hD
      clear hD
      simp only [aR,h3] at hK ⊢
      clear h3
      refine jF (cV (vx:=.agg (ceA (aV (a:Int)))) (vy:=.int .i64 (Go.Proofs.YtgmnmjeccfnmbaaGreat.wr (-R.am))) (.tmp 46) (.tmp 49) dp dp dp (dR (aV (a:Int)) (Go.Proofs.YtgmnmjeccfnmbaaGreat.wr (-R.am)))) ?_
      exact CO
     ·refine zzp fun W hE hS K hK => ?_
      go_simp
      go_at_call 100
      refine zcl (nR (a:Int) sq (some ⟨b,o,none⟩) n c L (k:Int) _ (HS.out.ext hS.2.2)) fun w5 he5=>?_
      exact zzK (hK.out (.agg (nmc (bI (a:Int) sq L (k:Int)))) _ (he5) (rfl))
     ·refine zm [(10, some 53)] fun env W hE hS hD K hK => ?_
      obtain ⟨h10,-⟩:=zzV hD
      clear hD
      simp only [aR,h10] at hK ⊢
      clear h10
      go_simp
      go_at_call 93
      refine zcl (jQ (bI (a:Int) sq L (k:Int)) _) fun w5 he5=>?_
      exact zzK (hK.out (.agg (ceA (bZ (bI (a:Int) sq L (k:Int))))) _ (he5) (rfl))
     ·refine zm [(11, some 54)] fun env W hE hS hD K hK => ?_
      obtain ⟨h11,-⟩:=zzV hD
      clear hD
      simp only [aR,h11] at hK ⊢
      clear h11
      refine jF (cV (vx:=.agg (ceA (bZ (bI (a:Int) sq L (k:Int))))) (vy:=.int .i64 (R.am)) (.tmp 54) (.tmp 56) dp dp dp (dR (bZ (bI (a:Int) sq L (k:Int))) (R.am))) ?_
      exact zzF hK (.agg (deA ⟨(bZ (bI (a:Int) sq L (k:Int))),R.am⟩))
     ·refine zm [(7, some 50), (14, some 57)] fun env W hE hS hD K hK => ?_
      obtain ⟨h7,h14,-⟩:=zzV hD
      clear hD
      simp only [aR,h7,h14] at hK ⊢
      clear h7 h14
      refine wB (.tmp 50) (.tmp 57) rfl dp dp (gE ⟨(aV (a:Int)),Go.Proofs.YtgmnmjeccfnmbaaGreat.wr (-R.am)⟩ ⟨(bZ (bI (a:Int) sq L (k:Int))),R.am⟩ W) ?_
      exact CF
     intro env W hE hS hV
     obtain ⟨h3,h7,h10,h11,h14,h15,-⟩:=zzV hV
     clear hV
     simp only [aR,h3,h7,h10,h11,h14]
     clear h3 h7 h10 h11 h14
     generalize env 15=x15 at h15 ⊢
     obtain ⟨g8,rfl,hb8⟩:=h15
     have aA:=hS
     refine za 16 (fun K hK=>?_)
     (have ho3:=bC HO4.out (((Ext.refl _).drew').trans hE);have hs8:SlG W (some ⟨g8,0,none⟩) 2 2 (dF (aV (a:Int)) (bZ (bI (a:Int) sq L (k:Int))) R.am):=aAG HWX.out HWY.out HWA.out hb8;refine kW deE rfl (.tmp 43) (.tmp 58) rfl w.heap.size A' m d (gcs (jD (a:Int) sq L k)) dp ho3 (some ⟨g8,0,none⟩) 2 2 (gcs (dF (aV (a:Int)) (bZ (bI (a:Int) sq L (k:Int))) R.am)) dp hs8.rd qc (bP _) dz dz aA.2.2.size ?_;intro A5 c5 W5 ho5 hg5)
     refine hK.out _ _ (⟨aA.1.grown hg5 (aL ho3 aA.1 ae),aA.2.1.grown hg5 (aL ho3 aA.2.1 ae),Below.grown aA.2.2 hg5 aA.2.2.size (fun q hq=>(World.ownsRow.lt ho3 q hq).1)⟩) (fun aA=>?_)
     clear hK K
     try simp only [bB]
     refine zt 17 aA ?_
     exact Bq
    ·have HKK := zh hkk
     obtain ⟨b1,d1,b2,d2,b3,d3,b4,d4,b5,d5,b6,d6⟩:=kd3 HKK.out
     exact tg
    ·have HKK := zh hkk
     obtain ⟨b1,d1,b2,d2,b3,d3,b4,d4,b5,d5,b6,d6⟩:=kd4 HKK.out
     exact tg
    ·have HKK := zh hkk
     obtain ⟨b1,d1,b2,d2,b3,d3,b4,d4,b5,d5,b6,d6⟩:=kd5 HKK.out
     clear hkk
     have HEF:=zh (show cP (a:Int) sq L k=dF (aV (a:Int)) (bY R.va) R.am from gy)
     have HWX:=zh (show ceW (aV (a:Int)) from dP (k:=1) (wfS ⟨aa,aa⟩) HACW.out)
     have HWY:=zh (show ceW (bY R.va) from dP (k:=3) (wfS ⟨aa,aa⟩) HVAW.out)
     go_upto_region 17 with fail
     refine wp_region_held_drew (S:=fun V=>Blk V w.heap.size 33 (txA (a:Int) sq (some ⟨b,o,none⟩) n c)∧Blk V X 52 (opA R)∧Ext w V) ab (⟨HB4.out.drew,HD.out.drew,HX4.out.trans ((Ext.refl _).drew')⟩) (fun aA=>?_)
     refine zz0 [0,1,2,4,5] ?_;repeat first | refine zz1 ?_ (hy:=af) | refine zz2 ?_ | refine zz9 ?_
     refine zu 6 (v:=.int .i64 (Go.Proofs.YtgmnmjeccfnmbaaGreat.wr (-R.am))) aA ?_ (hy:=bn)
     refine zz0 [8,9,11,12] ?_;repeat first | refine zz1 ?_ (hy:=af) | refine zz2 ?_ | refine zz9 ?_
     refine zzj (VE 3 (.agg (ceA (aV (a:Int)))) (VE 7 (.agg (deA ⟨(aV (a:Int)),Go.Proofs.YtgmnmjeccfnmbaaGreat.wr (-R.am)⟩)) (VE 10 (.agg (ceA (bY R.va))) (VE 13 (.agg (deA ⟨(bY R.va),R.am⟩)) (VV 14 (fun v V=>∃ g,v=.slice (some ⟨g,0,none⟩) 2 2∧Blk V g 92 (deA ⟨(aV (a:Int)),Go.Proofs.YtgmnmjeccfnmbaaGreat.wr (-R.am)⟩ ++ deA ⟨(bY R.va),R.am⟩)) VN))))) [(3,some 84),(7,some 88),(10,some 91),(13,some 94),(14,some 95)] 2 (fun V V' h e=>⟨h.1.ext e,h.2.1.ext e,h.2.2.trans e⟩) (ve (ve (ve (ve (VV.ext (fun v w w' ⟨g,h1,h2⟩ e=>⟨g,h1,h2.ext e⟩) VN.ext))))) (zzc ?_ (zzc ?_ (zzc ?_ (zzc ?_ (zzc ?_ zzn))))) ?_
     ·exact B6
     ·refine zm [(3, some 84)] fun env W hE hS hD K hK => ?_
      obtain ⟨h3,-⟩:=zzV hD
      clear hD
      simp only [aR,h3] at hK ⊢
      clear h3
      refine jF (cV (vx:=.agg (ceA (aV (a:Int)))) (vy:=.int .i64 (Go.Proofs.YtgmnmjeccfnmbaaGreat.wr (-R.am))) (.tmp 84) (.tmp 87) dp dp dp (dR (aV (a:Int)) (Go.Proofs.YtgmnmjeccfnmbaaGreat.wr (-R.am)))) ?_
      exact CO
     ·refine zzp fun W hE hS K hK => ?_
      go_simp
      go_at_call 47
      refine zcl (nG R.va _) fun w5 he5=>?_
      exact zzK (hK.out (.agg (ceA (bY R.va))) _ (he5) (rfl))
     ·refine zm [(10, some 91)] fun env W hE hS hD K hK => ?_
      obtain ⟨h10,-⟩:=zzV hD
      clear hD
      simp only [aR,h10] at hK ⊢
      clear h10
      refine jF (cV (vx:=.agg (ceA (bY R.va))) (vy:=.int .i64 (R.am)) (.tmp 91) (.tmp 93) dp dp dp (dR (bY R.va) (R.am))) ?_
      exact zzF hK (.agg (deA ⟨(bY R.va),R.am⟩))
     ·refine zm [(7, some 88), (13, some 94)] fun env W hE hS hD K hK => ?_
      obtain ⟨h7,h13,-⟩:=zzV hD
      clear hD
      simp only [aR,h7,h13] at hK ⊢
      clear h7 h13
      refine wB (.tmp 88) (.tmp 94) rfl dp dp (gE ⟨(aV (a:Int)),Go.Proofs.YtgmnmjeccfnmbaaGreat.wr (-R.am)⟩ ⟨(bY R.va),R.am⟩ W) ?_
      exact CF
     intro env W hE hS hV
     obtain ⟨h3,h7,h10,h13,h14,-⟩:=zzV hV
     clear hV
     simp only [aR,h3,h7,h10,h13]
     clear h3 h7 h10 h13
     generalize env 14=x14 at h14 ⊢
     obtain ⟨g8,rfl,hb8⟩:=h14
     have aA:=hS
     refine za 15 (fun K hK=>?_)
     (have ho3:=bC HO4.out (((Ext.refl _).drew').trans hE);have hs8:SlG W (some ⟨g8,0,none⟩) 2 2 (dF (aV (a:Int)) (bY R.va) R.am):=aAG HWX.out HWY.out HWA.out hb8;refine kW deE rfl (.tmp 81) (.tmp 95) rfl w.heap.size A' m d (gcs (jD (a:Int) sq L k)) dp ho3 (some ⟨g8,0,none⟩) 2 2 (gcs (dF (aV (a:Int)) (bY R.va) R.am)) dp hs8.rd qc (bP _) dz dz aA.2.2.size ?_;intro A5 c5 W5 ho5 hg5)
     exact Ak
    have HKK:=zh hkk
    obtain ⟨b1,d1,b2,d2,b3,d3,b4,d4,b5,d5,b6,d6⟩:=kd6 HKK.out
    clear hkk
    have HEF:=zh (show cP (a:Int) sq L k=[] from gy)
    have HF:=zh (show W4.ownsRow w.heap.size 92 11 (.slice A' m d) m (gcs (jD (a:Int) sq L (k+1))) from by rw [eL,HEF.out,List.append_nil];exact HO4.out)
    go_wp2_with fail
    go_roundw
    case rel=>exact ⟨k+1,A',m,d,rfl,ar,hlt,dz,HF,HB4,HX4⟩
    case measure=>simp [intOf];omega
   obtain rfl:n=k:=aa
   have i1:¬ (n:Int) < (n:Int):=aa
   go_wp2_with fail
   go_ret
   exact ⟨A',m,d,rfl,by rw [HT.out,HLEN.out];exact HO.out,by rw [HT.out,HLEN.out];exact aGr HVT.out n fe,HX.out⟩
end
end Go.Proofs.YtgmnmjeccfnmbaaGreat
