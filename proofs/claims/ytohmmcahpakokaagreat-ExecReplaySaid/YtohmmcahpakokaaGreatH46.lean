/- The reference's Effect. -/
import Derived.Test.YtohmmcahpakokaaGreatH45
set_option maxRecDepth 100000
set_option maxHeartbeats 8000000
set_option linter.unusedVariables false
set_option linter.unusedSimpArgs false
namespace Go.Proofs.YtohmmcahpakokaaGreat
section
open Go.RowKit
attribute [local go_sem ↓] Go.wp_at_zero Go.wp_at_succ
theorem aBa (ac sq:Int) (A:Option Addr) (n c:Nat) (L:List OpR) (w:World) (hS:SlO w A n c L) :
  Calls Tryz.prog 15 #[.agg (txA ac sq A n c)] w (aGZ w (iA ac sq L)):=by
 obtain ⟨W,hW⟩:∃ W,w.alloc (.cells (txA ac sq A n c) 24)=W:=⟨_,rfl⟩
 have HB:=zh (show Blk W w.heap.size 24 (txA ac sq A n c) from by rw [← hW];exact Blk.new w 24 (txA ac sq A n c))
 have HE:=zh (show Ext w W from by rw [← hW];exact (Ext.refl w).alloc' _)
 have HS:=zh hS
 have HV:=zh (fE ac sq A n c L W (hS.ext HE.out))
 have hle:=hS.le
 have hcap:=hS.cap
 have HLEN:=zh hS.len
 have t0:=HB.out.cell 0
 have t1:=HB.out.cell 1
 have t2:=HB.out.cell 2
 clear hS
 cases hv:vTx ac sq L with
 | false =>
  have HT:=zh (show iA ac sq L=[] from by unfold iA;rw [hv];rfl)
  rw [hv] at HV
  clear hv
  go_enter Tryz.func15,Tryz.ntmps15
  go_wp2_with fail
  refine HV.out.mono ?_
  rintro e w1 ⟨rfl,he1⟩
  have HX:=zh (HE.out.trans he1)
  clear he1 t0 t1 t2 hW
  go_wp2_with fail
  go_ret
  exact ⟨none,0,0,rfl,by rw [HT.out];exact World.ownsRow_nil _ _ _ _,by rw [HT.out];exact fun d hd=>by (cases hd),HX.out⟩
 | true =>
  have HT:=zh (show iA ac sq L=iB ac sq L L.length from by unfold iA;rw [if_pos hv])
  obtain ⟨⟨a1,a2,a3,a4,a5,a6⟩,hop⟩:=dT hv
  obtain ⟨a,rfl⟩:∃ a:Nat,ac=(a:Int):=⟨ac.toNat,by omega⟩
  have HVT:=zh hv
  rw [hv] at HV
  clear hv
  have HACW:=zh (show wfI (a:Int) from wfS ⟨by omega,by omega⟩)
  have hn4:n≤4:=by have:=HLEN.out;omega
  obtain ⟨b,o,hA,-,-⟩:=HS.out.g.at (by have:=HLEN.out;omega)
  subst hA
  go_enter Tryz.func15,Tryz.ntmps15
  go_wp2_with fail
  refine HV.out.mono ?_
  rintro e w1 ⟨rfl,he1⟩
  have HX1:=zh (HE.out.trans he1)
  have HB1:=zh (HB.out.ext he1)
  clear he1 t0 t1 t2 hW HE HB HV
  go_wp2_with fail
  go_loopw [3,4] (fun vl vi wr=>∃ (k:Nat) (A':Option Addr) (m d:Nat),vl=.slice A' m d∧vi=.int .i64 (k:Int)∧k≤n∧m≤2 * k∧Hid (wr.ownsRow w.heap.size 34 11 (.slice A' m d) m (gcs (iB (a:Int) sq L k)))∧Hid (Blk wr w.heap.size 24 (txA (a:Int) sq (some ⟨b,o,none⟩) n c))∧Hid (Ext w wr)) (fun _ i _=>n - (intOf i).toNat)
  case atStart=>exact ⟨0,none,0,0,rfl,rfl,Nat.zero_le _,Nat.zero_le _,zh (World.ownsRow_nil _ _ _ _),HB1,HX1⟩
  case round =>
   clear HB1 HX1
   obtain ⟨k,A',m,d,rfl,rfl,hk,hm,HO,HB,HX⟩:=hrel
   have t0:=HB.out.cell 0
   have t1:=HB.out.cell 1
   have t2:=HB.out.cell 2
   by_cases hlt:k < n
   ·have i0 : (0 : Int) ≤ (k : Int) := by omega
    have i1:(k:Int) < (n:Int):=by omega
    have HM:=zh (show m≤2 * k∧m≤8 from by omega)
    obtain ⟨hkk,hto,ham,hva,-,-,-,-,-⟩:=kJ (hop k (by rw [HLEN.out];exact hlt))
    obtain ⟨R,hR⟩:∃ R,bM L k=R:=⟨_,rfl⟩
    rw [hR] at hkk hto ham hva
    have hr:wr.rangeAt b (o+k * 23) (RowT.enc R):=by
     rw [← hR,mR]
     obtain ⟨b2,o2,e2,hr2,-⟩:=(HS.out.ext HX.out).g.at (by omega)
     injection e2 with e3
     injection e3 with e4 e5
     subst e4
     subst e5
     exact cP hr2 (by rw [HLEN.out];exact hlt)
    have HRR:=zh hR
    have HTOW:=zh hto
    have HVAW:=zh hva
    have HWA:=zh ham
    obtain ⟨vo,hvo⟩:∃ v,Value.agg (opA R)=v:=⟨_,rfl⟩
    have HVO:=zh hvo
    obtain ⟨X,hX⟩:∃ X,wr.heap.size=X:=⟨_,rfl⟩
    have HXS:=zh hX
    clear hR hvo hX hto hva ham
    go_upto_region 8 with (first | (with_reducible refine aC opP rfl (.tmp 19) rfl b (o+k * 23) rfl R vo HVO.out hr ?_) | ((with_reducible refine aS opP rfl (.tmp 5) (.tmp 20) rfl jD rfl R vo HVO.out rfl rfl ?_);intro W4 h4))
    have HXX:=zh (show Ext wr W4 from by rw [← h4.out];exact (Ext.refl wr).alloc' _)
    have HD:=zh (show Blk W4 X 69 (opA R) from by rw [← h4.out,← HXS.out];exact Blk.new wr 69 (opA R))
    have HB4:=zh (HB.out.ext HXX.out)
    have HX4:=zh (HX.out.trans HXX.out)
    have HO4:=zh (aU HO.out HXX.out)
    have k0:W4.cell? ⟨X,0,none⟩=some (.int .i64 R.k):=HD.out.cell 0
    rw [HXS.out]
    clear h4 hr t0 t1 t2 HB HX HO HXX i0 i1
    rcases (by omega:R.k=1 ∨ R.k=2 ∨ R.k=3 ∨ R.k=4 ∨ R.k=5 ∨ R.k=6) with hkk | hkk | hkk | hkk | hkk | hkk
    ·have HKK := zh hkk
     have b1:(R.k == 1)=true:=by rw [HKK.out];rfl
     have d1:decide (R.k=1)=true:=by rw [HKK.out];rfl
     have b2:(R.k == 2)=false:=by rw [HKK.out];rfl
     have d2:decide (R.k=2)=false:=by rw [HKK.out];rfl
     have b3:(R.k == 3)=false:=by rw [HKK.out];rfl
     have d3:decide (R.k=3)=false:=by rw [HKK.out];rfl
     have b4:(R.k == 4)=false:=by rw [HKK.out];rfl
     have d4:decide (R.k=4)=false:=by rw [HKK.out];rfl
     have b5:(R.k == 5)=false:=by rw [HKK.out];rfl
     have d5:decide (R.k=5)=false:=by rw [HKK.out];rfl
     have b6:(R.k == 6)=false:=by rw [HKK.out];rfl
     have d6:decide (R.k=6)=false:=by rw [HKK.out];rfl
     clear hkk
     have HEF:=zh (show cJ (a:Int) sq L k=cU (aP (a:Int)) (aP R.tO) R.am from by unfold cJ;rw [HRR.out,HKK.out];rfl)
     have HWX:=zh (show ceW (aP (a:Int)) from dJ (k:=1) (wfS ⟨by omega,by omega⟩) HACW.out)
     have HWY:=zh (show ceW (aP R.tO) from dJ (k:=1) (wfS ⟨by omega,by omega⟩) HTOW.out)
     go_upto_region 10 with fail
     refine wp_region_held_drew (S:=fun V=>Blk V w.heap.size 24 (txA (a:Int) sq (some ⟨b,o,none⟩) n c)∧Blk V X 69 (opA R)∧Ext w V) (by kernel_rfl) (⟨HB4.out.drew,HD.out.drew,HX4.out.trans ((Ext.refl _).drew')⟩) (fun aA=>?_)
     refine zz0 [0,1,2,4,5] ?_;repeat first | refine zz1 ?_ (hy:=by intro W aI;have t0:=aI.1.cell 0;have t1:=aI.1.cell 1;have t2:=aI.1.cell 2;have k1:W.cell? ⟨X,1,none⟩=some (.int .i64 R.tO):=aI.2.1.cell 1;have k2:W.cell? ⟨X,2,none⟩=some (.int .i64 R.am):=aI.2.1.cell 2;have k4:W.cell? ⟨X,4,none⟩=some (.int .i64 R.va):=aI.2.1.cell 4;go_simp <;> with_reducible rfl) | refine zz2 ?_ | refine zz9 ?_
     refine zu 6 (v:=.int .i64 (Go.Proofs.YtohmmcahpakokaaGreat.wr (-R.am))) aA ?_ (hy:=by refine .inl ⟨by rfl,fun V aI=>?_⟩;have k2:V.cell? ⟨X,2,none⟩=some (.int .i64 R.am):=aI.2.1.cell 2;go_simp;(try rfl))
     refine zz0 [8,9,11,12] ?_;repeat first | refine zz1 ?_ (hy:=by intro W aI;have t0:=aI.1.cell 0;have t1:=aI.1.cell 1;have t2:=aI.1.cell 2;have k1:W.cell? ⟨X,1,none⟩=some (.int .i64 R.tO):=aI.2.1.cell 1;have k2:W.cell? ⟨X,2,none⟩=some (.int .i64 R.am):=aI.2.1.cell 2;have k4:W.cell? ⟨X,4,none⟩=some (.int .i64 R.va):=aI.2.1.cell 4;go_simp <;> with_reducible rfl) | refine zz2 ?_ | refine zz9 ?_
     refine zzj (VE 3 (.agg (ceA (aP (a:Int)))) (VE 7 (.agg (deA ⟨(aP (a:Int)),Go.Proofs.YtohmmcahpakokaaGreat.wr (-R.am)⟩)) (VE 10 (.agg (ceA (aP R.tO))) (VE 13 (.agg (deA ⟨(aP R.tO),R.am⟩)) (VV 14 (fun v V=>∃ g,v=.slice (some ⟨g,0,none⟩) 2 2∧Blk V g 34 (deA ⟨(aP (a:Int)),Go.Proofs.YtohmmcahpakokaaGreat.wr (-R.am)⟩ ++ deA ⟨(aP R.tO),R.am⟩)) VN))))) [(3,some 28),(7,some 32),(10,some 35),(13,some 38),(14,some 39)] 2 (fun V V' h e=>⟨h.1.ext e,h.2.1.ext e,h.2.2.trans e⟩) (ve (ve (ve (ve (VV.ext (fun v w w' ⟨g,h1,h2⟩ e=>⟨g,h1,h2.ext e⟩) VN.ext))))) (zzc ?_ (zzc ?_ (zzc ?_ (zzc ?_ (zzc ?_ zzn))))) ?_
     ·refine zzp fun W hE hS K hK => ?_
      go_simp
      go_at_call 33
      refine (dE (a:Int) _).mono ?_
      rintro e w5 ⟨rfl,he5⟩
      exact zzK (hK.out (.agg (ceA (aP (a:Int)))) _ (he5) (rfl))
     ·refine zm [(3, some 28)] fun env W hE hS hD K hK => ?_
      obtain ⟨h3,-⟩:=zzV hD
      clear hD
      simp only [aJ,h3] at hK ⊢
      clear h3
      refine iD (cS (vx:=.agg (ceA (aP (a:Int)))) (vy:=.int .i64 (Go.Proofs.YtohmmcahpakokaaGreat.wr (-R.am))) (.tmp 28) (.tmp 31) (by rfl) (by rfl) (by rfl) (dG (aP (a:Int)) (Go.Proofs.YtohmmcahpakokaaGreat.wr (-R.am)))) ?_
      exact zzF hK (.agg (deA ⟨(aP (a:Int)),Go.Proofs.YtohmmcahpakokaaGreat.wr (-R.am)⟩))
     ·refine zzp fun W hE hS K hK => ?_
      go_simp
      go_at_call 33
      refine (dE R.tO _).mono ?_
      rintro e w5 ⟨rfl,he5⟩
      exact zzK (hK.out (.agg (ceA (aP R.tO))) _ (he5) (rfl))
     ·refine zm [(10, some 35)] fun env W hE hS hD K hK => ?_
      obtain ⟨h10,-⟩:=zzV hD
      clear hD
      simp only [aJ,h10] at hK ⊢
      clear h10
      refine iD (cS (vx:=.agg (ceA (aP R.tO))) (vy:=.int .i64 (R.am)) (.tmp 35) (.tmp 37) (by rfl) (by rfl) (by rfl) (dG (aP R.tO) (R.am))) ?_
      exact zzF hK (.agg (deA ⟨(aP R.tO),R.am⟩))
     ·refine zm [(7, some 32), (13, some 38)] fun env W hE hS hD K hK => ?_
      obtain ⟨h7,h13,-⟩:=zzV hD
      clear hD
      simp only [aJ,h7,h13] at hK ⊢
      clear h7
      clear h13
      refine sY (.tmp 32) (.tmp 38) rfl (by rfl) (by rfl) (fK ⟨(aP (a:Int)),Go.Proofs.YtohmmcahpakokaaGreat.wr (-R.am)⟩ ⟨(aP R.tO),R.am⟩ W) ?_
      intro g W2 h2
      exact zzK (hK.out (.slice (some ⟨g,0,none⟩) 2 2) _ (h2.out.2) (⟨g,rfl,h2.out.1⟩))
     intro env W hE hS hV
     obtain ⟨h3,h7,h10,h13,h14,-⟩:=zzV hV
     clear hV
     simp only [aJ,h3,h7,h10,h13]
     clear h3
     clear h7
     clear h10
     clear h13
     generalize env 14=x14 at h14 ⊢
     obtain ⟨g8,rfl,hb8⟩:=h14
     have aA:=hS
     refine za 15 (fun K hK=>?_)
     (have ho3:=aU HO4.out (((Ext.refl _).drew').trans hE);have hs8:SlG W (some ⟨g8,0,none⟩) 2 2 (cU (aP (a:Int)) (aP R.tO) R.am):=xU HWX.out HWY.out HWA.out hb8;refine jM deE rfl (.tmp 25) (.tmp 39) rfl w.heap.size A' m d (gcs (iB (a:Int) sq L k)) (by rfl) ho3 (some ⟨g8,0,none⟩) 2 2 (gcs (cU (aP (a:Int)) (aP R.tO) R.am)) (by rfl) hs8.rd (by rw [aH];rfl) (bF _) (by have:=HM.out;omega) (by have:=HM.out;omega) aA.2.2.size ?_;intro A5 c5 W5 ho5 hg5)
     refine hK.out _ _ (⟨aA.1.grown hg5 (aK ho3 aA.1 (by decide)),aA.2.1.grown hg5 (aK ho3 aA.2.1 (by decide)),Below.grown aA.2.2 hg5 aA.2.2.size (fun q hq=>(World.ownsRow.lt ho3 q hq).1)⟩) (fun aA=>?_)
     clear hK K
     try simp only [bH]
     refine zt 16 aA ?_
     refine wpAnyH_done (by kernel_rfl) ?_ _
     have HF:=zh (show W5.ownsRow w.heap.size 34 11 (.slice A5 (m+2) c5) (m+2) (gcs (iB (a:Int) sq L (k+1))) from by rw [dQ,HEF.out,bD];exact ho5)
     have HBF:=zh aA.1
     have HXF:=zh aA.2.2
     clear aA hE hS ho5 hg5 ho3 hs8 hb8
     go_wp2_with fail
     go_roundw
     case rel=>exact ⟨k+1,A5,m+2,c5,rfl,by go_num,hlt,by have:=HM.out;omega,HF,HBF,HXF⟩
     case measure=>simp [intOf];omega
    ·have HKK := zh hkk
     have b1:(R.k == 1)=false:=by rw [HKK.out];rfl
     have d1:decide (R.k=1)=false:=by rw [HKK.out];rfl
     have b2:(R.k == 2)=true:=by rw [HKK.out];rfl
     have d2:decide (R.k=2)=true:=by rw [HKK.out];rfl
     have b3:(R.k == 3)=false:=by rw [HKK.out];rfl
     have d3:decide (R.k=3)=false:=by rw [HKK.out];rfl
     have b4:(R.k == 4)=false:=by rw [HKK.out];rfl
     have d4:decide (R.k=4)=false:=by rw [HKK.out];rfl
     have b5:(R.k == 5)=false:=by rw [HKK.out];rfl
     have d5:decide (R.k=5)=false:=by rw [HKK.out];rfl
     have b6:(R.k == 6)=false:=by rw [HKK.out];rfl
     have d6:decide (R.k=6)=false:=by rw [HKK.out];rfl
     clear hkk
     have HEF:=zh (show cJ (a:Int) sq L k=cU (aP (a:Int)) (bW (bA (a:Int) sq L (k:Int))) R.am from by unfold cJ;rw [HRR.out,HKK.out];rfl)
     have HWX:=zh (show ceW (aP (a:Int)) from dJ (k:=1) (wfS ⟨by omega,by omega⟩) HACW.out)
     have HWY:=zh (show ceW (bW (bA (a:Int) sq L (k:Int))) from dJ (k:=2) (i:=0) (wfS ⟨by omega,by omega⟩) (wfS ⟨by omega,by omega⟩))
     go_upto_region 12 with fail
     refine wp_region_held_drew (S:=fun V=>Blk V w.heap.size 24 (txA (a:Int) sq (some ⟨b,o,none⟩) n c)∧Blk V X 69 (opA R)∧Ext w V) (by kernel_rfl) (⟨HB4.out.drew,HD.out.drew,HX4.out.trans ((Ext.refl _).drew')⟩) (fun aA=>?_)
     refine zz0 [0,1,2,4,5] ?_;repeat first | refine zz1 ?_ (hy:=by intro W aI;have t0:=aI.1.cell 0;have t1:=aI.1.cell 1;have t2:=aI.1.cell 2;have k1:W.cell? ⟨X,1,none⟩=some (.int .i64 R.tO):=aI.2.1.cell 1;have k2:W.cell? ⟨X,2,none⟩=some (.int .i64 R.am):=aI.2.1.cell 2;have k4:W.cell? ⟨X,4,none⟩=some (.int .i64 R.va):=aI.2.1.cell 4;go_simp <;> with_reducible rfl) | refine zz2 ?_ | refine zz9 ?_
     refine zu 6 (v:=.int .i64 (Go.Proofs.YtohmmcahpakokaaGreat.wr (-R.am))) aA ?_ (hy:=by refine .inl ⟨by rfl,fun V aI=>?_⟩;have k2:V.cell? ⟨X,2,none⟩=some (.int .i64 R.am):=aI.2.1.cell 2;go_simp;(try rfl))
     refine zz0 [8,9,12,13] ?_;repeat first | refine zz1 ?_ (hy:=by intro W aI;have t0:=aI.1.cell 0;have t1:=aI.1.cell 1;have t2:=aI.1.cell 2;have k1:W.cell? ⟨X,1,none⟩=some (.int .i64 R.tO):=aI.2.1.cell 1;have k2:W.cell? ⟨X,2,none⟩=some (.int .i64 R.am):=aI.2.1.cell 2;have k4:W.cell? ⟨X,4,none⟩=some (.int .i64 R.va):=aI.2.1.cell 4;go_simp <;> with_reducible rfl) | refine zz2 ?_ | refine zz9 ?_
     refine zzj (VE 3 (.agg (ceA (aP (a:Int)))) (VE 7 (.agg (deA ⟨(aP (a:Int)),Go.Proofs.YtohmmcahpakokaaGreat.wr (-R.am)⟩)) (VE 10 (.agg (nmc (bA (a:Int) sq L (k:Int)))) (VE 11 (.agg (ceA (bW (bA (a:Int) sq L (k:Int))))) (VE 14 (.agg (deA ⟨(bW (bA (a:Int) sq L (k:Int))),R.am⟩)) (VV 15 (fun v V=>∃ g,v=.slice (some ⟨g,0,none⟩) 2 2∧Blk V g 34 (deA ⟨(aP (a:Int)),Go.Proofs.YtohmmcahpakokaaGreat.wr (-R.am)⟩ ++ deA ⟨(bW (bA (a:Int) sq L (k:Int))),R.am⟩)) VN)))))) [(3,some 46),(7,some 50),(10,some 53),(11,some 54),(14,some 57),(15,some 58)] 2 (fun V V' h e=>⟨h.1.ext e,h.2.1.ext e,h.2.2.trans e⟩) (ve (ve (ve (ve (ve (VV.ext (fun v w w' ⟨g,h1,h2⟩ e=>⟨g,h1,h2.ext e⟩) VN.ext)))))) (zzc ?_ (zzc ?_ (zzc ?_ (zzc ?_ (zzc ?_ (zzc ?_ zzn)))))) ?_
     ·refine zzp fun W hE hS K hK => ?_
      go_simp
      go_at_call 33
      refine (dE (a:Int) _).mono ?_
      rintro e w5 ⟨rfl,he5⟩
      exact zzK (hK.out (.agg (ceA (aP (a:Int)))) _ (he5) (rfl))
     ·refine zm [(3, some 46)] fun env W hE hS hD K hK => ?_
      obtain ⟨h3,-⟩:=zzV hD
      clear hD
      simp only [aJ,h3] at hK ⊢
      clear h3
      refine iD (cS (vx:=.agg (ceA (aP (a:Int)))) (vy:=.int .i64 (Go.Proofs.YtohmmcahpakokaaGreat.wr (-R.am))) (.tmp 46) (.tmp 49) (by rfl) (by rfl) (by rfl) (dG (aP (a:Int)) (Go.Proofs.YtohmmcahpakokaaGreat.wr (-R.am)))) ?_
      exact zzF hK (.agg (deA ⟨(aP (a:Int)),Go.Proofs.YtohmmcahpakokaaGreat.wr (-R.am)⟩))
     ·refine zzp fun W hE hS K hK => ?_
      go_simp
      go_at_call 48
      refine (lX (a:Int) sq (some ⟨b,o,none⟩) n c L (k:Int) _ (HS.out.ext hS.2.2)).mono ?_
      rintro e w5 ⟨rfl,he5⟩
      exact zzK (hK.out (.agg (nmc (bA (a:Int) sq L (k:Int)))) _ (he5) (rfl))
     ·refine zm [(10, some 53)] fun env W hE hS hD K hK => ?_
      obtain ⟨h10,-⟩:=zzV hD
      clear hD
      simp only [aJ,h10] at hK ⊢
      clear h10
      go_simp
      go_at_call 47
      refine (kL (bA (a:Int) sq L (k:Int)) _).mono ?_
      rintro e w5 ⟨rfl,he5⟩
      exact zzK (hK.out (.agg (ceA (bW (bA (a:Int) sq L (k:Int))))) _ (he5) (rfl))
     ·refine zm [(11, some 54)] fun env W hE hS hD K hK => ?_
      obtain ⟨h11,-⟩:=zzV hD
      clear hD
      simp only [aJ,h11] at hK ⊢
      clear h11
      refine iD (cS (vx:=.agg (ceA (bW (bA (a:Int) sq L (k:Int))))) (vy:=.int .i64 (R.am)) (.tmp 54) (.tmp 56) (by rfl) (by rfl) (by rfl) (dG (bW (bA (a:Int) sq L (k:Int))) (R.am))) ?_
      exact zzF hK (.agg (deA ⟨(bW (bA (a:Int) sq L (k:Int))),R.am⟩))
     ·refine zm [(7, some 50), (14, some 57)] fun env W hE hS hD K hK => ?_
      obtain ⟨h7,h14,-⟩:=zzV hD
      clear hD
      simp only [aJ,h7,h14] at hK ⊢
      clear h7
      clear h14
      refine sY (.tmp 50) (.tmp 57) rfl (by rfl) (by rfl) (fK ⟨(aP (a:Int)),Go.Proofs.YtohmmcahpakokaaGreat.wr (-R.am)⟩ ⟨(bW (bA (a:Int) sq L (k:Int))),R.am⟩ W) ?_
      intro g W2 h2
      exact zzK (hK.out (.slice (some ⟨g,0,none⟩) 2 2) _ (h2.out.2) (⟨g,rfl,h2.out.1⟩))
     intro env W hE hS hV
     obtain ⟨h3,h7,h10,h11,h14,h15,-⟩:=zzV hV
     clear hV
     simp only [aJ,h3,h7,h10,h11,h14]
     clear h3
     clear h7
     clear h10
     clear h11
     clear h14
     generalize env 15=x15 at h15 ⊢
     obtain ⟨g8,rfl,hb8⟩:=h15
     have aA:=hS
     refine za 16 (fun K hK=>?_)
     (have ho3:=aU HO4.out (((Ext.refl _).drew').trans hE);have hs8:SlG W (some ⟨g8,0,none⟩) 2 2 (cU (aP (a:Int)) (bW (bA (a:Int) sq L (k:Int))) R.am):=xU HWX.out HWY.out HWA.out hb8;refine jM deE rfl (.tmp 43) (.tmp 58) rfl w.heap.size A' m d (gcs (iB (a:Int) sq L k)) (by rfl) ho3 (some ⟨g8,0,none⟩) 2 2 (gcs (cU (aP (a:Int)) (bW (bA (a:Int) sq L (k:Int))) R.am)) (by rfl) hs8.rd (by rw [aH];rfl) (bF _) (by have:=HM.out;omega) (by have:=HM.out;omega) aA.2.2.size ?_;intro A5 c5 W5 ho5 hg5)
     refine hK.out _ _ (⟨aA.1.grown hg5 (aK ho3 aA.1 (by decide)),aA.2.1.grown hg5 (aK ho3 aA.2.1 (by decide)),Below.grown aA.2.2 hg5 aA.2.2.size (fun q hq=>(World.ownsRow.lt ho3 q hq).1)⟩) (fun aA=>?_)
     clear hK K
     try simp only [bH]
     refine zt 17 aA ?_
     refine wpAnyH_done (by kernel_rfl) ?_ _
     have HF:=zh (show W5.ownsRow w.heap.size 34 11 (.slice A5 (m+2) c5) (m+2) (gcs (iB (a:Int) sq L (k+1))) from by rw [dQ,HEF.out,bD];exact ho5)
     have HBF:=zh aA.1
     have HXF:=zh aA.2.2
     clear aA hE hS ho5 hg5 ho3 hs8 hb8
     go_wp2_with fail
     go_roundw
     case rel=>exact ⟨k+1,A5,m+2,c5,rfl,by go_num,hlt,by have:=HM.out;omega,HF,HBF,HXF⟩
     case measure=>simp [intOf];omega
    ·have HKK := zh hkk
     have b1:(R.k == 1)=false:=by rw [HKK.out];rfl
     have d1:decide (R.k=1)=false:=by rw [HKK.out];rfl
     have b2:(R.k == 2)=false:=by rw [HKK.out];rfl
     have d2:decide (R.k=2)=false:=by rw [HKK.out];rfl
     have b3:(R.k == 3)=true:=by rw [HKK.out];rfl
     have d3:decide (R.k=3)=true:=by rw [HKK.out];rfl
     have b4:(R.k == 4)=false:=by rw [HKK.out];rfl
     have d4:decide (R.k=4)=false:=by rw [HKK.out];rfl
     have b5:(R.k == 5)=false:=by rw [HKK.out];rfl
     have d5:decide (R.k=5)=false:=by rw [HKK.out];rfl
     have b6:(R.k == 6)=false:=by rw [HKK.out];rfl
     have d6:decide (R.k=6)=false:=by rw [HKK.out];rfl
     clear hkk
     have HEF:=zh (show cJ (a:Int) sq L k=cU (bW R.lk) (aP R.tO) R.am from by unfold cJ;rw [HRR.out,HKK.out];rfl)
     have HWX:=zh (show ceW (bW R.lk) from dJ (k:=2) (i:=0) (wfS ⟨by omega,by omega⟩) (wfS ⟨by omega,by omega⟩))
     have HWY:=zh (show ceW (aP R.tO) from dJ (k:=1) (wfS ⟨by omega,by omega⟩) HTOW.out)
     go_upto_region 15 with fail
     refine wp_region_held_drew (S:=fun V=>Blk V w.heap.size 24 (txA (a:Int) sq (some ⟨b,o,none⟩) n c)∧Blk V X 69 (opA R)∧Ext w V) (by kernel_rfl) (⟨HB4.out.drew,HD.out.drew,HX4.out.trans ((Ext.refl _).drew')⟩) (fun aA=>?_)
     refine zzr [0,1] ?_
     refine zu 2 (v:=.agg (nmc R.lk)) aA ?_ (hy:=by exact aG nmP (by rfl) (.tmp 64) (by rfl) X 5 (by rfl) R.lk _ rfl (fun V h=>kN h.2.1))
     refine zz0 [4,5] ?_;repeat first | refine zz1 ?_ (hy:=by intro W aI;have t0:=aI.1.cell 0;have t1:=aI.1.cell 1;have t2:=aI.1.cell 2;have k1:W.cell? ⟨X,1,none⟩=some (.int .i64 R.tO):=aI.2.1.cell 1;have k2:W.cell? ⟨X,2,none⟩=some (.int .i64 R.am):=aI.2.1.cell 2;have k4:W.cell? ⟨X,4,none⟩=some (.int .i64 R.va):=aI.2.1.cell 4;go_simp <;> with_reducible rfl) | refine zz2 ?_ | refine zz9 ?_
     refine zu 6 (v:=.int .i64 (Go.Proofs.YtohmmcahpakokaaGreat.wr (-R.am))) aA ?_ (hy:=by refine .inl ⟨by rfl,fun V aI=>?_⟩;have k2:V.cell? ⟨X,2,none⟩=some (.int .i64 R.am):=aI.2.1.cell 2;go_simp;(try rfl))
     refine zz0 [8,9,11,12] ?_;repeat first | refine zz1 ?_ (hy:=by intro W aI;have t0:=aI.1.cell 0;have t1:=aI.1.cell 1;have t2:=aI.1.cell 2;have k1:W.cell? ⟨X,1,none⟩=some (.int .i64 R.tO):=aI.2.1.cell 1;have k2:W.cell? ⟨X,2,none⟩=some (.int .i64 R.am):=aI.2.1.cell 2;have k4:W.cell? ⟨X,4,none⟩=some (.int .i64 R.va):=aI.2.1.cell 4;go_simp <;> with_reducible rfl) | refine zz2 ?_ | refine zz9 ?_
     refine zzj (VE 3 (.agg (ceA (bW R.lk))) (VE 7 (.agg (deA ⟨(bW R.lk),Go.Proofs.YtohmmcahpakokaaGreat.wr (-R.am)⟩)) (VE 10 (.agg (ceA (aP R.tO))) (VE 13 (.agg (deA ⟨(aP R.tO),R.am⟩)) (VV 14 (fun v V=>∃ g,v=.slice (some ⟨g,0,none⟩) 2 2∧Blk V g 34 (deA ⟨(bW R.lk),Go.Proofs.YtohmmcahpakokaaGreat.wr (-R.am)⟩ ++ deA ⟨(aP R.tO),R.am⟩)) VN))))) [(3,some 66),(7,some 70),(10,some 73),(13,some 76),(14,some 77)] 2 (fun V V' h e=>⟨h.1.ext e,h.2.1.ext e,h.2.2.trans e⟩) (ve (ve (ve (ve (VV.ext (fun v w w' ⟨g,h1,h2⟩ e=>⟨g,h1,h2.ext e⟩) VN.ext))))) (zzc ?_ (zzc ?_ (zzc ?_ (zzc ?_ (zzc ?_ zzn))))) ?_
     ·refine zzp fun W hE hS K hK => ?_
      go_simp
      go_at_call 47
      refine (kL R.lk _).mono ?_
      rintro e w5 ⟨rfl,he5⟩
      exact zzK (hK.out (.agg (ceA (bW R.lk))) _ (he5) (rfl))
     ·refine zm [(3, some 66)] fun env W hE hS hD K hK => ?_
      obtain ⟨h3,-⟩:=zzV hD
      clear hD
      simp only [aJ,h3] at hK ⊢
      clear h3
      refine iD (cS (vx:=.agg (ceA (bW R.lk))) (vy:=.int .i64 (Go.Proofs.YtohmmcahpakokaaGreat.wr (-R.am))) (.tmp 66) (.tmp 69) (by rfl) (by rfl) (by rfl) (dG (bW R.lk) (Go.Proofs.YtohmmcahpakokaaGreat.wr (-R.am)))) ?_
      exact zzF hK (.agg (deA ⟨(bW R.lk),Go.Proofs.YtohmmcahpakokaaGreat.wr (-R.am)⟩))
     ·refine zzp fun W hE hS K hK => ?_
      go_simp
      go_at_call 33
      refine (dE R.tO _).mono ?_
      rintro e w5 ⟨rfl,he5⟩
      exact zzK (hK.out (.agg (ceA (aP R.tO))) _ (he5) (rfl))
     ·refine zm [(10, some 73)] fun env W hE hS hD K hK => ?_
      obtain ⟨h10,-⟩:=zzV hD
      clear hD
      simp only [aJ,h10] at hK ⊢
      clear h10
      refine iD (cS (vx:=.agg (ceA (aP R.tO))) (vy:=.int .i64 (R.am)) (.tmp 73) (.tmp 75) (by rfl) (by rfl) (by rfl) (dG (aP R.tO) (R.am))) ?_
      exact zzF hK (.agg (deA ⟨(aP R.tO),R.am⟩))
     ·refine zm [(7, some 70), (13, some 76)] fun env W hE hS hD K hK => ?_
      obtain ⟨h7,h13,-⟩:=zzV hD
      clear hD
      simp only [aJ,h7,h13] at hK ⊢
      clear h7
      clear h13
      refine sY (.tmp 70) (.tmp 76) rfl (by rfl) (by rfl) (fK ⟨(bW R.lk),Go.Proofs.YtohmmcahpakokaaGreat.wr (-R.am)⟩ ⟨(aP R.tO),R.am⟩ W) ?_
      intro g W2 h2
      exact zzK (hK.out (.slice (some ⟨g,0,none⟩) 2 2) _ (h2.out.2) (⟨g,rfl,h2.out.1⟩))
     intro env W hE hS hV
     obtain ⟨h3,h7,h10,h13,h14,-⟩:=zzV hV
     clear hV
     simp only [aJ,h3,h7,h10,h13]
     clear h3
     clear h7
     clear h10
     clear h13
     generalize env 14=x14 at h14 ⊢
     obtain ⟨g8,rfl,hb8⟩:=h14
     have aA:=hS
     refine za 15 (fun K hK=>?_)
     (have ho3:=aU HO4.out (((Ext.refl _).drew').trans hE);have hs8:SlG W (some ⟨g8,0,none⟩) 2 2 (cU (bW R.lk) (aP R.tO) R.am):=xU HWX.out HWY.out HWA.out hb8;refine jM deE rfl (.tmp 63) (.tmp 77) rfl w.heap.size A' m d (gcs (iB (a:Int) sq L k)) (by rfl) ho3 (some ⟨g8,0,none⟩) 2 2 (gcs (cU (bW R.lk) (aP R.tO) R.am)) (by rfl) hs8.rd (by rw [aH];rfl) (bF _) (by have:=HM.out;omega) (by have:=HM.out;omega) aA.2.2.size ?_;intro A5 c5 W5 ho5 hg5)
     refine hK.out _ _ (⟨aA.1.grown hg5 (aK ho3 aA.1 (by decide)),aA.2.1.grown hg5 (aK ho3 aA.2.1 (by decide)),Below.grown aA.2.2 hg5 aA.2.2.size (fun q hq=>(World.ownsRow.lt ho3 q hq).1)⟩) (fun aA=>?_)
     clear hK K
     try simp only [bH]
     refine zt 16 aA ?_
     refine wpAnyH_done (by kernel_rfl) ?_ _
     have HF:=zh (show W5.ownsRow w.heap.size 34 11 (.slice A5 (m+2) c5) (m+2) (gcs (iB (a:Int) sq L (k+1))) from by rw [dQ,HEF.out,bD];exact ho5)
     have HBF:=zh aA.1
     have HXF:=zh aA.2.2
     clear aA hE hS ho5 hg5 ho3 hs8 hb8
     go_wp2_with fail
     go_roundw
     case rel=>exact ⟨k+1,A5,m+2,c5,rfl,by go_num,hlt,by have:=HM.out;omega,HF,HBF,HXF⟩
     case measure=>simp [intOf];omega
    ·have HKK := zh hkk
     have b1:(R.k == 1)=false:=by rw [HKK.out];rfl
     have d1:decide (R.k=1)=false:=by rw [HKK.out];rfl
     have b2:(R.k == 2)=false:=by rw [HKK.out];rfl
     have d2:decide (R.k=2)=false:=by rw [HKK.out];rfl
     have b3:(R.k == 3)=false:=by rw [HKK.out];rfl
     have d3:decide (R.k=3)=false:=by rw [HKK.out];rfl
     have b4:(R.k == 4)=true:=by rw [HKK.out];rfl
     have d4:decide (R.k=4)=true:=by rw [HKK.out];rfl
     have b5:(R.k == 5)=false:=by rw [HKK.out];rfl
     have d5:decide (R.k=5)=false:=by rw [HKK.out];rfl
     have b6:(R.k == 6)=false:=by rw [HKK.out];rfl
     have d6:decide (R.k=6)=false:=by rw [HKK.out];rfl
     clear hkk
     have HEF:=zh (show cJ (a:Int) sq L k=cU (bW R.lk) (aP R.tO) R.am from by unfold cJ;rw [HRR.out,HKK.out];rfl)
     have HWX:=zh (show ceW (bW R.lk) from dJ (k:=2) (i:=0) (wfS ⟨by omega,by omega⟩) (wfS ⟨by omega,by omega⟩))
     have HWY:=zh (show ceW (aP R.tO) from dJ (k:=1) (wfS ⟨by omega,by omega⟩) HTOW.out)
     go_upto_region 15 with fail
     refine wp_region_held_drew (S:=fun V=>Blk V w.heap.size 24 (txA (a:Int) sq (some ⟨b,o,none⟩) n c)∧Blk V X 69 (opA R)∧Ext w V) (by kernel_rfl) (⟨HB4.out.drew,HD.out.drew,HX4.out.trans ((Ext.refl _).drew')⟩) (fun aA=>?_)
     refine zzr [0,1] ?_
     refine zu 2 (v:=.agg (nmc R.lk)) aA ?_ (hy:=by exact aG nmP (by rfl) (.tmp 64) (by rfl) X 5 (by rfl) R.lk _ rfl (fun V h=>kN h.2.1))
     refine zz0 [4,5] ?_;repeat first | refine zz1 ?_ (hy:=by intro W aI;have t0:=aI.1.cell 0;have t1:=aI.1.cell 1;have t2:=aI.1.cell 2;have k1:W.cell? ⟨X,1,none⟩=some (.int .i64 R.tO):=aI.2.1.cell 1;have k2:W.cell? ⟨X,2,none⟩=some (.int .i64 R.am):=aI.2.1.cell 2;have k4:W.cell? ⟨X,4,none⟩=some (.int .i64 R.va):=aI.2.1.cell 4;go_simp <;> with_reducible rfl) | refine zz2 ?_ | refine zz9 ?_
     refine zu 6 (v:=.int .i64 (Go.Proofs.YtohmmcahpakokaaGreat.wr (-R.am))) aA ?_ (hy:=by refine .inl ⟨by rfl,fun V aI=>?_⟩;have k2:V.cell? ⟨X,2,none⟩=some (.int .i64 R.am):=aI.2.1.cell 2;go_simp;(try rfl))
     refine zz0 [8,9,11,12] ?_;repeat first | refine zz1 ?_ (hy:=by intro W aI;have t0:=aI.1.cell 0;have t1:=aI.1.cell 1;have t2:=aI.1.cell 2;have k1:W.cell? ⟨X,1,none⟩=some (.int .i64 R.tO):=aI.2.1.cell 1;have k2:W.cell? ⟨X,2,none⟩=some (.int .i64 R.am):=aI.2.1.cell 2;have k4:W.cell? ⟨X,4,none⟩=some (.int .i64 R.va):=aI.2.1.cell 4;go_simp <;> with_reducible rfl) | refine zz2 ?_ | refine zz9 ?_
     refine zzj (VE 3 (.agg (ceA (bW R.lk))) (VE 7 (.agg (deA ⟨(bW R.lk),Go.Proofs.YtohmmcahpakokaaGreat.wr (-R.am)⟩)) (VE 10 (.agg (ceA (aP R.tO))) (VE 13 (.agg (deA ⟨(aP R.tO),R.am⟩)) (VV 14 (fun v V=>∃ g,v=.slice (some ⟨g,0,none⟩) 2 2∧Blk V g 34 (deA ⟨(bW R.lk),Go.Proofs.YtohmmcahpakokaaGreat.wr (-R.am)⟩ ++ deA ⟨(aP R.tO),R.am⟩)) VN))))) [(3,some 66),(7,some 70),(10,some 73),(13,some 76),(14,some 77)] 2 (fun V V' h e=>⟨h.1.ext e,h.2.1.ext e,h.2.2.trans e⟩) (ve (ve (ve (ve (VV.ext (fun v w w' ⟨g,h1,h2⟩ e=>⟨g,h1,h2.ext e⟩) VN.ext))))) (zzc ?_ (zzc ?_ (zzc ?_ (zzc ?_ (zzc ?_ zzn))))) ?_
     ·refine zzp fun W hE hS K hK => ?_
      go_simp
      go_at_call 47
      refine (kL R.lk _).mono ?_
      rintro e w5 ⟨rfl,he5⟩
      exact zzK (hK.out (.agg (ceA (bW R.lk))) _ (he5) (rfl))
     ·refine zm [(3, some 66)] fun env W hE hS hD K hK => ?_
      obtain ⟨h3,-⟩:=zzV hD
      clear hD
      simp only [aJ,h3] at hK ⊢
      clear h3
      refine iD (cS (vx:=.agg (ceA (bW R.lk))) (vy:=.int .i64 (Go.Proofs.YtohmmcahpakokaaGreat.wr (-R.am))) (.tmp 66) (.tmp 69) (by rfl) (by rfl) (by rfl) (dG (bW R.lk) (Go.Proofs.YtohmmcahpakokaaGreat.wr (-R.am)))) ?_
      exact zzF hK (.agg (deA ⟨(bW R.lk),Go.Proofs.YtohmmcahpakokaaGreat.wr (-R.am)⟩))
     ·refine zzp fun W hE hS K hK => ?_
      go_simp
      go_at_call 33
      refine (dE R.tO _).mono ?_
      rintro e w5 ⟨rfl,he5⟩
      exact zzK (hK.out (.agg (ceA (aP R.tO))) _ (he5) (rfl))
     ·refine zm [(10, some 73)] fun env W hE hS hD K hK => ?_
      obtain ⟨h10,-⟩:=zzV hD
      clear hD
      simp only [aJ,h10] at hK ⊢
      clear h10
      refine iD (cS (vx:=.agg (ceA (aP R.tO))) (vy:=.int .i64 (R.am)) (.tmp 73) (.tmp 75) (by rfl) (by rfl) (by rfl) (dG (aP R.tO) (R.am))) ?_
      exact zzF hK (.agg (deA ⟨(aP R.tO),R.am⟩))
     ·refine zm [(7, some 70), (13, some 76)] fun env W hE hS hD K hK => ?_
      obtain ⟨h7,h13,-⟩:=zzV hD
      clear hD
      simp only [aJ,h7,h13] at hK ⊢
      clear h7
      clear h13
      refine sY (.tmp 70) (.tmp 76) rfl (by rfl) (by rfl) (fK ⟨(bW R.lk),Go.Proofs.YtohmmcahpakokaaGreat.wr (-R.am)⟩ ⟨(aP R.tO),R.am⟩ W) ?_
      intro g W2 h2
      exact zzK (hK.out (.slice (some ⟨g,0,none⟩) 2 2) _ (h2.out.2) (⟨g,rfl,h2.out.1⟩))
     intro env W hE hS hV
     obtain ⟨h3,h7,h10,h13,h14,-⟩:=zzV hV
     clear hV
     simp only [aJ,h3,h7,h10,h13]
     clear h3
     clear h7
     clear h10
     clear h13
     generalize env 14=x14 at h14 ⊢
     obtain ⟨g8,rfl,hb8⟩:=h14
     have aA:=hS
     refine za 15 (fun K hK=>?_)
     (have ho3:=aU HO4.out (((Ext.refl _).drew').trans hE);have hs8:SlG W (some ⟨g8,0,none⟩) 2 2 (cU (bW R.lk) (aP R.tO) R.am):=xU HWX.out HWY.out HWA.out hb8;refine jM deE rfl (.tmp 63) (.tmp 77) rfl w.heap.size A' m d (gcs (iB (a:Int) sq L k)) (by rfl) ho3 (some ⟨g8,0,none⟩) 2 2 (gcs (cU (bW R.lk) (aP R.tO) R.am)) (by rfl) hs8.rd (by rw [aH];rfl) (bF _) (by have:=HM.out;omega) (by have:=HM.out;omega) aA.2.2.size ?_;intro A5 c5 W5 ho5 hg5)
     refine hK.out _ _ (⟨aA.1.grown hg5 (aK ho3 aA.1 (by decide)),aA.2.1.grown hg5 (aK ho3 aA.2.1 (by decide)),Below.grown aA.2.2 hg5 aA.2.2.size (fun q hq=>(World.ownsRow.lt ho3 q hq).1)⟩) (fun aA=>?_)
     clear hK K
     try simp only [bH]
     refine zt 16 aA ?_
     refine wpAnyH_done (by kernel_rfl) ?_ _
     have HF:=zh (show W5.ownsRow w.heap.size 34 11 (.slice A5 (m+2) c5) (m+2) (gcs (iB (a:Int) sq L (k+1))) from by rw [dQ,HEF.out,bD];exact ho5)
     have HBF:=zh aA.1
     have HXF:=zh aA.2.2
     clear aA hE hS ho5 hg5 ho3 hs8 hb8
     go_wp2_with fail
     go_roundw
     case rel=>exact ⟨k+1,A5,m+2,c5,rfl,by go_num,hlt,by have:=HM.out;omega,HF,HBF,HXF⟩
     case measure=>simp [intOf];omega
    ·have HKK := zh hkk
     have b1:(R.k == 1)=false:=by rw [HKK.out];rfl
     have d1:decide (R.k=1)=false:=by rw [HKK.out];rfl
     have b2:(R.k == 2)=false:=by rw [HKK.out];rfl
     have d2:decide (R.k=2)=false:=by rw [HKK.out];rfl
     have b3:(R.k == 3)=false:=by rw [HKK.out];rfl
     have d3:decide (R.k=3)=false:=by rw [HKK.out];rfl
     have b4:(R.k == 4)=false:=by rw [HKK.out];rfl
     have d4:decide (R.k=4)=false:=by rw [HKK.out];rfl
     have b5:(R.k == 5)=true:=by rw [HKK.out];rfl
     have d5:decide (R.k=5)=true:=by rw [HKK.out];rfl
     have b6:(R.k == 6)=false:=by rw [HKK.out];rfl
     have d6:decide (R.k=6)=false:=by rw [HKK.out];rfl
     clear hkk
     have HEF:=zh (show cJ (a:Int) sq L k=cU (aP (a:Int)) (bT R.va) R.am from by unfold cJ;rw [HRR.out,HKK.out];rfl)
     have HWX:=zh (show ceW (aP (a:Int)) from dJ (k:=1) (wfS ⟨by omega,by omega⟩) HACW.out)
     have HWY:=zh (show ceW (bT R.va) from dJ (k:=3) (wfS ⟨by omega,by omega⟩) HVAW.out)
     go_upto_region 17 with fail
     refine wp_region_held_drew (S:=fun V=>Blk V w.heap.size 24 (txA (a:Int) sq (some ⟨b,o,none⟩) n c)∧Blk V X 69 (opA R)∧Ext w V) (by kernel_rfl) (⟨HB4.out.drew,HD.out.drew,HX4.out.trans ((Ext.refl _).drew')⟩) (fun aA=>?_)
     refine zz0 [0,1,2,4,5] ?_;repeat first | refine zz1 ?_ (hy:=by intro W aI;have t0:=aI.1.cell 0;have t1:=aI.1.cell 1;have t2:=aI.1.cell 2;have k1:W.cell? ⟨X,1,none⟩=some (.int .i64 R.tO):=aI.2.1.cell 1;have k2:W.cell? ⟨X,2,none⟩=some (.int .i64 R.am):=aI.2.1.cell 2;have k4:W.cell? ⟨X,4,none⟩=some (.int .i64 R.va):=aI.2.1.cell 4;go_simp <;> with_reducible rfl) | refine zz2 ?_ | refine zz9 ?_
     refine zu 6 (v:=.int .i64 (Go.Proofs.YtohmmcahpakokaaGreat.wr (-R.am))) aA ?_ (hy:=by refine .inl ⟨by rfl,fun V aI=>?_⟩;have k2:V.cell? ⟨X,2,none⟩=some (.int .i64 R.am):=aI.2.1.cell 2;go_simp;(try rfl))
     refine zz0 [8,9,11,12] ?_;repeat first | refine zz1 ?_ (hy:=by intro W aI;have t0:=aI.1.cell 0;have t1:=aI.1.cell 1;have t2:=aI.1.cell 2;have k1:W.cell? ⟨X,1,none⟩=some (.int .i64 R.tO):=aI.2.1.cell 1;have k2:W.cell? ⟨X,2,none⟩=some (.int .i64 R.am):=aI.2.1.cell 2;have k4:W.cell? ⟨X,4,none⟩=some (.int .i64 R.va):=aI.2.1.cell 4;go_simp <;> with_reducible rfl) | refine zz2 ?_ | refine zz9 ?_
     refine zzj (VE 3 (.agg (ceA (aP (a:Int)))) (VE 7 (.agg (deA ⟨(aP (a:Int)),Go.Proofs.YtohmmcahpakokaaGreat.wr (-R.am)⟩)) (VE 10 (.agg (ceA (bT R.va))) (VE 13 (.agg (deA ⟨(bT R.va),R.am⟩)) (VV 14 (fun v V=>∃ g,v=.slice (some ⟨g,0,none⟩) 2 2∧Blk V g 34 (deA ⟨(aP (a:Int)),Go.Proofs.YtohmmcahpakokaaGreat.wr (-R.am)⟩ ++ deA ⟨(bT R.va),R.am⟩)) VN))))) [(3,some 84),(7,some 88),(10,some 91),(13,some 94),(14,some 95)] 2 (fun V V' h e=>⟨h.1.ext e,h.2.1.ext e,h.2.2.trans e⟩) (ve (ve (ve (ve (VV.ext (fun v w w' ⟨g,h1,h2⟩ e=>⟨g,h1,h2.ext e⟩) VN.ext))))) (zzc ?_ (zzc ?_ (zzc ?_ (zzc ?_ (zzc ?_ zzn))))) ?_
     ·refine zzp fun W hE hS K hK => ?_
      go_simp
      go_at_call 33
      refine (dE (a:Int) _).mono ?_
      rintro e w5 ⟨rfl,he5⟩
      exact zzK (hK.out (.agg (ceA (aP (a:Int)))) _ (he5) (rfl))
     ·refine zm [(3, some 84)] fun env W hE hS hD K hK => ?_
      obtain ⟨h3,-⟩:=zzV hD
      clear hD
      simp only [aJ,h3] at hK ⊢
      clear h3
      refine iD (cS (vx:=.agg (ceA (aP (a:Int)))) (vy:=.int .i64 (Go.Proofs.YtohmmcahpakokaaGreat.wr (-R.am))) (.tmp 84) (.tmp 87) (by rfl) (by rfl) (by rfl) (dG (aP (a:Int)) (Go.Proofs.YtohmmcahpakokaaGreat.wr (-R.am)))) ?_
      exact zzF hK (.agg (deA ⟨(aP (a:Int)),Go.Proofs.YtohmmcahpakokaaGreat.wr (-R.am)⟩))
     ·refine zzp fun W hE hS K hK => ?_
      go_simp
      go_at_call 49
      refine (lL R.va _).mono ?_
      rintro e w5 ⟨rfl,he5⟩
      exact zzK (hK.out (.agg (ceA (bT R.va))) _ (he5) (rfl))
     ·refine zm [(10, some 91)] fun env W hE hS hD K hK => ?_
      obtain ⟨h10,-⟩:=zzV hD
      clear hD
      simp only [aJ,h10] at hK ⊢
      clear h10
      refine iD (cS (vx:=.agg (ceA (bT R.va))) (vy:=.int .i64 (R.am)) (.tmp 91) (.tmp 93) (by rfl) (by rfl) (by rfl) (dG (bT R.va) (R.am))) ?_
      exact zzF hK (.agg (deA ⟨(bT R.va),R.am⟩))
     ·refine zm [(7, some 88), (13, some 94)] fun env W hE hS hD K hK => ?_
      obtain ⟨h7,h13,-⟩:=zzV hD
      clear hD
      simp only [aJ,h7,h13] at hK ⊢
      clear h7
      clear h13
      refine sY (.tmp 88) (.tmp 94) rfl (by rfl) (by rfl) (fK ⟨(aP (a:Int)),Go.Proofs.YtohmmcahpakokaaGreat.wr (-R.am)⟩ ⟨(bT R.va),R.am⟩ W) ?_
      intro g W2 h2
      exact zzK (hK.out (.slice (some ⟨g,0,none⟩) 2 2) _ (h2.out.2) (⟨g,rfl,h2.out.1⟩))
     intro env W hE hS hV
     obtain ⟨h3,h7,h10,h13,h14,-⟩:=zzV hV
     clear hV
     simp only [aJ,h3,h7,h10,h13]
     clear h3
     clear h7
     clear h10
     clear h13
     generalize env 14=x14 at h14 ⊢
     obtain ⟨g8,rfl,hb8⟩:=h14
     have aA:=hS
     refine za 15 (fun K hK=>?_)
     (have ho3:=aU HO4.out (((Ext.refl _).drew').trans hE);have hs8:SlG W (some ⟨g8,0,none⟩) 2 2 (cU (aP (a:Int)) (bT R.va) R.am):=xU HWX.out HWY.out HWA.out hb8;refine jM deE rfl (.tmp 81) (.tmp 95) rfl w.heap.size A' m d (gcs (iB (a:Int) sq L k)) (by rfl) ho3 (some ⟨g8,0,none⟩) 2 2 (gcs (cU (aP (a:Int)) (bT R.va) R.am)) (by rfl) hs8.rd (by rw [aH];rfl) (bF _) (by have:=HM.out;omega) (by have:=HM.out;omega) aA.2.2.size ?_;intro A5 c5 W5 ho5 hg5)
     refine hK.out _ _ (⟨aA.1.grown hg5 (aK ho3 aA.1 (by decide)),aA.2.1.grown hg5 (aK ho3 aA.2.1 (by decide)),Below.grown aA.2.2 hg5 aA.2.2.size (fun q hq=>(World.ownsRow.lt ho3 q hq).1)⟩) (fun aA=>?_)
     clear hK K
     try simp only [bH]
     refine zt 16 aA ?_
     refine wpAnyH_done (by kernel_rfl) ?_ _
     have HF:=zh (show W5.ownsRow w.heap.size 34 11 (.slice A5 (m+2) c5) (m+2) (gcs (iB (a:Int) sq L (k+1))) from by rw [dQ,HEF.out,bD];exact ho5)
     have HBF:=zh aA.1
     have HXF:=zh aA.2.2
     clear aA hE hS ho5 hg5 ho3 hs8 hb8
     go_wp2_with fail
     go_roundw
     case rel=>exact ⟨k+1,A5,m+2,c5,rfl,by go_num,hlt,by have:=HM.out;omega,HF,HBF,HXF⟩
     case measure=>simp [intOf];omega
    have HKK:=zh hkk
    have b1:(R.k == 1)=false:=by rw [HKK.out];rfl
    have d1:decide (R.k=1)=false:=by rw [HKK.out];rfl
    have b2:(R.k == 2)=false:=by rw [HKK.out];rfl
    have d2:decide (R.k=2)=false:=by rw [HKK.out];rfl
    have b3:(R.k == 3)=false:=by rw [HKK.out];rfl
    have d3:decide (R.k=3)=false:=by rw [HKK.out];rfl
    have b4:(R.k == 4)=false:=by rw [HKK.out];rfl
    have d4:decide (R.k=4)=false:=by rw [HKK.out];rfl
    have b5:(R.k == 5)=false:=by rw [HKK.out];rfl
    have d5:decide (R.k=5)=false:=by rw [HKK.out];rfl
    have b6:(R.k == 6)=true:=by rw [HKK.out];rfl
    have d6:decide (R.k=6)=true:=by rw [HKK.out];rfl
    clear hkk
    have HEF:=zh (show cJ (a:Int) sq L k=[] from by unfold cJ;rw [HRR.out,HKK.out];rfl)
    have HF:=zh (show W4.ownsRow w.heap.size 34 11 (.slice A' m d) m (gcs (iB (a:Int) sq L (k+1))) from by rw [dQ,HEF.out,List.append_nil];exact HO4.out)
    go_wp2_with fail
    go_roundw
    case rel=>exact ⟨k+1,A',m,d,rfl,by go_num,hlt,by have:=HM.out;omega,HF,HB4,HX4⟩
    case measure=>simp [intOf];omega
   obtain rfl:n=k:=by omega
   have i1:¬ (n:Int) < (n:Int):=by omega
   go_wp2_with fail
   go_ret
   exact ⟨A',m,d,rfl,by rw [HT.out,HLEN.out];exact HO.out,by rw [HT.out,HLEN.out];exact aDS HVT.out n (by rw [HLEN.out];exact Nat.le_refl _),HX.out⟩
end
end Go.Proofs.YtohmmcahpakokaaGreat
