/- The reference's Effect. -/
import Derived.Test.YtohmmcahpakokaaGreatK41
import Derived.Test.YtohmmcahpakokaaGreatK43
set_option maxRecDepth 100000
set_option maxHeartbeats 8000000
set_option linter.unusedVariables false
set_option linter.unusedSimpArgs false
namespace Go.Proofs.YtohmmcahpakokaaGreat
open Go.RowKit
attribute [local go_sem ↓] Go.wp_at_zero Go.wp_at_succ
theorem rEffect_any (ac sq:Int) (A:Option Addr) (n c:Nat) (L:List OpR) (w:World) (hS:SlO w A n c L) :
  Calls Tryz.prog 15 #[.agg (txA ac sq A n c)] w (EffOut w (effT ac sq L)):=by
 obtain ⟨W,hW⟩:∃ W,w.alloc (.cells (txA ac sq A n c) 24)=W:=⟨_,rfl⟩
 have HB:=zh (show Blk W w.heap.size 24 (txA ac sq A n c) from by rw [← hW];exact Blk.new w 24 (txA ac sq A n c))
 have HE:=zh (show Ext w W from by rw [← hW];exact (Ext.refl w).alloc' _)
 have HS:=zh hS
 have HV:=zh (refValidTx_any ac sq A n c L W (hS.ext HE.out))
 have hle:=hS.le
 have hcap:=hS.cap
 have HLEN:=zh hS.len
 have t0:=HB.out.cell 0
 have t1:=HB.out.cell 1
 have t2:=HB.out.cell 2
 clear hS
 cases hv:vTx ac sq L with
 | false =>
  have HT:=zh (show effT ac sq L=[] from by unfold effT;rw [hv];rfl)
  rw [hv] at HV
  clear hv
  go_enter Tryz.func15,Tryz.ntmps15
  go_wp2_with fail
  refine HV.out.mono ?_
  rintro e w1 ⟨rfl,he1⟩
  have HX:=zh (HE.out.trans he1)
  clear he1 t0 t1 t2 hW
  go_wp2_with fail
  go_ret
  exact ⟨none,0,0,rfl,by rw [HT.out];exact World.ownsRow_nil _ _ _ _,by rw [HT.out];exact fun d hd=>by (cases hd),HX.out⟩
 | true =>
  have HT:=zh (show effT ac sq L=effN ac sq L L.length from by unfold effT;rw [if_pos hv])
  obtain ⟨⟨a1,a2,a3,a4,a5,a6⟩,hop⟩:=vTx_of hv
  obtain ⟨a,rfl⟩:∃ a:Nat,ac=(a:Int):=⟨ac.toNat,by omega⟩
  have HVT:=zh hv
  rw [hv] at HV
  clear hv
  have HACW:=zh (show wfI (a:Int) from wfS ⟨by omega,by omega⟩)
  have hn4:n≤4:=by have:=HLEN.out;omega
  obtain ⟨b,o,hA,-,-⟩:=HS.out.g.at (by have:=HLEN.out;omega)
  subst hA
  go_enter Tryz.func15,Tryz.ntmps15
  go_wp2_with fail
  refine HV.out.mono ?_
  rintro e w1 ⟨rfl,he1⟩
  have HX1:=zh (HE.out.trans he1)
  have HB1:=zh (HB.out.ext he1)
  clear he1 t0 t1 t2 hW HE HB HV
  go_wp2_with fail
  go_loopw [3,4] (fun vl vi wr=>∃ (k:Nat) (A':Option Addr) (m d:Nat),vl=.slice A' m d∧vi=.int .i64 (k:Int)∧k≤n∧m≤2 * k∧Hid (wr.ownsRow w.heap.size 34 11 (.slice A' m d) m (gcs (effN (a:Int) sq L k)))∧Hid (Blk wr w.heap.size 24 (txA (a:Int) sq (some ⟨b,o,none⟩) n c))∧Hid (Ext w wr)) (fun _ i _=>n - (intOf i).toNat)
  case atStart=>exact ⟨0,none,0,0,rfl,rfl,Nat.zero_le _,Nat.zero_le _,zh (World.ownsRow_nil _ _ _ _),HB1,HX1⟩
  case round =>
   clear HB1 HX1
   obtain ⟨k,A',m,d,rfl,rfl,hk,hm,HO,HB,HX⟩:=hrel
   have t0:=HB.out.cell 0
   have t1:=HB.out.cell 1
   have t2:=HB.out.cell 2
   by_cases hlt:k < n
   ·have i0 : (0 : Int) ≤ (k : Int) := by omega
    have i1:(k:Int) < (n:Int):=by omega
    have HM:=zh (show m≤2 * k∧m≤8 from by omega)
    obtain ⟨hkk,hto,ham,hva,-,-,-,-,-⟩:=vOp_bd (hop k (by rw [HLEN.out];exact hlt))
    obtain ⟨R,hR⟩:∃ R,nthO L k=R:=⟨_,rfl⟩
    rw [hR] at hkk hto ham hva
    have hr:wr.rangeAt b (o+k * 23) (RowT.enc R):=by
     rw [← hR,nthO_G]
     obtain ⟨b2,o2,e2,hr2,-⟩:=(HS.out.ext HX.out).g.at (by omega)
     injection e2 with e3
     injection e3 with e4 e5
     subst e4
     subst e5
     exact el_at hr2 (by rw [HLEN.out];exact hlt)
    have HRR:=zh hR
    have HTOW:=zh hto
    have HVAW:=zh hva
    have HWA:=zh ham
    obtain ⟨vo,hvo⟩:∃ v,Value.agg (opA R)=v:=⟨_,rfl⟩
    have HVO:=zh hvo
    obtain ⟨X,hX⟩:∃ X,wr.heap.size=X:=⟨_,rfl⟩
    have HXS:=zh hX
    clear hR hvo hX hto hva ham
    go_upto_region 8 with (first | (with_reducible refine wpList_loadG opP rfl (.tmp 19) rfl b (o+k * 23) rfl R vo HVO.out hr ?_) | ((with_reducible refine wpList_newG opP rfl (.tmp 5) (.tmp 20) rfl zeroO rfl R vo HVO.out rfl rfl ?_);intro W4 h4))
    have HXX:=zh (show Ext wr W4 from by rw [← h4.out];exact (Ext.refl wr).alloc' _)
    have HD:=zh (show Blk W4 X 69 (opA R) from by rw [← h4.out,← HXS.out];exact Blk.new wr 69 (opA R))
    have HB4:=zh (HB.out.ext HXX.out)
    have HX4:=zh (HX.out.trans HXX.out)
    have HO4:=zh (own_ext HO.out HXX.out)
    have k0:W4.cell? ⟨X,0,none⟩=some (.int .i64 R.k):=HD.out.cell 0
    rw [HXS.out]
    clear h4 hr t0 t1 t2 HB HX HO HXX i0 i1
    rcases (by omega:R.k=1 ∨ R.k=2 ∨ R.k=3 ∨ R.k=4 ∨ R.k=5 ∨ R.k=6) with hkk | hkk | hkk | hkk | hkk | hkk
    ·have HKK := zh hkk
     have b1:(R.k == 1)=true:=by rw [HKK.out];rfl
     have d1:decide (R.k=1)=true:=by rw [HKK.out];rfl
     have b2:(R.k == 2)=false:=by rw [HKK.out];rfl
     have d2:decide (R.k=2)=false:=by rw [HKK.out];rfl
     have b3:(R.k == 3)=false:=by rw [HKK.out];rfl
     have d3:decide (R.k=3)=false:=by rw [HKK.out];rfl
     have b4:(R.k == 4)=false:=by rw [HKK.out];rfl
     have d4:decide (R.k=4)=false:=by rw [HKK.out];rfl
     have b5:(R.k == 5)=false:=by rw [HKK.out];rfl
     have d5:decide (R.k=5)=false:=by rw [HKK.out];rfl
     have b6:(R.k == 6)=false:=by rw [HKK.out];rfl
     have d6:decide (R.k=6)=false:=by rw [HKK.out];rfl
     clear hkk
     have HEF:=zh (show effO (a:Int) sq L k=movC (balC (a:Int)) (balC R.tO) R.am from by unfold effO;rw [HRR.out,HKK.out];rfl)
     have HWX:=zh (show ceW (balC (a:Int)) from ce_ok (k:=1) (wfS ⟨by omega,by omega⟩) HACW.out)
     have HWY:=zh (show ceW (balC R.tO) from ce_ok (k:=1) (wfS ⟨by omega,by omega⟩) HTOW.out)
     go_upto_region 10 with fail
     refine wp_region_held_drew (S:=fun V=>Blk V w.heap.size 24 (txA (a:Int) sq (some ⟨b,o,none⟩) n c)∧Blk V X 69 (opA R)∧Ext w V) (by kernel_rfl) (⟨HB4.out.drew,HD.out.drew,HX4.out.trans ((Ext.refl _).drew')⟩) (fun hHeld=>?_)
     refine zt 0 hHeld ?_
     refine zt 1 hHeld ?_
     (refine zt 2 hHeld ?_ (hy:=by intro W hSW;have t0:=hSW.1.cell 0;have t1:=hSW.1.cell 1;have t2:=hSW.1.cell 2;have k1:W.cell? ⟨X,1,none⟩=some (.int .i64 R.tO):=hSW.2.1.cell 1;have k2:W.cell? ⟨X,2,none⟩=some (.int .i64 R.am):=hSW.2.1.cell 2;have k4:W.cell? ⟨X,4,none⟩=some (.int .i64 R.va):=hSW.2.1.cell 4;go_simp <;> with_reducible rfl))
     refine zt 4 hHeld ?_
     (refine zt 5 hHeld ?_ (hy:=by intro W hSW;have t0:=hSW.1.cell 0;have t1:=hSW.1.cell 1;have t2:=hSW.1.cell 2;have k1:W.cell? ⟨X,1,none⟩=some (.int .i64 R.tO):=hSW.2.1.cell 1;have k2:W.cell? ⟨X,2,none⟩=some (.int .i64 R.am):=hSW.2.1.cell 2;have k4:W.cell? ⟨X,4,none⟩=some (.int .i64 R.va):=hSW.2.1.cell 4;go_simp <;> with_reducible rfl))
     refine zu 6 (v:=.int .i64 (Go.Proofs.YtohmmcahpakokaaGreat.wr (-R.am))) hHeld ?_ (hy:=by refine .inl ⟨by rfl,fun V hSW=>?_⟩;have k2:V.cell? ⟨X,2,none⟩=some (.int .i64 R.am):=hSW.2.1.cell 2;go_simp;(try rfl))
     refine zt 8 hHeld ?_
     (refine zt 9 hHeld ?_ (hy:=by intro W hSW;have t0:=hSW.1.cell 0;have t1:=hSW.1.cell 1;have t2:=hSW.1.cell 2;have k1:W.cell? ⟨X,1,none⟩=some (.int .i64 R.tO):=hSW.2.1.cell 1;have k2:W.cell? ⟨X,2,none⟩=some (.int .i64 R.am):=hSW.2.1.cell 2;have k4:W.cell? ⟨X,4,none⟩=some (.int .i64 R.va):=hSW.2.1.cell 4;go_simp <;> with_reducible rfl))
     refine zt 11 hHeld ?_
     (refine zt 12 hHeld ?_ (hy:=by intro W hSW;have t0:=hSW.1.cell 0;have t1:=hSW.1.cell 1;have t2:=hSW.1.cell 2;have k1:W.cell? ⟨X,1,none⟩=some (.int .i64 R.tO):=hSW.2.1.cell 1;have k2:W.cell? ⟨X,2,none⟩=some (.int .i64 R.am):=hSW.2.1.cell 2;have k4:W.cell? ⟨X,4,none⟩=some (.int .i64 R.va):=hSW.2.1.cell 4;go_simp <;> with_reducible rfl))
     refine held_joint (VV 3 (fun v V=>v=.agg (ceA (balC (a:Int)))) (VV 7 (fun v V=>v=.agg (deA ⟨(balC (a:Int)),Go.Proofs.YtohmmcahpakokaaGreat.wr (-R.am)⟩)) (VV 10 (fun v V=>v=.agg (ceA (balC R.tO))) (VV 13 (fun v V=>v=.agg (deA ⟨(balC R.tO),R.am⟩)) (VV 14 (fun v V=>∃ g,v=.slice (some ⟨g,0,none⟩) 2 2∧Blk V g 34 (deA ⟨(balC (a:Int)),Go.Proofs.YtohmmcahpakokaaGreat.wr (-R.am)⟩ ++ deA ⟨(balC R.tO),R.am⟩)) (VN)))))) [(3,some 28),(7,some 32),(10,some 35),(13,some 38),(14,some 39)] (fuel:=2) (by kernel_rfl) (by kernel_rfl) (fun V V' h e=>⟨h.1.ext e,h.2.1.ext e,h.2.2.trans e⟩) (VV.ext (fun v w w' h e=>h) (VV.ext (fun v w w' h e=>h) (VV.ext (fun v w w' h e=>h) (VV.ext (fun v w w' h e=>h) (VV.ext (fun v w w' ⟨g,h1,h2⟩ e=>⟨g,h1,h2.ext e⟩) (VN.ext)))))) hHeld ?hm2 rfl ?hr2
     case hm2 =>
      refine Members.cons ?mm2_3 (Members.cons ?mm2_7 (Members.cons ?mm2_10 (Members.cons ?mm2_13 (Members.cons ?mm2_14 (Members.nil _)))))
      case mm2_3 =>
       refine zm [] (fun env W hE hS hD K hK=>?_)
       clear hD
       try simp only [layj]
       go_simp
       go_at_call 33
       refine (rBalance_any (a:Int) _).mono ?_
       rintro e w5 ⟨rfl,he5⟩
       have hk:=hK.out (.agg (ceA (balC (a:Int)))) _ (he5) (rfl)
       try simp only [layj] at hk
       exact hk
      case mm2_7 =>
       refine zm [(3,some 28)] (fun env W hE hS hD K hK=>?_)
       have h3:(fun v V=>v=.agg (ceA (balC (a:Int)))) (env 3) W:=hD (3,some 28) (by simp)
       clear hD
       try simp only [layj] at hK ⊢
       generalize env 3=x3 at h3 hK ⊢
       subst h3
       refine wp_val (exec_bld2 (vx:=.agg (ceA (balC (a:Int)))) (vy:=.int .i64 (Go.Proofs.YtohmmcahpakokaaGreat.wr (-R.am))) (.tmp 28) (.tmp 31) (by rfl) (by rfl) (by rfl) (run_bldDe (balC (a:Int)) (Go.Proofs.YtohmmcahpakokaaGreat.wr (-R.am)))) ?_
       have hk:=hK.out (.agg (deA ⟨(balC (a:Int)),Go.Proofs.YtohmmcahpakokaaGreat.wr (-R.am)⟩)) _ (Ext.refl _) (rfl)
       try simp only [layj] at hk
       exact hk
      case mm2_10 =>
       refine zm [] (fun env W hE hS hD K hK=>?_)
       clear hD
       try simp only [layj]
       go_simp
       go_at_call 33
       refine (rBalance_any R.tO _).mono ?_
       rintro e w5 ⟨rfl,he5⟩
       have hk:=hK.out (.agg (ceA (balC R.tO))) _ (he5) (rfl)
       try simp only [layj] at hk
       exact hk
      case mm2_13 =>
       refine zm [(10,some 35)] (fun env W hE hS hD K hK=>?_)
       have h10:(fun v V=>v=.agg (ceA (balC R.tO))) (env 10) W:=hD (10,some 35) (by simp)
       clear hD
       try simp only [layj] at hK ⊢
       generalize env 10=x10 at h10 hK ⊢
       subst h10
       refine wp_val (exec_bld2 (vx:=.agg (ceA (balC R.tO))) (vy:=.int .i64 (R.am)) (.tmp 35) (.tmp 37) (by rfl) (by rfl) (by rfl) (run_bldDe (balC R.tO) (R.am))) ?_
       have hk:=hK.out (.agg (deA ⟨(balC R.tO),R.am⟩)) _ (Ext.refl _) (rfl)
       try simp only [layj] at hk
       exact hk
      case mm2_14 =>
       refine zm [(7,some 32),(13,some 38)] (fun env W hE hS hD K hK=>?_)
       have h7:(fun v V=>v=.agg (deA ⟨(balC (a:Int)),Go.Proofs.YtohmmcahpakokaaGreat.wr (-R.am)⟩)) (env 7) W:=hD (7,some 32) (by simp)
       have h13:(fun v V=>v=.agg (deA ⟨(balC R.tO),R.am⟩)) (env 13) W:=hD (13,some 38) (by simp)
       clear hD
       try simp only [layj] at hK ⊢
       generalize env 7=x7 at h7 hK ⊢
       generalize env 13=x13 at h13 hK ⊢
       subst h7
       subst h13
       refine wp_bs2 (.tmp 32) (.tmp 38) rfl (by rfl) (by rfl) (run_buildDe2 ⟨(balC (a:Int)),Go.Proofs.YtohmmcahpakokaaGreat.wr (-R.am)⟩ ⟨(balC R.tO),R.am⟩ W) ?_
       intro g W2 h2
       have hk:=hK.out (.slice (some ⟨g,0,none⟩) 2 2) _ (h2.out.2) (⟨g,rfl,h2.out.1⟩)
       try simp only [layj] at hk
       exact hk
     case hr2 =>
      intro env W hE hS hV
      have h3:(fun v V=>v=.agg (ceA (balC (a:Int)))) (env 3) W:=hV (3,some 28) (by simp)
      have h7:(fun v V=>v=.agg (deA ⟨(balC (a:Int)),Go.Proofs.YtohmmcahpakokaaGreat.wr (-R.am)⟩)) (env 7) W:=hV (7,some 32) (by simp)
      have h10:(fun v V=>v=.agg (ceA (balC R.tO))) (env 10) W:=hV (10,some 35) (by simp)
      have h13:(fun v V=>v=.agg (deA ⟨(balC R.tO),R.am⟩)) (env 13) W:=hV (13,some 38) (by simp)
      have h14:(fun v V=>∃ g,v=.slice (some ⟨g,0,none⟩) 2 2∧Blk V g 34 (deA ⟨(balC (a:Int)),Go.Proofs.YtohmmcahpakokaaGreat.wr (-R.am)⟩ ++ deA ⟨(balC R.tO),R.am⟩)) (env 14) W:=hV (14,some 39) (by simp)
      clear hV
      try simp only [layj]
      generalize env 3=x3 at h3 ⊢
      generalize env 7=x7 at h7 ⊢
      generalize env 10=x10 at h10 ⊢
      generalize env 13=x13 at h13 ⊢
      generalize env 14=x14 at h14 ⊢
      subst h3
      subst h7
      subst h10
      subst h13
      obtain ⟨g8,rfl,hb8⟩:=h14
      have hHeld:=hS
      refine za 15 (fun K hK=>?_)
      (have ho3:=own_ext HO4.out (((Ext.refl _).drew').trans hE);have hs8:SlG W (some ⟨g8,0,none⟩) 2 2 (movC (balC (a:Int)) (balC R.tO) R.am):=mv_sl HWX.out HWY.out HWA.out hb8;refine step_appGG deE rfl (.tmp 25) (.tmp 39) rfl w.heap.size A' m d (gcs (effN (a:Int) sq L k)) (by rfl) ho3 (some ⟨g8,0,none⟩) 2 2 (gcs (movC (balC (a:Int)) (balC R.tO) R.am)) (by rfl) hs8.rd (by rw [gcs_length];rfl) (gcs_cell _) (by have:=HM.out;omega) (by have:=HM.out;omega) hHeld.2.2.size ?_;intro A5 c5 W5 ho5 hg5)
      refine hK.out _ _ (⟨hHeld.1.grown hg5 (own_other ho3 hHeld.1 (by decide)),hHeld.2.1.grown hg5 (own_other ho3 hHeld.2.1 (by decide)),Below.grown hHeld.2.2 hg5 hHeld.2.2.size (fun q hq=>(World.ownsRow.lt ho3 q hq).1)⟩) (fun hHeld=>?_)
      clear hK K
      try simp only [lays]
      refine zt 16 hHeld ?_
      refine wpAnyH_done (by kernel_rfl) ?_ _
      have HF:=zh (show W5.ownsRow w.heap.size 34 11 (.slice A5 (m+2) c5) (m+2) (gcs (effN (a:Int) sq L (k+1))) from by rw [effN_succ,HEF.out,gcs_append];exact ho5)
      have HBF:=zh hHeld.1
      have HXF:=zh hHeld.2.2
      clear hHeld hE hS ho5 hg5 ho3 hs8 hb8
      go_wp2_with fail
      go_roundw
      case rel=>exact ⟨k+1,A5,m+2,c5,rfl,by go_num,hlt,by have:=HM.out;omega,HF,HBF,HXF⟩
      case measure=>simp [intOf];omega
    ·have HKK := zh hkk
     have b1:(R.k == 1)=false:=by rw [HKK.out];rfl
     have d1:decide (R.k=1)=false:=by rw [HKK.out];rfl
     have b2:(R.k == 2)=true:=by rw [HKK.out];rfl
     have d2:decide (R.k=2)=true:=by rw [HKK.out];rfl
     have b3:(R.k == 3)=false:=by rw [HKK.out];rfl
     have d3:decide (R.k=3)=false:=by rw [HKK.out];rfl
     have b4:(R.k == 4)=false:=by rw [HKK.out];rfl
     have d4:decide (R.k=4)=false:=by rw [HKK.out];rfl
     have b5:(R.k == 5)=false:=by rw [HKK.out];rfl
     have d5:decide (R.k=5)=false:=by rw [HKK.out];rfl
     have b6:(R.k == 6)=false:=by rw [HKK.out];rfl
     have d6:decide (R.k=6)=false:=by rw [HKK.out];rfl
     clear hkk
     have HEF:=zh (show effO (a:Int) sq L k=movC (balC (a:Int)) (lckC (lockNm (a:Int) sq L (k:Int))) R.am from by unfold effO;rw [HRR.out,HKK.out];rfl)
     have HWX:=zh (show ceW (balC (a:Int)) from ce_ok (k:=1) (wfS ⟨by omega,by omega⟩) HACW.out)
     have HWY:=zh (show ceW (lckC (lockNm (a:Int) sq L (k:Int))) from ce_ok (k:=2) (i:=0) (wfS ⟨by omega,by omega⟩) (wfS ⟨by omega,by omega⟩))
     go_upto_region 12 with fail
     refine wp_region_held_drew (S:=fun V=>Blk V w.heap.size 24 (txA (a:Int) sq (some ⟨b,o,none⟩) n c)∧Blk V X 69 (opA R)∧Ext w V) (by kernel_rfl) (⟨HB4.out.drew,HD.out.drew,HX4.out.trans ((Ext.refl _).drew')⟩) (fun hHeld=>?_)
     refine zt 0 hHeld ?_
     refine zt 1 hHeld ?_
     (refine zt 2 hHeld ?_ (hy:=by intro W hSW;have t0:=hSW.1.cell 0;have t1:=hSW.1.cell 1;have t2:=hSW.1.cell 2;have k1:W.cell? ⟨X,1,none⟩=some (.int .i64 R.tO):=hSW.2.1.cell 1;have k2:W.cell? ⟨X,2,none⟩=some (.int .i64 R.am):=hSW.2.1.cell 2;have k4:W.cell? ⟨X,4,none⟩=some (.int .i64 R.va):=hSW.2.1.cell 4;go_simp <;> with_reducible rfl))
     refine zt 4 hHeld ?_
     (refine zt 5 hHeld ?_ (hy:=by intro W hSW;have t0:=hSW.1.cell 0;have t1:=hSW.1.cell 1;have t2:=hSW.1.cell 2;have k1:W.cell? ⟨X,1,none⟩=some (.int .i64 R.tO):=hSW.2.1.cell 1;have k2:W.cell? ⟨X,2,none⟩=some (.int .i64 R.am):=hSW.2.1.cell 2;have k4:W.cell? ⟨X,4,none⟩=some (.int .i64 R.va):=hSW.2.1.cell 4;go_simp <;> with_reducible rfl))
     refine zu 6 (v:=.int .i64 (Go.Proofs.YtohmmcahpakokaaGreat.wr (-R.am))) hHeld ?_ (hy:=by refine .inl ⟨by rfl,fun V hSW=>?_⟩;have k2:V.cell? ⟨X,2,none⟩=some (.int .i64 R.am):=hSW.2.1.cell 2;go_simp;(try rfl))
     (refine zt 8 hHeld ?_ (hy:=by intro W hSW;have t0:=hSW.1.cell 0;have t1:=hSW.1.cell 1;have t2:=hSW.1.cell 2;have k1:W.cell? ⟨X,1,none⟩=some (.int .i64 R.tO):=hSW.2.1.cell 1;have k2:W.cell? ⟨X,2,none⟩=some (.int .i64 R.am):=hSW.2.1.cell 2;have k4:W.cell? ⟨X,4,none⟩=some (.int .i64 R.va):=hSW.2.1.cell 4;go_simp <;> with_reducible rfl))
     refine zt 9 hHeld ?_
     refine zt 12 hHeld ?_
     (refine zt 13 hHeld ?_ (hy:=by intro W hSW;have t0:=hSW.1.cell 0;have t1:=hSW.1.cell 1;have t2:=hSW.1.cell 2;have k1:W.cell? ⟨X,1,none⟩=some (.int .i64 R.tO):=hSW.2.1.cell 1;have k2:W.cell? ⟨X,2,none⟩=some (.int .i64 R.am):=hSW.2.1.cell 2;have k4:W.cell? ⟨X,4,none⟩=some (.int .i64 R.va):=hSW.2.1.cell 4;go_simp <;> with_reducible rfl))
     refine held_joint (VV 3 (fun v V=>v=.agg (ceA (balC (a:Int)))) (VV 7 (fun v V=>v=.agg (deA ⟨(balC (a:Int)),Go.Proofs.YtohmmcahpakokaaGreat.wr (-R.am)⟩)) (VV 10 (fun v V=>v=.agg (nmc (lockNm (a:Int) sq L (k:Int)))) (VV 11 (fun v V=>v=.agg (ceA (lckC (lockNm (a:Int) sq L (k:Int))))) (VV 14 (fun v V=>v=.agg (deA ⟨(lckC (lockNm (a:Int) sq L (k:Int))),R.am⟩)) (VV 15 (fun v V=>∃ g,v=.slice (some ⟨g,0,none⟩) 2 2∧Blk V g 34 (deA ⟨(balC (a:Int)),Go.Proofs.YtohmmcahpakokaaGreat.wr (-R.am)⟩ ++ deA ⟨(lckC (lockNm (a:Int) sq L (k:Int))),R.am⟩)) (VN))))))) [(3,some 46),(7,some 50),(10,some 53),(11,some 54),(14,some 57),(15,some 58)] (fuel:=2) (by kernel_rfl) (by kernel_rfl) (fun V V' h e=>⟨h.1.ext e,h.2.1.ext e,h.2.2.trans e⟩) (VV.ext (fun v w w' h e=>h) (VV.ext (fun v w w' h e=>h) (VV.ext (fun v w w' h e=>h) (VV.ext (fun v w w' h e=>h) (VV.ext (fun v w w' h e=>h) (VV.ext (fun v w w' ⟨g,h1,h2⟩ e=>⟨g,h1,h2.ext e⟩) (VN.ext))))))) hHeld ?hm5 rfl ?hr5
     case hm5 =>
      refine Members.cons ?mm5_3 (Members.cons ?mm5_7 (Members.cons ?mm5_10 (Members.cons ?mm5_11 (Members.cons ?mm5_14 (Members.cons ?mm5_15 (Members.nil _))))))
      case mm5_3 =>
       refine zm [] (fun env W hE hS hD K hK=>?_)
       clear hD
       try simp only [layj]
       go_simp
       go_at_call 33
       refine (rBalance_any (a:Int) _).mono ?_
       rintro e w5 ⟨rfl,he5⟩
       have hk:=hK.out (.agg (ceA (balC (a:Int)))) _ (he5) (rfl)
       try simp only [layj] at hk
       exact hk
      case mm5_7 =>
       refine zm [(3,some 46)] (fun env W hE hS hD K hK=>?_)
       have h3:(fun v V=>v=.agg (ceA (balC (a:Int)))) (env 3) W:=hD (3,some 46) (by simp)
       clear hD
       try simp only [layj] at hK ⊢
       generalize env 3=x3 at h3 hK ⊢
       subst h3
       refine wp_val (exec_bld2 (vx:=.agg (ceA (balC (a:Int)))) (vy:=.int .i64 (Go.Proofs.YtohmmcahpakokaaGreat.wr (-R.am))) (.tmp 46) (.tmp 49) (by rfl) (by rfl) (by rfl) (run_bldDe (balC (a:Int)) (Go.Proofs.YtohmmcahpakokaaGreat.wr (-R.am)))) ?_
       have hk:=hK.out (.agg (deA ⟨(balC (a:Int)),Go.Proofs.YtohmmcahpakokaaGreat.wr (-R.am)⟩)) _ (Ext.refl _) (rfl)
       try simp only [layj] at hk
       exact hk
      case mm5_10 =>
       refine zm [] (fun env W hE hS hD K hK=>?_)
       clear hD
       try simp only [layj]
       go_simp
       go_at_call 48
       refine (refLockName_any (a:Int) sq (some ⟨b,o,none⟩) n c L (k:Int) _ (HS.out.ext hS.2.2)).mono ?_
       rintro e w5 ⟨rfl,he5⟩
       have hk:=hK.out (.agg (nmc (lockNm (a:Int) sq L (k:Int)))) _ (he5) (rfl)
       try simp only [layj] at hk
       exact hk
      case mm5_11 =>
       refine zm [(10,some 53)] (fun env W hE hS hD K hK=>?_)
       have h10:(fun v V=>v=.agg (nmc (lockNm (a:Int) sq L (k:Int)))) (env 10) W:=hD (10,some 53) (by simp)
       clear hD
       try simp only [layj] at hK ⊢
       generalize env 10=x10 at h10 hK ⊢
       subst h10
       go_simp
       go_at_call 47
       refine (rLockCell_any (lockNm (a:Int) sq L (k:Int)) _).mono ?_
       rintro e w5 ⟨rfl,he5⟩
       have hk:=hK.out (.agg (ceA (lckC (lockNm (a:Int) sq L (k:Int))))) _ (he5) (rfl)
       try simp only [layj] at hk
       exact hk
      case mm5_14 =>
       refine zm [(11,some 54)] (fun env W hE hS hD K hK=>?_)
       have h11:(fun v V=>v=.agg (ceA (lckC (lockNm (a:Int) sq L (k:Int))))) (env 11) W:=hD (11,some 54) (by simp)
       clear hD
       try simp only [layj] at hK ⊢
       generalize env 11=x11 at h11 hK ⊢
       subst h11
       refine wp_val (exec_bld2 (vx:=.agg (ceA (lckC (lockNm (a:Int) sq L (k:Int))))) (vy:=.int .i64 (R.am)) (.tmp 54) (.tmp 56) (by rfl) (by rfl) (by rfl) (run_bldDe (lckC (lockNm (a:Int) sq L (k:Int))) (R.am))) ?_
       have hk:=hK.out (.agg (deA ⟨(lckC (lockNm (a:Int) sq L (k:Int))),R.am⟩)) _ (Ext.refl _) (rfl)
       try simp only [layj] at hk
       exact hk
      case mm5_15 =>
       refine zm [(7,some 50),(14,some 57)] (fun env W hE hS hD K hK=>?_)
       have h7:(fun v V=>v=.agg (deA ⟨(balC (a:Int)),Go.Proofs.YtohmmcahpakokaaGreat.wr (-R.am)⟩)) (env 7) W:=hD (7,some 50) (by simp)
       have h14:(fun v V=>v=.agg (deA ⟨(lckC (lockNm (a:Int) sq L (k:Int))),R.am⟩)) (env 14) W:=hD (14,some 57) (by simp)
       clear hD
       try simp only [layj] at hK ⊢
       generalize env 7=x7 at h7 hK ⊢
       generalize env 14=x14 at h14 hK ⊢
       subst h7
       subst h14
       refine wp_bs2 (.tmp 50) (.tmp 57) rfl (by rfl) (by rfl) (run_buildDe2 ⟨(balC (a:Int)),Go.Proofs.YtohmmcahpakokaaGreat.wr (-R.am)⟩ ⟨(lckC (lockNm (a:Int) sq L (k:Int))),R.am⟩ W) ?_
       intro g W2 h2
       have hk:=hK.out (.slice (some ⟨g,0,none⟩) 2 2) _ (h2.out.2) (⟨g,rfl,h2.out.1⟩)
       try simp only [layj] at hk
       exact hk
     case hr5 =>
      intro env W hE hS hV
      have h3:(fun v V=>v=.agg (ceA (balC (a:Int)))) (env 3) W:=hV (3,some 46) (by simp)
      have h7:(fun v V=>v=.agg (deA ⟨(balC (a:Int)),Go.Proofs.YtohmmcahpakokaaGreat.wr (-R.am)⟩)) (env 7) W:=hV (7,some 50) (by simp)
      have h10:(fun v V=>v=.agg (nmc (lockNm (a:Int) sq L (k:Int)))) (env 10) W:=hV (10,some 53) (by simp)
      have h11:(fun v V=>v=.agg (ceA (lckC (lockNm (a:Int) sq L (k:Int))))) (env 11) W:=hV (11,some 54) (by simp)
      have h14:(fun v V=>v=.agg (deA ⟨(lckC (lockNm (a:Int) sq L (k:Int))),R.am⟩)) (env 14) W:=hV (14,some 57) (by simp)
      have h15:(fun v V=>∃ g,v=.slice (some ⟨g,0,none⟩) 2 2∧Blk V g 34 (deA ⟨(balC (a:Int)),Go.Proofs.YtohmmcahpakokaaGreat.wr (-R.am)⟩ ++ deA ⟨(lckC (lockNm (a:Int) sq L (k:Int))),R.am⟩)) (env 15) W:=hV (15,some 58) (by simp)
      clear hV
      try simp only [layj]
      generalize env 3=x3 at h3 ⊢
      generalize env 7=x7 at h7 ⊢
      generalize env 10=x10 at h10 ⊢
      generalize env 11=x11 at h11 ⊢
      generalize env 14=x14 at h14 ⊢
      generalize env 15=x15 at h15 ⊢
      subst h3
      subst h7
      subst h10
      subst h11
      subst h14
      obtain ⟨g8,rfl,hb8⟩:=h15
      have hHeld:=hS
      refine za 16 (fun K hK=>?_)
      (have ho3:=own_ext HO4.out (((Ext.refl _).drew').trans hE);have hs8:SlG W (some ⟨g8,0,none⟩) 2 2 (movC (balC (a:Int)) (lckC (lockNm (a:Int) sq L (k:Int))) R.am):=mv_sl HWX.out HWY.out HWA.out hb8;refine step_appGG deE rfl (.tmp 43) (.tmp 58) rfl w.heap.size A' m d (gcs (effN (a:Int) sq L k)) (by rfl) ho3 (some ⟨g8,0,none⟩) 2 2 (gcs (movC (balC (a:Int)) (lckC (lockNm (a:Int) sq L (k:Int))) R.am)) (by rfl) hs8.rd (by rw [gcs_length];rfl) (gcs_cell _) (by have:=HM.out;omega) (by have:=HM.out;omega) hHeld.2.2.size ?_;intro A5 c5 W5 ho5 hg5)
      refine hK.out _ _ (⟨hHeld.1.grown hg5 (own_other ho3 hHeld.1 (by decide)),hHeld.2.1.grown hg5 (own_other ho3 hHeld.2.1 (by decide)),Below.grown hHeld.2.2 hg5 hHeld.2.2.size (fun q hq=>(World.ownsRow.lt ho3 q hq).1)⟩) (fun hHeld=>?_)
      clear hK K
      try simp only [lays]
      refine zt 17 hHeld ?_
      refine wpAnyH_done (by kernel_rfl) ?_ _
      have HF:=zh (show W5.ownsRow w.heap.size 34 11 (.slice A5 (m+2) c5) (m+2) (gcs (effN (a:Int) sq L (k+1))) from by rw [effN_succ,HEF.out,gcs_append];exact ho5)
      have HBF:=zh hHeld.1
      have HXF:=zh hHeld.2.2
      clear hHeld hE hS ho5 hg5 ho3 hs8 hb8
      go_wp2_with fail
      go_roundw
      case rel=>exact ⟨k+1,A5,m+2,c5,rfl,by go_num,hlt,by have:=HM.out;omega,HF,HBF,HXF⟩
      case measure=>simp [intOf];omega
    ·have HKK := zh hkk
     have b1:(R.k == 1)=false:=by rw [HKK.out];rfl
     have d1:decide (R.k=1)=false:=by rw [HKK.out];rfl
     have b2:(R.k == 2)=false:=by rw [HKK.out];rfl
     have d2:decide (R.k=2)=false:=by rw [HKK.out];rfl
     have b3:(R.k == 3)=true:=by rw [HKK.out];rfl
     have d3:decide (R.k=3)=true:=by rw [HKK.out];rfl
     have b4:(R.k == 4)=false:=by rw [HKK.out];rfl
     have d4:decide (R.k=4)=false:=by rw [HKK.out];rfl
     have b5:(R.k == 5)=false:=by rw [HKK.out];rfl
     have d5:decide (R.k=5)=false:=by rw [HKK.out];rfl
     have b6:(R.k == 6)=false:=by rw [HKK.out];rfl
     have d6:decide (R.k=6)=false:=by rw [HKK.out];rfl
     clear hkk
     have HEF:=zh (show effO (a:Int) sq L k=movC (lckC R.lk) (balC R.tO) R.am from by unfold effO;rw [HRR.out,HKK.out];rfl)
     have HWX:=zh (show ceW (lckC R.lk) from ce_ok (k:=2) (i:=0) (wfS ⟨by omega,by omega⟩) (wfS ⟨by omega,by omega⟩))
     have HWY:=zh (show ceW (balC R.tO) from ce_ok (k:=1) (wfS ⟨by omega,by omega⟩) HTOW.out)
     go_upto_region 15 with fail
     refine wp_region_held_drew (S:=fun V=>Blk V w.heap.size 24 (txA (a:Int) sq (some ⟨b,o,none⟩) n c)∧Blk V X 69 (opA R)∧Ext w V) (by kernel_rfl) (⟨HB4.out.drew,HD.out.drew,HX4.out.trans ((Ext.refl _).drew')⟩) (fun hHeld=>?_)
     refine zt 0 hHeld ?_
     refine zt 1 hHeld ?_
     refine zu 2 (v:=.agg (nmc R.lk)) hHeld ?_ (hy:=by exact yields_loadG nmP (by rfl) (.tmp 64) (by rfl) X 5 (by rfl) R.lk _ rfl (fun V h=>op_lkG h.2.1))
     refine zt 4 hHeld ?_
     (refine zt 5 hHeld ?_ (hy:=by intro W hSW;have t0:=hSW.1.cell 0;have t1:=hSW.1.cell 1;have t2:=hSW.1.cell 2;have k1:W.cell? ⟨X,1,none⟩=some (.int .i64 R.tO):=hSW.2.1.cell 1;have k2:W.cell? ⟨X,2,none⟩=some (.int .i64 R.am):=hSW.2.1.cell 2;have k4:W.cell? ⟨X,4,none⟩=some (.int .i64 R.va):=hSW.2.1.cell 4;go_simp <;> with_reducible rfl))
     refine zu 6 (v:=.int .i64 (Go.Proofs.YtohmmcahpakokaaGreat.wr (-R.am))) hHeld ?_ (hy:=by refine .inl ⟨by rfl,fun V hSW=>?_⟩;have k2:V.cell? ⟨X,2,none⟩=some (.int .i64 R.am):=hSW.2.1.cell 2;go_simp;(try rfl))
     refine zt 8 hHeld ?_
     (refine zt 9 hHeld ?_ (hy:=by intro W hSW;have t0:=hSW.1.cell 0;have t1:=hSW.1.cell 1;have t2:=hSW.1.cell 2;have k1:W.cell? ⟨X,1,none⟩=some (.int .i64 R.tO):=hSW.2.1.cell 1;have k2:W.cell? ⟨X,2,none⟩=some (.int .i64 R.am):=hSW.2.1.cell 2;have k4:W.cell? ⟨X,4,none⟩=some (.int .i64 R.va):=hSW.2.1.cell 4;go_simp <;> with_reducible rfl))
     refine zt 11 hHeld ?_
     (refine zt 12 hHeld ?_ (hy:=by intro W hSW;have t0:=hSW.1.cell 0;have t1:=hSW.1.cell 1;have t2:=hSW.1.cell 2;have k1:W.cell? ⟨X,1,none⟩=some (.int .i64 R.tO):=hSW.2.1.cell 1;have k2:W.cell? ⟨X,2,none⟩=some (.int .i64 R.am):=hSW.2.1.cell 2;have k4:W.cell? ⟨X,4,none⟩=some (.int .i64 R.va):=hSW.2.1.cell 4;go_simp <;> with_reducible rfl))
     refine held_joint (VV 3 (fun v V=>v=.agg (ceA (lckC R.lk))) (VV 7 (fun v V=>v=.agg (deA ⟨(lckC R.lk),Go.Proofs.YtohmmcahpakokaaGreat.wr (-R.am)⟩)) (VV 10 (fun v V=>v=.agg (ceA (balC R.tO))) (VV 13 (fun v V=>v=.agg (deA ⟨(balC R.tO),R.am⟩)) (VV 14 (fun v V=>∃ g,v=.slice (some ⟨g,0,none⟩) 2 2∧Blk V g 34 (deA ⟨(lckC R.lk),Go.Proofs.YtohmmcahpakokaaGreat.wr (-R.am)⟩ ++ deA ⟨(balC R.tO),R.am⟩)) (VN)))))) [(3,some 66),(7,some 70),(10,some 73),(13,some 76),(14,some 77)] (fuel:=2) (by kernel_rfl) (by kernel_rfl) (fun V V' h e=>⟨h.1.ext e,h.2.1.ext e,h.2.2.trans e⟩) (VV.ext (fun v w w' h e=>h) (VV.ext (fun v w w' h e=>h) (VV.ext (fun v w w' h e=>h) (VV.ext (fun v w w' h e=>h) (VV.ext (fun v w w' ⟨g,h1,h2⟩ e=>⟨g,h1,h2.ext e⟩) (VN.ext)))))) hHeld ?hm4 rfl ?hr4
     case hm4 =>
      refine Members.cons ?mm4_3 (Members.cons ?mm4_7 (Members.cons ?mm4_10 (Members.cons ?mm4_13 (Members.cons ?mm4_14 (Members.nil _)))))
      case mm4_3 =>
       refine zm [] (fun env W hE hS hD K hK=>?_)
       clear hD
       try simp only [layj]
       go_simp
       go_at_call 47
       refine (rLockCell_any R.lk _).mono ?_
       rintro e w5 ⟨rfl,he5⟩
       have hk:=hK.out (.agg (ceA (lckC R.lk))) _ (he5) (rfl)
       try simp only [layj] at hk
       exact hk
      case mm4_7 =>
       refine zm [(3,some 66)] (fun env W hE hS hD K hK=>?_)
       have h3:(fun v V=>v=.agg (ceA (lckC R.lk))) (env 3) W:=hD (3,some 66) (by simp)
       clear hD
       try simp only [layj] at hK ⊢
       generalize env 3=x3 at h3 hK ⊢
       subst h3
       refine wp_val (exec_bld2 (vx:=.agg (ceA (lckC R.lk))) (vy:=.int .i64 (Go.Proofs.YtohmmcahpakokaaGreat.wr (-R.am))) (.tmp 66) (.tmp 69) (by rfl) (by rfl) (by rfl) (run_bldDe (lckC R.lk) (Go.Proofs.YtohmmcahpakokaaGreat.wr (-R.am)))) ?_
       have hk:=hK.out (.agg (deA ⟨(lckC R.lk),Go.Proofs.YtohmmcahpakokaaGreat.wr (-R.am)⟩)) _ (Ext.refl _) (rfl)
       try simp only [layj] at hk
       exact hk
      case mm4_10 =>
       refine zm [] (fun env W hE hS hD K hK=>?_)
       clear hD
       try simp only [layj]
       go_simp
       go_at_call 33
       refine (rBalance_any R.tO _).mono ?_
       rintro e w5 ⟨rfl,he5⟩
       have hk:=hK.out (.agg (ceA (balC R.tO))) _ (he5) (rfl)
       try simp only [layj] at hk
       exact hk
      case mm4_13 =>
       refine zm [(10,some 73)] (fun env W hE hS hD K hK=>?_)
       have h10:(fun v V=>v=.agg (ceA (balC R.tO))) (env 10) W:=hD (10,some 73) (by simp)
       clear hD
       try simp only [layj] at hK ⊢
       generalize env 10=x10 at h10 hK ⊢
       subst h10
       refine wp_val (exec_bld2 (vx:=.agg (ceA (balC R.tO))) (vy:=.int .i64 (R.am)) (.tmp 73) (.tmp 75) (by rfl) (by rfl) (by rfl) (run_bldDe (balC R.tO) (R.am))) ?_
       have hk:=hK.out (.agg (deA ⟨(balC R.tO),R.am⟩)) _ (Ext.refl _) (rfl)
       try simp only [layj] at hk
       exact hk
      case mm4_14 =>
       refine zm [(7,some 70),(13,some 76)] (fun env W hE hS hD K hK=>?_)
       have h7:(fun v V=>v=.agg (deA ⟨(lckC R.lk),Go.Proofs.YtohmmcahpakokaaGreat.wr (-R.am)⟩)) (env 7) W:=hD (7,some 70) (by simp)
       have h13:(fun v V=>v=.agg (deA ⟨(balC R.tO),R.am⟩)) (env 13) W:=hD (13,some 76) (by simp)
       clear hD
       try simp only [layj] at hK ⊢
       generalize env 7=x7 at h7 hK ⊢
       generalize env 13=x13 at h13 hK ⊢
       subst h7
       subst h13
       refine wp_bs2 (.tmp 70) (.tmp 76) rfl (by rfl) (by rfl) (run_buildDe2 ⟨(lckC R.lk),Go.Proofs.YtohmmcahpakokaaGreat.wr (-R.am)⟩ ⟨(balC R.tO),R.am⟩ W) ?_
       intro g W2 h2
       have hk:=hK.out (.slice (some ⟨g,0,none⟩) 2 2) _ (h2.out.2) (⟨g,rfl,h2.out.1⟩)
       try simp only [layj] at hk
       exact hk
     case hr4 =>
      intro env W hE hS hV
      have h3:(fun v V=>v=.agg (ceA (lckC R.lk))) (env 3) W:=hV (3,some 66) (by simp)
      have h7:(fun v V=>v=.agg (deA ⟨(lckC R.lk),Go.Proofs.YtohmmcahpakokaaGreat.wr (-R.am)⟩)) (env 7) W:=hV (7,some 70) (by simp)
      have h10:(fun v V=>v=.agg (ceA (balC R.tO))) (env 10) W:=hV (10,some 73) (by simp)
      have h13:(fun v V=>v=.agg (deA ⟨(balC R.tO),R.am⟩)) (env 13) W:=hV (13,some 76) (by simp)
      have h14:(fun v V=>∃ g,v=.slice (some ⟨g,0,none⟩) 2 2∧Blk V g 34 (deA ⟨(lckC R.lk),Go.Proofs.YtohmmcahpakokaaGreat.wr (-R.am)⟩ ++ deA ⟨(balC R.tO),R.am⟩)) (env 14) W:=hV (14,some 77) (by simp)
      clear hV
      try simp only [layj]
      generalize env 3=x3 at h3 ⊢
      generalize env 7=x7 at h7 ⊢
      generalize env 10=x10 at h10 ⊢
      generalize env 13=x13 at h13 ⊢
      generalize env 14=x14 at h14 ⊢
      subst h3
      subst h7
      subst h10
      subst h13
      obtain ⟨g8,rfl,hb8⟩:=h14
      have hHeld:=hS
      refine za 15 (fun K hK=>?_)
      (have ho3:=own_ext HO4.out (((Ext.refl _).drew').trans hE);have hs8:SlG W (some ⟨g8,0,none⟩) 2 2 (movC (lckC R.lk) (balC R.tO) R.am):=mv_sl HWX.out HWY.out HWA.out hb8;refine step_appGG deE rfl (.tmp 63) (.tmp 77) rfl w.heap.size A' m d (gcs (effN (a:Int) sq L k)) (by rfl) ho3 (some ⟨g8,0,none⟩) 2 2 (gcs (movC (lckC R.lk) (balC R.tO) R.am)) (by rfl) hs8.rd (by rw [gcs_length];rfl) (gcs_cell _) (by have:=HM.out;omega) (by have:=HM.out;omega) hHeld.2.2.size ?_;intro A5 c5 W5 ho5 hg5)
      refine hK.out _ _ (⟨hHeld.1.grown hg5 (own_other ho3 hHeld.1 (by decide)),hHeld.2.1.grown hg5 (own_other ho3 hHeld.2.1 (by decide)),Below.grown hHeld.2.2 hg5 hHeld.2.2.size (fun q hq=>(World.ownsRow.lt ho3 q hq).1)⟩) (fun hHeld=>?_)
      clear hK K
      try simp only [lays]
      refine zt 16 hHeld ?_
      refine wpAnyH_done (by kernel_rfl) ?_ _
      have HF:=zh (show W5.ownsRow w.heap.size 34 11 (.slice A5 (m+2) c5) (m+2) (gcs (effN (a:Int) sq L (k+1))) from by rw [effN_succ,HEF.out,gcs_append];exact ho5)
      have HBF:=zh hHeld.1
      have HXF:=zh hHeld.2.2
      clear hHeld hE hS ho5 hg5 ho3 hs8 hb8
      go_wp2_with fail
      go_roundw
      case rel=>exact ⟨k+1,A5,m+2,c5,rfl,by go_num,hlt,by have:=HM.out;omega,HF,HBF,HXF⟩
      case measure=>simp [intOf];omega
    ·have HKK := zh hkk
     have b1:(R.k == 1)=false:=by rw [HKK.out];rfl
     have d1:decide (R.k=1)=false:=by rw [HKK.out];rfl
     have b2:(R.k == 2)=false:=by rw [HKK.out];rfl
     have d2:decide (R.k=2)=false:=by rw [HKK.out];rfl
     have b3:(R.k == 3)=false:=by rw [HKK.out];rfl
     have d3:decide (R.k=3)=false:=by rw [HKK.out];rfl
     have b4:(R.k == 4)=true:=by rw [HKK.out];rfl
     have d4:decide (R.k=4)=true:=by rw [HKK.out];rfl
     have b5:(R.k == 5)=false:=by rw [HKK.out];rfl
     have d5:decide (R.k=5)=false:=by rw [HKK.out];rfl
     have b6:(R.k == 6)=false:=by rw [HKK.out];rfl
     have d6:decide (R.k=6)=false:=by rw [HKK.out];rfl
     clear hkk
     have HEF:=zh (show effO (a:Int) sq L k=movC (lckC R.lk) (balC R.tO) R.am from by unfold effO;rw [HRR.out,HKK.out];rfl)
     have HWX:=zh (show ceW (lckC R.lk) from ce_ok (k:=2) (i:=0) (wfS ⟨by omega,by omega⟩) (wfS ⟨by omega,by omega⟩))
     have HWY:=zh (show ceW (balC R.tO) from ce_ok (k:=1) (wfS ⟨by omega,by omega⟩) HTOW.out)
     go_upto_region 15 with fail
     refine wp_region_held_drew (S:=fun V=>Blk V w.heap.size 24 (txA (a:Int) sq (some ⟨b,o,none⟩) n c)∧Blk V X 69 (opA R)∧Ext w V) (by kernel_rfl) (⟨HB4.out.drew,HD.out.drew,HX4.out.trans ((Ext.refl _).drew')⟩) (fun hHeld=>?_)
     refine zt 0 hHeld ?_
     refine zt 1 hHeld ?_
     refine zu 2 (v:=.agg (nmc R.lk)) hHeld ?_ (hy:=by exact yields_loadG nmP (by rfl) (.tmp 64) (by rfl) X 5 (by rfl) R.lk _ rfl (fun V h=>op_lkG h.2.1))
     refine zt 4 hHeld ?_
     (refine zt 5 hHeld ?_ (hy:=by intro W hSW;have t0:=hSW.1.cell 0;have t1:=hSW.1.cell 1;have t2:=hSW.1.cell 2;have k1:W.cell? ⟨X,1,none⟩=some (.int .i64 R.tO):=hSW.2.1.cell 1;have k2:W.cell? ⟨X,2,none⟩=some (.int .i64 R.am):=hSW.2.1.cell 2;have k4:W.cell? ⟨X,4,none⟩=some (.int .i64 R.va):=hSW.2.1.cell 4;go_simp <;> with_reducible rfl))
     refine zu 6 (v:=.int .i64 (Go.Proofs.YtohmmcahpakokaaGreat.wr (-R.am))) hHeld ?_ (hy:=by refine .inl ⟨by rfl,fun V hSW=>?_⟩;have k2:V.cell? ⟨X,2,none⟩=some (.int .i64 R.am):=hSW.2.1.cell 2;go_simp;(try rfl))
     refine zt 8 hHeld ?_
     (refine zt 9 hHeld ?_ (hy:=by intro W hSW;have t0:=hSW.1.cell 0;have t1:=hSW.1.cell 1;have t2:=hSW.1.cell 2;have k1:W.cell? ⟨X,1,none⟩=some (.int .i64 R.tO):=hSW.2.1.cell 1;have k2:W.cell? ⟨X,2,none⟩=some (.int .i64 R.am):=hSW.2.1.cell 2;have k4:W.cell? ⟨X,4,none⟩=some (.int .i64 R.va):=hSW.2.1.cell 4;go_simp <;> with_reducible rfl))
     refine zt 11 hHeld ?_
     (refine zt 12 hHeld ?_ (hy:=by intro W hSW;have t0:=hSW.1.cell 0;have t1:=hSW.1.cell 1;have t2:=hSW.1.cell 2;have k1:W.cell? ⟨X,1,none⟩=some (.int .i64 R.tO):=hSW.2.1.cell 1;have k2:W.cell? ⟨X,2,none⟩=some (.int .i64 R.am):=hSW.2.1.cell 2;have k4:W.cell? ⟨X,4,none⟩=some (.int .i64 R.va):=hSW.2.1.cell 4;go_simp <;> with_reducible rfl))
     refine held_joint (VV 3 (fun v V=>v=.agg (ceA (lckC R.lk))) (VV 7 (fun v V=>v=.agg (deA ⟨(lckC R.lk),Go.Proofs.YtohmmcahpakokaaGreat.wr (-R.am)⟩)) (VV 10 (fun v V=>v=.agg (ceA (balC R.tO))) (VV 13 (fun v V=>v=.agg (deA ⟨(balC R.tO),R.am⟩)) (VV 14 (fun v V=>∃ g,v=.slice (some ⟨g,0,none⟩) 2 2∧Blk V g 34 (deA ⟨(lckC R.lk),Go.Proofs.YtohmmcahpakokaaGreat.wr (-R.am)⟩ ++ deA ⟨(balC R.tO),R.am⟩)) (VN)))))) [(3,some 66),(7,some 70),(10,some 73),(13,some 76),(14,some 77)] (fuel:=2) (by kernel_rfl) (by kernel_rfl) (fun V V' h e=>⟨h.1.ext e,h.2.1.ext e,h.2.2.trans e⟩) (VV.ext (fun v w w' h e=>h) (VV.ext (fun v w w' h e=>h) (VV.ext (fun v w w' h e=>h) (VV.ext (fun v w w' h e=>h) (VV.ext (fun v w w' ⟨g,h1,h2⟩ e=>⟨g,h1,h2.ext e⟩) (VN.ext)))))) hHeld ?hm4 rfl ?hr4
     case hm4 =>
      refine Members.cons ?mm4_3 (Members.cons ?mm4_7 (Members.cons ?mm4_10 (Members.cons ?mm4_13 (Members.cons ?mm4_14 (Members.nil _)))))
      case mm4_3 =>
       refine zm [] (fun env W hE hS hD K hK=>?_)
       clear hD
       try simp only [layj]
       go_simp
       go_at_call 47
       refine (rLockCell_any R.lk _).mono ?_
       rintro e w5 ⟨rfl,he5⟩
       have hk:=hK.out (.agg (ceA (lckC R.lk))) _ (he5) (rfl)
       try simp only [layj] at hk
       exact hk
      case mm4_7 =>
       refine zm [(3,some 66)] (fun env W hE hS hD K hK=>?_)
       have h3:(fun v V=>v=.agg (ceA (lckC R.lk))) (env 3) W:=hD (3,some 66) (by simp)
       clear hD
       try simp only [layj] at hK ⊢
       generalize env 3=x3 at h3 hK ⊢
       subst h3
       refine wp_val (exec_bld2 (vx:=.agg (ceA (lckC R.lk))) (vy:=.int .i64 (Go.Proofs.YtohmmcahpakokaaGreat.wr (-R.am))) (.tmp 66) (.tmp 69) (by rfl) (by rfl) (by rfl) (run_bldDe (lckC R.lk) (Go.Proofs.YtohmmcahpakokaaGreat.wr (-R.am)))) ?_
       have hk:=hK.out (.agg (deA ⟨(lckC R.lk),Go.Proofs.YtohmmcahpakokaaGreat.wr (-R.am)⟩)) _ (Ext.refl _) (rfl)
       try simp only [layj] at hk
       exact hk
      case mm4_10 =>
       refine zm [] (fun env W hE hS hD K hK=>?_)
       clear hD
       try simp only [layj]
       go_simp
       go_at_call 33
       refine (rBalance_any R.tO _).mono ?_
       rintro e w5 ⟨rfl,he5⟩
       have hk:=hK.out (.agg (ceA (balC R.tO))) _ (he5) (rfl)
       try simp only [layj] at hk
       exact hk
      case mm4_13 =>
       refine zm [(10,some 73)] (fun env W hE hS hD K hK=>?_)
       have h10:(fun v V=>v=.agg (ceA (balC R.tO))) (env 10) W:=hD (10,some 73) (by simp)
       clear hD
       try simp only [layj] at hK ⊢
       generalize env 10=x10 at h10 hK ⊢
       subst h10
       refine wp_val (exec_bld2 (vx:=.agg (ceA (balC R.tO))) (vy:=.int .i64 (R.am)) (.tmp 73) (.tmp 75) (by rfl) (by rfl) (by rfl) (run_bldDe (balC R.tO) (R.am))) ?_
       have hk:=hK.out (.agg (deA ⟨(balC R.tO),R.am⟩)) _ (Ext.refl _) (rfl)
       try simp only [layj] at hk
       exact hk
      case mm4_14 =>
       refine zm [(7,some 70),(13,some 76)] (fun env W hE hS hD K hK=>?_)
       have h7:(fun v V=>v=.agg (deA ⟨(lckC R.lk),Go.Proofs.YtohmmcahpakokaaGreat.wr (-R.am)⟩)) (env 7) W:=hD (7,some 70) (by simp)
       have h13:(fun v V=>v=.agg (deA ⟨(balC R.tO),R.am⟩)) (env 13) W:=hD (13,some 76) (by simp)
       clear hD
       try simp only [layj] at hK ⊢
       generalize env 7=x7 at h7 hK ⊢
       generalize env 13=x13 at h13 hK ⊢
       subst h7
       subst h13
       refine wp_bs2 (.tmp 70) (.tmp 76) rfl (by rfl) (by rfl) (run_buildDe2 ⟨(lckC R.lk),Go.Proofs.YtohmmcahpakokaaGreat.wr (-R.am)⟩ ⟨(balC R.tO),R.am⟩ W) ?_
       intro g W2 h2
       have hk:=hK.out (.slice (some ⟨g,0,none⟩) 2 2) _ (h2.out.2) (⟨g,rfl,h2.out.1⟩)
       try simp only [layj] at hk
       exact hk
     case hr4 =>
      intro env W hE hS hV
      have h3:(fun v V=>v=.agg (ceA (lckC R.lk))) (env 3) W:=hV (3,some 66) (by simp)
      have h7:(fun v V=>v=.agg (deA ⟨(lckC R.lk),Go.Proofs.YtohmmcahpakokaaGreat.wr (-R.am)⟩)) (env 7) W:=hV (7,some 70) (by simp)
      have h10:(fun v V=>v=.agg (ceA (balC R.tO))) (env 10) W:=hV (10,some 73) (by simp)
      have h13:(fun v V=>v=.agg (deA ⟨(balC R.tO),R.am⟩)) (env 13) W:=hV (13,some 76) (by simp)
      have h14:(fun v V=>∃ g,v=.slice (some ⟨g,0,none⟩) 2 2∧Blk V g 34 (deA ⟨(lckC R.lk),Go.Proofs.YtohmmcahpakokaaGreat.wr (-R.am)⟩ ++ deA ⟨(balC R.tO),R.am⟩)) (env 14) W:=hV (14,some 77) (by simp)
      clear hV
      try simp only [layj]
      generalize env 3=x3 at h3 ⊢
      generalize env 7=x7 at h7 ⊢
      generalize env 10=x10 at h10 ⊢
      generalize env 13=x13 at h13 ⊢
      generalize env 14=x14 at h14 ⊢
      subst h3
      subst h7
      subst h10
      subst h13
      obtain ⟨g8,rfl,hb8⟩:=h14
      have hHeld:=hS
      refine za 15 (fun K hK=>?_)
      (have ho3:=own_ext HO4.out (((Ext.refl _).drew').trans hE);have hs8:SlG W (some ⟨g8,0,none⟩) 2 2 (movC (lckC R.lk) (balC R.tO) R.am):=mv_sl HWX.out HWY.out HWA.out hb8;refine step_appGG deE rfl (.tmp 63) (.tmp 77) rfl w.heap.size A' m d (gcs (effN (a:Int) sq L k)) (by rfl) ho3 (some ⟨g8,0,none⟩) 2 2 (gcs (movC (lckC R.lk) (balC R.tO) R.am)) (by rfl) hs8.rd (by rw [gcs_length];rfl) (gcs_cell _) (by have:=HM.out;omega) (by have:=HM.out;omega) hHeld.2.2.size ?_;intro A5 c5 W5 ho5 hg5)
      refine hK.out _ _ (⟨hHeld.1.grown hg5 (own_other ho3 hHeld.1 (by decide)),hHeld.2.1.grown hg5 (own_other ho3 hHeld.2.1 (by decide)),Below.grown hHeld.2.2 hg5 hHeld.2.2.size (fun q hq=>(World.ownsRow.lt ho3 q hq).1)⟩) (fun hHeld=>?_)
      clear hK K
      try simp only [lays]
      refine zt 16 hHeld ?_
      refine wpAnyH_done (by kernel_rfl) ?_ _
      have HF:=zh (show W5.ownsRow w.heap.size 34 11 (.slice A5 (m+2) c5) (m+2) (gcs (effN (a:Int) sq L (k+1))) from by rw [effN_succ,HEF.out,gcs_append];exact ho5)
      have HBF:=zh hHeld.1
      have HXF:=zh hHeld.2.2
      clear hHeld hE hS ho5 hg5 ho3 hs8 hb8
      go_wp2_with fail
      go_roundw
      case rel=>exact ⟨k+1,A5,m+2,c5,rfl,by go_num,hlt,by have:=HM.out;omega,HF,HBF,HXF⟩
      case measure=>simp [intOf];omega
    ·have HKK := zh hkk
     have b1:(R.k == 1)=false:=by rw [HKK.out];rfl
     have d1:decide (R.k=1)=false:=by rw [HKK.out];rfl
     have b2:(R.k == 2)=false:=by rw [HKK.out];rfl
     have d2:decide (R.k=2)=false:=by rw [HKK.out];rfl
     have b3:(R.k == 3)=false:=by rw [HKK.out];rfl
     have d3:decide (R.k=3)=false:=by rw [HKK.out];rfl
     have b4:(R.k == 4)=false:=by rw [HKK.out];rfl
     have d4:decide (R.k=4)=false:=by rw [HKK.out];rfl
     have b5:(R.k == 5)=true:=by rw [HKK.out];rfl
     have d5:decide (R.k=5)=true:=by rw [HKK.out];rfl
     have b6:(R.k == 6)=false:=by rw [HKK.out];rfl
     have d6:decide (R.k=6)=false:=by rw [HKK.out];rfl
     clear hkk
     have HEF:=zh (show effO (a:Int) sq L k=movC (balC (a:Int)) (stkC R.va) R.am from by unfold effO;rw [HRR.out,HKK.out];rfl)
     have HWX:=zh (show ceW (balC (a:Int)) from ce_ok (k:=1) (wfS ⟨by omega,by omega⟩) HACW.out)
     have HWY:=zh (show ceW (stkC R.va) from ce_ok (k:=3) (wfS ⟨by omega,by omega⟩) HVAW.out)
     go_upto_region 17 with fail
     refine wp_region_held_drew (S:=fun V=>Blk V w.heap.size 24 (txA (a:Int) sq (some ⟨b,o,none⟩) n c)∧Blk V X 69 (opA R)∧Ext w V) (by kernel_rfl) (⟨HB4.out.drew,HD.out.drew,HX4.out.trans ((Ext.refl _).drew')⟩) (fun hHeld=>?_)
     refine zt 0 hHeld ?_
     refine zt 1 hHeld ?_
     (refine zt 2 hHeld ?_ (hy:=by intro W hSW;have t0:=hSW.1.cell 0;have t1:=hSW.1.cell 1;have t2:=hSW.1.cell 2;have k1:W.cell? ⟨X,1,none⟩=some (.int .i64 R.tO):=hSW.2.1.cell 1;have k2:W.cell? ⟨X,2,none⟩=some (.int .i64 R.am):=hSW.2.1.cell 2;have k4:W.cell? ⟨X,4,none⟩=some (.int .i64 R.va):=hSW.2.1.cell 4;go_simp <;> with_reducible rfl))
     refine zt 4 hHeld ?_
     (refine zt 5 hHeld ?_ (hy:=by intro W hSW;have t0:=hSW.1.cell 0;have t1:=hSW.1.cell 1;have t2:=hSW.1.cell 2;have k1:W.cell? ⟨X,1,none⟩=some (.int .i64 R.tO):=hSW.2.1.cell 1;have k2:W.cell? ⟨X,2,none⟩=some (.int .i64 R.am):=hSW.2.1.cell 2;have k4:W.cell? ⟨X,4,none⟩=some (.int .i64 R.va):=hSW.2.1.cell 4;go_simp <;> with_reducible rfl))
     refine zu 6 (v:=.int .i64 (Go.Proofs.YtohmmcahpakokaaGreat.wr (-R.am))) hHeld ?_ (hy:=by refine .inl ⟨by rfl,fun V hSW=>?_⟩;have k2:V.cell? ⟨X,2,none⟩=some (.int .i64 R.am):=hSW.2.1.cell 2;go_simp;(try rfl))
     refine zt 8 hHeld ?_
     (refine zt 9 hHeld ?_ (hy:=by intro W hSW;have t0:=hSW.1.cell 0;have t1:=hSW.1.cell 1;have t2:=hSW.1.cell 2;have k1:W.cell? ⟨X,1,none⟩=some (.int .i64 R.tO):=hSW.2.1.cell 1;have k2:W.cell? ⟨X,2,none⟩=some (.int .i64 R.am):=hSW.2.1.cell 2;have k4:W.cell? ⟨X,4,none⟩=some (.int .i64 R.va):=hSW.2.1.cell 4;go_simp <;> with_reducible rfl))
     refine zt 11 hHeld ?_
     (refine zt 12 hHeld ?_ (hy:=by intro W hSW;have t0:=hSW.1.cell 0;have t1:=hSW.1.cell 1;have t2:=hSW.1.cell 2;have k1:W.cell? ⟨X,1,none⟩=some (.int .i64 R.tO):=hSW.2.1.cell 1;have k2:W.cell? ⟨X,2,none⟩=some (.int .i64 R.am):=hSW.2.1.cell 2;have k4:W.cell? ⟨X,4,none⟩=some (.int .i64 R.va):=hSW.2.1.cell 4;go_simp <;> with_reducible rfl))
     refine held_joint (VV 3 (fun v V=>v=.agg (ceA (balC (a:Int)))) (VV 7 (fun v V=>v=.agg (deA ⟨(balC (a:Int)),Go.Proofs.YtohmmcahpakokaaGreat.wr (-R.am)⟩)) (VV 10 (fun v V=>v=.agg (ceA (stkC R.va))) (VV 13 (fun v V=>v=.agg (deA ⟨(stkC R.va),R.am⟩)) (VV 14 (fun v V=>∃ g,v=.slice (some ⟨g,0,none⟩) 2 2∧Blk V g 34 (deA ⟨(balC (a:Int)),Go.Proofs.YtohmmcahpakokaaGreat.wr (-R.am)⟩ ++ deA ⟨(stkC R.va),R.am⟩)) (VN)))))) [(3,some 84),(7,some 88),(10,some 91),(13,some 94),(14,some 95)] (fuel:=2) (by kernel_rfl) (by kernel_rfl) (fun V V' h e=>⟨h.1.ext e,h.2.1.ext e,h.2.2.trans e⟩) (VV.ext (fun v w w' h e=>h) (VV.ext (fun v w w' h e=>h) (VV.ext (fun v w w' h e=>h) (VV.ext (fun v w w' h e=>h) (VV.ext (fun v w w' ⟨g,h1,h2⟩ e=>⟨g,h1,h2.ext e⟩) (VN.ext)))))) hHeld ?hm3 rfl ?hr3
     case hm3 =>
      refine Members.cons ?mm3_3 (Members.cons ?mm3_7 (Members.cons ?mm3_10 (Members.cons ?mm3_13 (Members.cons ?mm3_14 (Members.nil _)))))
      case mm3_3 =>
       refine zm [] (fun env W hE hS hD K hK=>?_)
       clear hD
       try simp only [layj]
       go_simp
       go_at_call 33
       refine (rBalance_any (a:Int) _).mono ?_
       rintro e w5 ⟨rfl,he5⟩
       have hk:=hK.out (.agg (ceA (balC (a:Int)))) _ (he5) (rfl)
       try simp only [layj] at hk
       exact hk
      case mm3_7 =>
       refine zm [(3,some 84)] (fun env W hE hS hD K hK=>?_)
       have h3:(fun v V=>v=.agg (ceA (balC (a:Int)))) (env 3) W:=hD (3,some 84) (by simp)
       clear hD
       try simp only [layj] at hK ⊢
       generalize env 3=x3 at h3 hK ⊢
       subst h3
       refine wp_val (exec_bld2 (vx:=.agg (ceA (balC (a:Int)))) (vy:=.int .i64 (Go.Proofs.YtohmmcahpakokaaGreat.wr (-R.am))) (.tmp 84) (.tmp 87) (by rfl) (by rfl) (by rfl) (run_bldDe (balC (a:Int)) (Go.Proofs.YtohmmcahpakokaaGreat.wr (-R.am)))) ?_
       have hk:=hK.out (.agg (deA ⟨(balC (a:Int)),Go.Proofs.YtohmmcahpakokaaGreat.wr (-R.am)⟩)) _ (Ext.refl _) (rfl)
       try simp only [layj] at hk
       exact hk
      case mm3_10 =>
       refine zm [] (fun env W hE hS hD K hK=>?_)
       clear hD
       try simp only [layj]
       go_simp
       go_at_call 49
       refine (rStake_any R.va _).mono ?_
       rintro e w5 ⟨rfl,he5⟩
       have hk:=hK.out (.agg (ceA (stkC R.va))) _ (he5) (rfl)
       try simp only [layj] at hk
       exact hk
      case mm3_13 =>
       refine zm [(10,some 91)] (fun env W hE hS hD K hK=>?_)
       have h10:(fun v V=>v=.agg (ceA (stkC R.va))) (env 10) W:=hD (10,some 91) (by simp)
       clear hD
       try simp only [layj] at hK ⊢
       generalize env 10=x10 at h10 hK ⊢
       subst h10
       refine wp_val (exec_bld2 (vx:=.agg (ceA (stkC R.va))) (vy:=.int .i64 (R.am)) (.tmp 91) (.tmp 93) (by rfl) (by rfl) (by rfl) (run_bldDe (stkC R.va) (R.am))) ?_
       have hk:=hK.out (.agg (deA ⟨(stkC R.va),R.am⟩)) _ (Ext.refl _) (rfl)
       try simp only [layj] at hk
       exact hk
      case mm3_14 =>
       refine zm [(7,some 88),(13,some 94)] (fun env W hE hS hD K hK=>?_)
       have h7:(fun v V=>v=.agg (deA ⟨(balC (a:Int)),Go.Proofs.YtohmmcahpakokaaGreat.wr (-R.am)⟩)) (env 7) W:=hD (7,some 88) (by simp)
       have h13:(fun v V=>v=.agg (deA ⟨(stkC R.va),R.am⟩)) (env 13) W:=hD (13,some 94) (by simp)
       clear hD
       try simp only [layj] at hK ⊢
       generalize env 7=x7 at h7 hK ⊢
       generalize env 13=x13 at h13 hK ⊢
       subst h7
       subst h13
       refine wp_bs2 (.tmp 88) (.tmp 94) rfl (by rfl) (by rfl) (run_buildDe2 ⟨(balC (a:Int)),Go.Proofs.YtohmmcahpakokaaGreat.wr (-R.am)⟩ ⟨(stkC R.va),R.am⟩ W) ?_
       intro g W2 h2
       have hk:=hK.out (.slice (some ⟨g,0,none⟩) 2 2) _ (h2.out.2) (⟨g,rfl,h2.out.1⟩)
       try simp only [layj] at hk
       exact hk
     case hr3 =>
      intro env W hE hS hV
      have h3:(fun v V=>v=.agg (ceA (balC (a:Int)))) (env 3) W:=hV (3,some 84) (by simp)
      have h7:(fun v V=>v=.agg (deA ⟨(balC (a:Int)),Go.Proofs.YtohmmcahpakokaaGreat.wr (-R.am)⟩)) (env 7) W:=hV (7,some 88) (by simp)
      have h10:(fun v V=>v=.agg (ceA (stkC R.va))) (env 10) W:=hV (10,some 91) (by simp)
      have h13:(fun v V=>v=.agg (deA ⟨(stkC R.va),R.am⟩)) (env 13) W:=hV (13,some 94) (by simp)
      have h14:(fun v V=>∃ g,v=.slice (some ⟨g,0,none⟩) 2 2∧Blk V g 34 (deA ⟨(balC (a:Int)),Go.Proofs.YtohmmcahpakokaaGreat.wr (-R.am)⟩ ++ deA ⟨(stkC R.va),R.am⟩)) (env 14) W:=hV (14,some 95) (by simp)
      clear hV
      try simp only [layj]
      generalize env 3=x3 at h3 ⊢
      generalize env 7=x7 at h7 ⊢
      generalize env 10=x10 at h10 ⊢
      generalize env 13=x13 at h13 ⊢
      generalize env 14=x14 at h14 ⊢
      subst h3
      subst h7
      subst h10
      subst h13
      obtain ⟨g8,rfl,hb8⟩:=h14
      have hHeld:=hS
      refine za 15 (fun K hK=>?_)
      (have ho3:=own_ext HO4.out (((Ext.refl _).drew').trans hE);have hs8:SlG W (some ⟨g8,0,none⟩) 2 2 (movC (balC (a:Int)) (stkC R.va) R.am):=mv_sl HWX.out HWY.out HWA.out hb8;refine step_appGG deE rfl (.tmp 81) (.tmp 95) rfl w.heap.size A' m d (gcs (effN (a:Int) sq L k)) (by rfl) ho3 (some ⟨g8,0,none⟩) 2 2 (gcs (movC (balC (a:Int)) (stkC R.va) R.am)) (by rfl) hs8.rd (by rw [gcs_length];rfl) (gcs_cell _) (by have:=HM.out;omega) (by have:=HM.out;omega) hHeld.2.2.size ?_;intro A5 c5 W5 ho5 hg5)
      refine hK.out _ _ (⟨hHeld.1.grown hg5 (own_other ho3 hHeld.1 (by decide)),hHeld.2.1.grown hg5 (own_other ho3 hHeld.2.1 (by decide)),Below.grown hHeld.2.2 hg5 hHeld.2.2.size (fun q hq=>(World.ownsRow.lt ho3 q hq).1)⟩) (fun hHeld=>?_)
      clear hK K
      try simp only [lays]
      refine zt 16 hHeld ?_
      refine wpAnyH_done (by kernel_rfl) ?_ _
      have HF:=zh (show W5.ownsRow w.heap.size 34 11 (.slice A5 (m+2) c5) (m+2) (gcs (effN (a:Int) sq L (k+1))) from by rw [effN_succ,HEF.out,gcs_append];exact ho5)
      have HBF:=zh hHeld.1
      have HXF:=zh hHeld.2.2
      clear hHeld hE hS ho5 hg5 ho3 hs8 hb8
      go_wp2_with fail
      go_roundw
      case rel=>exact ⟨k+1,A5,m+2,c5,rfl,by go_num,hlt,by have:=HM.out;omega,HF,HBF,HXF⟩
      case measure=>simp [intOf];omega
    ·have HKK := zh hkk
     have b1:(R.k == 1)=false:=by rw [HKK.out];rfl
     have d1:decide (R.k=1)=false:=by rw [HKK.out];rfl
     have b2:(R.k == 2)=false:=by rw [HKK.out];rfl
     have d2:decide (R.k=2)=false:=by rw [HKK.out];rfl
     have b3:(R.k == 3)=false:=by rw [HKK.out];rfl
     have d3:decide (R.k=3)=false:=by rw [HKK.out];rfl
     have b4:(R.k == 4)=false:=by rw [HKK.out];rfl
     have d4:decide (R.k=4)=false:=by rw [HKK.out];rfl
     have b5:(R.k == 5)=false:=by rw [HKK.out];rfl
     have d5:decide (R.k=5)=false:=by rw [HKK.out];rfl
     have b6:(R.k == 6)=true:=by rw [HKK.out];rfl
     have d6:decide (R.k=6)=true:=by rw [HKK.out];rfl
     clear hkk
     have HEF:=zh (show effO (a:Int) sq L k=[] from by unfold effO;rw [HRR.out,HKK.out];rfl)
     have HF:=zh (show W4.ownsRow w.heap.size 34 11 (.slice A' m d) m (gcs (effN (a:Int) sq L (k+1))) from by rw [effN_succ,HEF.out,List.append_nil];exact HO4.out)
     go_wp2_with fail
     go_roundw
     case rel=>exact ⟨k+1,A',m,d,rfl,by go_num,hlt,by have:=HM.out;omega,HF,HB4,HX4⟩
     case measure=>simp [intOf];omega
   ·obtain rfl : n = k := by omega
    have i1:¬ (n:Int) < (n:Int):=by omega
    go_wp2_with fail
    go_ret
    exact ⟨A',m,d,rfl,by rw [HT.out,HLEN.out];exact HO.out,by rw [HT.out,HLEN.out];exact effN_wf HVT.out n (by rw [HLEN.out];exact Nat.le_refl _),HX.out⟩
end Go.Proofs.YtohmmcahpakokaaGreat
