/- exec.begin. -/
import Derived.Shelf.SlSortCmp.WholeK
import Derived.Shelf.SlSortCmp.NoneTotal
import Derived.Test.YtohmmcahpakokaaGreatD33
import Derived.Test.YtohmmcahpakokaaGreatD39
set_option maxRecDepth 100000
set_option maxHeartbeats 8000000
set_option linter.unusedVariables false
set_option linter.unusedSimpArgs false
namespace Go.Proofs.YtohmmcahpakokaaGreat
section
open Go.RowKit
attribute [local go_sem ↓] Go.wp_at_zero Go.wp_at_succ
theorem begin_any (N Z:Int) (B1:Option Addr) (m1 d1:Nat) (B2:Option Addr) (m2 d2:Nat) (B3:Option Addr) (m3 d3:Nat) (PN:List UInt64) (BL:List Int) (s:StR) (T:TxR) (w:World)
    (hs:s.ok w) (hT:T.ok w) (hN:SlG w B2 m2 d2 PN) (hB:SlZ w B3 m3 d3 BL) (hm1:m1≤9223372036854775807) :
    Calls Tryz.prog 50 #[.agg (genC N Z B1 m1 d1 B2 m2 d2 B3 m3 d3),.agg (ssA s),.agg (tA T)] w fun e w'=>e=.returned (.int .i64 (bgnE (vldG N Z m1 m2 m3 BL) m2 (vSg (nthG PN T.ac.toNat) T) s.V T.ac T.sq T.L))∧Ext w w':=by
  obtain ⟨ac,sq,A,n,c,S,m,d,L,sig⟩:=T
  have HS:=zh hs
  have HOPS:=zh hT.ops
  have HT:=zh hT
  have HZ:=zh hB
  have HNN:=zh hN
  have hm2:m2≤9223372036854775807:=Nat.le_trans hN.le hN.cap
  have hq2:s.n2≤9223372036854775807:=Nat.le_trans hs.s2.le hs.s2.cap
  have HQL:=zh (show s.V.Q.length=s.n2 from hs.s2.len)
  show Calls _ _ _ _ fun e w'=>e=.returned (.int .i64 (bgnE (vldG N Z m1 m2 m3 BL) m2 (vSg (nthG PN ac.toNat) ⟨ac,sq,A,n,c,S,m,d,L,sig⟩) s.V ac sq L))∧Ext w w'
  have HV:=zh (fun (V:World) (e:Ext w V)=>validate_any ac sq A n c L V (HOPS.out.ext e))
  have HG:=zh (fun (V:World) (e:Ext w V)=>valGenesis_any N Z B1 m1 d1 B2 m2 d2 B3 m3 d3 BL V (HZ.out.ext e) hm1 hm2)
  obtain ⟨W,hW⟩:∃ W,((w.alloc (.cells (genC N Z B1 m1 d1 B2 m2 d2 B3 m3 d3) 40)).alloc (.cells (ssA s) 44)).alloc (.cells (tA ⟨ac,sq,A,n,c,S,m,d,L,sig⟩) 47)=W:=⟨_,rfl⟩
  have HB:=zh (show Blk W w.heap.size 40 (genC N Z B1 m1 d1 B2 m2 d2 B3 m3 d3) from by rw [← hW];exact ((Blk.new w 40 (genC N Z B1 m1 d1 B2 m2 d2 B3 m3 d3)).alloc _).alloc _)
  have HC:=zh (show Blk W (w.heap.size+1) 44 (ssA s) from by rw [← hW];exact Blk.alloc (Blk.newAt _ _ _ _ (by simp)) _)
  have HD:=zh (show Blk W (w.heap.size+2) 47 (tA ⟨ac,sq,A,n,c,S,m,d,L,sig⟩) from by rw [← hW];exact Blk.newAt _ _ _ _ (by simp))
  have HX:=zh (show Ext w W from by rw [← hW];exact (((Ext.refl w).alloc' _).alloc' _).alloc' _)
  have t0:=HD.out.cell 0
  have t1:=HD.out.cell 1
  have t2:=HD.out.cell 2
  clear hs hT hN hB
  cases hv:vTx ac sq L with
  | false =>
    have HSP:=zh (show bgnE (vldG N Z m1 m2 m3 BL) m2 (vSg (nthG PN ac.toNat) ⟨ac,sq,A,n,c,S,m,d,L,sig⟩) s.V ac sq L=1 from if_pos (.inl hv))
    rw [hv] at HV
    have HV:=zh (show ∀ (V:World),Ext w V→Calls Tryz.prog 44 #[.agg (txA ac sq A n c)] V (fun e w'=>e=.returned (.int .i64 1)∧Ext V w') from HV.out)
    clear hv
    go_enter Tryz.func50,Tryz.ntmps50
    go_wp2_with fail
    refine (HV.out _ HX.out).mono ?_
    rintro e w5 ⟨rfl,he5⟩
    have HX5:=zh (HX.out.trans he5)
    clear he5 t0 t1 t2
    go_wp2_with fail
    go_ret
    exact ⟨by rw [HSP.out];rfl,HX5.out⟩
  | true =>
    rw [hv] at HV
    have HV:=zh (show ∀ (V:World),Ext w V→Calls Tryz.prog 44 #[.agg (txA ac sq A n c)] V (fun e w'=>e=.returned (.int .i64 0)∧Ext V w') from HV.out)
    obtain ⟨⟨a1,a2,a3,a4,a5,a6⟩,-⟩:=vTx_of hv
    obtain ⟨a,rfl⟩:∃ a:Nat,ac=(a:Int):=⟨ac.toNat,by omega⟩
    have HVT:=zh hv
    clear hv
    cases hg:vldG N Z m1 m2 m3 BL with
    | false =>
      have HSP:=zh (show bgnE false m2 (vSg (nthG PN (a:Int).toNat) ⟨(a:Int),sq,A,n,c,S,m,d,L,sig⟩) s.V (a:Int) sq L=1 from if_pos (.inr (.inl rfl)))
      rw [hg] at HG
      have HG:=zh (show ∀ (V:World),Ext w V→Calls Tryz.prog 88 #[.agg (genC N Z B1 m1 d1 B2 m2 d2 B3 m3 d3)] V (fun e w'=>e=.returned (.int .i64 1)∧Ext V w') from HG.out)
      clear hg
      go_enter Tryz.func50,Tryz.ntmps50
      go_wp2_with fail
      refine (HV.out _ HX.out).mono ?_
      rintro e w5 ⟨rfl,he5⟩
      have HX5:=zh (HX.out.trans he5)
      have HB5:=zh (HB.out.ext he5)
      have g0:=HB5.out.cell 0
      have g1:=HB5.out.cell 1
      have g2:=HB5.out.cell 2
      have g3:=HB5.out.cell 3
      have g4:=HB5.out.cell 4
      clear he5 t0 t1 t2
      go_wp2_with fail
      refine (HG.out _ HX5.out).mono ?_
      rintro e w6 ⟨rfl,he6⟩
      have HX6:=zh (HX5.out.trans he6)
      clear he6 g0 g1 g2 g3 g4
      go_wp2_with fail
      go_ret
      exact ⟨by rw [HSP.out];rfl,HX6.out⟩
    | true =>
      rw [hg] at HG
      have HG:=zh (show ∀ (V:World),Ext w V→Calls Tryz.prog 88 #[.agg (genC N Z B1 m1 d1 B2 m2 d2 B3 m3 d3)] V (fun e w'=>e=.returned (.int .i64 0)∧Ext V w') from HG.out)
      clear hg
      by_cases h1:m2≤a
      · have HSP := zh (show bgnE true m2 (vSg (nthG PN (a : Int).toNat) ⟨(a : Int), sq, A, n, c, S, m, d, L, sig⟩) s.V (a : Int) sq L = 1 from if_pos (.inr (.inr (.inl (by omega)))))
        have i1:(m2:Int)≤(a:Int):=by omega
        go_enter Tryz.func50,Tryz.ntmps50
        go_wp2_with fail
        refine (HV.out _ HX.out).mono ?_
        rintro e w5 ⟨rfl,he5⟩
        have HX5:=zh (HX.out.trans he5)
        have HB5:=zh (HB.out.ext he5)
        have HC5:=zh (HC.out.ext he5)
        have HD5:=zh (HD.out.ext he5)
        have g0:=HB5.out.cell 0
        have g1:=HB5.out.cell 1
        have g2:=HB5.out.cell 2
        have g3:=HB5.out.cell 3
        have g4:=HB5.out.cell 4
        clear he5 t0 t1 t2
        go_wp2_with fail
        refine (HG.out _ HX5.out).mono ?_
        rintro e w6 ⟨rfl,he6⟩
        have HX6:=zh (HX5.out.trans he6)
        have HB6:=zh (HB5.out.ext he6)
        have HC6:=zh (HC5.out.ext he6)
        have HD6:=zh (HD5.out.ext he6)
        have g3:=HB6.out.cell 3
        obtain ⟨q0,q1,q2,q3,q4⟩:=sF HC6.out
        clear he6 g0 g1 g2 g4 HB5 HC5 HD5 HX5
        go_wp2_with fail
        go_ret
        exact ⟨by rw [HSP.out];rfl,HX6.out⟩
      have i1:¬ (m2:Int)≤(a:Int):=by omega
      by_cases h2:s.n2=m2
      · subst h2
        obtain ⟨gb,go,rfl,hrow,-⟩:=HNN.out.at (by omega)
        obtain ⟨qb,qo,hqa,hqr,-⟩:=HS.out.s2.at (by omega)
        have HQB:=zh hqa
        obtain ⟨pk,hpk⟩:∃ pk,nthG PN a=pk:=⟨_,rfl⟩
        have HPK:=zh (fun (V:World) (e:Ext w V)=>show V.rangeAt gb (go+a * 8) (RowT.enc pk) from by
          rw [← hpk]
          obtain ⟨b2,o2,e2,hr2,-⟩:=(HNN.out.ext e).at (by omega)
          injection e2 with e3
          injection e3 with e4 e5
          subst e4
          subst e5
          exact el_at (k:=a) hr2 (by rw [HNN.out.len];omega))
        have HQC:=zh (fun (V:World) (e:Ext w V)=>show V.cell? ⟨qb,qo+a,none⟩=some (.int .i64 (nthG s.Q a)) from by
          obtain ⟨b2,o2,e2,hr2,-⟩:=(HS.out.ext e).s2.at (by omega)
          rw [HQB.out] at e2
          injection e2 with e3
          injection e3 with e4 e5
          subst e4
          subst e5
          have h5:V.rangeAt qb (qo+a * 1) (RowT.enc (nthG s.Q a)):=el_at hr2 (by rw [HS.out.s2.len];omega)
          have h7:=h5 0 _ rfl
          rwa [show qo+a * 1+0=qo+a from by omega] at h7)
        have HVER:=zh (fun (V:World) (e:Ext w V)=>txVerify_any pk ⟨(a:Int),sq,A,n,c,S,m,d,L,sig⟩ V (HT.out.ext e))
        have HAPP:=zh (fun (V:World) (e:Ext w V)=>stApplied_any s (txNm (a:Int) sq L) V (HS.out.ext e))
        obtain ⟨sg,hsg⟩:∃ sg,vSg pk ⟨(a:Int),sq,A,n,c,S,m,d,L,sig⟩=sg:=⟨_,rfl⟩
        obtain ⟨ap,hap⟩:∃ ap,decide (txNm (a:Int) sq L ∈ s.P)=ap:=⟨_,rfl⟩
        rw [hsg] at HVER
        rw [hap] at HAPP
        have HSG:=zh hsg
        have HAP:=zh hap
        have HBE:=zh (show bgnE true s.n2 (vSg (nthG PN a) ⟨(a:Int),sq,A,n,c,S,m,d,L,sig⟩) s.V (a:Int) sq L=if sg=false then 8 else if ap=true then 7 else if sq ≠ nthG s.Q a then 101 else 0 from by
          rw [hpk,hsg]
          unfold bgnE
          rw [if_neg (by rintro (h | h | h | h); · rw [HVT.out] at h; cases h
                         · cases h
                         · omega
                         exact h HQL.out)]
          rw [← hap]
          simp only [decide_eq_true_eq]
          rfl)
        have i2:(a:Int) < (s.n2:Int):=by omega
        have i3:(0:Int)≤(a:Int):=by omega
        clear hsg hap hpk hrow hqa hqr
        go_enter Tryz.func50,Tryz.ntmps50
        go_wp2_with fail
        refine (HV.out _ HX.out).mono ?_
        rintro e w5 ⟨rfl,he5⟩
        have HX5:=zh (HX.out.trans he5)
        have HB5:=zh (HB.out.ext he5)
        have HC5:=zh (HC.out.ext he5)
        have HD5:=zh (HD.out.ext he5)
        have g0:=HB5.out.cell 0
        have g1:=HB5.out.cell 1
        have g2:=HB5.out.cell 2
        have g3:=HB5.out.cell 3
        have g4:=HB5.out.cell 4
        clear he5 t0 t1 t2
        go_wp2_with fail
        refine (HG.out _ HX5.out).mono ?_
        rintro e w6 ⟨rfl,he6⟩
        have HX6:=zh (HX5.out.trans he6)
        have HB6:=zh (HB5.out.ext he6)
        have HC6:=zh (HC5.out.ext he6)
        have HD6:=zh (HD5.out.ext he6)
        have g3:=HB6.out.cell 3
        obtain ⟨q0,q1,q2,q3,q4⟩:=sF HC6.out
        clear he6 g0 g1 g2 g4 HB5 HC5 HD5 HX5
        go_upto_region 4 with fail
        clear g3 q0 q1 q2 q3 q4
        refine wp_region_held_drew (S:=fun V=>Blk V w.heap.size 40 (genC N Z B1 m1 d1 (some ⟨gb,go,none⟩) s.n2 d2 B3 m3 d3)∧Blk V (w.heap.size+1) 44 (ssA s)∧Blk V (w.heap.size+2) 47 (tA ⟨(a:Int),sq,A,n,c,S,m,d,L,sig⟩)∧Ext w V) (by kernel_rfl) (⟨HB6.out.drew,HC6.out.drew,HD6.out.drew,HX6.out.trans ((Ext.refl _).drew')⟩) (fun jj=>?_)
        refine zz0 [0,1,2,3] ?_;repeat first | refine zz1 ?_ (hy:=by intro W jS;obtain ⟨q0,q1,q2,q3,q4⟩:=sF jS.2.1;have g3:=jS.1.cell 3;have t0:=jS.2.2.1.cell 0;have t1:=jS.2.2.1.cell 1;have t2:=jS.2.2.1.cell 2;have t3:=jS.2.2.1.cell 3;go_simp <;> with_reducible rfl) | refine zz2 ?_ | refine zz9 ?_
        refine zu 4 (v:=.agg (nmc pk)) jj ?_ (hy:=by exact yL nmP (by rfl) (.tmp 41) rfl gb (go+a * 8) rfl pk _ rfl (fun V h=>HPK.out V h.2.2.2))
        refine zz0 [5] ?_;repeat first | refine zz1 ?_ (hy:=by intro W jS;obtain ⟨q0,q1,q2,q3,q4⟩:=sF jS.2.1;have g3:=jS.1.cell 3;have t0:=jS.2.2.1.cell 0;have t1:=jS.2.2.1.cell 1;have t2:=jS.2.2.1.cell 2;have t3:=jS.2.2.1.cell 3;go_simp <;> with_reducible rfl) | refine zz2 ?_ | refine zz9 ?_
        refine zzj (VE 6 (.bool sg) VN) [(6,some 44)] 2 (fun V V' h e=>⟨h.1.ext e,h.2.1.ext e,h.2.2.1.ext e,h.2.2.2.trans e⟩) (ve VN.ext) (zzc ?_ zzn) ?_
        · refine zzp fun W hE hS K hK => ?_
          go_simp
          go_at_call 89
          refine (HVER.out _ hS.2.2.2).mono ?_
          rintro e w5 ⟨rfl,he5⟩
          exact zzK (hK.out (.bool sg) _ (he5) (rfl))
        intro env W hE hS hV
        obtain ⟨h6,-⟩:=zzV hV
        clear hV
        simp only [layj,h6]
        clear h6
        have jj:=hS
        refine zzr [7,8] ?_
        refine wpAnyH_done (by kernel_rfl) ?_ _
        have HX7:=zh jj.2.2.2
        have HB7:=zh jj.1
        have HC7:=zh jj.2.1
        have HD7:=zh jj.2.2.1
        clear jj hE hS HB6 HC6 HD6 HX6
        cases sg
        · go_wp2_with fail
          go_ret
          exact ⟨by first | (rw [HBE.out];rfl) | (rw [Int.toNat_natCast,HBE.out];rfl),HX7.out⟩
        go_upto_region 6 with fail
        refine wp_region_held_drew (S:=fun V=>Blk V w.heap.size 40 (genC N Z B1 m1 d1 (some ⟨gb,go,none⟩) s.n2 d2 B3 m3 d3)∧Blk V (w.heap.size+1) 44 (ssA s)∧Blk V (w.heap.size+2) 47 (tA ⟨(a:Int),sq,A,n,c,S,m,d,L,sig⟩)∧Ext w V) (by kernel_rfl) (⟨HB7.out.drew,HC7.out.drew,HD7.out.drew,HX7.out.trans ((Ext.refl _).drew')⟩) (fun jj=>?_)
        refine zz0 [0,1,2] ?_;repeat first | refine zz1 ?_ (hy:=by intro W jS;obtain ⟨q0,q1,q2,q3,q4⟩:=sF jS.2.1;have g3:=jS.1.cell 3;have t0:=jS.2.2.1.cell 0;have t1:=jS.2.2.1.cell 1;have t2:=jS.2.2.1.cell 2;have t3:=jS.2.2.1.cell 3;go_simp <;> with_reducible rfl) | refine zz2 ?_ | refine zz9 ?_
        refine held_joint (VV 3 (fun v V=>v=.agg (nmc (txNm (a:Int) sq L))) (VV 4 (fun v V=>v=.bool ap) (VN))) [(3,some 50),(4,some 51)] (fuel:=1) (by kernel_rfl) (by kernel_rfl) (fun V V' h e=>⟨h.1.ext e,h.2.1.ext e,h.2.2.1.ext e,h.2.2.2.trans e⟩) (VV.ext (fun v w w' h e=>h) (VV.ext (fun v w w' h e=>h) (VN.ext))) jj ?hm2 rfl ?hr2
        case hm2 =>
          refine Members.cons ?mm2_3 (Members.cons ?mm2_4 (Members.nil _))
          case mm2_3 =>
            refine zm [] (fun env W hE hS hD K hK=>?_)
            clear hD
            try simp only [layj]
            go_simp
            go_at_call 56
            refine (txName_any (a:Int) sq A n c L _ (HOPS.out.ext hS.2.2.2)).mono ?_
            rintro e w5 ⟨rfl,he5⟩
            have hk:=hK.out (.agg (nmc (txNm (a:Int) sq L))) _ (he5) (rfl)
            try simp only [layj] at hk
            exact hk
          case mm2_4 =>
            refine zm [(3,some 50)] (fun env W hE hS hD K hK=>?_)
            have h3:(fun v V=>v=.agg (nmc (txNm (a:Int) sq L))) (env 3) W:=hD (3,some 50) (by simp)
            clear hD
            try simp only [layj] at hK ⊢
            generalize env 3=x3 at h3 hK ⊢
            subst h3
            go_simp
            go_at_call 63
            refine (HAPP.out _ hS.2.2.2).mono ?_
            rintro e w5 ⟨rfl,he5⟩
            have hk:=hK.out (.bool ap) _ (he5) (rfl)
            try simp only [layj] at hk
            exact hk
        case hr2 =>
          intro env W hE hS hV
          have h3:(fun v V=>v=.agg (nmc (txNm (a:Int) sq L))) (env 3) W:=hV (3,some 50) (by simp)
          have h4:(fun v V=>v=.bool ap) (env 4) W:=hV (4,some 51) (by simp)
          clear hV
          try simp only [layj]
          generalize env 3=x3 at h3 ⊢
          generalize env 4=x4 at h4 ⊢
          subst h3
          subst h4
          have jj:=hS
          refine zt 5 jj ?_
          refine wpAnyH_done (by kernel_rfl) ?_ _
          have HX8:=zh jj.2.2.2
          have HB8:=zh jj.1
          have HC8:=zh jj.2.1
          have HD8:=zh jj.2.2.1
          clear jj hE hS HB7 HC7 HD7 HX7
          cases ap
          · go_upto_region 8 with fail
            by_cases h8:sq=nthG s.Q a
            · have HSP := zh (show (if sq ≠ nthG s.Q a then (101 : Int) else 0) = 0 from if_neg (fun h => h h8))
              have b8:(sq != nthG s.Q a)=false:=by rw [h8];exact bne_self_eq_false _
              clear h8
              refine wp_region_held_drew (S:=fun V=>Blk V w.heap.size 40 (genC N Z B1 m1 d1 (some ⟨gb,go,none⟩) s.n2 d2 B3 m3 d3)∧Blk V (w.heap.size+1) 44 (ssA s)∧Blk V (w.heap.size+2) 47 (tA ⟨(a:Int),sq,A,n,c,S,m,d,L,sig⟩)∧Ext w V) (by kernel_rfl) (⟨HB8.out.drew,HC8.out.drew,HD8.out.drew,HX8.out.trans ((Ext.refl _).drew')⟩) (fun jj=>?_)
              refine zz0 [0,1,2,3,4,5,6,7,8,9] ?_;repeat first | refine zz1 ?_ (hy:=by intro W jS;have q1:W.cell? ⟨w.heap.size+1,1,none⟩=some (.slice (some ⟨qb,qo,none⟩) s.n2 s.c2):=(by rw [← HQB.out];exact jS.2.1.cell 1);have t1:=jS.2.2.1.cell 1;have c9:=HQC.out W jS.2.2.2;go_simp <;> with_reducible rfl) | refine zz2 ?_ | refine zz9 ?_
              refine wpAnyH_done (by kernel_rfl) ?_ _
              have HX9:=zh jj.2.2.2
              clear jj
              go_wp2_with fail
              go_ret
              exact ⟨by (first | rw [HBE.out] | rw [Int.toNat_natCast,HBE.out]);show _=Ending.returned (.int .i64 (if sq ≠ nthG s.Q a then (101:Int) else 0));rw [HSP.out];rfl,HX9.out⟩
            have HSP:=zh (show (if sq ≠ nthG s.Q a then (101:Int) else 0)=101 from if_pos h8)
            have b8:(sq != nthG s.Q a)=true:=bne_iff_ne.2 h8
            clear h8
            refine wp_region_held_drew (S:=fun V=>Blk V w.heap.size 40 (genC N Z B1 m1 d1 (some ⟨gb,go,none⟩) s.n2 d2 B3 m3 d3)∧Blk V (w.heap.size+1) 44 (ssA s)∧Blk V (w.heap.size+2) 47 (tA ⟨(a:Int),sq,A,n,c,S,m,d,L,sig⟩)∧Ext w V) (by kernel_rfl) (⟨HB8.out.drew,HC8.out.drew,HD8.out.drew,HX8.out.trans ((Ext.refl _).drew')⟩) (fun jj=>?_)
            refine zz0 [0,1,2,3,4,5,6,7,8,9] ?_;repeat first | refine zz1 ?_ (hy:=by intro W jS;have q1:W.cell? ⟨w.heap.size+1,1,none⟩=some (.slice (some ⟨qb,qo,none⟩) s.n2 s.c2):=(by rw [← HQB.out];exact jS.2.1.cell 1);have t1:=jS.2.2.1.cell 1;have c9:=HQC.out W jS.2.2.2;go_simp <;> with_reducible rfl) | refine zz2 ?_ | refine zz9 ?_
            refine wpAnyH_done (by kernel_rfl) ?_ _
            have HX9:=zh jj.2.2.2
            clear jj
            go_wp2_with fail
            go_ret
            exact ⟨by (first | rw [HBE.out] | rw [Int.toNat_natCast,HBE.out]);show _=Ending.returned (.int .i64 (if sq ≠ nthG s.Q a then (101:Int) else 0));rw [HSP.out];rfl,HX9.out⟩
          go_wp2_with fail
          go_ret
          exact ⟨by rw [HBE.out];rfl,HX8.out⟩
      have HSP:=zh (show bgnE true m2 (vSg (nthG PN (a:Int).toNat) ⟨(a:Int),sq,A,n,c,S,m,d,L,sig⟩) s.V (a:Int) sq L=1 from if_pos (.inr (.inr (.inr (by rw [HQL.out];exact h2)))))
      have i2:((s.n2:Int) != (m2:Int))=true:=bne_iff_ne.2 (by omega)
      go_enter Tryz.func50,Tryz.ntmps50
      go_wp2_with fail
      refine (HV.out _ HX.out).mono ?_
      rintro e w5 ⟨rfl,he5⟩
      have HX5:=zh (HX.out.trans he5)
      have HB5:=zh (HB.out.ext he5)
      have HC5:=zh (HC.out.ext he5)
      have HD5:=zh (HD.out.ext he5)
      have g0:=HB5.out.cell 0
      have g1:=HB5.out.cell 1
      have g2:=HB5.out.cell 2
      have g3:=HB5.out.cell 3
      have g4:=HB5.out.cell 4
      clear he5 t0 t1 t2
      go_wp2_with fail
      refine (HG.out _ HX5.out).mono ?_
      rintro e w6 ⟨rfl,he6⟩
      have HX6:=zh (HX5.out.trans he6)
      have HB6:=zh (HB5.out.ext he6)
      have HC6:=zh (HC5.out.ext he6)
      have HD6:=zh (HD5.out.ext he6)
      have g3:=HB6.out.cell 3
      obtain ⟨q0,q1,q2,q3,q4⟩:=sF HC6.out
      clear he6 g0 g1 g2 g4 HB5 HC5 HD5 HX5
      go_wp2_with fail
      go_ret
      exact ⟨by rw [HSP.out];rfl,HX6.out⟩
structure RcR where
 cd:Int
 A:Option Addr
 n:Nat
 c:Nat
 o:Int
 g:Int
abbrev rcA (x:RcR):Array Value:=#[.int .i64 x.cd,.slice x.A x.n x.c,.int .i64 x.o,.int .i64 x.g]
def rcL (x:RcR):List Value:=(rcA x).toList
theorem rcL_one (x:RcR):∀ u ∈ rcL x,u.oneCell'=true:=by
 intro u hu
 simp only [rcL,List.mem_cons,List.not_mem_nil,or_false] at hu
 rcases hu with rfl | rfl | rfl | rfl <;> rfl
instance:RowT RcR where
 sz:=4
 z:=⟨0,none,0,0,0,0⟩
 enc:=rcL
 ok _ _:=True
 pos:=by decide
 len _:=rfl
 one:=rcL_one
 ext _ _ _ h _:=h
theorem rcP:RowP RcR 52 rcA:=⟨fun _=>rfl,by kernel_rfl,_,Tryz.underlying52,rfl⟩
def rc0:RcR:=⟨0,none,0,0,0,0⟩
theorem retCC {fn:Func} {p q:Tmp} {ty ty2:TypeId} (hres:fn.results=#[.cell p ty,.cell q ty2]) (tmps:Array Value) (w1:World) (g g2:Nat) (cs cs2:Array Value) (hp:tmps.getD p undef=.pointer (some ⟨g,0,none⟩)) (hq:tmps.getD q undef=.pointer (some ⟨g2,0,none⟩)) (hl:(loadVar ty ⟨g,0,none⟩).run Tryz.prog w1=.ok (.agg cs) w1) (hl2:(loadVar ty2 ⟨g2,0,none⟩).run Tryz.prog w1=.ok (.agg cs2) w1) :
  (results fn tmps).run Tryz.prog w1=.ok (.tuple #[.agg cs,.agg cs2]) w1:=by
 have hp':tmps[p]?.getD undef=.pointer (some ⟨g,0,none⟩):=by simpa using hp
 have hq':tmps[q]?.getD undef=.pointer (some ⟨g2,0,none⟩):=by simpa using hq
 simp [results,hres,hp',hq',asAddr,hl,hl2]
def rcE (cd ac sq:Int) (L:List OpR):List DeR:=if cd=0 then effT ac sq L else []
def rcO (cd ac sq:Int) (L:List OpR):Int:=if cd=0 then outT ac sq L else 0
def rcG (cd:Int) (S S1:StV):Int:=if cd=0 then bits .andNot .i64 S1.G S.G else 0
def ExOut (w:World) (V:StV) (cd:Int) (l:List DeR) (o g:Int) (e:Ending) (w':World):Prop :=
 ∃ (s:StR) (A:Option Addr) (n c:Nat),e=.returned (.tuple #[.agg (ssA s),.agg (rcA ⟨cd,A,n,c,o,g⟩)])∧OwnS w' w.heap.size s∧s.V=V∧SlG w' A n c l∧Ext w w'
structure StpB (w0 w:World) (P:Nat) (x:StpR):Prop where
 blk:Blk w P 86 (stpA x)
 own:OwnS w w0.heap.size x.s
 low:Ext w0 w
 hP:w0.heap.size≤P
section
variable {w0 w w':World} {P:Nat} {x:StpR}
theorem StpB.ext (h:StpB w0 w P x) (e:Ext w w'):StpB w0 w' P x:=⟨h.blk.ext e,h.own.ext e,h.low.trans e,h.hP⟩
theorem StpB.put (h:StpB w0 w P x) {s:StR} (ho:OwnS w w0.heap.size s):StpB w0 (w.setCells P 5 (ssA s).toList) P { x with s:=s }:=by
 refine ⟨?_,ho.kept (gS _ _ _ _) h.blk (by decide) (by decide) (by decide) (by decide),Below.setCells' h.low h.hP _ _,h.hP⟩
 exact ((((h.blk.set 5 _).set 6 _).set 7 _).set 8 _).set 9 _
theorem StpB.cell2 (h:StpB w0 w P x) {b:Nat} (hA:x.s.A2=some ⟨b,0,none⟩) (j:Nat) (z:Int) (hz:wfI z) :
  StpB w0 (w.setCell ⟨b,j,none⟩ (.int .i64 z)) P { x with s:={ x.s with Q:=x.s.Q.set j z } }:=by
 obtain ⟨gN,gZ,B1,m1,d1,B2,m2,d2,B3,m3,d3,s,ac,sq,A,n,c,ht⟩:=x
 obtain ⟨A1,n1,c1,C1,A2,n2,c2,Q1,A3,n3,c3,K1,A4,n4,c4,P1,G1⟩:=s
 simp only at hA
 subst hA
 have hl:=h.own.l2
 obtain ⟨k1,k2⟩:=World.ownsRow.stored h.own.o2 j (.int .i64 z)
 have hc:(gcs Q1).set j (.int .i64 z)=gcs (Q1.set j z):=by
  have e:∀ L:List Int,gcs L=L.map fun z=>Value.int .i64 z:=fun L=>by
   induction L with
   | nil=>rfl
   | cons x r ih=>rw [gcs_cons,ih];rfl
  rw [e,e,List.map_set]
 simp only at k1
 rw [hc] at k1
 have hg:w.grownBy (w.setCell ⟨b,j,none⟩ (.int .i64 z)) (some b):=k2
 have hb:Blk (w.setCell ⟨b,j,none⟩ (.int .i64 z)) P 86 _:=h.blk.grown hg (oO h.own.o2 h.blk (by decide))
 have o1:=World.ownsRow.kept h.own.o1 hg (own_ne h.own.o1 h.own.o2 (by decide))
 have o3:=World.ownsRow.kept h.own.o3 hg (own_ne h.own.o3 h.own.o2 (by decide))
 have o4:=World.ownsRow.kept h.own.o4 hg (own_ne h.own.o4 h.own.o2 (by decide))
 exact ⟨hb,⟨o1,k1,o3,o4,h.own.k1,fun y hy=>by
  rcases List.mem_or_eq_of_mem_set hy with hy | rfl
  ·exact h.own.k2 _ hy
  exact hz,h.own.k3,h.own.g⟩,Below.grown h.low hg h.low.size (fun k hk=>(World.ownsRow.lt h.own.o2 k hk).1),h.hP⟩
end
section
variable {ops:Array Oper} {rest:List Oper} {o:Oper} {a:Act} {w:World} {K:Act→World→Prop} {Q:Exit→Act→World→Prop} {X:Prop}
theorem step_storeS5 (hgd:o.guard=none) (x y:Operand) (ho:o.op=.store 44 x y) (P:Nat) (v:Value) (s:StR) (hv:Value.agg (ssA s)=v) (hx:a.eval x=.pointer (some ⟨P,5,none⟩)) (hy:a.eval y=v) {z:StpR} (hb:Blk w P 86 (stpA z))
  (h:∀ W,Hid (w.setCells P 5 (ssA s).toList=W)→K (a.put o.dst undef) W):if Region.wanted o (yielded ops a.tmps)=true then Oper.wp Tryz.prog o a w K Q else X:=by
 have hw:Region.wanted o (yielded ops a.tmps)=true:=by simp [Region.wanted,hgd]
 rw [if_pos hw]
 exact wp_store_mid (P:=Tryz.prog) (Q:=Q) (op:=o) (K:=K) 44 x y ho P 5 (ssA s) hx (by rw [hy,hv]) (show w.there P 5 5 from there_blk hb (show 5+5≤14 from by decide)) (by kernel_rfl) (ssA_all s) (h _ (zh rfl))
theorem run_allocStp (w:World):(Instr.alloc 86 true (.tuple #[])).run Tryz.prog w=.ok (.pointer (some ⟨w.heap.size,0,none⟩)) (w.alloc (.cells (stpA RowT.z) 86)):=by kernel_rfl
theorem wp_allocStp (ho:o.op=.alloc 86)
  (h:∀ (g:Nat) (W2:World),Hid (Blk W2 g 86 (stpA RowT.z)∧Ext w W2∧w.heap.size≤g)→K (a.put o.dst (.pointer (some ⟨g,0,none⟩))) W2):o.wp Tryz.prog a w K Q:=by
 have this:=run_allocStp w
 have h2:=h _ _ (zh ⟨Blk.new w 86 (stpA RowT.z),(Ext.refl w).alloc' _,Nat.le_refl _⟩)
 clear h
 generalize w.alloc (.cells (stpA RowT.z) 86)=W2 at *
 unfold Oper.wp execOp
 simp only [ho,Sem.run_bind,Sem.run_pure,this,Result.andThen_ok,Oper.upon]
 exact h2
theorem wp_val {v:Value} (hr:∀ w,(execOp a.eval o).run Tryz.prog w=.ok (.value v) w) (h:K (a.put o.dst v) w):o.wp Tryz.prog a w K Q:=by
 unfold Oper.wp
 rw [hr w]
 exact h
theorem exec_bld4 {ty:TypeId} {i j k l:Nat} (x y z u:Operand) (ho:o.op=.build ty #[(i,x),(j,y),(k,z),(l,u)]) {vx vy vz vu v:Value} (hx:a.eval x=vx) (hy:a.eval y=vy) (hz:a.eval z=vz) (hu:a.eval u=vu) (hr:∀ w,(Instr.build ty #[(i,vx),(j,vy),(k,vz),(l,vu)]).run Tryz.prog w=.ok v w) (w:World):(execOp a.eval o).run Tryz.prog w=.ok (.value v) w:=by
 unfold execOp
 simp only [ho,List.map_toArray,List.map_cons,List.map_nil,hx,hy,hz,hu,Sem.run_bind,hr,Result.andThen_ok,Sem.run_pure]
end
section
variable {α:Type} [RowT α] {ty:TypeId} {arr:α→Array Value} {o:Oper} {a:Act} {w:World} {ops:Array Oper} {rest:List Oper} {Q:Exit→Act→World→Prop} {K:Act→World→Prop} {X:Prop}
theorem wpList_storeGh (h:RowP α ty arr) (hgd:o.guard=none) (x y:Operand) (ho:o.op=.store ty x y) (b of:Nat) (hx:a.eval x=.pointer (some ⟨b,of,none⟩)) (R:α) (v:Value) (hv:Value.agg (arr R)=v) (hy:a.eval y=v) (ht:w.there b of (RowT.sz α))
  (hn:∀ W2,Hid (w.setCells b of (RowT.enc R)=W2)→wpList Tryz.prog ops Q rest (a.put o.dst undef) W2):wpList Tryz.prog ops Q (o :: rest) a w :=
 wpList_storeG h hgd x y ho b of hx R v hv hy ht (hn _ (zh rfl))
theorem step_storeGh (h:RowP α ty arr) (hgd:o.guard=none) (x y:Operand) (ho:o.op=.store ty x y) (b of:Nat) (hx:a.eval x=.pointer (some ⟨b,of,none⟩)) (R:α) (v:Value) (hv:Value.agg (arr R)=v) (hy:a.eval y=v) (ht:w.there b of (RowT.sz α))
  (hn:∀ W2,Hid (w.setCells b of (RowT.enc R)=W2)→K (a.put o.dst undef) W2):if Region.wanted o (yielded ops a.tmps)=true then Oper.wp Tryz.prog o a w K Q else X :=
 step_storeG h hgd x y ho b of hx R v hv hy ht (hn _ (zh rfl))
end
theorem run_bldStp (x:StpR) (w:World):(Instr.build 86 #[(0,.agg (genC x.gN x.gZ x.B1 x.m1 x.d1 x.B2 x.m2 x.d2 x.B3 x.m3 x.d3)),(1,.agg (ssA x.s)),(2,.agg (txA x.ac x.sq x.A x.n x.c)),(3,.int .i64 x.ht)]).run Tryz.prog w=.ok (.agg (stpA x)) w:=by kernel_rfl
theorem run_bldRc4 (x:RcR) (w:World):(Instr.build 52 #[(0,.int .i64 x.cd),(1,.slice x.A x.n x.c),(2,.int .i64 x.o),(3,.int .i64 x.g)]).run Tryz.prog w=.ok (.agg (rcA x)) w:=by kernel_rfl
theorem rSame_any (s t:StR) (w:World) (hs:s.ok w) (ht:t.ok w):Calls Tryz.prog 22 #[.agg (ssA s),.agg (ssA t)] w fun e w'=>e=.returned (.bool (decide (s.V=t.V)))∧Ext w w':=by
 obtain ⟨W,hW⟩:∃ W,(w.alloc (.cells (ssA s) 44)).alloc (.cells (ssA t) 44)=W:=⟨_,rfl⟩
 have HB:=zh (show Blk W w.heap.size 44 (ssA s) from by rw [← hW];exact (Blk.new w 44 (ssA s)).alloc _)
 have HC:=zh (show Blk W (w.heap.size+1) 44 (ssA t) from by rw [← hW];exact Blk.newAt _ _ _ _ (by simp))
 have HE:=zh (show Ext w W from by rw [← hW];exact ((Ext.refl w).alloc' _).alloc' _)
 have HS:=zh hs
 have HT:=zh ht
 have hle:=hs.s3.le
 have hcap:=hs.s3.cap
 have hle2:=ht.s3.le
 have hcap2:=ht.s3.cap
 obtain ⟨q0,q1,q2,q3,q4⟩:=sF HB.out
 obtain ⟨p0,p1,p2,p3,p4⟩:=sF HC.out
 clear hs ht
 by_cases hnm:s.n3=t.n3
 ·have b0 : ((s.n3 : Int) != (t.n3 : Int)) = false := by rw [hnm]; exact bne_self_eq_false _
  have HNM:=zh hnm
  clear hnm
  go_enter Tryz.func22,Tryz.ntmps22
  go_wp2_with fail
  clear b0 q0 q1 q2 q3 q4 p0 p1 p2 p3 p4
  go_loopw [5] (fun vi wr=>∃ k:Nat,vi=.int .i64 (k:Int)∧k≤s.n3∧Hid (∀ j,j < k→nthG s.K j=nthG t.K j)∧Hid (Ext W wr)) (fun i _=>s.n3 - (intOf i).toNat)
  case atStart=>exact ⟨0,rfl,Nat.zero_le _,zh (fun j hj=>absurd hj (Nat.not_lt_zero _)),zh (Ext.refl W)⟩
  case round =>
   obtain ⟨k,rfl,hk,HN,HXW⟩:=hrel
   have HB1:=zh (HB.out.ext HXW.out)
   have HC1:=zh (HC.out.ext HXW.out)
   have HX:=zh (HE.out.trans HXW.out)
   have q2:wr.cell? ⟨w.heap.size,2,none⟩=some (.slice s.A3 s.n3 s.c3):=HB1.out.cell 2
   by_cases hlt:k < s.n3
   ·have i0 : (0 : Int) ≤ (k : Int) := by omega
    have i1:(k:Int) < (s.n3:Int):=by omega
    have hlt2:k < t.n3:=by have:=HNM.out;omega
    have i2:(k:Int) < (t.n3:Int):=by omega
    obtain ⟨d,hd⟩:∃ d,nthG s.K k=d:=⟨_,rfl⟩
    obtain ⟨d2,hd2⟩:∃ d,nthG t.K k=d:=⟨_,rfl⟩
    obtain ⟨b,o,hab,-,-⟩:=HS.out.s3.at (by omega)
    obtain ⟨b2,o2,hab2,-,-⟩:=HT.out.s3.at (by omega)
    have HAB:=zh hab
    have HAB2:=zh hab2
    have HR1:=zh (fun (V:World) (e:Ext w V)=>show V.rangeAt b (o+k * 19) (RowT.enc d) from by
     rw [← hd]
     obtain ⟨b9,o9,e2,hr2,-⟩:=(HS.out.ext e).s3.at (by omega)
     rw [HAB.out] at e2
     injection e2 with e3
     injection e3 with e4 e5
     subst e4
     subst e5
     exact el_at (k:=k) hr2 (by rw [HS.out.s3.len];omega))
    have HR2:=zh (fun (V:World) (e:Ext w V)=>show V.rangeAt b2 (o2+k * 19) (RowT.enc d2) from by
     rw [← hd2]
     obtain ⟨b9,o9,e2,hr2,-⟩:=(HT.out.ext e).s3.at (by omega)
     rw [HAB2.out] at e2
     injection e2 with e3
     injection e3 with e4 e5
     subst e4
     subst e5
     exact el_at (k:=k) hr2 (by rw [HT.out.s3.len];omega))
    have hw1:lkW d:=by rw [← hd];exact HS.out.s3.nth hlt
    have hw2:lkW d2:=by rw [← hd2];exact HT.out.s3.nth hlt2
    have HNE:=zh (fun W=>run_neqLk d d2 hw1 hw2 W)
    obtain ⟨ne,hne⟩:∃ ne,(!decide (d=d2))=ne:=⟨_,rfl⟩
    rw [hne] at HNE
    have HDK:=zh (show (!decide (nthG s.K k=nthG t.K k))=ne from by rw [hd,hd2];exact hne)
    clear hab hab2 hd hd2 hne hw1 hw2
    go_upto_region 6 with fail
    clear q2
    refine wp_region_held_drew (S:=fun V=>Blk V w.heap.size 44 (ssA s)∧Blk V (w.heap.size+1) 44 (ssA t)∧Ext w V) (by kernel_rfl) (⟨HB1.out.drew,HC1.out.drew,HX.out.trans ((Ext.refl _).drew')⟩) (fun jj=>?_)
    refine zz0 [0,1,2,3] ?_;repeat first | refine zz1 ?_ (hy:=by intro W jS;have q9:W.cell? ⟨w.heap.size,2,none⟩=some (.slice (some ⟨b,o,none⟩) s.n3 s.c3):=(by rw [← HAB.out];exact jS.1.cell 2);have q8:W.cell? ⟨w.heap.size+1,2,none⟩=some (.slice (some ⟨b2,o2,none⟩) t.n3 t.c3):=(by rw [← HAB2.out];exact jS.2.1.cell 2);go_simp <;> with_reducible rfl) | refine zz2 ?_ | refine zz9 ?_
    refine zu 4 (v:=.agg (lkA d)) jj ?_ (hy:=by exact yL lkP (by rfl) (.tmp 23) rfl b (o+k * 19) rfl d _ rfl (fun V h=>HR1.out V h.2.2))
    refine zz0 [5,6,7,8] ?_;repeat first | refine zz1 ?_ (hy:=by intro W jS;have q9:W.cell? ⟨w.heap.size,2,none⟩=some (.slice (some ⟨b,o,none⟩) s.n3 s.c3):=(by rw [← HAB.out];exact jS.1.cell 2);have q8:W.cell? ⟨w.heap.size+1,2,none⟩=some (.slice (some ⟨b2,o2,none⟩) t.n3 t.c3):=(by rw [← HAB2.out];exact jS.2.1.cell 2);go_simp <;> with_reducible rfl) | refine zz2 ?_ | refine zz9 ?_
    refine zu 9 (v:=.agg (lkA d2)) jj ?_ (hy:=by exact yL lkP (by rfl) (.tmp 28) rfl b2 (o2+k * 19) rfl d2 _ rfl (fun V h=>HR2.out V h.2.2))
    refine zu 10 (v:=.bool ne) jj ?_ (hy:=by exact yields_cmp (by rfl) (.tmp 24) (.tmp 29) (by rfl) (vx:=.agg (lkA d)) (vy:=.agg (lkA d2)) (by rfl) (by rfl) (guard_Lk _ _ _ _ _) HNE.out)
    refine wpAnyH_done (by kernel_rfl) ?_ _
    have HXN:=zh (HXW.out.trans ((Ext.refl _).drew'))
    have HXX:=zh jj.2.2
    clear jj
    cases ne
    ·go_wp2_with fail
     go_roundw
     case rel=>exact ⟨k+1,by go_num,hlt,zh (fun j hj=>by
      rcases (by omega:j < k ∨ j=k) with hj | rfl
      ·exact HN.out j hj
      have h9:=HDK.out
      simpa using h9),HXN⟩
     case measure=>simp [intOf];omega
    have HF:=zh (show decide (s.V=t.V)=false from decide_eq_false (fun e=>by
     have e1:s.K=t.K:=congrArg StV.K e
     have h9:=HDK.out
     rw [e1] at h9
     simp at h9))
    go_wp2_with fail
    go_ret
    exact ⟨by rw [HF.out];rfl,HXX.out⟩
   obtain rfl:k=s.n3:=by omega
   have i1:¬ (s.n3:Int) < (s.n3:Int):=by omega
   have HEK:=zh (show s.K=t.K from eq_nthG (by rw [HS.out.s3.len,HT.out.s3.len];exact HNM.out) (fun j hj=>HN.out j (by rw [← HS.out.s3.len];exact hj)))
   clear q2
   have HXr:=HX
   clear HB HC
   obtain ⟨q0,q1,q2,q3,q4⟩:=sF HB1.out
   obtain ⟨p0,p1,p2,p3,p4⟩:=sF HC1.out
   have HD:=zh (rSameDeltas_any s.A1 s.n1 s.c1 s.C t.A1 t.n1 t.c1 t.C wr (HS.out.ext HX.out).s1 (HT.out.ext HX.out).s1)
   cases h1:decide (s.C=t.C) with
   | false =>
    rw [h1] at HD
    have HF:=zh (show decide (s.V=t.V)=false from decide_eq_false (fun e=>(of_decide_eq_false h1) (congrArg StV.C e)))
    clear h1
    go_wp2_with fail
    refine HD.out.mono ?_
    rintro e W2 ⟨rfl,he2⟩
    have HX2:=zh (HX.out.trans he2)
    clear he2 q0 q1 q2 q3 q4 p0 p1 p2 p3 p4
    go_wp2_with fail
    go_ret
    exact ⟨by rw [HF.out];rfl,HX2.out⟩
   | true =>
    rw [h1] at HD
    have HE1:=zh (of_decide_eq_true h1)
    clear h1
    go_wp2_with fail
    refine HD.out.mono ?_
    rintro e W2 ⟨rfl,he2⟩
    have HX2:=zh (HX.out.trans he2)
    have HB2:=zh (HB1.out.ext he2)
    have HC2:=zh (HC1.out.ext he2)
    clear he2 q0 q1 q2 q3 q4 p0 p1 p2 p3 p4 HD HB1 HC1
    obtain ⟨q0,q1,q2,q3,q4⟩:=sF HB2.out
    obtain ⟨p0,p1,p2,p3,p4⟩:=sF HC2.out
    have HD:=zh (rSameInts_any s.A2 s.n2 s.c2 s.Q t.A2 t.n2 t.c2 t.Q W2 (HS.out.ext HX2.out).s2 (HT.out.ext HX2.out).s2)
    cases h2:decide (s.Q=t.Q) with
    | false =>
     rw [h2] at HD
     have HF:=zh (show decide (s.V=t.V)=false from decide_eq_false (fun e=>(of_decide_eq_false h2) (congrArg StV.Q e)))
     clear h2
     go_wp2_with fail
     refine HD.out.mono ?_
     rintro e W3 ⟨rfl,he3⟩
     have HX3:=zh (HX2.out.trans he3)
     clear he3 q0 q1 q2 q3 q4 p0 p1 p2 p3 p4
     go_wp2_with fail
     go_ret
     exact ⟨by rw [HF.out];rfl,HX3.out⟩
    | true =>
     rw [h2] at HD
     have HE2:=zh (of_decide_eq_true h2)
     clear h2
     go_wp2_with fail
     refine HD.out.mono ?_
     rintro e W3 ⟨rfl,he3⟩
     have HX3:=zh (HX2.out.trans he3)
     have HB3:=zh (HB2.out.ext he3)
     have HC3:=zh (HC2.out.ext he3)
     clear he3 q0 q1 q2 q3 q4 p0 p1 p2 p3 p4 HD HB2 HC2
     obtain ⟨q0,q1,q2,q3,q4⟩:=sF HB3.out
     obtain ⟨p0,p1,p2,p3,p4⟩:=sF HC3.out
     have HD:=zh (rSameNames_any s.A4 s.n4 s.c4 s.P t.A4 t.n4 t.c4 t.P W3 (HS.out.ext HX3.out).s4 (HT.out.ext HX3.out).s4)
     cases h3:decide (s.P=t.P) with
     | false =>
      rw [h3] at HD
      have HF:=zh (show decide (s.V=t.V)=false from decide_eq_false (fun e=>(of_decide_eq_false h3) (congrArg StV.P e)))
      clear h3
      go_wp2_with fail
      refine HD.out.mono ?_
      rintro e W4 ⟨rfl,he4⟩
      have HX4:=zh (HX3.out.trans he4)
      clear he4 q0 q1 q2 q3 q4 p0 p1 p2 p3 p4
      go_wp2_with fail
      go_ret
      exact ⟨by rw [HF.out];rfl,HX4.out⟩
     | true =>
      rw [h3] at HD
      have HF:=zh (show decide (s.V=t.V)=(s.G == t.G) from by
       have e3:=of_decide_eq_true h3
       rw [Bool.eq_iff_iff,decide_eq_true_eq,beq_iff_eq]
       refine ⟨fun e=>congrArg StV.G e,fun e=>?_⟩
       show (⟨s.C,s.Q,s.K,s.P,s.G⟩:StV)=⟨t.C,t.Q,t.K,t.P,t.G⟩
       rw [HE1.out,HE2.out,HEK.out,e3,e])
      clear h3
      go_wp2_with fail
      refine HD.out.mono ?_
      rintro e W4 ⟨rfl,he4⟩
      have HX4:=zh (HX3.out.trans he4)
      have q4:W4.cell? ⟨w.heap.size,4,none⟩=some (.int .i64 s.G):=(HB3.out.ext he4).cell 4
      have p4:W4.cell? ⟨w.heap.size+1,4,none⟩=some (.int .i64 t.G):=(HC3.out.ext he4).cell 4
      clear he4 q0 q1 q2 q3 p0 p1 p2 p3
      go_wp2_with fail
      go_ret
      exact ⟨by rw [HF.out];rfl,HX4.out⟩
 have HF:=zh (show decide (s.V=t.V)=false from decide_eq_false (fun e=>hnm (by have e1:s.K=t.K:=congrArg StV.K e;have h1:=HS.out.s3.len;have h2:=HT.out.s3.len;rw [e1] at h1;omega)))
 have b0:((s.n3:Int) != (t.n3:Int))=true:=bne_iff_ne.2 (by omega)
 clear hnm
 go_enter Tryz.func22,Tryz.ntmps22
 go_wp2_with fail
 go_ret
 exact ⟨by rw [HF.out];rfl,HE.out⟩
end
end Go.Proofs.YtohmmcahpakokaaGreat
