/- exec.begin. -/
import Derived.Test.YtohmmcahpakokaaGreatJ33
import Derived.Test.YtohmmcahpakokaaGreatJ35
set_option maxRecDepth 100000
set_option maxHeartbeats 8000000
set_option linter.unusedVariables false
set_option linter.unusedSimpArgs false
namespace Go.Proofs.YtohmmcahpakokaaGreat
section
open Go.RowKit
attribute [local go_sem ↓] Go.wp_at_zero Go.wp_at_succ
theorem aFR (N Z:Int) (B1:Option Addr) (m1 d1:Nat) (B2:Option Addr) (m2 d2:Nat) (B3:Option Addr) (m3 d3:Nat) (PN:List UInt64) (BL:List Int) (s:StR) (T:TxR) (w:World)
    (hs:s.ok w) (hT:T.ok w) (hN:SlG w B2 m2 d2 PN) (hB:SlZ w B3 m3 d3 BL) (hm1:m1≤9223372036854775807) :
    Calls Tryz.prog 50 #[.agg (dT N Z B1 m1 d1 B2 m2 d2 B3 m3 d3),.agg (ssA s),.agg (tA T)] w fun e w'=>e=.returned (.int .i64 (mW (iX N Z m1 m2 m3 BL) m2 (vSg (nthG PN T.ac.toNat) T) s.V T.ac T.sq T.L))∧Ext w w':=by
  obtain ⟨ac,sq,A,n,c,S,m,d,L,sig⟩:=T
  have HS:=zh hs
  have HOPS:=zh hT.ops
  have HT:=zh hT
  have HZ:=zh hB
  have HNN:=zh hN
  have hm2:m2≤9223372036854775807:=Nat.le_trans hN.le hN.cap
  have hq2:s.n2≤9223372036854775807:=Nat.le_trans hs.s2.le hs.s2.cap
  have HQL:=zh (show s.V.Q.length=s.n2 from hs.s2.len)
  show Calls _ _ _ _ fun e w'=>e=.returned (.int .i64 (mW (iX N Z m1 m2 m3 BL) m2 (vSg (nthG PN ac.toNat) ⟨ac,sq,A,n,c,S,m,d,L,sig⟩) s.V ac sq L))∧Ext w w'
  have HV:=zh (fun (V:World) (e:Ext w V)=>eH ac sq A n c L V (HOPS.out.ext e))
  have HG:=zh (fun (V:World) (e:Ext w V)=>tF N Z B1 m1 d1 B2 m2 d2 B3 m3 d3 BL V (HZ.out.ext e) hm1 hm2)
  obtain ⟨W,hW⟩:∃ W,((w.alloc (.cells (dT N Z B1 m1 d1 B2 m2 d2 B3 m3 d3) 40)).alloc (.cells (ssA s) 44)).alloc (.cells (tA ⟨ac,sq,A,n,c,S,m,d,L,sig⟩) 47)=W:=⟨_,rfl⟩
  have HB:=zh (show Blk W w.heap.size 40 (dT N Z B1 m1 d1 B2 m2 d2 B3 m3 d3) from by rw [← hW];exact ((Blk.new w 40 (dT N Z B1 m1 d1 B2 m2 d2 B3 m3 d3)).alloc _).alloc _)
  have HC:=zh (show Blk W (w.heap.size+1) 44 (ssA s) from by rw [← hW];exact Blk.alloc (Blk.newAt _ _ _ _ (by simp)) _)
  have HD:=zh (show Blk W (w.heap.size+2) 47 (tA ⟨ac,sq,A,n,c,S,m,d,L,sig⟩) from by rw [← hW];exact Blk.newAt _ _ _ _ (by simp))
  have HX:=zh (show Ext w W from by rw [← hW];exact (((Ext.refl w).alloc' _).alloc' _).alloc' _)
  have t0:=HD.out.cell 0
  have t1:=HD.out.cell 1
  have t2:=HD.out.cell 2
  clear hs hT hN hB
  cases hv:vTx ac sq L with
  | false =>
    have HSP:=zh (show mW (iX N Z m1 m2 m3 BL) m2 (vSg (nthG PN ac.toNat) ⟨ac,sq,A,n,c,S,m,d,L,sig⟩) s.V ac sq L=1 from if_pos (.inl hv))
    rw [hv] at HV
    have HV:=zh (show ∀ (V:World),Ext w V→Calls Tryz.prog 44 #[.agg (txA ac sq A n c)] V (fun e w'=>e=.returned (.int .i64 1)∧Ext V w') from HV.out)
    clear hv
    go_enter Tryz.func50,Tryz.ntmps50
    go_wp2_with fail
    refine (HV.out _ HX.out).mono ?_
    rintro e w5 ⟨rfl,he5⟩
    have HX5:=zh (HX.out.trans he5)
    clear he5 t0 t1 t2
    go_wp2_with fail
    go_ret
    exact ⟨by rw [HSP.out];rfl,HX5.out⟩
  | true =>
    rw [hv] at HV
    have HV:=zh (show ∀ (V:World),Ext w V→Calls Tryz.prog 44 #[.agg (txA ac sq A n c)] V (fun e w'=>e=.returned (.int .i64 0)∧Ext V w') from HV.out)
    obtain ⟨⟨a1,a2,a3,a4,a5,a6⟩,-⟩:=eO hv
    obtain ⟨a,rfl⟩:∃ a:Nat,ac=(a:Int):=⟨ac.toNat,by omega⟩
    have HVT:=zh hv
    clear hv
    cases hg:iX N Z m1 m2 m3 BL with
    | false =>
      have HSP:=zh (show mW false m2 (vSg (nthG PN (a:Int).toNat) ⟨(a:Int),sq,A,n,c,S,m,d,L,sig⟩) s.V (a:Int) sq L=1 from if_pos (.inr (.inl rfl)))
      rw [hg] at HG
      have HG:=zh (show ∀ (V:World),Ext w V→Calls Tryz.prog 88 #[.agg (dT N Z B1 m1 d1 B2 m2 d2 B3 m3 d3)] V (fun e w'=>e=.returned (.int .i64 1)∧Ext V w') from HG.out)
      clear hg
      go_enter Tryz.func50,Tryz.ntmps50
      go_wp2_with fail
      refine (HV.out _ HX.out).mono ?_
      rintro e w5 ⟨rfl,he5⟩
      have HX5:=zh (HX.out.trans he5)
      have HB5:=zh (HB.out.ext he5)
      have g0:=HB5.out.cell 0
      have g1:=HB5.out.cell 1
      have g2:=HB5.out.cell 2
      have g3:=HB5.out.cell 3
      have g4:=HB5.out.cell 4
      clear he5 t0 t1 t2
      go_wp2_with fail
      refine (HG.out _ HX5.out).mono ?_
      rintro e w6 ⟨rfl,he6⟩
      have HX6:=zh (HX5.out.trans he6)
      clear he6 g0 g1 g2 g3 g4
      go_wp2_with fail
      go_ret
      exact ⟨by rw [HSP.out];rfl,HX6.out⟩
    | true =>
      rw [hg] at HG
      have HG:=zh (show ∀ (V:World),Ext w V→Calls Tryz.prog 88 #[.agg (dT N Z B1 m1 d1 B2 m2 d2 B3 m3 d3)] V (fun e w'=>e=.returned (.int .i64 0)∧Ext V w') from HG.out)
      clear hg
      by_cases h1:m2≤a
      · have HSP := zh (show mW true m2 (vSg (nthG PN (a : Int).toNat) ⟨(a : Int), sq, A, n, c, S, m, d, L, sig⟩) s.V (a : Int) sq L = 1 from if_pos (.inr (.inr (.inl (by omega)))))
        have i1:(m2:Int)≤(a:Int):=by omega
        go_enter Tryz.func50,Tryz.ntmps50
        go_wp2_with fail
        refine (HV.out _ HX.out).mono ?_
        rintro e w5 ⟨rfl,he5⟩
        have HX5:=zh (HX.out.trans he5)
        have HB5:=zh (HB.out.ext he5)
        have HC5:=zh (HC.out.ext he5)
        have HD5:=zh (HD.out.ext he5)
        have g0:=HB5.out.cell 0
        have g1:=HB5.out.cell 1
        have g2:=HB5.out.cell 2
        have g3:=HB5.out.cell 3
        have g4:=HB5.out.cell 4
        clear he5 t0 t1 t2
        go_wp2_with fail
        refine (HG.out _ HX5.out).mono ?_
        rintro e w6 ⟨rfl,he6⟩
        have HX6:=zh (HX5.out.trans he6)
        have HB6:=zh (HB5.out.ext he6)
        have HC6:=zh (HC5.out.ext he6)
        have HD6:=zh (HD5.out.ext he6)
        have g3:=HB6.out.cell 3
        obtain ⟨q0,q1,q2,q3,q4⟩:=aE HC6.out
        clear he6 g0 g1 g2 g4 HB5 HC5 HD5 HX5
        go_wp2_with fail
        go_ret
        exact ⟨by rw [HSP.out];rfl,HX6.out⟩
      have i1:¬ (m2:Int)≤(a:Int):=by omega
      by_cases h2:s.n2=m2
      · subst h2
        obtain ⟨gb,go,rfl,hrow,-⟩:=HNN.out.at (by omega)
        obtain ⟨qb,qo,hqa,hqr,-⟩:=HS.out.s2.at (by omega)
        have HQB:=zh hqa
        obtain ⟨pk,hpk⟩:∃ pk,nthG PN a=pk:=⟨_,rfl⟩
        have HPK:=zh (fun (V:World) (e:Ext w V)=>show V.rangeAt gb (go+a * 8) (RowT.enc pk) from by
          rw [← hpk]
          obtain ⟨b2,o2,e2,hr2,-⟩:=(HNN.out.ext e).at (by omega)
          injection e2 with e3
          injection e3 with e4 e5
          subst e4
          subst e5
          exact cG (k:=a) hr2 (by rw [HNN.out.len];omega))
        have HQC:=zh (fun (V:World) (e:Ext w V)=>show V.cell? ⟨qb,qo+a,none⟩=some (.int .i64 (nthG s.Q a)) from by
          obtain ⟨b2,o2,e2,hr2,-⟩:=(HS.out.ext e).s2.at (by omega)
          rw [HQB.out] at e2
          injection e2 with e3
          injection e3 with e4 e5
          subst e4
          subst e5
          have h5:V.rangeAt qb (qo+a * 1) (RowT.enc (nthG s.Q a)):=cG hr2 (by rw [HS.out.s2.len];omega)
          have h7:=h5 0 _ rfl
          rwa [show qo+a * 1+0=qo+a from by omega] at h7)
        have HVER:=zh (fun (V:World) (e:Ext w V)=>yX pk ⟨(a:Int),sq,A,n,c,S,m,d,L,sig⟩ V (HT.out.ext e))
        have HAPP:=zh (fun (V:World) (e:Ext w V)=>fM s (bQ (a:Int) sq L) V (HS.out.ext e))
        obtain ⟨sg,hsg⟩:∃ sg,vSg pk ⟨(a:Int),sq,A,n,c,S,m,d,L,sig⟩=sg:=⟨_,rfl⟩
        obtain ⟨ap,hap⟩:∃ ap,decide (bQ (a:Int) sq L ∈ s.P)=ap:=⟨_,rfl⟩
        rw [hsg] at HVER
        rw [hap] at HAPP
        have HSG:=zh hsg
        have HAP:=zh hap
        have HBE:=zh (show mW true s.n2 (vSg (nthG PN a) ⟨(a:Int),sq,A,n,c,S,m,d,L,sig⟩) s.V (a:Int) sq L=if sg=false then 8 else if ap=true then 7 else if sq ≠ nthG s.Q a then 101 else 0 from by
          rw [hpk,hsg]
          unfold mW
          rw [if_neg (by rintro (h | h | h | h); · rw [HVT.out] at h; cases h
                         · cases h
                         · omega
                         exact h HQL.out)]
          rw [← hap]
          simp only [decide_eq_true_eq]
          rfl)
        have i2:(a:Int) < (s.n2:Int):=by omega
        have i3:(0:Int)≤(a:Int):=by omega
        clear hsg hap hpk hrow hqa hqr
        go_enter Tryz.func50,Tryz.ntmps50
        go_wp2_with fail
        refine (HV.out _ HX.out).mono ?_
        rintro e w5 ⟨rfl,he5⟩
        have HX5:=zh (HX.out.trans he5)
        have HB5:=zh (HB.out.ext he5)
        have HC5:=zh (HC.out.ext he5)
        have HD5:=zh (HD.out.ext he5)
        have g0:=HB5.out.cell 0
        have g1:=HB5.out.cell 1
        have g2:=HB5.out.cell 2
        have g3:=HB5.out.cell 3
        have g4:=HB5.out.cell 4
        clear he5 t0 t1 t2
        go_wp2_with fail
        refine (HG.out _ HX5.out).mono ?_
        rintro e w6 ⟨rfl,he6⟩
        have HX6:=zh (HX5.out.trans he6)
        have HB6:=zh (HB5.out.ext he6)
        have HC6:=zh (HC5.out.ext he6)
        have HD6:=zh (HD5.out.ext he6)
        have g3:=HB6.out.cell 3
        obtain ⟨q0,q1,q2,q3,q4⟩:=aE HC6.out
        clear he6 g0 g1 g2 g4 HB5 HC5 HD5 HX5
        go_upto_region 4 with fail
        clear g3 q0 q1 q2 q3 q4
        refine wp_region_held_drew (S:=fun V=>Blk V w.heap.size 40 (dT N Z B1 m1 d1 (some ⟨gb,go,none⟩) s.n2 d2 B3 m3 d3)∧Blk V (w.heap.size+1) 44 (ssA s)∧Blk V (w.heap.size+2) 47 (tA ⟨(a:Int),sq,A,n,c,S,m,d,L,sig⟩)∧Ext w V) (by kernel_rfl) (⟨HB6.out.drew,HC6.out.drew,HD6.out.drew,HX6.out.trans ((Ext.refl _).drew')⟩) (fun aA=>?_)
        refine zz0 [0,1,2,3] ?_;repeat first | refine zz1 ?_ (hy:=by intro W aM;obtain ⟨q0,q1,q2,q3,q4⟩:=aE aM.2.1;have g3:=aM.1.cell 3;have t0:=aM.2.2.1.cell 0;have t1:=aM.2.2.1.cell 1;have t2:=aM.2.2.1.cell 2;have t3:=aM.2.2.1.cell 3;go_simp <;> with_reducible rfl) | refine zz2 ?_ | refine zz9 ?_
        refine zu 4 (v:=.agg (nmc pk)) aA ?_ (hy:=by exact aF nmP (by rfl) (.tmp 41) rfl gb (go+a * 8) rfl pk _ rfl (fun V h=>HPK.out V h.2.2.2))
        refine zz0 [5] ?_;repeat first | refine zz1 ?_ (hy:=by intro W aM;obtain ⟨q0,q1,q2,q3,q4⟩:=aE aM.2.1;have g3:=aM.1.cell 3;have t0:=aM.2.2.1.cell 0;have t1:=aM.2.2.1.cell 1;have t2:=aM.2.2.1.cell 2;have t3:=aM.2.2.1.cell 3;go_simp <;> with_reducible rfl) | refine zz2 ?_ | refine zz9 ?_
        refine zzj (VE 6 (.bool sg) VN) [(6,some 44)] 2 (fun V V' h e=>⟨h.1.ext e,h.2.1.ext e,h.2.2.1.ext e,h.2.2.2.trans e⟩) (ve VN.ext) (zzc ?_ zzn) ?_
        · refine zzp fun W hE hS K hK => ?_
          go_simp
          go_at_call 89
          refine (HVER.out _ hS.2.2.2).mono ?_
          rintro e w5 ⟨rfl,he5⟩
          exact zzK (hK.out (.bool sg) _ (he5) (rfl))
        intro env W hE hS hV
        obtain ⟨h6,-⟩:=zzV hV
        clear hV
        simp only [aO,h6]
        clear h6
        have aA:=hS
        refine zzr [7,8] ?_
        refine wpAnyH_done (by kernel_rfl) ?_ _
        have HX7:=zh aA.2.2.2
        have HB7:=zh aA.1
        have HC7:=zh aA.2.1
        have HD7:=zh aA.2.2.1
        clear aA hE hS HB6 HC6 HD6 HX6
        cases sg
        · go_wp2_with fail
          go_ret
          exact ⟨by first | (rw [HBE.out];rfl) | (rw [Int.toNat_natCast,HBE.out];rfl),HX7.out⟩
        go_upto_region 6 with fail
        refine wp_region_held_drew (S:=fun V=>Blk V w.heap.size 40 (dT N Z B1 m1 d1 (some ⟨gb,go,none⟩) s.n2 d2 B3 m3 d3)∧Blk V (w.heap.size+1) 44 (ssA s)∧Blk V (w.heap.size+2) 47 (tA ⟨(a:Int),sq,A,n,c,S,m,d,L,sig⟩)∧Ext w V) (by kernel_rfl) (⟨HB7.out.drew,HC7.out.drew,HD7.out.drew,HX7.out.trans ((Ext.refl _).drew')⟩) (fun aA=>?_)
        refine zz0 [0,1,2] ?_;repeat first | refine zz1 ?_ (hy:=by intro W aM;obtain ⟨q0,q1,q2,q3,q4⟩:=aE aM.2.1;have g3:=aM.1.cell 3;have t0:=aM.2.2.1.cell 0;have t1:=aM.2.2.1.cell 1;have t2:=aM.2.2.1.cell 2;have t3:=aM.2.2.1.cell 3;go_simp <;> with_reducible rfl) | refine zz2 ?_ | refine zz9 ?_
        refine cJ (VV 3 (fun v V=>v=.agg (nmc (bQ (a:Int) sq L))) (VV 4 (fun v V=>v=.bool ap) (VN))) [(3,some 50),(4,some 51)] (fuel:=1) (by kernel_rfl) (by kernel_rfl) (fun V V' h e=>⟨h.1.ext e,h.2.1.ext e,h.2.2.1.ext e,h.2.2.2.trans e⟩) (VV.ext (fun v w w' h e=>h) (VV.ext (fun v w w' h e=>h) (VN.ext))) aA ?hm2 rfl ?hr2
        case hm2 =>
          refine Members.cons ?mm2_3 (Members.cons ?mm2_4 (Members.nil _))
          case mm2_3 =>
            refine zm [] (fun env W hE hS hD K hK=>?_)
            clear hD
            try simp only [aO]
            go_simp
            go_at_call 56
            refine (eS (a:Int) sq A n c L _ (HOPS.out.ext hS.2.2.2)).mono ?_
            rintro e w5 ⟨rfl,he5⟩
            have hk:=hK.out (.agg (nmc (bQ (a:Int) sq L))) _ (he5) (rfl)
            try simp only [aO] at hk
            exact hk
          case mm2_4 =>
            refine zm [(3,some 50)] (fun env W hE hS hD K hK=>?_)
            have h3:(fun v V=>v=.agg (nmc (bQ (a:Int) sq L))) (env 3) W:=hD (3,some 50) (by simp)
            clear hD
            try simp only [aO] at hK ⊢
            generalize env 3=x3 at h3 hK ⊢
            subst h3
            go_simp
            go_at_call 63
            refine (HAPP.out _ hS.2.2.2).mono ?_
            rintro e w5 ⟨rfl,he5⟩
            have hk:=hK.out (.bool ap) _ (he5) (rfl)
            try simp only [aO] at hk
            exact hk
        case hr2 =>
          intro env W hE hS hV
          have h3:(fun v V=>v=.agg (nmc (bQ (a:Int) sq L))) (env 3) W:=hV (3,some 50) (by simp)
          have h4:(fun v V=>v=.bool ap) (env 4) W:=hV (4,some 51) (by simp)
          clear hV
          try simp only [aO]
          generalize env 3=x3 at h3 ⊢
          generalize env 4=x4 at h4 ⊢
          subst h3
          subst h4
          have aA:=hS
          refine zt 5 aA ?_
          refine wpAnyH_done (by kernel_rfl) ?_ _
          have HX8:=zh aA.2.2.2
          have HB8:=zh aA.1
          have HC8:=zh aA.2.1
          have HD8:=zh aA.2.2.1
          clear aA hE hS HB7 HC7 HD7 HX7
          cases ap
          · go_upto_region 8 with fail
            by_cases h8:sq=nthG s.Q a
            · have HSP := zh (show (if sq ≠ nthG s.Q a then (101 : Int) else 0) = 0 from if_neg (fun h => h h8))
              have b8:(sq != nthG s.Q a)=false:=by rw [h8];exact bne_self_eq_false _
              clear h8
              refine wp_region_held_drew (S:=fun V=>Blk V w.heap.size 40 (dT N Z B1 m1 d1 (some ⟨gb,go,none⟩) s.n2 d2 B3 m3 d3)∧Blk V (w.heap.size+1) 44 (ssA s)∧Blk V (w.heap.size+2) 47 (tA ⟨(a:Int),sq,A,n,c,S,m,d,L,sig⟩)∧Ext w V) (by kernel_rfl) (⟨HB8.out.drew,HC8.out.drew,HD8.out.drew,HX8.out.trans ((Ext.refl _).drew')⟩) (fun aA=>?_)
              refine zz0 [0,1,2,3,4,5,6,7,8,9] ?_;repeat first | refine zz1 ?_ (hy:=by intro W aM;have q1:W.cell? ⟨w.heap.size+1,1,none⟩=some (.slice (some ⟨qb,qo,none⟩) s.n2 s.c2):=(by rw [← HQB.out];exact aM.2.1.cell 1);have t1:=aM.2.2.1.cell 1;have c9:=HQC.out W aM.2.2.2;go_simp <;> with_reducible rfl) | refine zz2 ?_ | refine zz9 ?_
              refine wpAnyH_done (by kernel_rfl) ?_ _
              have HX9:=zh aA.2.2.2
              clear aA
              go_wp2_with fail
              go_ret
              exact ⟨by (first | rw [HBE.out] | rw [Int.toNat_natCast,HBE.out]);show _=Ending.returned (.int .i64 (if sq ≠ nthG s.Q a then (101:Int) else 0));rw [HSP.out];rfl,HX9.out⟩
            have HSP:=zh (show (if sq ≠ nthG s.Q a then (101:Int) else 0)=101 from if_pos h8)
            have b8:(sq != nthG s.Q a)=true:=bne_iff_ne.2 h8
            clear h8
            refine wp_region_held_drew (S:=fun V=>Blk V w.heap.size 40 (dT N Z B1 m1 d1 (some ⟨gb,go,none⟩) s.n2 d2 B3 m3 d3)∧Blk V (w.heap.size+1) 44 (ssA s)∧Blk V (w.heap.size+2) 47 (tA ⟨(a:Int),sq,A,n,c,S,m,d,L,sig⟩)∧Ext w V) (by kernel_rfl) (⟨HB8.out.drew,HC8.out.drew,HD8.out.drew,HX8.out.trans ((Ext.refl _).drew')⟩) (fun aA=>?_)
            refine zz0 [0,1,2,3,4,5,6,7,8,9] ?_;repeat first | refine zz1 ?_ (hy:=by intro W aM;have q1:W.cell? ⟨w.heap.size+1,1,none⟩=some (.slice (some ⟨qb,qo,none⟩) s.n2 s.c2):=(by rw [← HQB.out];exact aM.2.1.cell 1);have t1:=aM.2.2.1.cell 1;have c9:=HQC.out W aM.2.2.2;go_simp <;> with_reducible rfl) | refine zz2 ?_ | refine zz9 ?_
            refine wpAnyH_done (by kernel_rfl) ?_ _
            have HX9:=zh aA.2.2.2
            clear aA
            go_wp2_with fail
            go_ret
            exact ⟨by (first | rw [HBE.out] | rw [Int.toNat_natCast,HBE.out]);show _=Ending.returned (.int .i64 (if sq ≠ nthG s.Q a then (101:Int) else 0));rw [HSP.out];rfl,HX9.out⟩
          go_wp2_with fail
          go_ret
          exact ⟨by rw [HBE.out];rfl,HX8.out⟩
      have HSP:=zh (show mW true m2 (vSg (nthG PN (a:Int).toNat) ⟨(a:Int),sq,A,n,c,S,m,d,L,sig⟩) s.V (a:Int) sq L=1 from if_pos (.inr (.inr (.inr (by rw [HQL.out];exact h2)))))
      have i2:((s.n2:Int) != (m2:Int))=true:=bne_iff_ne.2 (by omega)
      go_enter Tryz.func50,Tryz.ntmps50
      go_wp2_with fail
      refine (HV.out _ HX.out).mono ?_
      rintro e w5 ⟨rfl,he5⟩
      have HX5:=zh (HX.out.trans he5)
      have HB5:=zh (HB.out.ext he5)
      have HC5:=zh (HC.out.ext he5)
      have HD5:=zh (HD.out.ext he5)
      have g0:=HB5.out.cell 0
      have g1:=HB5.out.cell 1
      have g2:=HB5.out.cell 2
      have g3:=HB5.out.cell 3
      have g4:=HB5.out.cell 4
      clear he5 t0 t1 t2
      go_wp2_with fail
      refine (HG.out _ HX5.out).mono ?_
      rintro e w6 ⟨rfl,he6⟩
      have HX6:=zh (HX5.out.trans he6)
      have HB6:=zh (HB5.out.ext he6)
      have HC6:=zh (HC5.out.ext he6)
      have HD6:=zh (HD5.out.ext he6)
      have g3:=HB6.out.cell 3
      obtain ⟨q0,q1,q2,q3,q4⟩:=aE HC6.out
      clear he6 g0 g1 g2 g4 HB5 HC5 HD5 HX5
      go_wp2_with fail
      go_ret
      exact ⟨by rw [HSP.out];rfl,HX6.out⟩
structure RcR where
 cd:Int
 A:Option Addr
 n:Nat
 c:Nat
 o:Int
 g:Int
abbrev rcA (x:RcR):Array Value:=#[.int .i64 x.cd,.slice x.A x.n x.c,.int .i64 x.o,.int .i64 x.g]
def rcL (x:RcR):List Value:=(rcA x).toList
theorem aHV (x:RcR):∀ u ∈ rcL x,u.oneCell'=true:=by
 intro u hu
 simp only [rcL,List.mem_cons,List.not_mem_nil,or_false] at hu
 rcases hu with rfl | rfl | rfl | rfl <;> rfl
instance:RowT RcR where
 sz:=4
 z:=⟨0,none,0,0,0,0⟩
 enc:=rcL
 ok _ _:=True
 pos:=by decide
 len _:=rfl
 one:=aHV
 ext _ _ _ h _:=h
theorem rcP:RowP RcR 52 rcA:=⟨fun _=>rfl,by kernel_rfl,_,Tryz.underlying52,rfl⟩
def rc0:RcR:=⟨0,none,0,0,0,0⟩
theorem aGC {fn:Func} {p q:Tmp} {ty ty2:TypeId} (hres:fn.results=#[.cell p ty,.cell q ty2]) (tmps:Array Value) (w1:World) (g g2:Nat) (cs cs2:Array Value) (hp:tmps.getD p undef=.pointer (some ⟨g,0,none⟩)) (hq:tmps.getD q undef=.pointer (some ⟨g2,0,none⟩)) (hl:(loadVar ty ⟨g,0,none⟩).run Tryz.prog w1=.ok (.agg cs) w1) (hl2:(loadVar ty2 ⟨g2,0,none⟩).run Tryz.prog w1=.ok (.agg cs2) w1) :
  (results fn tmps).run Tryz.prog w1=.ok (.tuple #[.agg cs,.agg cs2]) w1:=by
 have hp':tmps[p]?.getD undef=.pointer (some ⟨g,0,none⟩):=by simpa using hp
 have hq':tmps[q]?.getD undef=.pointer (some ⟨g2,0,none⟩):=by simpa using hq
 simp [results,hres,hp',hq',asAddr,hl,hl2]
def rcE (cd ac sq:Int) (L:List OpR):List DeR:=if cd=0 then oR ac sq L else []
def rcO (cd ac sq:Int) (L:List OpR):Int:=if cd=0 then kU ac sq L else 0
def rcG (cd:Int) (S S1:StV):Int:=if cd=0 then bits .andNot .i64 S1.G S.G else 0
def aLV (w:World) (V:StV) (cd:Int) (l:List DeR) (o g:Int) (e:Ending) (w':World):Prop :=
 ∃ (s:StR) (A:Option Addr) (n c:Nat),e=.returned (.tuple #[.agg (ssA s),.agg (rcA ⟨cd,A,n,c,o,g⟩)])∧OwnS w' w.heap.size s∧s.V=V∧SlG w' A n c l∧Ext w w'
structure StpB (w0 w:World) (P:Nat) (x:StpR):Prop where
 blk:Blk w P 86 (stpA x)
 own:OwnS w w0.heap.size x.s
 low:Ext w0 w
 hP:w0.heap.size≤P
section
variable {w0 w w':World} {P:Nat} {x:StpR}
theorem StpB.ext (h:StpB w0 w P x) (e:Ext w w'):StpB w0 w' P x:=⟨h.blk.ext e,h.own.ext e,h.low.trans e,h.hP⟩
theorem StpB.put (h:StpB w0 w P x) {s:StR} (ho:OwnS w w0.heap.size s):StpB w0 (w.setCells P 5 (ssA s).toList) P { x with s:=s }:=by
 refine ⟨?_,ho.kept (aC _ _ _ _) h.blk (by decide) (by decide) (by decide) (by decide),Below.setCells' h.low h.hP _ _,h.hP⟩
 exact ((((h.blk.set 5 _).set 6 _).set 7 _).set 8 _).set 9 _
theorem StpB.cell2 (h:StpB w0 w P x) {b:Nat} (hA:x.s.A2=some ⟨b,0,none⟩) (j:Nat) (z:Int) (hz:wfI z) :
  StpB w0 (w.setCell ⟨b,j,none⟩ (.int .i64 z)) P { x with s:={ x.s with Q:=x.s.Q.set j z } }:=by
 obtain ⟨gN,gZ,B1,m1,d1,B2,m2,d2,B3,m3,d3,s,ac,sq,A,n,c,ht⟩:=x
 obtain ⟨A1,n1,c1,C1,A2,n2,c2,Q1,A3,n3,c3,K1,A4,n4,c4,P1,G1⟩:=s
 simp only at hA
 subst hA
 have hl:=h.own.l2
 obtain ⟨k1,k2⟩:=World.ownsRow.stored h.own.o2 j (.int .i64 z)
 have hc:(gcs Q1).set j (.int .i64 z)=gcs (Q1.set j z):=by
  have e:∀ L:List Int,gcs L=L.map fun z=>Value.int .i64 z:=fun L=>by
   induction L with
   | nil=>rfl
   | cons x r ih=>rw [cW,ih];rfl
  rw [e,e,List.map_set]
 simp only at k1
 rw [hc] at k1
 have hg:w.grownBy (w.setCell ⟨b,j,none⟩ (.int .i64 z)) (some b):=k2
 have hb:Blk (w.setCell ⟨b,j,none⟩ (.int .i64 z)) P 86 _:=h.blk.grown hg (aI h.own.o2 h.blk (by decide))
 have o1:=World.ownsRow.kept h.own.o1 hg (dB h.own.o1 h.own.o2 (by decide))
 have o3:=World.ownsRow.kept h.own.o3 hg (dB h.own.o3 h.own.o2 (by decide))
 have o4:=World.ownsRow.kept h.own.o4 hg (dB h.own.o4 h.own.o2 (by decide))
 exact ⟨hb,⟨o1,k1,o3,o4,h.own.k1,fun y hy=>by
  rcases List.mem_or_eq_of_mem_set hy with hy | rfl
  ·exact h.own.k2 _ hy
  exact hz,h.own.k3,h.own.g⟩,Below.grown h.low hg h.low.size (fun k hk=>(World.ownsRow.lt h.own.o2 k hk).1),h.hP⟩
end
section
variable {ops:Array Oper} {rest:List Oper} {o:Oper} {a:Act} {w:World} {K:Act→World→Prop} {Q:Exit→Act→World→Prop} {X:Prop}
theorem yY (hgd:o.guard=none) (x y:Operand) (ho:o.op=.store 44 x y) (P:Nat) (v:Value) (s:StR) (hv:Value.agg (ssA s)=v) (hx:a.eval x=.pointer (some ⟨P,5,none⟩)) (hy:a.eval y=v) {z:StpR} (hb:Blk w P 86 (stpA z))
  (h:∀ W,Hid (w.setCells P 5 (ssA s).toList=W)→K (a.put o.dst undef) W):if Region.wanted o (yielded ops a.tmps)=true then Oper.wp Tryz.prog o a w K Q else X:=by
 have hw:Region.wanted o (yielded ops a.tmps)=true:=by simp [Region.wanted,hgd]
 rw [if_pos hw]
 exact wp_store_mid (P:=Tryz.prog) (Q:=Q) (op:=o) (K:=K) 44 x y ho P 5 (ssA s) hx (by rw [hy,hv]) (show w.there P 5 5 from xM hb (show 5+5≤14 from by decide)) (by kernel_rfl) (yZ s) (h _ (zh rfl))
theorem zF (w:World):(Instr.alloc 86 true (.tuple #[])).run Tryz.prog w=.ok (.pointer (some ⟨w.heap.size,0,none⟩)) (w.alloc (.cells (stpA RowT.z) 86)):=by kernel_rfl
theorem aAQ (ho:o.op=.alloc 86)
  (h:∀ (g:Nat) (W2:World),Hid (Blk W2 g 86 (stpA RowT.z)∧Ext w W2∧w.heap.size≤g)→K (a.put o.dst (.pointer (some ⟨g,0,none⟩))) W2):o.wp Tryz.prog a w K Q:=by
 have this:=zF w
 have h2:=h _ _ (zh ⟨Blk.new w 86 (stpA RowT.z),(Ext.refl w).alloc' _,Nat.le_refl _⟩)
 clear h
 generalize w.alloc (.cells (stpA RowT.z) 86)=W2 at *
 unfold Oper.wp execOp
 simp only [ho,Sem.run_bind,Sem.run_pure,this,Result.andThen_ok,Oper.upon]
 exact h2
theorem aFW {v:Value} (hr:∀ w,(execOp a.eval o).run Tryz.prog w=.ok (.value v) w) (h:K (a.put o.dst v) w):o.wp Tryz.prog a w K Q:=by
 unfold Oper.wp
 rw [hr w]
 exact h
theorem yI {ty:TypeId} {i j k l:Nat} (x y z u:Operand) (ho:o.op=.build ty #[(i,x),(j,y),(k,z),(l,u)]) {vx vy vz vu v:Value} (hx:a.eval x=vx) (hy:a.eval y=vy) (hz:a.eval z=vz) (hu:a.eval u=vu) (hr:∀ w,(Instr.build ty #[(i,vx),(j,vy),(k,vz),(l,vu)]).run Tryz.prog w=.ok v w) (w:World):(execOp a.eval o).run Tryz.prog w=.ok (.value v) w:=by
 unfold execOp
 simp only [ho,List.map_toArray,List.map_cons,List.map_nil,hx,hy,hz,hu,Sem.run_bind,hr,Result.andThen_ok,Sem.run_pure]
end
section
variable {α:Type} [RowT α] {ty:TypeId} {arr:α→Array Value} {o:Oper} {a:Act} {w:World} {ops:Array Oper} {rest:List Oper} {Q:Exit→Act→World→Prop} {K:Act→World→Prop} {X:Prop}
theorem mE (h:RowP α ty arr) (hgd:o.guard=none) (x y:Operand) (ho:o.op=.store ty x y) (b of:Nat) (hx:a.eval x=.pointer (some ⟨b,of,none⟩)) (R:α) (v:Value) (hv:Value.agg (arr R)=v) (hy:a.eval y=v) (ht:w.there b of (RowT.sz α))
  (hn:∀ W2,Hid (w.setCells b of (RowT.enc R)=W2)→wpList Tryz.prog ops Q rest (a.put o.dst undef) W2):wpList Tryz.prog ops Q (o :: rest) a w :=
 bK h hgd x y ho b of hx R v hv hy ht (hn _ (zh rfl))
theorem pF (h:RowP α ty arr) (hgd:o.guard=none) (x y:Operand) (ho:o.op=.store ty x y) (b of:Nat) (hx:a.eval x=.pointer (some ⟨b,of,none⟩)) (R:α) (v:Value) (hv:Value.agg (arr R)=v) (hy:a.eval y=v) (ht:w.there b of (RowT.sz α))
  (hn:∀ W2,Hid (w.setCells b of (RowT.enc R)=W2)→K (a.put o.dst undef) W2):if Region.wanted o (yielded ops a.tmps)=true then Oper.wp Tryz.prog o a w K Q else X :=
 aBd h hgd x y ho b of hx R v hv hy ht (hn _ (zh rfl))
end
theorem aCZ (x:StpR) (w:World):(Instr.build 86 #[(0,.agg (dT x.gN x.gZ x.B1 x.m1 x.d1 x.B2 x.m2 x.d2 x.B3 x.m3 x.d3)),(1,.agg (ssA x.s)),(2,.agg (txA x.ac x.sq x.A x.n x.c)),(3,.int .i64 x.ht)]).run Tryz.prog w=.ok (.agg (stpA x)) w:=by kernel_rfl
theorem aDa (x:RcR) (w:World):(Instr.build 52 #[(0,.int .i64 x.cd),(1,.slice x.A x.n x.c),(2,.int .i64 x.o),(3,.int .i64 x.g)]).run Tryz.prog w=.ok (.agg (rcA x)) w:=by kernel_rfl
def aLY (w:World) (C:List DeR) (c:CeR) (e:Ending) (w':World):Prop:=∃ r,e=.returned (.int .i64 r)∧IxIs (fun d:DeR=>decide (d.c=c)) C r∧Ext w w'
theorem aEg (s:StR) (c:CeR) (w:World) (h:s.ok w) (hc:ceW c):Calls Tryz.prog 70 #[.agg (ssA s),.agg (ceA c)] w (aLY w s.C c):=by
 obtain ⟨W,hW⟩:∃ W,(w.alloc (.cells (ssA s) 44)).alloc (.cells (ceA c) 32)=W:=⟨_,rfl⟩
 have HB:=zh (show Blk W w.heap.size 44 (ssA s) from by rw [← hW];exact (Blk.new w 44 (ssA s)).alloc _)
 have HC:=zh (show Blk W (w.heap.size+1) 32 (ceA c) from by rw [← hW];exact Blk.newAt _ _ _ _ (by simp))
 have HE:=zh (show Ext w W from by rw [← hW];exact ((Ext.refl w).alloc' _).alloc' _)
 have HS:=zh h.s1
 have HCW:=zh hc
 have HLEN:=zh h.s1.len
 have hle:=h.s1.le
 have hcap:=h.s1.cap
 clear h hc
 go_enter Tryz.func70,Tryz.ntmps70
 go_wp2_with fail
 go_loopw [5] (fun vi wr=>∃ k:Nat,vi=.int .i64 (k:Int)∧k≤s.n1∧Hid (∀ j,j < k→decide ((nthG s.C j).c=c)=false)∧Hid (Ext W wr)) (fun i _=>s.n1 - (intOf i).toNat)
 case atStart=>exact ⟨0,rfl,Nat.zero_le _,zh (fun j hj=>absurd hj (Nat.not_lt_zero _)),zh (Ext.refl W)⟩
 case round =>
  obtain ⟨k,rfl,hk,HN,HXW⟩:=hrel
  have HB1:=zh (HB.out.ext HXW.out)
  have HC1:=zh (HC.out.ext HXW.out)
  have HX:=zh (HE.out.trans HXW.out)
  have q0:=HB1.out.cell 0
  by_cases hlt:k < s.n1
  ·have i0 : (0 : Int) ≤ (k : Int) := by omega
   have i1:(k:Int) < (s.n1:Int):=by omega
   obtain ⟨d,hd⟩:∃ d,nthG s.C k=d:=⟨_,rfl⟩
   obtain ⟨b,o,hab,hrow,-⟩:=HS.out.at (by omega)
   have HAB:=zh hab
   have HDR:=zh (fun (V:World) (e:Ext w V)=>show V.rangeAt b (o+k * 11) (RowT.enc d.c) from by
    rw [← hd]
    obtain ⟨b2,o2,e2,hr2,-⟩:=(HS.out.ext e).at (by omega)
    rw [HAB.out] at e2
    injection e2 with e3
    injection e3 with e4 e5
    subst e4
    subst e5
    have:=aU (k:=10) (cG (k:=k) hr2 (by rw [HLEN.out];exact hlt))
    exact this)
   have hdw:deW d:=by rw [← hd];exact HS.out.nth hlt
   have HEQ:=zh (fun W=>tV d.c c hdw.1 HCW.out W)
   obtain ⟨eq,heq⟩:∃ eq,decide (d.c=c)=eq:=⟨_,rfl⟩
   rw [heq] at HEQ
   have HDK:=zh (show decide ((nthG s.C k).c=c)=eq from by rw [hd];exact heq)
   clear hab hrow hd hdw heq
   go_upto_region 4 with fail
   clear q0
   refine wp_region_held_drew (S:=fun V=>Blk V w.heap.size 44 (ssA s)∧Blk V (w.heap.size+1) 32 (ceA c)∧Ext w V) (by kernel_rfl) (⟨HB1.out.drew,HC1.out.drew,HX.out.trans ((Ext.refl _).drew')⟩) (fun aA=>?_)
   refine zz0 [0,1,2,3,4] ?_;repeat first | refine zz1 ?_ (hy:=by intro W aM;have q1:W.cell? ⟨w.heap.size,0,none⟩=some (.slice (some ⟨b,o,none⟩) s.n1 s.c1):=(by rw [← HAB.out];exact aM.1.cell 0);go_simp <;> with_reducible rfl) | refine zz2 ?_ | refine zz9 ?_
   refine zu 5 (v:=.agg (ceA d.c)) aA ?_ (hy:=by exact aF ceP (by rfl) (.tmp 17) rfl b (o+k * 11) rfl d.c _ rfl (fun V h=>HDR.out V h.2.2))
   refine zu 6 (v:=.agg (ceA c)) aA ?_ (hy:=by exact aF ceP (by rfl) (.tmp 3) rfl (w.heap.size+1) 0 rfl c _ rfl (fun V h=>aD h.2.1))
   refine zu 7 (v:=.bool eq) aA ?_ (hy:=by exact cI (by rfl) (.tmp 18) (.tmp 19) (by rfl) (vx:=.agg (ceA d.c)) (vy:=.agg (ceA c)) (by rfl) (by rfl) (kX _ _ _ _ _) HEQ.out)
   refine wpAnyH_done (by kernel_rfl) ?_ _
   have HXN:=zh (HXW.out.trans ((Ext.refl _).drew'))
   have HXX:=zh (HX.out.trans ((Ext.refl _).drew'))
   clear aA
   cases eq
   ·go_wp2_with fail
    go_roundw
    case rel=>exact ⟨k+1,by go_num,hlt,zh (fun j hj=>by
     rcases (by omega:j < k ∨ j=k) with hj | rfl
     ·exact HN.out j hj
     exact HDK.out),HXN⟩
    case measure=>simp [intOf];omega
   go_wp2_with fail
   go_ret
   exact ⟨_,rfl,.inr ⟨k,rfl,by rw [HLEN.out];exact hlt,HDK.out,HN.out⟩,HXX.out⟩
  obtain rfl:s.n1=k:=by omega
  have i1:¬ (s.n1:Int) < (s.n1:Int):=by omega
  go_wp2_with fail
  go_ret
  exact ⟨_,rfl,.inl ⟨rfl,fun j hj=>HN.out j (by rw [← HLEN.out];exact hj)⟩,HX.out⟩
theorem mP (s:StR) (c:CeR) (w:World) (h:s.ok w) (hc:ceW c):Calls Tryz.prog 30 #[.agg (ssA s),.agg (ceA c)] w fun e w'=>e=.returned (.int .i64 (bW s.C c))∧Ext w w':=by
 obtain ⟨W,hW⟩:∃ W,(w.alloc (.cells (ssA s) 44)).alloc (.cells (ceA c) 32)=W:=⟨_,rfl⟩
 have HB:=zh (show Blk W w.heap.size 44 (ssA s) from by rw [← hW];exact (Blk.new w 44 (ssA s)).alloc _)
 have HC:=zh (show Blk W (w.heap.size+1) 32 (ceA c) from by rw [← hW];exact Blk.newAt _ _ _ _ (by simp))
 have HE:=zh (show Ext w W from by rw [← hW];exact ((Ext.refl w).alloc' _).alloc' _)
 have HS:=zh h
 have HCW:=zh hc
 have hle:=h.s1.le
 have hcap:=h.s1.cap
 have rc:W.rangeAt (w.heap.size+1) 0 (RowT.enc c):=aD HC.out
 obtain ⟨q0,q1,q2,q3,q4⟩:=aE HB.out
 clear h hc
 go_enter Tryz.func30,Tryz.ntmps30
 go_wp2_with (first | (with_reducible refine aB ceP rfl (.tmp 3) rfl (w.heap.size+1) 0 rfl c _ rfl rc ?_) | fail "A")
 refine (aEg s c W (HS.out.ext HE.out) HCW.out).mono ?_
 rintro e w5 ⟨r,rfl,hr,he5⟩
 have HX5:=zh (HE.out.trans he5)
 rcases hr with ⟨rfl,hno⟩ | ⟨k,rfl,hk,h1,h2⟩
 ·have HG := zh (show bW s.C c = 0 from dV (sZ hno))
  clear he5 q0 q1 q2 q3 q4 rc hno
  go_wp2_with fail
  go_ret
  exact ⟨by rw [HG.out];rfl,HX5.out⟩
 have HG:=zh (show bW s.C c=(nthG s.C k).a from dV (qE hk h1 h2))
 have hkn:k < s.n1:=by rw [← HS.out.s1.len];exact hk
 have i0:¬ (k:Int) < 0:=by omega
 have i2:(0:Int)≤(k:Int):=by omega
 have i1:(k:Int) < (s.n1:Int):=by omega
 obtain ⟨b,o,hab,hcell⟩:=vB (HS.out.ext HX5.out).s1 hkn
 have p0:w5.cell? ⟨w.heap.size,0,none⟩=some (.slice (some ⟨b,o,none⟩) s.n1 s.c1):=by rw [← hab];exact (HB.out.ext he5).cell 0
 clear he5 q0 q1 q2 q3 q4 rc hk h1 h2 hab
 go_wp2_with fail
 go_ret
 exact ⟨by rw [HG.out];rfl,HX5.out⟩
theorem zW (A:Option Addr) (n c:Nat) (L:List UInt64) (x:UInt64) (w:World) (h:SlG w A n c L):Calls Tryz.prog 34 #[.slice A n c,.agg (nmc x)] w fun e w'=>e=.returned (.bool (decide (x ∈ L)))∧Ext w w':=by
 obtain ⟨W,hW⟩:∃ W,w.alloc (.cells (nmc x) 30)=W:=⟨_,rfl⟩
 have HC:=zh (show Blk W w.heap.size 30 (nmc x) from by rw [← hW];exact Blk.new w 30 (nmc x))
 have HE:=zh (show Ext w W from by rw [← hW];exact (Ext.refl w).alloc' _)
 have HS:=zh h
 have HLEN:=zh h.len
 have hle:=h.le
 have hcap:=h.cap
 clear h
 go_enter Tryz.func34,Tryz.ntmps34
 go_wp2_with fail
 go_loopw [5] (fun vi wr=>∃ k:Nat,vi=.int .i64 (k:Int)∧k≤n∧Hid (∀ j,j < k→decide (nthG L j=x)=false)∧Hid (Ext W wr)) (fun i _=>n - (intOf i).toNat)
 case atStart=>exact ⟨0,rfl,Nat.zero_le _,zh (fun j hj=>absurd hj (Nat.not_lt_zero _)),zh (Ext.refl W)⟩
 case round =>
  obtain ⟨k,rfl,hk,HN,HXW⟩:=hrel
  have HC1:=zh (HC.out.ext HXW.out)
  have HX:=zh (HE.out.trans HXW.out)
  by_cases hlt:k < n
  ·have i0 : (0 : Int) ≤ (k : Int) := by omega
   have i1:(k:Int) < (n:Int):=by omega
   obtain ⟨d,hd⟩:∃ d,nthG L k=d:=⟨_,rfl⟩
   obtain ⟨b,o,hab,hrow,-⟩:=HS.out.at (by omega)
   subst hab
   have HDR:=zh (fun (V:World) (e:Ext w V)=>show V.rangeAt b (o+k * 8) (RowT.enc d) from by
    rw [← hd]
    obtain ⟨b2,o2,e2,hr2,-⟩:=(HS.out.ext e).at (by omega)
    injection e2 with e3
    injection e3 with e4 e5
    subst e4
    subst e5
    exact cG (k:=k) hr2 (by rw [HLEN.out];exact hlt))
   have HEQ:=zh (fun W=>cO d x W)
   obtain ⟨eq,heq⟩:∃ eq,decide (d=x)=eq:=⟨_,rfl⟩
   rw [heq] at HEQ
   have HDK:=zh (show decide (nthG L k=x)=eq from by rw [hd];exact heq)
   clear hrow hd heq
   go_upto_region 4 with fail
   refine wp_region_held_drew (S:=fun V=>Blk V w.heap.size 30 (nmc x)∧Ext w V) (by kernel_rfl) (⟨HC1.out.drew,HX.out.trans ((Ext.refl _).drew')⟩) (fun aA=>?_)
   refine zzr [0,1,2] ?_
   refine zu 3 (v:=.agg (nmc d)) aA ?_ (hy:=by exact aF nmP (by rfl) (.tmp 14) rfl b (o+k * 8) rfl d _ rfl (fun V h=>HDR.out V h.2))
   refine zu 4 (v:=.agg (nmc x)) aA ?_ (hy:=by exact aF nmP (by rfl) (.tmp 3) rfl w.heap.size 0 rfl x _ rfl (fun V h=>bM h.1))
   refine zu 5 (v:=.bool eq) aA ?_ (hy:=by exact cI (by rfl) (.tmp 15) (.tmp 16) (by rfl) (vx:=.agg (nmc d)) (vy:=.agg (nmc x)) (by rfl) (by rfl) (gI _ _ _ _ _) HEQ.out)
   refine wpAnyH_done (by kernel_rfl) ?_ _
   have HXN:=zh (HXW.out.trans ((Ext.refl _).drew'))
   have HXX:=zh (HX.out.trans ((Ext.refl _).drew'))
   clear aA
   cases eq
   ·go_wp2_with fail
    go_roundw
    case rel=>exact ⟨k+1,by go_num,hlt,zh (fun j hj=>by
     rcases (by omega:j < k ∨ j=k) with hj | rfl
     ·exact HN.out j hj
     exact HDK.out),HXN⟩
    case measure=>simp [intOf];omega
   have HF:=zh (show decide (x ∈ L)=true from by
    have h1:nthG L k=x:=of_decide_eq_true HDK.out
    exact decide_eq_true (by rw [← h1];exact gE (by rw [HLEN.out];exact hlt)))
   go_wp2_with fail
   go_ret
   exact ⟨by rw [HF.out];rfl,HXX.out⟩
  obtain rfl:n=k:=by omega
  have i1:¬ (n:Int) < (n:Int):=by omega
  have HF:=zh (show decide (x ∈ L)=false from decide_eq_false (fun hm=>by
   obtain ⟨j,hj,hx⟩:=List.getElem_of_mem hm
   have:=HN.out j (by rw [← HLEN.out];exact hj)
   rw [← cC hj] at this
   exact (of_decide_eq_false this) hx))
  go_wp2_with fail
  go_ret
  exact ⟨by rw [HF.out];rfl,HX.out⟩
end
end Go.Proofs.YtohmmcahpakokaaGreat
