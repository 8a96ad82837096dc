/- Valid states (plain). -/
import Derived.Test.YtohmmcahpakokaaGreatG31
import Derived.Test.YtohmmcahpakokaaGreatG36
set_option maxRecDepth 100000
set_option maxHeartbeats 8000000
set_option linter.unusedVariables false
set_option linter.unusedSimpArgs false
namespace Go.Proofs.YtohmmcahpakokaaGreat
section
open Go.RowKit
theorem aKV {C:List DeR} (ha:AscC C) (h:∀ d,d ∈ C→d.a ≠ 0∧0≤d.a∧d.a≤1125899906842624):Sol C 1125899906842624 :=
 ⟨ha,fun d hd=>⟨(h d hd).1,by have:=h d hd;unfold jS;omega⟩,fun c=>by
  cases e:fdC C c with
  | none=>rw [dS e];exact ⟨by decide,by decide⟩
  | some d=>rw [dS e];exact (h d (aCI e).1).2⟩
theorem Sol.pos {C:List DeR} {B:Int} (h:Sol C B):∀ d,d ∈ C→0≤d.a:=fun d hd=>by
 have:=(h.bd d.c).1
 rwa [aIe h.asc hd] at this
theorem aJC {na nv:Nat} {ht:Int} {H:List UInt8→UInt64} {ev:OpR→Bool} {okG:Bool} {sg:Bool} {S:StV} {ac sq:Int} {L:List OpR} (h:Sol S.C 1125899906842624) :
  (∀ d,d ∈ (lQ (dA na nv ht H ev ac) okG na sg S ac sq L).C→0≤d.a)∧∀ j,j ≠ ac→getC S.C (aY j)≤getC (lQ (dA na nv ht H ev ac) okG na sg S ac sq L).C (aY j):=by
 unfold lQ
 by_cases e:gX (dA na nv ht H ev ac) okG na sg S ac sq L=0
 ·rw [if_pos e]
  obtain ⟨h1,h2⟩:=tK e
  have:=aJN (qN h1).1 h L.length (Nat.le_refl _) h2
  exact ⟨this.1.pos,this.2⟩
 rw [if_neg e]
 exact ⟨h.pos,fun j _=>Int.le_refl _⟩
end
section
open Go.RowKit
attribute [local go_sem ↓] Go.wp_at_zero Go.wp_at_succ
theorem aIx {k:Nat} (h:k≤16):ceW (aY (k:Int)):=fM (wfS ⟨by omega,by omega⟩) (wfS ⟨by omega,by omega⟩)
theorem sZ (x:StpR) (S:Option Addr) (m d:Nat) (L:List OpR) (sig:List UInt8) (VN PN:List UInt64) (BL:List Int) (w:World) (hV:SlG w x.B1 x.m1 x.d1 VN) (hN:SlG w x.B2 x.m2 x.d2 PN) (hB:SlZ w x.B3 x.m3 x.d3 BL) (hs:x.s.ok w) (hT:(⟨x.ac,x.sq,x.A,x.n,x.c,S,m,d,L,sig⟩:TxR).ok w) :
  Calls Tryz.prog 8 #[.agg (genC x.gN x.gZ x.B1 x.m1 x.d1 x.B2 x.m2 x.d2 x.B3 x.m3 x.d3),.agg (ssA x.s),.agg (stA x.ac x.sq x.A x.n x.c S m d),.int .i64 x.ht] w fun e w'=>e=.returned (.bool true)∧Ext w w':=by
 obtain ⟨W,hW,H0⟩:=LwS.new (x:=x) (S:=S) (m:=m) (d:=d) (L:=L) (sig:=sig) hV hN hB hs hT
 clear hV hN hB hs hT
 obtain ⟨V5,hV5⟩:∃ V,lQ (dA x.m2 x.m1 x.ht cM (evU VN) x.ac) (eV x.gN x.gZ x.m1 x.m2 x.m3 BL) x.m2 (vSg (aH PN x.ac.toNat) ⟨x.ac,x.sq,x.A,x.n,x.c,S,m,d,L,sig⟩) x.s.V x.ac x.sq L=V:=⟨_,rfl⟩
 obtain ⟨cd,hcd⟩:∃ z,gX (dA x.m2 x.m1 x.ht cM (evU VN) x.ac) (eV x.gN x.gZ x.m1 x.m2 x.m3 BL) x.m2 (vSg (aH PN x.ac.toNat) ⟨x.ac,x.sq,x.A,x.n,x.c,S,m,d,L,sig⟩) x.s.V x.ac x.sq L=z:=⟨_,rfl⟩
 have HV5:=zh hV5
 have HCD:=zh hcd
 have HEX:=zh (fun (V:World) (H:LwS w V x S m d L sig VN PN BL) (hn:x.s.n1≤200000∧x.s.n2≤200000∧x.s.n3≤200000∧x.s.n4≤200000) (hp:∀ R ∈ L,R.n1≤5000)=>rK x S m d L sig VN PN BL V H.hs H.hT H.hV H.hN H.hB hn hp)
 rw [hV5,hcd] at HEX
 clear hV5 hcd
 go_enter Tryz.func8,Tryz.ntmps8
 have hu1:=H0.out.hV.le
 have hu2:=H0.out.hV.cap
 have hu3:=H0.out.hN.le
 have hu4:=H0.out.hN.cap
 have hu5:=H0.out.hB.le
 have hu6:=H0.out.hB.cap
 obtain ⟨g0,g1,g2,g3,g4,p0,p1,p2,p3,p4,t0,t1,t2,t3⟩:=H0.out.f
 go_wp2_with fail
 refine (nR x.gN x.gZ x.B1 x.m1 x.d1 x.B2 x.m2 x.d2 x.B3 x.m3 x.d3 _ ⟨hu1,hu2⟩ ⟨hu3,hu4⟩ ⟨hu5,hu6⟩).mono ?_
 rintro e w1 ⟨⟨b1,rfl,hb1⟩,he1⟩
 have H1:=zh (H0.out.ext he1)
 clear he1 H0 g0 g1 g2 g3 g4 p0 p1 p2 p3 p4 t0 t1 t2 t3
 cases b1
 rotate_left
 ·skip
  obtain ⟨g0,g1,g2,g3,g4,p0,p1,p2,p3,p4,t0,t1,t2,t3⟩:=H1.out.f
  go_wp2_with fail
  refine (cL _).mono ?_
  rintro e w9 ⟨rfl,he9⟩
  have HX9:=zh (H1.out.low.trans he9)
  clear he9
  go_wp2_with fail
  go_ret
  exact ⟨rfl,HX9.out⟩
 clear hb1
 obtain ⟨g0,g1,g2,g3,g4,p0,p1,p2,p3,p4,t0,t1,t2,t3⟩:=H1.out.f
 go_wp2_with fail
 refine (sG x.s _ H1.out.hs).mono ?_
 rintro e w2 ⟨⟨b2,rfl,hb2⟩,he2⟩
 have H2:=zh (H1.out.ext he2)
 clear he2 H1 g0 g1 g2 g3 g4 p0 p1 p2 p3 p4 t0 t1 t2 t3
 cases b2
 rotate_left
 ·skip
  obtain ⟨g0,g1,g2,g3,g4,p0,p1,p2,p3,p4,t0,t1,t2,t3⟩:=H2.out.f
  go_wp2_with fail
  refine (cL _).mono ?_
  rintro e w9 ⟨rfl,he9⟩
  have HX9:=zh (H2.out.low.trans he9)
  clear he9
  go_wp2_with fail
  go_ret
  exact ⟨rfl,HX9.out⟩
 have HNN:=zh (hb2 rfl)
 clear hb2
 obtain ⟨g0,g1,g2,g3,g4,p0,p1,p2,p3,p4,t0,t1,t2,t3⟩:=H2.out.f
 go_wp2_with fail
 refine (aCs x.ac x.sq x.A x.n x.c L _ H2.out.hT.ops).mono ?_
 rintro e w3 ⟨⟨b3,rfl,hb3⟩,he3⟩
 have H3:=zh (H2.out.ext he3)
 clear he3 H2 g0 g1 g2 g3 g4 p0 p1 p2 p3 p4 t0 t1 t2 t3
 cases b3
 rotate_left
 ·skip
  obtain ⟨g0,g1,g2,g3,g4,p0,p1,p2,p3,p4,t0,t1,t2,t3⟩:=H3.out.f
  go_wp2_with fail
  refine (cL _).mono ?_
  rintro e w9 ⟨rfl,he9⟩
  have HX9:=zh (H3.out.low.trans he9)
  clear he9
  go_wp2_with fail
  go_ret
  exact ⟨rfl,HX9.out⟩
 have HPN:=zh (hb3 rfl)
 clear hb3
 have HN:=zh (show x.s.n1≤200000∧x.s.n2≤200000∧x.s.n3≤200000∧x.s.n4≤200000 from by have:=HNN.out;omega)
 have hsl:=H3.out.hT.sig.le
 have hsc:=H3.out.hT.sig.cap
 by_cases hm:m > 5000
 ·have km : (m : Int) > 5000 := by omega
  clear hm
  obtain ⟨g0,g1,g2,g3,g4,p0,p1,p2,p3,p4,t0,t1,t2,t3⟩:=H3.out.f
  go_wp2_with fail
  refine (cL _).mono ?_
  rintro e w9 ⟨rfl,he9⟩
  have HX9:=zh (H3.out.low.trans he9)
  clear he9
  go_wp2_with fail
  go_ret
  exact ⟨rfl,HX9.out⟩
 have km:¬ (m:Int) > 5000:=by omega
 clear hm
 obtain ⟨g0,g1,g2,g3,g4,p0,p1,p2,p3,p4,t0,t1,t2,t3⟩:=H3.out.f
 go_wp2_with fail
 refine (lY x.s _ H3.out.hs).mono ?_
 rintro e w4 ⟨b4,rfl,hb4,he4⟩
 have H4:=zh (H3.out.ext he4)
 clear he4 H3 g0 g1 g2 g3 g4 p0 p1 p2 p3 p4 t0 t1 t2 t3
 cases b4
 ·skip
  obtain ⟨g0,g1,g2,g3,g4,p0,p1,p2,p3,p4,t0,t1,t2,t3⟩:=H4.out.f
  go_wp2_with fail
  refine (cL _).mono ?_
  rintro e w9 ⟨rfl,he9⟩
  have HX9:=zh (H4.out.low.trans he9)
  clear he9
  go_wp2_with fail
  go_ret
  exact ⟨rfl,HX9.out⟩
 have HVS:=zh (hb4 rfl)
 clear hb4
 obtain ⟨g0,g1,g2,g3,g4,p0,p1,p2,p3,p4,t0,t1,t2,t3⟩:=H4.out.f
 go_wp2_with fail
 refine (mU x.s _ H4.out.hs).mono ?_
 rintro e w5 ⟨⟨b5,rfl,hb5⟩,he5⟩
 have H5:=zh (H4.out.ext he5)
 clear he5 H4 g0 g1 g2 g3 g4 p0 p1 p2 p3 p4 t0 t1 t2 t3
 cases b5
 rotate_left
 ·skip
  obtain ⟨g0,g1,g2,g3,g4,p0,p1,p2,p3,p4,t0,t1,t2,t3⟩:=H5.out.f
  go_wp2_with fail
  refine (cL _).mono ?_
  rintro e w9 ⟨rfl,he9⟩
  have HX9:=zh (H5.out.low.trans he9)
  clear he9
  go_wp2_with fail
  go_ret
  exact ⟨rfl,HX9.out⟩
 have HNG:=zh (hb5.1 rfl)
 clear hb5
 obtain ⟨g0,g1,g2,g3,g4,p0,p1,p2,p3,p4,t0,t1,t2,t3⟩:=H5.out.f
 go_wp2_with fail
 refine (HEX.out _ H5.out HN.out HPN.out).mono ?_
 rintro e w6 ⟨s5,A5,n5,c5,rfl,ho,hv,hse,he⟩
 have HO5:=zh ho.ok
 have HSV5:=zh hv
 have HSE5:=zh hse
 have H6:=zh (H5.out.ext he)
 clear he H5 ho hv hse g0 g1 g2 g3 g4 p0 p1 p2 p3 p4 t0 t1 t2 t3
 obtain ⟨g5,hg⟩:∃ g,w6.heap.size=g:=⟨_,rfl⟩
 obtain ⟨U,hU,HP,HQ,HU⟩:=zT w6 #[.slice none 0 0,.slice none 0 0,.slice none 0 0,.slice none 0 0,.int .i64 0] #[.int .i64 0,.slice none 0 0,.int .i64 0,.int .i64 0] 44 52
 have HGG:=zh hg
 rw [hg] at HP HQ
 clear hg
 have HP:=zh (show Blk U g5 44 (ssA ss0) from HP.out)
 have HQ:=zh (show Blk U (g5+1) 52 (rcA rc0) from HQ.out)
 obtain ⟨ro5,hro⟩:∃ z,rcO cd x.ac x.sq L=z:=⟨_,rfl⟩
 obtain ⟨rg5,hrg⟩:∃ z,rcG cd x.s.V V5=z:=⟨_,rfl⟩
 have HRO5:=zh hro
 have HRG5:=zh hrg
 rw [hro,hrg]
 clear hro hrg
 go_upto_region 4 with (first | ((try rw [hU]);(try rw [HGG.out]);(with_reducible refine cR rfl 44 (.tmp 9) (.tmp 45) rfl g5 (ssA ss0) (ssA s5) _ rfl rfl rfl rfl (by kernel_rfl) (by kernel_rfl) HP.out ?_);intro Ua ha;have HQa:=zh (show Blk Ua (g5+1) 52 (rcA rc0) from by rw [← ha.out.2];exact HQ.out.setCells_far (by omega) _ _);have HBa:=zh ha.out.1;have HEa:=zh (show Ext w6 Ua from by rw [← ha.out.2];exact Below.setCells' HU.out (by rw [HGG.out];exact Nat.le_refl _) _ _);clear ha) | ((with_reducible refine cR rfl 52 (.tmp 10) (.tmp 46) rfl (g5+1) (rcA rc0) (rcA ⟨cd,A5,n5,c5,ro5,rg5⟩) _ rfl rfl rfl rfl (by kernel_rfl) (by kernel_rfl) HQa.out ?_);intro V5b hb))
 have he:Ext w6 V5b:=by rw [← hb.out.2];exact Below.setCells' HEa.out (by rw [HGG.out];exact Nat.le_succ _) _ _
 have HB5:=zh (show Blk V5b g5 44 (ssA s5) from by rw [← hb.out.2];exact HBa.out.setCells_far (by omega) _ _)
 have HR5:=zh hb.out.1
 have HOk5:=zh (HO5.out.ext he)
 have HSe5:=zh (HSE5.out.ext he)
 have H7:=zh (H6.out.ext he)
 clear he H6 hb hU HP HQ HU HBa HQa HEa HGG HO5 HSE5
 have HSL:=zh (show (∀ d,d ∈ V5.C→0≤d.a)∧∀ j,j ≠ x.ac→getC x.s.C (aY j)≤getC V5.C (aY j) from by
  have hs:=aKV HVS.out.asc (fun d hd=>⟨(HVS.out.am d hd).1,HNG.out d hd,(HVS.out.am d hd).2.2.1⟩)
  have h1:=aJC (na:=x.m2) (nv:=x.m1) (ht:=x.ht) (H:=cM) (ev:=evU VN) (okG:=(eV x.gN x.gZ x.m1 x.m2 x.m3 BL)) (sg:=(vSg (aH PN x.ac.toNat) ⟨x.ac,x.sq,x.A,x.n,x.c,S,m,d,L,sig⟩)) (S:=x.s.V) (ac:=x.ac) (sq:=x.sq) (L:=L) hs
  rw [HV5.out] at h1
  exact h1)
 have HC5:=zh (show s5.C=V5.C from congrArg StV.C HSV5.out)
 clear HEX HVS HNG
 go_wp2_with fail
 have HX0:=zh (Ext.refl V5b)
 go_loopw [11] (fun vi wr=>∃ k:Nat,vi=.int .i64 (k:Int)∧k≤16∧Hid (Ext V5b wr)) (fun i _=>16 - (intOf i).toNat)
 case atStart=>exact ⟨0,rfl,Nat.zero_le _,HX0⟩
 case round =>
  clear HX0
  obtain ⟨k,rfl,hk,HX0⟩:=hrel
  by_cases hlt:k < 16
  ·have i0 : (k : Int) < 16 := by omega
   obtain ⟨y1,hy1⟩:∃ z,getC s5.C (aY (k:Int))=z:=⟨_,rfl⟩
   obtain ⟨y2,hy2⟩:∃ z,getC x.s.C (aY (k:Int))=z:=⟨_,rfl⟩
   have HG1:=zh (fun (V:World) (e:Ext V5b V)=>jO s5 (aY (k:Int)) V (HOk5.out.ext e) (aIx hk))
   have HG2:=zh (fun (V:World) (e:Ext V5b V)=>jO x.s (aY (k:Int)) V (H7.out.hs.ext e) (aIx hk))
   rw [hy1] at HG1
   rw [hy2] at HG2
   obtain ⟨av,hav⟩:∃ z,x.ac=z:=⟨_,rfl⟩
   have HAC:=zh hav
   have hcs:((k:Int)=av) ∨ (¬ (k:Int)=av∧¬ y1 < y2):=by
    by_cases h1:(k:Int)=av
    ·exact .inl h1
    refine .inr ⟨h1,?_⟩
    have h2:=HSL.out.2 (k:Int) (by rw [hav];exact h1)
    rw [← HC5.out,hy1,hy2] at h2
    omega
   clear hy1 hy2 hav
   go_upto_region 7 with fail
   rcases hcs with rfl | ⟨h1,h2⟩
   ·skip
    refine wp_region_held_drew (S:=fun V=>Ext V5b V) (by kernel_rfl) (HX0.out.trans ((Ext.refl _).drew')) (fun aA=>?_)
    refine zz0 [0,1,2,3,4,5] ?_;repeat first | refine zz1 ?_ (hy:=by intro W aL;have t0:=(H7.out.ext aL).t.cell 0;rw [HAC.out] at t0;go_simp <;> with_reducible rfl) | refine zz2 ?_ | refine zz9 ?_
    first | refine zu 6 (v:=.agg (ssA s5)) aA ?_ (hy:=by refine .inl ⟨by rfl,fun V aL=>?_⟩;obtain ⟨q0,q1,q2,q3,q4⟩:=aE (HB5.out.ext aL);go_simp;try rfl) | (refine zs 6 aA ?_)
    try simp only [aX]
    first | (refine zt 7 aA ?_) | (refine zs 7 aA ?_)
    first | refine zu 10 (v:=.agg (ssA x.s)) aA ?_ (hy:=by refine .inl ⟨by rfl,fun V aL=>?_⟩;obtain ⟨q0,q1,q2,q3,q4⟩:=aE ((H7.out.ext aL).p);go_simp;try rfl) | (refine zs 10 aA ?_)
    try simp only [aX]
    first | (refine zt 11 aA ?_) | (refine zs 11 aA ?_)
    refine za 8 (fun K hK=>?_)
    (go_simp;first | (go_at_call 33;refine (dX (k:Int) _).mono ?_;rintro e w5 ⟨rfl,he5⟩) | skip)
    refine hK.out _ _ (by first | exact aA.trans he5 | exact aA) (fun aA=>?_)
    clear hK K
    try simp only [aX]
    refine za 9 (fun K hK=>?_)
    (go_simp;first | (go_at_call 30;refine (HG1.out _ aA).mono ?_;rintro e w5 ⟨rfl,he5⟩) | skip)
    refine hK.out _ _ (by first | exact aA.trans he5 | exact aA) (fun aA=>?_)
    clear hK K
    try simp only [aX]
    refine za 12 (fun K hK=>?_)
    (go_simp;first | (go_at_call 33;refine (dX (k:Int) _).mono ?_;rintro e w5 ⟨rfl,he5⟩) | skip)
    refine hK.out _ _ (by first | exact aA.trans he5 | exact aA) (fun aA=>?_)
    clear hK K
    try simp only [aX]
    refine za 13 (fun K hK=>?_)
    (go_simp;first | (go_at_call 30;refine (HG2.out _ aA).mono ?_;rintro e w5 ⟨rfl,he5⟩) | skip)
    refine hK.out _ _ (by first | exact aA.trans he5 | exact aA) (fun aA=>?_)
    clear hK K
    try simp only [aX]
    refine zzr [14,15] ?_
    refine wpAnyH_done (by kernel_rfl) ?_ _
    have HXF:=zh aA
    clear aA
    go_wp2_with fail
    go_roundw
    case rel=>exact ⟨k+1,by go_num,hlt,HXF⟩
    case measure=>simp [intOf];omega
   have b9:((k:Int) == av)=false:=beq_eq_false_iff_ne.2 h1
   have e9:decide ((k:Int)=av)=false:=decide_eq_false h1
   have n9:((k:Int) != av)=true:=by rw [bne,b9];rfl
   refine wp_region_held_drew (S:=fun V=>Ext V5b V) (by kernel_rfl) (HX0.out.trans ((Ext.refl _).drew')) (fun aA=>?_)
   refine zz0 [0,1,2,3,4,5] ?_;repeat first | refine zz1 ?_ (hy:=by intro W aL;have t0:=(H7.out.ext aL).t.cell 0;rw [HAC.out] at t0;go_simp <;> with_reducible rfl) | refine zz2 ?_ | refine zz9 ?_
   first | refine zu 6 (v:=.agg (ssA s5)) aA ?_ (hy:=by refine .inl ⟨by rfl,fun V aL=>?_⟩;obtain ⟨q0,q1,q2,q3,q4⟩:=aE (HB5.out.ext aL);go_simp;try rfl) | (refine zs 6 aA ?_)
   try simp only [aX]
   first | (refine zt 7 aA ?_) | (refine zs 7 aA ?_)
   first | refine zu 10 (v:=.agg (ssA x.s)) aA ?_ (hy:=by refine .inl ⟨by rfl,fun V aL=>?_⟩;obtain ⟨q0,q1,q2,q3,q4⟩:=aE ((H7.out.ext aL).p);go_simp;try rfl) | (refine zs 10 aA ?_)
   try simp only [aX]
   first | (refine zt 11 aA ?_) | (refine zs 11 aA ?_)
   refine za 8 (fun K hK=>?_)
   (go_simp;first | (go_at_call 33;refine (dX (k:Int) _).mono ?_;rintro e w5 ⟨rfl,he5⟩) | skip)
   refine hK.out _ _ (by first | exact aA.trans he5 | exact aA) (fun aA=>?_)
   clear hK K
   try simp only [aX]
   refine za 9 (fun K hK=>?_)
   (go_simp;first | (go_at_call 30;refine (HG1.out _ aA).mono ?_;rintro e w5 ⟨rfl,he5⟩) | skip)
   refine hK.out _ _ (by first | exact aA.trans he5 | exact aA) (fun aA=>?_)
   clear hK K
   try simp only [aX]
   refine za 12 (fun K hK=>?_)
   (go_simp;first | (go_at_call 33;refine (dX (k:Int) _).mono ?_;rintro e w5 ⟨rfl,he5⟩) | skip)
   refine hK.out _ _ (by first | exact aA.trans he5 | exact aA) (fun aA=>?_)
   clear hK K
   try simp only [aX]
   refine za 13 (fun K hK=>?_)
   (go_simp;first | (go_at_call 30;refine (HG2.out _ aA).mono ?_;rintro e w5 ⟨rfl,he5⟩) | skip)
   refine hK.out _ _ (by first | exact aA.trans he5 | exact aA) (fun aA=>?_)
   clear hK K
   try simp only [aX]
   refine zzr [14,15] ?_
   refine wpAnyH_done (by kernel_rfl) ?_ _
   have HXF:=zh aA
   clear aA
   go_wp2_with fail
   go_roundw
   case rel=>exact ⟨k+1,by go_num,hlt,HXF⟩
   case measure=>simp [intOf];omega
  have i0:¬ (k:Int) < 16:=by omega
  obtain ⟨q0,q1,q2,q3,q4⟩:=aE (HB5.out.ext HX0.out)
  go_wp2_with fail
  refine (mU s5 _ (HOk5.out.ext HX0.out)).mono ?_
  rintro e w6 ⟨⟨b,rfl,hb⟩,he6⟩
  obtain rfl:b=false:=hb.2 (fun d hd=>HSL.out.1 d (by rw [← HC5.out];exact hd))
  have HX6:=zh ((H7.out.low.trans HX0.out).trans he6)
  clear hb he6 q0 q1 q2 q3 q4
  go_wp2_with fail
  refine (cL _).mono ?_
  rintro e w9 ⟨rfl,he9⟩
  have HX9:=zh (HX6.out.trans he9)
  clear he9
  go_wp2_with fail
  go_ret
  exact ⟨rfl,HX9.out⟩
end
end Go.Proofs.YtohmmcahpakokaaGreat
