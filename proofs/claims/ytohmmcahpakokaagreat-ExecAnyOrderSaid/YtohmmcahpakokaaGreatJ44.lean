/- The reference's ValidCell and ValidState. -/
import Derived.Test.YtohmmcahpakokaaGreatJ43
set_option maxRecDepth 100000
set_option maxHeartbeats 8000000
set_option linter.unusedVariables false
set_option linter.unusedSimpArgs false
namespace Go.Proofs.YtohmmcahpakokaaGreat
section
open Go.RowKit
attribute [local go_sem ↓] Go.wp_at_zero Go.wp_at_succ
def jV (c:CeR):Bool:=if c.k=1 then decide (c.lk=0) && dA c.id 0 15 else if c.k=2 then decide (c.id=0) else if c.k=3 then decide (c.lk=0) && dA c.id 0 9 else if c.k=4 then decide (c.lk=0) && decide (c.id=0) else false
theorem aCI {c:CeR} (h:jV c=true):1≤c.k∧c.k≤4:=by
 unfold jV at h
 split at h
 ·omega
 split at h
 ·omega
 split at h
 ·omega
 split at h
 ·omega
 cases h
theorem uC (c:CeR) (w:World):Calls Tryz.prog 72 #[.agg (ceA c)] w fun e w'=>e=.returned (.bool (jV c))∧Ext w w':=by
 obtain ⟨W,hW⟩:∃ W,w.alloc (.cells (ceA c) 32)=W:=⟨_,rfl⟩
 have HB:=zh (show Blk W w.heap.size 32 (ceA c) from by rw [← hW];exact Blk.new w 32 (ceA c))
 have HE:=zh (show Ext w W from by rw [← hW];exact (Ext.refl w).alloc' _)
 have rn:W.rangeAt w.heap.size 2 (RowT.enc c.lk):=bR (k:=2) (aD HB.out)
 have a0:W.cell? ⟨w.heap.size,0,none⟩=some (.int .i64 c.k):=HB.out.cell 0
 have a1:W.cell? ⟨w.heap.size,1,none⟩=some (.int .i64 c.id):=HB.out.cell 1
 obtain ⟨k,i,l⟩:=c
 simp only at rn a0 a1
 obtain ⟨zb,hzb⟩:∃ b,decide (l=0)=b:=⟨_,rfl⟩
 have q7:=fun W=>cO l 0 W
 rw [aV,hzb] at q7
 have HZ:=zh hzb
 obtain ⟨x1,hx1⟩:∃ b,dA i 0 15=b:=⟨_,rfl⟩
 obtain ⟨x2,hx2⟩:∃ b,dA i 0 9=b:=⟨_,rfl⟩
 obtain ⟨x3,hx3⟩:∃ b,decide (i=0)=b:=⟨_,rfl⟩
 have H1:=zh (fun W=>aN i 0 15 W)
 have H2:=zh (fun W=>aN i 0 9 W)
 rw [hx1] at H1
 rw [hx2] at H2
 have b9:(i == 0)=x3:=by rw [← hx3];exact Bool.beq_eq_decide_eq i 0
 have HX1:=zh hx1
 have HX2:=zh hx2
 have HX3:=zh hx3
 clear hzb hx1 hx2 HB
 by_cases h1:k=1
 ·subst h1
  have HV:=zh (show jV ⟨1,i,l⟩=(zb && x1) from by unfold jV;rw [if_pos rfl,HZ.out,HX1.out])
  cases zb
  all_goals
   go_enter Tryz.func72,Tryz.ntmps72
   go_wp2_with (first | (with_reducible refine aB nmP rfl (.tmp 4) rfl w.heap.size 2 rfl l _ rfl rn ?_) | (go_at_call 73;(with_reducible refine (H1.out _).mono ?_);rintro e wv ⟨rfl,rfl⟩))
   go_ret
   exact ⟨by rw [HV.out];rfl,HE.out⟩
 by_cases h2:k=2
 ·subst h2
  have HV:=zh (show jV ⟨2,i,l⟩=x3 from by unfold jV;rw [if_neg (show ¬ (2:Int)=1 by decide),if_pos rfl,HX3.out])
  go_enter Tryz.func72,Tryz.ntmps72
  go_wp2_with (with_reducible refine aB nmP rfl (.tmp 4) rfl w.heap.size 2 rfl l _ rfl rn ?_)
  go_ret
  exact ⟨by rw [HV.out];rfl,HE.out⟩
 by_cases h3:k=3
 ·subst h3
  have HV:=zh (show jV ⟨3,i,l⟩=(zb && x2) from by unfold jV;rw [if_neg (show ¬ (3:Int)=1 by decide),if_neg (show ¬ (3:Int)=2 by decide),if_pos rfl,HZ.out,HX2.out])
  cases zb
  all_goals
   go_enter Tryz.func72,Tryz.ntmps72
   go_wp2_with (first | (with_reducible refine aB nmP rfl (.tmp 4) rfl w.heap.size 2 rfl l _ rfl rn ?_) | (go_at_call 73;(with_reducible refine (H2.out _).mono ?_);rintro e wv ⟨rfl,rfl⟩))
   go_ret
   exact ⟨by rw [HV.out];rfl,HE.out⟩
 by_cases h4:k=4
 ·subst h4
  have HV:=zh (show jV ⟨4,i,l⟩=(zb && x3) from by unfold jV;rw [if_neg (show ¬ (4:Int)=1 by decide),if_neg (show ¬ (4:Int)=2 by decide),if_neg (show ¬ (4:Int)=3 by decide),if_pos rfl,HZ.out,HX3.out])
  cases zb
  all_goals
   go_enter Tryz.func72,Tryz.ntmps72
   go_wp2_with (with_reducible refine aB nmP rfl (.tmp 4) rfl w.heap.size 2 rfl l _ rfl rn ?_)
   go_ret
   exact ⟨by rw [HV.out];rfl,HE.out⟩
 have HV:=zh (show jV ⟨k,i,l⟩=false from by unfold jV;rw [if_neg h1,if_neg h2,if_neg h3,if_neg h4])
 have b1:(k == 1)=false:=beq_eq_false_iff_ne.2 h1
 have b2:(k == 2)=false:=beq_eq_false_iff_ne.2 h2
 have b3:(k == 3)=false:=beq_eq_false_iff_ne.2 h3
 have b4:(k == 4)=false:=beq_eq_false_iff_ne.2 h4
 have e1:decide (k=1)=false:=decide_eq_false h1
 have e2:decide (k=2)=false:=decide_eq_false h2
 have e3:decide (k=3)=false:=decide_eq_false h3
 have e4:decide (k=4)=false:=decide_eq_false h4
 clear h1 h2 h3 h4
 go_enter Tryz.func72,Tryz.ntmps72
 go_wp2_with (with_reducible refine aB nmP rfl (.tmp 4) rfl w.heap.size 2 rfl l _ rfl rn ?_)
 go_ret
 exact ⟨by rw [HV.out];rfl,HE.out⟩
theorem vY {β:Type} [DecidableEq β] {lt:β→β→Bool} (h:STO lt):∀ (L:List β),(∀ j (hj:j+1 < L.length),lt (L[j]'(by omega)) L[j+1]=true)→Asc lt L
 | [],_=>List.Pairwise.nil
 | [x],_=>by unfold Asc;simp
 | x :: y :: r,hn=>by
  have ih:=vY h (y :: r) (fun j hj=>by have:=hn (j+1) (by simpa using hj);simpa using this)
  have h0:lt x y=true:=by have:=hn 0 (by simp);simpa using this
  refine List.pairwise_cons.2 ⟨fun z hz=>?_,ih⟩
  rcases List.mem_cons.1 hz with rfl | hz
  ·exact h0
  exact h.trans _ _ _ h0 ((List.pairwise_cons.1 ih).1 z hz)
structure VldS (S:StV):Prop where
 asc:AscC S.C
 am:∀ d,d ∈ S.C→d.a ≠ 0∧-1125899906842624≤d.a∧d.a≤1125899906842624∧1≤d.c.k∧d.c.k≤4
 app:Asc ltN S.P
theorem VldS.nz {S:StV} (h:VldS S):nzC S.C:=fun d hd=>⟨(h.am d hd).1,by have:=h.am d hd;unfold jS;omega⟩
def okD (C:List DeR) (k:Nat):Prop:=∀ j,j < k→((nthG C j).a ≠ 0∧-1125899906842624≤(nthG C j).a∧(nthG C j).a≤1125899906842624∧1≤(nthG C j).c.k∧(nthG C j).c.k≤4)∧(0 < j→eE (nthG C (j - 1)).c (nthG C j).c=true)
theorem aIc {C:List DeR} (h:okD C C.length):AscC C:=by
 unfold AscC
 refine vY eZ _ (fun j hj=>?_)
 rw [List.length_map] at hj
 have:=(h (j+1) hj).2 (by omega)
 rw [List.getElem_map,List.getElem_map,cC,cC]
 exact this
theorem aId {C:List DeR} (h:okD C C.length):∀ d,d ∈ C→d.a ≠ 0∧-1125899906842624≤d.a∧d.a≤1125899906842624∧1≤d.c.k∧d.c.k≤4:=by
 intro d hd
 obtain ⟨j,hj,rfl⟩:=List.getElem_of_mem hd
 rw [cC]
 exact (h j hj).1
def okP (P:List UInt64) (k:Nat):Prop:=∀ j,0 < j→j < k→ltN (nthG P (j - 1)) (nthG P j)=true
theorem aIb {P:List UInt64} (h:okP P P.length):Asc ltN P:=by
 refine vY sX _ (fun j hj=>?_)
 have:=h (j+1) (by omega) hj
 rw [cC,cC]
 exact this
def aLP (w:World) (S:StV) (e:Ending) (w':World):Prop:=∃ b,e=.returned (.bool b)∧(b=true→VldS S)∧Ext w w'
theorem sN (s:StR) (w:World) (h:s.ok w):Calls Tryz.prog 29 #[.agg (ssA s)] w (aLP w s.V):=by
 obtain ⟨W,hW⟩:∃ W,w.alloc (.cells (ssA s) 44)=W:=⟨_,rfl⟩
 have HB:=zh (show Blk W w.heap.size 44 (ssA s) from by rw [← hW];exact Blk.new w 44 (ssA s))
 have HE:=zh (show Ext w W from by rw [← hW];exact (Ext.refl w).alloc' _)
 have HS:=zh (h.ext HE.out)
 have HL1:=zh h.s1.len
 have HL2:=zh h.s2.len
 have HL3:=zh h.s3.len
 have HL4:=zh h.s4.len
 have hle1:=h.s1.le
 have hle2:=h.s2.le
 have hle3:=h.s3.le
 have hle4:=h.s4.le
 have hc1:=h.s1.cap
 have hc2:=h.s2.cap
 have hc3:=h.s3.cap
 have hc4:=h.s4.cap
 clear h
 go_enter Tryz.func29,Tryz.ntmps29
 go_wp2_with fail
 go_loopw [3] (fun vi wr=>∃ k:Nat,vi=.int .i64 (k:Int)∧k≤s.n1∧Hid (okD s.C k)∧Hid (Ext W wr)) (fun i _=>s.n1 - (intOf i).toNat)
 case atStart=>exact ⟨0,rfl,Nat.zero_le _,zh (fun j hj=>absurd hj (Nat.not_lt_zero _)),zh (Ext.refl W)⟩
 case round =>
  obtain ⟨k,rfl,hk,HK0,HX1⟩:=hrel
  have HB1:=zh (show Blk wr w.heap.size 44 (ssA s) from HB.out.ext HX1.out)
  obtain ⟨q0,q1,q2,q3,q4⟩:=aE HB1.out
  by_cases hlt:k < s.n1
  ·have i0 : (0 : Int) ≤ (k : Int) := by omega
   have i1:(k:Int) < (s.n1:Int):=by omega
   go_upto_region 4 with fail
   clear q0 q1 q2 q3 q4
   obtain ⟨W3,hW3⟩:∃ W3,W3=wr:=⟨_,rfl⟩
   subst hW3
   obtain ⟨b,o,hab,-,-⟩:=(HS.out.ext HX1.out).s1.at (show 0 < s.n1 by omega)
   have HAB:=zh hab
   obtain ⟨d,hd⟩:∃ d,nthG s.C k=d:=⟨_,rfl⟩
   obtain ⟨p,hp⟩:∃ d,nthG s.C (k - 1)=d:=⟨_,rfl⟩
   have HDR:=zh (fun (V:World) (e:Ext W V)=>show V.rangeAt b (o+k * 11) (RowT.enc (nthG s.C k)) from by
    obtain ⟨b2,o2,e2,hr2,-⟩:=(HS.out.ext e).s1.at (by omega)
    rw [HAB.out] at e2
    injection e2 with e3
    injection e3 with e4 e5
    subst e4
    subst e5
    have h1:=cG (k:=k) hr2 (by rw [HL1.out];omega)
    exact h1)
   have HPR:=zh (fun (V:World) (e:Ext W V)=>show V.rangeAt b (o+(k - 1) * 11) (RowT.enc (nthG s.C (k - 1)).c) from by
    obtain ⟨b2,o2,e2,hr2,-⟩:=(HS.out.ext e).s1.at (by omega)
    rw [HAB.out] at e2
    injection e2 with e3
    injection e3 with e4 e5
    subst e4
    subst e5
    have h1:=cG (k:=k - 1) hr2 (by rw [HL1.out];omega)
    exact aU (k:=10) h1)
   rw [hd] at HDR
   rw [hp] at HPR
   have hr:=HDR.out W3 HX1.out
   obtain ⟨vd,hvd⟩:∃ v,Value.agg (deA d)=v:=⟨_,rfl⟩
   obtain ⟨vc,hvc⟩:∃ v,Value.agg (ceA d.c)=v:=⟨_,rfl⟩
   obtain ⟨vp,hvp⟩:∃ v,Value.agg (ceA p.c)=v:=⟨_,rfl⟩
   have HVD:=zh hvd
   have HVC:=zh hvc
   have HVP:=zh hvp
   obtain ⟨vb,hvb⟩:∃ b,jV d.c=b:=⟨_,rfl⟩
   obtain ⟨wb,hwb⟩:∃ b,dA d.a (-1125899906842624) 1125899906842624=b:=⟨_,rfl⟩
   obtain ⟨cv,hcv⟩:∃ b,jC p.c d.c=b:=⟨_,rfl⟩
   have HVD2:=zh (fun V=>uC d.c V)
   have HWI:=zh (fun V=>aN d.a (-1125899906842624) 1125899906842624 V)
   have HCMP:=zh (fun V=>nT p.c d.c V)
   rw [hvc,hvb] at HVD2
   rw [hwb] at HWI
   rw [hvp,hvc,hcv] at HCMP
   have HVB:=zh hvb
   have HWB:=zh hwb
   have HCV:=zh (show decide (cv < 0)=eE p.c d.c from by rw [← hcv];exact vR p.c d.c)
   obtain ⟨X,hX⟩:∃ X,W3.heap.size=X:=⟨_,rfl⟩
   have HXS:=zh hX
   have HD0:=zh hd
   have HP0:=zh hp
   have q9:W3.cell? ⟨w.heap.size,0,none⟩=some (.slice (some ⟨b,o,none⟩) s.n1 s.c1):=by rw [← hab];exact HB1.out.cell 0
   clear hab hd hp hvd hvc hvp hvb hwb hcv hX
   go_upto_region 5 with (first | (with_reducible refine aB deP rfl (.tmp 19) rfl b (o+k * 11) rfl d vd HVD.out hr ?_) | ((with_reducible refine aP deP rfl (.tmp 4) (.tmp 20) rfl de0 rfl d vd HVD.out rfl rfl ?_);intro W4 h4))
   have hx4:Ext W3 W4:=by rw [← h4.out];exact (Ext.refl W3).alloc' _
   have HX4:=zh (HX1.out.trans hx4)
   have HB4:=zh (HB1.out.ext hx4)
   have HD:=zh (show Blk W4 X 34 (deA d) from by rw [← h4.out,← HXS.out];exact Blk.new W3 34 (deA d))
   try rw [HXS.out]
   have HCI:=zh (show (k:Int)≤9223372036854775806 from by omega)
   clear h4 hr q9 HDR HX1 HB1 hx4
   obtain ⟨z0,hz0⟩:∃ b,decide (d.a=0)=b:=⟨_,rfl⟩
   obtain ⟨jv,hjv⟩:∃ b,decide (0 < k)=b:=⟨_,rfl⟩
   have b0:(d.a == 0)=z0:=by rw [← hz0];exact Bool.beq_eq_decide_eq _ _
   have b1:decide (d.a=0)=z0:=hz0
   have HNX:=zh (show vb=true→z0=false→wb=true→(0 < k→cv < 0)→okD s.C (k+1) from fun g1 g2 g3 g4 j hj=>by
    subst g1
    subst g2
    subst g3
    rcases (by omega:j < k ∨ j=k) with hj | rfl
    ·exact HK0.out j hj
    rw [HD0.out]
    refine ⟨⟨of_decide_eq_false hz0,?_,?_,aCI HVB.out⟩,fun h0=>?_⟩
    ·have:=HWB.out;unfold dA at this;rw [decide_eq_true_eq] at this;exact this.1
    ·have:=HWB.out;unfold dA at this;rw [decide_eq_true_eq] at this;exact this.2
    rw [HP0.out,← HCV.out];exact decide_eq_true (g4 h0))
   have hcs:(vb=true∧z0=false∧wb=true∧jv=true) ∨ vb=false ∨ (vb=true∧z0=true) ∨ (vb=true∧z0=false∧wb=false) ∨ (vb=true∧z0=false∧wb=true∧jv=false):=by
    cases vb <;> cases z0 <;> cases wb <;> cases jv <;> simp
   have HJV:=zh hjv
   clear hz0
   rcases hcs with ⟨rfl,rfl,rfl,rfl⟩ | hcs
   ·have h0 : 0 < k := of_decide_eq_true hjv
    have HKI:=zh h0
    have j0:(0:Int) < (k:Int):=by omega
    have j1:(0:Int)≤((k - 1:Nat):Int):=by omega
    have j2:((k - 1:Nat):Int) < (s.n1:Int):=by omega
    have HZ1:True:=trivial
    clear h0
    by_cases j3:cv ≥ 0
    all_goals
     refine wp_region_held_drew (S:=fun V=>Blk V w.heap.size 44 (ssA s)∧Blk V X 34 (deA d)∧Ext W V) (by kernel_rfl) (⟨(HB4.out).drew,HD.out.drew,HX4.out.trans ((Ext.refl _).drew')⟩) (fun aA=>?_)
     refine zt 0 aA ?_
     refine zu 1 (v:=vc) aA ?_ (hy:=by exact aF ceP (by rfl) (.tmp 21) (by rfl) X 0 (by rfl) d.c vc HVC.out (fun V h=>aU (k:=10) (aD h.2.1)))
     refine za 2 (fun K hK=>?_)
     (go_simp;go_at_call 72;refine (HVD2.out _).mono ?_;rintro e w8 ⟨rfl,he8⟩)
     refine hK.out _ _ (⟨aA.1.ext he8,aA.2.1.ext he8,aA.2.2.trans he8⟩) (fun aA=>?_)
     clear hK K
     try simp only [aS]
     refine zz0 [3,4,5,6,7,8,9,10,11] ?_;repeat first | refine zz1 ?_ (hy:=by intro W aM;have a9:W.cell? ⟨X,10,none⟩=some (.int .i64 d.a):=aM.2.1.cell 10;have q9:W.cell? ⟨w.heap.size,0,none⟩=some (.slice (some ⟨b,o,none⟩) s.n1 s.c1):=(by rw [← HAB.out];exact aM.1.cell 0);go_simp <;> with_reducible rfl) | refine zz2 ?_ | refine zz9 ?_
     refine za 12 (fun K hK=>?_)
     (go_simp;try (go_at_call 73;(refine (HWI.out _).mono ?_);rintro e w8 ⟨rfl,rfl⟩))
     refine hK.out _ _ (aA) (fun aA=>?_)
     clear hK K
     try simp only [aS]
     refine zz0 [13,14,15,16,17,18,19,20,21] ?_;repeat first | refine zz1 ?_ (hy:=by intro W aM;have a9:W.cell? ⟨X,10,none⟩=some (.int .i64 d.a):=aM.2.1.cell 10;have q9:W.cell? ⟨w.heap.size,0,none⟩=some (.slice (some ⟨b,o,none⟩) s.n1 s.c1):=(by rw [← HAB.out];exact aM.1.cell 0);go_simp <;> with_reducible rfl) | refine zz2 ?_ | refine zz9 ?_
     first | refine zu 22 (v:=.int .i64 ((k - 1:Nat):Int)) aA ?_ (hy:=by refine .inl ⟨by rfl,fun V _=>?_⟩;go_simp;exact (gT ⟨by have:=HKI.out;omega,by have:=HKI.out;have:=HCI.out;omega⟩).trans (by have:=HKI.out;omega)) | (refine zs 22 aA ?_)
     try simp only [aS]
     refine zzr [23,24] ?_
     first | refine zu 25 (v:=vp) aA ?_ (hy:=by exact aF ceP (by rfl) (.tmp 45) (by rfl) b (o+(k - 1) * 11) (by rfl) p.c vp HVP.out (fun V h=>HPR.out V h.2.2)) | (refine zs 25 aA ?_)
     try simp only [aS]
     first | (refine zt 26 aA ?_) | (refine zs 26 aA ?_)
     first | refine zu 27 (v:=vc) aA ?_ (hy:=by exact aF ceP (by rfl) (.tmp 47) (by rfl) X 0 (by rfl) d.c vc HVC.out (fun V h=>aU (k:=10) (aD h.2.1))) | (refine zs 27 aA ?_)
     try simp only [aS]
     refine za 28 (fun K hK=>?_)
     (go_simp;first | (go_at_call 71;refine (HCMP.out _).mono ?_;rintro e w8 ⟨rfl,he8⟩) | skip)
     refine hK.out _ _ (by first | exact ⟨aA.1.ext he8,aA.2.1.ext he8,aA.2.2.trans he8⟩ | exact aA) (fun aA=>?_)
     clear hK K
     try simp only [aS]
     refine zzr [29,30,31] ?_
     refine wpAnyH_done (by kernel_rfl) ?_ _
     have HX8:=zh aA.2.2
     clear aA b0 b1 j0 hjv j1 j2
     go_wp2_with fail
     first
     | (go_ret;exact ⟨false,rfl,(fun h=>by cases h),HE.out.trans HX8.out⟩)
     | skip
    go_roundw
    case rel=>exact ⟨k+1,by go_num,hlt,zh (HNX.out rfl rfl rfl (fun _=>by omega)),HX8⟩
    case measure=>simp [intOf];omega
   have HKI:=zh (show True from trivial)
   rcases hcs with rfl | ⟨rfl,rfl⟩ | ⟨rfl,rfl,rfl⟩ | ⟨rfl,rfl,rfl,rfl⟩
   all_goals
    refine wp_region_held_drew (S:=fun V=>Blk V w.heap.size 44 (ssA s)∧Blk V X 34 (deA d)∧Ext W V) (by kernel_rfl) (⟨(HB4.out).drew,HD.out.drew,HX4.out.trans ((Ext.refl _).drew')⟩) (fun aA=>?_)
    refine zt 0 aA ?_
    refine zu 1 (v:=vc) aA ?_ (hy:=by exact aF ceP (by rfl) (.tmp 21) (by rfl) X 0 (by rfl) d.c vc HVC.out (fun V h=>aU (k:=10) (aD h.2.1)))
    refine za 2 (fun K hK=>?_)
    (go_simp;go_at_call 72;refine (HVD2.out _).mono ?_;rintro e w8 ⟨rfl,he8⟩)
    refine hK.out _ _ (⟨aA.1.ext he8,aA.2.1.ext he8,aA.2.2.trans he8⟩) (fun aA=>?_)
    clear hK K
    try simp only [aS]
    refine zz0 [3,4,5,6,7,8,9,10,11] ?_;repeat first | refine zz1 ?_ (hy:=by intro W aM;have a9:W.cell? ⟨X,10,none⟩=some (.int .i64 d.a):=aM.2.1.cell 10;have q9:W.cell? ⟨w.heap.size,0,none⟩=some (.slice (some ⟨b,o,none⟩) s.n1 s.c1):=(by rw [← HAB.out];exact aM.1.cell 0);go_simp <;> with_reducible rfl) | refine zz2 ?_ | refine zz9 ?_
    refine za 12 (fun K hK=>?_)
    (go_simp;try (go_at_call 73;(refine (HWI.out _).mono ?_);rintro e w8 ⟨rfl,rfl⟩))
    refine hK.out _ _ (aA) (fun aA=>?_)
    clear hK K
    try simp only [aS]
    refine zz0 [13,14,15,16,17,18,19,20,21] ?_;repeat first | refine zz1 ?_ (hy:=by intro W aM;have a9:W.cell? ⟨X,10,none⟩=some (.int .i64 d.a):=aM.2.1.cell 10;have q9:W.cell? ⟨w.heap.size,0,none⟩=some (.slice (some ⟨b,o,none⟩) s.n1 s.c1):=(by rw [← HAB.out];exact aM.1.cell 0);go_simp <;> with_reducible rfl) | refine zz2 ?_ | refine zz9 ?_
    first | refine zu 22 (v:=.int .i64 ((k - 1:Nat):Int)) aA ?_ (hy:=by refine .inl ⟨by rfl,fun V _=>?_⟩;go_simp;exact (gT ⟨by have:=HKI.out;omega,by have:=HKI.out;have:=HCI.out;omega⟩).trans (by have:=HKI.out;omega)) | (refine zs 22 aA ?_)
    try simp only [aS]
    refine zzr [23,24] ?_
    first | refine zu 25 (v:=vp) aA ?_ (hy:=by exact aF ceP (by rfl) (.tmp 45) (by rfl) b (o+(k - 1) * 11) (by rfl) p.c vp HVP.out (fun V h=>HPR.out V h.2.2)) | (refine zs 25 aA ?_)
    try simp only [aS]
    first | (refine zt 26 aA ?_) | (refine zs 26 aA ?_)
    first | refine zu 27 (v:=vc) aA ?_ (hy:=by exact aF ceP (by rfl) (.tmp 47) (by rfl) X 0 (by rfl) d.c vc HVC.out (fun V h=>aU (k:=10) (aD h.2.1))) | (refine zs 27 aA ?_)
    try simp only [aS]
    refine za 28 (fun K hK=>?_)
    (go_simp;first | (go_at_call 71;refine (HCMP.out _).mono ?_;rintro e w8 ⟨rfl,he8⟩) | skip)
    refine hK.out _ _ (by first | exact ⟨aA.1.ext he8,aA.2.1.ext he8,aA.2.2.trans he8⟩ | exact aA) (fun aA=>?_)
    clear hK K
    try simp only [aS]
    refine zzr [29,30,31] ?_
    refine wpAnyH_done (by kernel_rfl) ?_ _
    have HX8:=zh aA.2.2
    clear aA b0 b1 hjv
    go_wp2_with fail
    first
    | (go_ret;exact ⟨false,rfl,(fun h=>by cases h),HE.out.trans HX8.out⟩)
    | skip
   go_roundw
   case rel=>exact ⟨k+1,by go_num,hlt,zh (HNX.out rfl rfl rfl (fun h=>absurd h (of_decide_eq_false HJV.out))),HX8⟩
   case measure=>simp [intOf];omega
  obtain rfl:k=s.n1:=by omega
  have i1:¬ (s.n1:Int) < (s.n1:Int):=by omega
  obtain ⟨x7,hx7⟩:∃ b,dA (s.n2:Int) 1 16=b:=⟨_,rfl⟩
  have H7:=zh (fun W=>aN (s.n2:Int) 1 16 W)
  rw [hx7] at H7
  clear hx7
  cases x7
  ·go_wp2_with (go_at_call 73; (refine (H7.out _).mono ?_); rintro e wv ⟨rfl, rfl⟩)
   go_ret
   exact ⟨false,rfl,(fun h=>by cases h),HE.out.trans HX1.out⟩
  go_wp2_with (go_at_call 73;(refine (H7.out _).mono ?_);rintro e wv ⟨rfl,rfl⟩)
  clear q0 q1 q2 q3 q4 i1 H7
  go_loopw [5] (fun vi wr=>∃ k:Nat,vi=.int .i64 (k:Int)∧k≤s.n2∧Hid (Ext W wr)) (fun i _=>s.n2 - (intOf i).toNat)
  case atStart=>exact ⟨0,rfl,Nat.zero_le _,HX1⟩
  case round =>
   clear HX1 HB1
   obtain ⟨k,rfl,hk,HX1⟩:=hrel
   have HB1:=zh (HB.out.ext HX1.out)
   by_cases hlt:k < s.n2
   ·have i0 : (0 : Int) ≤ (k : Int) := by omega
    have i1:(k:Int) < (s.n2:Int):=by omega
    obtain ⟨b,o,hab,hrow,-⟩:=(HS.out.ext HX1.out).s2.at (show 0 < s.n2 by omega)
    have c9:wr.cell? ⟨b,o+k,none⟩=some (.int .i64 (nthG s.Q k)):=by
     have h5:wr.rangeAt b (o+k * 1) (RowT.enc (nthG s.Q k)):=cG hrow (by rw [HL2.out];exact hlt)
     have h6:=h5 0 _ rfl
     rwa [Nat.mul_one] at h6
    have q1:wr.cell? ⟨w.heap.size,1,none⟩=some (.slice (some ⟨b,o,none⟩) s.n2 s.c2):=by rw [← hab];exact HB1.out.cell 1
    obtain ⟨q,hq⟩:∃ q,nthG s.Q k=q:=⟨_,rfl⟩
    rw [hq] at c9
    obtain ⟨x7,hx7⟩:∃ b,dA q 0 32=b:=⟨_,rfl⟩
    have H7:=zh (fun W=>aN q 0 32 W)
    rw [hx7] at H7
    clear hx7 hq hab hrow
    cases x7
    ·go_wp2_with (go_at_call 73; (refine (H7.out _).mono ?_); rintro e wv ⟨rfl, rfl⟩)
     go_ret
     exact ⟨false,rfl,(fun h=>by cases h),HE.out.trans HX1.out⟩
    go_wp2_with (go_at_call 73;(refine (H7.out _).mono ?_);rintro e wv ⟨rfl,rfl⟩)
    go_roundw
    case rel=>exact ⟨k+1,by go_num,hlt,HX1⟩
    case measure=>simp [intOf];omega
   obtain rfl:k=s.n2:=by omega
   have i1:¬ (s.n2:Int) < (s.n2:Int):=by omega
   have q1:=HB1.out.cell 1
   go_wp2_with fail
   clear q1 i1
   go_loopw [6] (fun vi wr=>∃ k:Nat,vi=.int .i64 (k:Int)∧k≤s.n3∧Hid (Ext W wr)) (fun i _=>s.n3 - (intOf i).toNat)
   case atStart=>exact ⟨0,rfl,Nat.zero_le _,HX1⟩
   case round =>
    clear HX1 HB1
    obtain ⟨k,rfl,hk,HX1⟩:=hrel
    have HB1:=zh (HB.out.ext HX1.out)
    have q2:wr.cell? ⟨w.heap.size,2,none⟩=some (.slice s.A3 s.n3 s.c3):=HB1.out.cell 2
    by_cases hlt:k < s.n3
    ·have i0 : (0 : Int) ≤ (k : Int) := by omega
     have i1:(k:Int) < (s.n3:Int):=by omega
     go_upto_region 17 with fail
     clear q2
     obtain ⟨W3,hW3⟩:∃ W3,W3=wr:=⟨_,rfl⟩
     subst hW3
     obtain ⟨b,o,hab,-,-⟩:=(HS.out.ext HX1.out).s3.at (show 0 < s.n3 by omega)
     have HAB:=zh hab
     obtain ⟨d,hd⟩:∃ d,nthG s.K k=d:=⟨_,rfl⟩
     obtain ⟨p,hp⟩:∃ d,nthG s.K (k - 1)=d:=⟨_,rfl⟩
     have HDR:=zh (fun (V:World) (e:Ext W V)=>show V.rangeAt b (o+k * 19) (RowT.enc (nthG s.K k)) from by
      obtain ⟨b2,o2,e2,hr2,-⟩:=(HS.out.ext e).s3.at (by omega)
      rw [HAB.out] at e2
      injection e2 with e3
      injection e3 with e4 e5
      subst e4
      subst e5
      have h1:=cG (k:=k) hr2 (by rw [HL3.out];omega)
      exact h1)
     have HPR:=zh (fun (V:World) (e:Ext W V)=>show V.rangeAt b (o+(k - 1) * 19) (RowT.enc (nthG s.K (k - 1)).nm) from by
      obtain ⟨b2,o2,e2,hr2,-⟩:=(HS.out.ext e).s3.at (by omega)
      rw [HAB.out] at e2
      injection e2 with e3
      injection e3 with e4 e5
      subst e4
      subst e5
      have h1:=cG (k:=k - 1) hr2 (by rw [HL3.out];omega)
      exact aU (k:=8) h1)
     rw [hd] at HDR
     rw [hp] at HPR
     have hr:=HDR.out W3 HX1.out
     obtain ⟨vd,hvd⟩:∃ v,Value.agg (lkA d)=v:=⟨_,rfl⟩
     have HVD:=zh hvd
     obtain ⟨b1,hb1⟩:∃ b,dA d.ow 0 15=b:=⟨_,rfl⟩
     obtain ⟨b2,hb2⟩:∃ b,dA d.tO 0 15=b:=⟨_,rfl⟩
     obtain ⟨b3,hb3⟩:∃ b,dA d.ul 1 1000=b:=⟨_,rfl⟩
     obtain ⟨b4,hb4⟩:∃ b,decide (un p.nm < un d.nm)=b:=⟨_,rfl⟩
     have HW1:=zh (fun V=>aN d.ow 0 15 V)
     have HW2:=zh (fun V=>aN d.tO 0 15 V)
     have HW3:=zh (fun V=>aN d.ul 1 1000 V)
     have HCMP:=zh (fun V=>iB p.nm d.nm V)
     rw [hb1] at HW1
     rw [hb2] at HW2
     rw [hb3] at HW3
     rw [hb4] at HCMP
     obtain ⟨X,hX⟩:∃ X,W3.heap.size=X:=⟨_,rfl⟩
     have HXS:=zh hX
     have q9:W3.cell? ⟨w.heap.size,2,none⟩=some (.slice (some ⟨b,o,none⟩) s.n3 s.c3):=by rw [← hab];exact HB1.out.cell 2
     clear hab hd hp hvd hb1 hb2 hb3 hb4 hX
     go_upto_region 18 with (first | (with_reducible refine aB lkP rfl (.tmp 82) rfl b (o+k * 19) rfl d vd HVD.out hr ?_) | ((with_reducible refine aP lkP rfl (.tmp 7) (.tmp 83) rfl lk0 rfl d vd HVD.out rfl rfl ?_);intro W4 h4))
     have hx4:Ext W3 W4:=by rw [← h4.out];exact (Ext.refl W3).alloc' _
     have HX4:=zh (HX1.out.trans hx4)
     have HB4:=zh (HB1.out.ext hx4)
     have HD:=zh (show Blk W4 X 94 (lkA d) from by rw [← h4.out,← HXS.out];exact Blk.new W3 94 (lkA d))
     try rw [HXS.out]
     have HCI:=zh (show (k:Int)≤9223372036854775806 from by omega)
     have hlt3:=hlt
     clear h4 hr q9 HDR HX1 HB1 hx4
     by_cases hk0:k=0
     ·subst hk0
      have HKI:=zh (show True from trivial)
      cases b1 <;> cases b2 <;> cases b3
      all_goals
       refine wp_region_held_drew (S:=fun V=>Blk V w.heap.size 44 (ssA s)∧Blk V X 94 (lkA d)∧Ext W V) (by kernel_rfl) (⟨(HB4.out).drew,HD.out.drew,HX4.out.trans ((Ext.refl _).drew')⟩) (fun aA=>?_)
       refine zz0 [0,1] ?_;repeat first | refine zz1 ?_ (hy:=by intro W aM;have a6:W.cell? ⟨X,16,none⟩=some (.int .i64 d.ow):=aM.2.1.cell 16;have a7:W.cell? ⟨X,17,none⟩=some (.int .i64 d.tO):=aM.2.1.cell 17;have a8:W.cell? ⟨X,18,none⟩=some (.int .i64 d.ul):=aM.2.1.cell 18;have q9:W.cell? ⟨w.heap.size,2,none⟩=some (.slice (some ⟨b,o,none⟩) s.n3 s.c3):=(by rw [← HAB.out];exact aM.1.cell 2);go_simp <;> with_reducible rfl) | refine zz2 ?_ | refine zz9 ?_
       refine za 2 (fun K hK=>?_)
       (go_simp;go_at_call 73;refine (HW1.out _).mono ?_;rintro e w8 ⟨rfl,rfl⟩)
       refine hK.out _ _ (aA) (fun aA=>?_)
       clear hK K
       try simp only [aS]
       refine zz0 [3,4,5,6] ?_;repeat first | refine zz1 ?_ (hy:=by intro W aM;have a6:W.cell? ⟨X,16,none⟩=some (.int .i64 d.ow):=aM.2.1.cell 16;have a7:W.cell? ⟨X,17,none⟩=some (.int .i64 d.tO):=aM.2.1.cell 17;have a8:W.cell? ⟨X,18,none⟩=some (.int .i64 d.ul):=aM.2.1.cell 18;have q9:W.cell? ⟨w.heap.size,2,none⟩=some (.slice (some ⟨b,o,none⟩) s.n3 s.c3):=(by rw [← HAB.out];exact aM.1.cell 2);go_simp <;> with_reducible rfl) | refine zz2 ?_ | refine zz9 ?_
       refine za 7 (fun K hK=>?_)
       (go_simp;try (go_at_call 73;(refine (HW2.out _).mono ?_);rintro e w8 ⟨rfl,rfl⟩))
       refine hK.out _ _ (aA) (fun aA=>?_)
       clear hK K
       try simp only [aS]
       refine zz0 [8,9,10,11,12] ?_;repeat first | refine zz1 ?_ (hy:=by intro W aM;have a6:W.cell? ⟨X,16,none⟩=some (.int .i64 d.ow):=aM.2.1.cell 16;have a7:W.cell? ⟨X,17,none⟩=some (.int .i64 d.tO):=aM.2.1.cell 17;have a8:W.cell? ⟨X,18,none⟩=some (.int .i64 d.ul):=aM.2.1.cell 18;have q9:W.cell? ⟨w.heap.size,2,none⟩=some (.slice (some ⟨b,o,none⟩) s.n3 s.c3):=(by rw [← HAB.out];exact aM.1.cell 2);go_simp <;> with_reducible rfl) | refine zz2 ?_ | refine zz9 ?_
       refine za 13 (fun K hK=>?_)
       (go_simp;try (go_at_call 73;(refine (HW3.out _).mono ?_);rintro e w8 ⟨rfl,rfl⟩))
       refine hK.out _ _ (aA) (fun aA=>?_)
       clear hK K
       try simp only [aS]
       refine zz0 [14,15,16,17,18,19,20,21,22] ?_;repeat first | refine zz1 ?_ (hy:=by intro W aM;have a6:W.cell? ⟨X,16,none⟩=some (.int .i64 d.ow):=aM.2.1.cell 16;have a7:W.cell? ⟨X,17,none⟩=some (.int .i64 d.tO):=aM.2.1.cell 17;have a8:W.cell? ⟨X,18,none⟩=some (.int .i64 d.ul):=aM.2.1.cell 18;have q9:W.cell? ⟨w.heap.size,2,none⟩=some (.slice (some ⟨b,o,none⟩) s.n3 s.c3):=(by rw [← HAB.out];exact aM.1.cell 2);go_simp <;> with_reducible rfl) | refine zz2 ?_ | refine zz9 ?_
       first | refine zu 23 (v:=.int .i64 ((k - 1:Nat):Int)) aA ?_ (hy:=by refine .inl ⟨by rfl,fun V _=>?_⟩;go_simp;exact (gT ⟨by have:=HKI.out;omega,by have:=HKI.out;have:=HCI.out;omega⟩).trans (by have:=HKI.out;omega)) | (refine zs 23 aA ?_)
       try simp only [aS]
       refine zzr [24,25] ?_
       first | refine zu 26 (v:=.agg (nmc p.nm)) aA ?_ (hy:=by exact aF nmP (by rfl) (.tmp 109) (by rfl) b (o+(k - 1) * 19) (by rfl) p.nm _ rfl (fun V h=>HPR.out V h.2.2)) | (refine zs 26 aA ?_)
       try simp only [aS]
       first | (refine zt 27 aA ?_) | (refine zs 27 aA ?_)
       first | refine zu 28 (v:=.agg (nmc d.nm)) aA ?_ (hy:=by exact aF nmP (by rfl) (.tmp 111) (by rfl) X 0 (by rfl) d.nm _ rfl (fun V h=>aU (k:=8) (aD h.2.1))) | (refine zs 28 aA ?_)
       try simp only [aS]
       refine za 29 (fun K hK=>?_)
       (go_simp;first | (go_at_call 74;refine (HCMP.out _).mono ?_;rintro e w8 ⟨rfl,he8⟩) | skip)
       refine hK.out _ _ (by first | exact ⟨aA.1.ext he8,aA.2.1.ext he8,aA.2.2.trans he8⟩ | exact aA) (fun aA=>?_)
       clear hK K
       try simp only [aS]
       refine zzr [30,31,32] ?_
       refine wpAnyH_done (by kernel_rfl) ?_ _
       have HX8:=zh aA.2.2
       clear aA
       go_wp2_with fail
       first
       | (go_ret;exact ⟨false,rfl,(fun h=>by cases h),HE.out.trans HX8.out⟩)
       | skip
      go_roundw
      case rel=>exact ⟨0+1,by go_num,hlt3,HX8⟩
      case measure=>simp [intOf];omega
     have HKI:=zh (show 0 < k from by omega)
     have j0:(0:Int) < (k:Int):=by omega
     have jd:decide (0 < k)=true:=decide_eq_true (by omega)
     have j1:(0:Int)≤((k - 1:Nat):Int):=by omega
     have j2:((k - 1:Nat):Int) < (s.n3:Int):=by omega
     cases b1 <;> cases b2 <;> cases b3 <;> cases b4
     all_goals
      refine wp_region_held_drew (S:=fun V=>Blk V w.heap.size 44 (ssA s)∧Blk V X 94 (lkA d)∧Ext W V) (by kernel_rfl) (⟨(HB4.out).drew,HD.out.drew,HX4.out.trans ((Ext.refl _).drew')⟩) (fun aA=>?_)
      refine zz0 [0,1] ?_;repeat first | refine zz1 ?_ (hy:=by intro W aM;have a6:W.cell? ⟨X,16,none⟩=some (.int .i64 d.ow):=aM.2.1.cell 16;have a7:W.cell? ⟨X,17,none⟩=some (.int .i64 d.tO):=aM.2.1.cell 17;have a8:W.cell? ⟨X,18,none⟩=some (.int .i64 d.ul):=aM.2.1.cell 18;have q9:W.cell? ⟨w.heap.size,2,none⟩=some (.slice (some ⟨b,o,none⟩) s.n3 s.c3):=(by rw [← HAB.out];exact aM.1.cell 2);go_simp <;> with_reducible rfl) | refine zz2 ?_ | refine zz9 ?_
      refine za 2 (fun K hK=>?_)
      (go_simp;go_at_call 73;refine (HW1.out _).mono ?_;rintro e w8 ⟨rfl,rfl⟩)
      refine hK.out _ _ (aA) (fun aA=>?_)
      clear hK K
      try simp only [aS]
      refine zz0 [3,4,5,6] ?_;repeat first | refine zz1 ?_ (hy:=by intro W aM;have a6:W.cell? ⟨X,16,none⟩=some (.int .i64 d.ow):=aM.2.1.cell 16;have a7:W.cell? ⟨X,17,none⟩=some (.int .i64 d.tO):=aM.2.1.cell 17;have a8:W.cell? ⟨X,18,none⟩=some (.int .i64 d.ul):=aM.2.1.cell 18;have q9:W.cell? ⟨w.heap.size,2,none⟩=some (.slice (some ⟨b,o,none⟩) s.n3 s.c3):=(by rw [← HAB.out];exact aM.1.cell 2);go_simp <;> with_reducible rfl) | refine zz2 ?_ | refine zz9 ?_
      refine za 7 (fun K hK=>?_)
      (go_simp;try (go_at_call 73;(refine (HW2.out _).mono ?_);rintro e w8 ⟨rfl,rfl⟩))
      refine hK.out _ _ (aA) (fun aA=>?_)
      clear hK K
      try simp only [aS]
      refine zz0 [8,9,10,11,12] ?_;repeat first | refine zz1 ?_ (hy:=by intro W aM;have a6:W.cell? ⟨X,16,none⟩=some (.int .i64 d.ow):=aM.2.1.cell 16;have a7:W.cell? ⟨X,17,none⟩=some (.int .i64 d.tO):=aM.2.1.cell 17;have a8:W.cell? ⟨X,18,none⟩=some (.int .i64 d.ul):=aM.2.1.cell 18;have q9:W.cell? ⟨w.heap.size,2,none⟩=some (.slice (some ⟨b,o,none⟩) s.n3 s.c3):=(by rw [← HAB.out];exact aM.1.cell 2);go_simp <;> with_reducible rfl) | refine zz2 ?_ | refine zz9 ?_
      refine za 13 (fun K hK=>?_)
      (go_simp;try (go_at_call 73;(refine (HW3.out _).mono ?_);rintro e w8 ⟨rfl,rfl⟩))
      refine hK.out _ _ (aA) (fun aA=>?_)
      clear hK K
      try simp only [aS]
      refine zz0 [14,15,16,17,18,19,20,21,22] ?_;repeat first | refine zz1 ?_ (hy:=by intro W aM;have a6:W.cell? ⟨X,16,none⟩=some (.int .i64 d.ow):=aM.2.1.cell 16;have a7:W.cell? ⟨X,17,none⟩=some (.int .i64 d.tO):=aM.2.1.cell 17;have a8:W.cell? ⟨X,18,none⟩=some (.int .i64 d.ul):=aM.2.1.cell 18;have q9:W.cell? ⟨w.heap.size,2,none⟩=some (.slice (some ⟨b,o,none⟩) s.n3 s.c3):=(by rw [← HAB.out];exact aM.1.cell 2);go_simp <;> with_reducible rfl) | refine zz2 ?_ | refine zz9 ?_
      first | refine zu 23 (v:=.int .i64 ((k - 1:Nat):Int)) aA ?_ (hy:=by refine .inl ⟨by rfl,fun V _=>?_⟩;go_simp;exact (gT ⟨by have:=HKI.out;omega,by have:=HKI.out;have:=HCI.out;omega⟩).trans (by have:=HKI.out;omega)) | (refine zs 23 aA ?_)
      try simp only [aS]
      refine zzr [24,25] ?_
      first | refine zu 26 (v:=.agg (nmc p.nm)) aA ?_ (hy:=by exact aF nmP (by rfl) (.tmp 109) (by rfl) b (o+(k - 1) * 19) (by rfl) p.nm _ rfl (fun V h=>HPR.out V h.2.2)) | (refine zs 26 aA ?_)
      try simp only [aS]
      first | (refine zt 27 aA ?_) | (refine zs 27 aA ?_)
      first | refine zu 28 (v:=.agg (nmc d.nm)) aA ?_ (hy:=by exact aF nmP (by rfl) (.tmp 111) (by rfl) X 0 (by rfl) d.nm _ rfl (fun V h=>aU (k:=8) (aD h.2.1))) | (refine zs 28 aA ?_)
      try simp only [aS]
      refine za 29 (fun K hK=>?_)
      (go_simp;first | (go_at_call 74;refine (HCMP.out _).mono ?_;rintro e w8 ⟨rfl,he8⟩) | skip)
      refine hK.out _ _ (by first | exact ⟨aA.1.ext he8,aA.2.1.ext he8,aA.2.2.trans he8⟩ | exact aA) (fun aA=>?_)
      clear hK K
      try simp only [aS]
      refine zzr [30,31,32] ?_
      refine wpAnyH_done (by kernel_rfl) ?_ _
      have HX8:=zh aA.2.2
      clear aA
      go_wp2_with fail
      first
      | (go_ret;exact ⟨false,rfl,(fun h=>by cases h),HE.out.trans HX8.out⟩)
      | skip
     go_roundw
     case rel=>exact ⟨k+1,by go_num,hlt3,HX8⟩
     case measure=>simp [intOf];omega
    obtain rfl:k=s.n3:=by omega
    have i1:¬ (s.n3:Int) < (s.n3:Int):=by omega
    go_wp2_with fail
    clear q2 i1
    go_loopw [8] (fun vi wr=>∃ k:Nat,vi=.int .i64 (k:Int)∧1≤k∧(k≤s.n4 ∨ k=1)∧Hid (okP s.P k)∧Hid (Ext W wr)) (fun i _=>s.n4+1 - (intOf i).toNat)
    case atStart=>exact ⟨1,rfl,Nat.le_refl _,.inr rfl,zh (fun j h0 hj=>by omega),HX1⟩
    case round =>
     clear HX1 HB1
     obtain ⟨k,rfl,hk1,hk2,HK4,HX1⟩:=hrel
     have HB1:=zh (HB.out.ext HX1.out)
     have q3:wr.cell? ⟨w.heap.size,3,none⟩=some (.slice s.A4 s.n4 s.c4):=HB1.out.cell 3
     by_cases hlt:k < s.n4
     ·have i1 : (k : Int) < (s.n4 : Int) := by omega
      obtain ⟨W3,hW3⟩:∃ W3,W3=wr:=⟨_,rfl⟩
      subst hW3
      obtain ⟨b,o,hab,-,-⟩:=(HS.out.ext HX1.out).s4.at (show 0 < s.n4 by omega)
      have HAB:=zh hab
      obtain ⟨d,hd⟩:∃ d,nthG s.P k=d:=⟨_,rfl⟩
      obtain ⟨p,hp⟩:∃ d,nthG s.P (k - 1)=d:=⟨_,rfl⟩
      have HDR:=zh (fun (V:World) (e:Ext W V)=>show V.rangeAt b (o+k * 8) (RowT.enc (nthG s.P k)) from by
       obtain ⟨b2,o2,e2,hr2,-⟩:=(HS.out.ext e).s4.at (by omega)
       rw [HAB.out] at e2
       injection e2 with e3
       injection e3 with e4 e5
       subst e4
       subst e5
       have h1:=cG (k:=k) hr2 (by rw [HL4.out];omega)
       exact h1)
      have HPR:=zh (fun (V:World) (e:Ext W V)=>show V.rangeAt b (o+(k - 1) * 8) (RowT.enc (nthG s.P (k - 1))) from by
       obtain ⟨b2,o2,e2,hr2,-⟩:=(HS.out.ext e).s4.at (by omega)
       rw [HAB.out] at e2
       injection e2 with e3
       injection e3 with e4 e5
       subst e4
       subst e5
       have h1:=cG (k:=k - 1) hr2 (by rw [HL4.out];omega)
       exact h1)
      rw [hd] at HDR
      rw [hp] at HPR
      obtain ⟨b4,hb4⟩:∃ b,decide (un p < un d)=b:=⟨_,rfl⟩
      have HCMP:=zh (fun V=>iB p d V)
      rw [hb4] at HCMP
      have HP4:=zh (show ltN (nthG s.P (k - 1)) (nthG s.P k)=b4 from by rw [hd,hp];exact hb4)
      have HCI:=zh (show (k:Int)≤9223372036854775806 from by omega)
      have HKI:=zh (show 0 < k from hk1)
      have j0:(0:Int)≤(k:Int):=by omega
      have j1:(0:Int)≤((k - 1:Nat):Int):=by omega
      have j2:((k - 1:Nat):Int) < (s.n4:Int):=by omega
      clear hab hd hp hb4
      go_upto_region 23 with fail
      refine wp_region_held_drew (S:=fun V=>Blk V w.heap.size 44 (ssA s)∧Ext W V) (by kernel_rfl) (⟨HB1.out.drew,HX1.out.trans ((Ext.refl _).drew')⟩) (fun aA=>?_)
      refine zz0 [0,1,2] ?_;repeat first | refine zz1 ?_ (hy:=by intro W aM;have q9:W.cell? ⟨w.heap.size,3,none⟩=some (.slice (some ⟨b,o,none⟩) s.n4 s.c4):=(by rw [← HAB.out];exact aM.1.cell 3);go_simp <;> with_reducible rfl) | refine zz2 ?_ | refine zz9 ?_
      refine zu 3 (v:=.int .i64 ((k - 1:Nat):Int)) aA ?_ (hy:=by refine .inl ⟨by rfl,fun V _=>?_⟩;go_simp;exact (gT ⟨by have:=HKI.out;omega,by have:=HKI.out;have:=HCI.out;omega⟩).trans (by have:=HKI.out;omega))
      refine zt 4 aA ?_
      refine zu 5 (v:=.agg (nmc p)) aA ?_ (hy:=by exact aF nmP (by rfl) (.tmp 128) (by rfl) b (o+(k - 1) * 8) (by rfl) p _ rfl (fun V h=>HPR.out V h.2))
      refine zz0 [6,7,8,9] ?_;repeat first | refine zz1 ?_ (hy:=by intro W aM;have q9:W.cell? ⟨w.heap.size,3,none⟩=some (.slice (some ⟨b,o,none⟩) s.n4 s.c4):=(by rw [← HAB.out];exact aM.1.cell 3);go_simp <;> with_reducible rfl) | refine zz2 ?_ | refine zz9 ?_
      refine zu 10 (v:=.agg (nmc d)) aA ?_ (hy:=by exact aF nmP (by rfl) (.tmp 133) (by rfl) b (o+k * 8) (by rfl) d _ rfl (fun V h=>HDR.out V h.2))
      refine za 11 (fun K hK=>?_)
      (go_simp;go_at_call 74;refine (HCMP.out _).mono ?_;rintro e w8 ⟨rfl,he8⟩)
      refine hK.out _ _ (⟨aA.1.ext he8,aA.2.trans he8⟩) (fun aA=>?_)
      clear hK K
      try simp only [aS]
      refine zt 12 aA ?_
      refine wpAnyH_done (by kernel_rfl) ?_ _
      have HX8:=zh aA.2
      clear aA HCMP HDR HPR j0 j1 j2
      cases b4
      ·go_wp2_with fail
       go_ret
       exact ⟨false,rfl,(fun h=>by cases h),HE.out.trans HX8.out⟩
      go_wp2_with fail
      go_roundw
      case rel=>exact ⟨k+1,by go_num,by omega,.inl (by omega),zh (fun j h0 hj=>by
       rcases (by omega:j < k ∨ j=k) with hj | rfl
       ·exact HK4.out j h0 hj
       exact HP4.out),HX8⟩
      case measure=>simp [intOf];omega
     have i1:¬ (k:Int) < (s.n4:Int):=by omega
     have q4:wr.cell? ⟨w.heap.size,4,none⟩=some (.int .i64 s.G):=HB1.out.cell 4
     have HFIN:=zh (show VldS s.V from ⟨aIc (C:=s.C) (by rw [HL1.out];exact HK0.out),aId (C:=s.C) (by rw [HL1.out];exact HK0.out),aIb (P:=s.P) (fun j h0 hj=>HK4.out j h0 (by rw [HL4.out] at hj;omega))⟩)
     obtain ⟨x7,hx7⟩:∃ b,dA s.G 0 1023=b:=⟨_,rfl⟩
     have H7:=zh (fun W=>aN s.G 0 1023 W)
     rw [hx7] at H7
     clear hx7
     go_wp2_with (go_at_call 73;(refine (H7.out _).mono ?_);rintro e wv ⟨rfl,rfl⟩)
     go_ret
     exact ⟨x7,rfl,fun _=>HFIN.out,HE.out.trans HX1.out⟩
end
end Go.Proofs.YtohmmcahpakokaaGreat
