import Derived.Test.YtgmnmjeccfnmbaaGreatE17
set_option maxRecDepth 100000
set_option maxHeartbeats 8000000
set_option linter.unusedVariables false
set_option linter.unusedSimpArgs false
namespace Go.Proofs.YtgmnmjeccfnmbaaGreat
theorem tv {p:Prop} (h:p:=by
 clear h hv hvv hz
 go_enter func229,ntmps229
 go_upto_region 1 with fail
 refine wp_region_held_drew (S:=fun V=>Blk V w.heap.size 50 (nmc pub)∧Blk V (w.heap.size+1) 126 (sgA S)∧Ext w V) ab (⟨HB1.out.drew,HB2.out.drew,HE.out.trans ((Ext.refl _).drew')⟩) (fun aA=>?_)
 refine zt 0 aA ?_
 refine zu 1 (v:=vv) aA ?_ (hy:=bx)
 refine za 2 (fun K hK=>?_)
 (go_simp;go_at_call 227;refine (HVD.out _).mono ?_;rintro e w8 ⟨rfl,he8⟩)
 refine hK.out _ _ (⟨aA.1.ext he8,aA.2.1.ext he8,aA.2.2.trans he8⟩) (fun aA=>?_)
 clear hK K
 try simp only [bB]
 refine zt 3 aA ?_
 first | refine zu 4 (v:=.agg (nmc pub)) aA ?_ (hy:=co) | (refine zs 4 aA ?_)
 try simp only [bB]
 first | (refine zt 5 aA ?_) | (refine zs 5 aA ?_)
 first | refine zu 6 (v:=vv) aA ?_ (hy:=bs) | (refine zs 6 aA ?_)
 try simp only [bB]
 refine zz0 [8,9] ?_;repeat first | refine zz1 ?_ (hy:=bq) | refine zz2 ?_ | refine zz9 ?_
 refine za 7 (fun K hK=>?_)
 (go_simp;first | (go_at_call 244;refine (HNM.out _).mono ?_;rintro e w8 ⟨rfl,he8⟩) | skip)
 refine hK.out _ _ bj (fun aA=>?_)
 clear hK K
 try simp only [bB]
 refine za 10 (fun K hK=>?_)
 (go_simp;first | (go_at_call 122;refine (HVF.out _ aA.2.2).mono ?_;rintro e w8 ⟨rfl,he8⟩) | skip)
 exact AI):p:=h
open Go.Proofs.Tryz
section
open Go.RowKit
attribute [local go_sem ↓] Go.wp_at_zero Go.wp_at_succ
theorem dC (i:Int) (w:World):Calls prog 21 #[.int .i64 i] w fun e w'=>e=.returned (.agg (ceA (aV i)))∧Ext w w':=by
 have HB:=zh (Blk.new w 61 ce0)
 have HX:=zh ((Ext.refl w).alloc' (.cells ce0 61))
 have ht:(w.alloc (.cells ce0 61)).there w.heap.size 0 (RowT.sz CeR):=aI HB.out
 have HV:=zh (show Value.agg (ceA (aV i))=.agg #[.int .i64 1,.int .i64 i,.int .u8 0,.int .u8 0,.int .u8 0,.int .u8 0,.int .u8 0,.int .u8 0,.int .u8 0,.int .u8 0] by unfold aV;rw [pJ])
 go_enter func21,ntmps21
 exact vT
theorem nG (i:Int) (w:World):Calls prog 47 #[.int .i64 i] w fun e w'=>e=.returned (.agg (ceA (bY i)))∧Ext w w':=by
 have HB:=zh (Blk.new w 61 ce0)
 have HX:=zh ((Ext.refl w).alloc' (.cells ce0 61))
 have ht:(w.alloc (.cells ce0 61)).there w.heap.size 0 (RowT.sz CeR):=aI HB.out
 have HV:=zh (show Value.agg (ceA (bY i))=.agg #[.int .i64 3,.int .i64 i,.int .u8 0,.int .u8 0,.int .u8 0,.int .u8 0,.int .u8 0,.int .u8 0,.int .u8 0,.int .u8 0] by unfold bY;rw [pJ])
 go_enter func47,ntmps47
 exact v7
theorem pF (w:World):Calls prog 18 #[] w fun e w'=>e=.returned (.agg (ceA cA))∧Ext w w':=by
 have HB:=zh (Blk.new w 61 ce0)
 have HX:=zh ((Ext.refl w).alloc' (.cells ce0 61))
 have ht:(w.alloc (.cells ce0 61)).there w.heap.size 0 (RowT.sz CeR):=aI HB.out
 have HV:=zh (show Value.agg (ceA cA)=.agg #[.int .i64 4,.int .i64 0,.int .u8 0,.int .u8 0,.int .u8 0,.int .u8 0,.int .u8 0,.int .u8 0,.int .u8 0,.int .u8 0] by unfold cA;rw [pJ])
 go_enter func18,ntmps18
 exact v8
theorem jQ (n:UInt64) (w:World):Calls prog 93 #[.agg (nmc n)] w fun e w'=>e=.returned (.agg (ceA (bZ n)))∧Ext w w':=by
 obtain ⟨W,hW⟩:=gx ((w.alloc (.cells (nmc n) 50)).alloc (.cells ce0 61))
 have HB:=zh (show Blk W (w.heap.size+1) 61 ce0 from ag)
 have HX:=zh (show Ext w W from ai)
 have ht:W.there (w.heap.size+1) 0 (RowT.sz CeR):=aI HB.out
 have r0:W.rangeAt w.heap.size 0 (RowT.enc n):=bS (show Blk W w.heap.size 50 (nmc n) from pu)
 obtain ⟨v,hv⟩:=gx (Value.agg (ceA (bZ n)))
 have HR:=zh (fun W=>wR n W)
 rw [hv] at HR ⊢
 have HV:=zh hv
 clear hv
 go_enter func93,ntmps93
 exact um
theorem pU (x y:Int) (w:World):Calls prog 119 #[.int .i64 x,.int .i64 y] w fun e w'=>e=.returned (.int .i64 (iZ x y))∧Ext w w':=by
 rcases Int.lt_trichotomy x y with h | h | h
 ·have HC := zh (jT h)
  exact zn
 ·subst h
  have HC:=zh (jV x)
  exact zn
 have HC:=zh (jU h)
 have h':¬ x < y:=aa
 exact zn
theorem zZ (a b:UInt64) (w:World):Calls prog 120 #[.agg (nmc a),.agg (nmc b)] w fun e w'=>e=.returned (.int .i64 (lK a b))∧Ext w w':=by
 obtain ⟨W,hW⟩:=gx ((w.alloc (.cells (nmc a) 50)).alloc (.cells (nmc b) 50))
 have HA:=zh (show Blk W w.heap.size 50 (nmc a) from by rw [← hW];exact (Blk.new w 50 (nmc a)).alloc _)
 have HB:=zh (show Blk W (w.heap.size+1) 50 (nmc b) from ag)
 have HX:=zh (show Ext w W from ai)
 have ra:W.rangeAt w.heap.size 0 (RowT.enc a):=bS HA.out
 have rb:W.rangeAt (w.heap.size+1) 0 (RowT.enc b):=bS HB.out
 rcases Int.lt_trichotomy (un a) (un b) with h | h | h
 ·have HC := zh (show lK a b = -1 from jT h)
  have HL1:=zh (gG a b W)
  rw [show decide (un a < un b)=true from gj] at HL1
  go_enter func120,ntmps120
  go_wp2_with (first | (with_reducible refine aD nmP rfl (.tmp 2) rfl w.heap.size 0 rfl a _ rfl ra ?_) | (with_reducible refine aD nmP rfl (.tmp 3) rfl (w.heap.size+1) 0 rfl b _ rfl rb ?_) | fail "A")
  refine zcl HL1.out fun w5 he5=>?_
  have HX5:=zh (HX.out.trans he5)
  clear he5 ra rb
  go_wp2_with fail
  go_ret
  exact ⟨dn,HX5.out⟩
 ·have HC := zh (show lK a b = 0 from by unfold lK; rw [h]; exact jV _)
  have HL1:=zh (gG a b W)
  rw [show decide (un a < un b)=false from gj] at HL1
  go_enter func120,ntmps120
  go_wp2_with (first | (with_reducible refine aD nmP rfl (.tmp 2) rfl w.heap.size 0 rfl a _ rfl ra ?_) | (with_reducible refine aD nmP rfl (.tmp 3) rfl (w.heap.size+1) 0 rfl b _ rfl rb ?_) | fail "A")
  refine zcl HL1.out fun w5 he5=>?_
  have HX5:=zh (HX.out.trans he5)
  have HL2:=zh (gG b a w5)
  rw [show decide (un b < un a)=false from gj] at HL2
  exact uw
 have HC:=zh (show lK a b=1 from jU h)
 have HL1:=zh (gG a b W)
 rw [show decide (un a < un b)=false from gj] at HL1
 go_enter func120,ntmps120
 go_wp2_with (first | (with_reducible refine aD nmP rfl (.tmp 2) rfl w.heap.size 0 rfl a _ rfl ra ?_) | (with_reducible refine aD nmP rfl (.tmp 3) rfl (w.heap.size+1) 0 rfl b _ rfl rb ?_) | fail "A")
 refine zcl HL1.out fun w5 he5=>?_
 have HX5:=zh (HX.out.trans he5)
 have HL2:=zh (gG b a w5)
 rw [show decide (un b < un a)=true from gj] at HL2
 exact uw
theorem aAa (a b:CeR) (w:World):Calls prog 58 #[.agg (ceA a),.agg (ceA b)] w fun e w'=>e=.returned (.int .i64 (lJ a b))∧Ext w w':=by
 obtain ⟨W,hW⟩:=gx ((w.alloc (.cells (ceA a) 61)).alloc (.cells (ceA b) 61))
 have HA:=zh (show Blk W w.heap.size 61 (ceA a) from by rw [← hW];exact (Blk.new w 61 (ceA a)).alloc _)
 have HB:=zh (show Blk W (w.heap.size+1) 61 (ceA b) from ag)
 have HX:=zh (show Ext w W from ai)
 have a0:=HA.out.cell 0
 have b0:=HB.out.cell 0
 have HC1:=zh (pU a.k b.k W)
 have HC2:=zh (fun W=>pU a.id b.id W)
 obtain ⟨x1,hx1⟩:=gx (iZ a.k b.k)
 obtain ⟨x2,hx2⟩:=gx (iZ a.id b.id)
 rw [hx1] at HC1
 rw [hx2] at HC2
 by_cases h1:x1=0
 ·have c1 : (x1 != 0) = false := by rw [h1]; rfl
  by_cases h2:x2=0
  ·have c2 : (x2 != 0) = false := by rw [h2]; rfl
   have HSP:=zh (show lJ a b=lK a.lk b.lk from by unfold lJ iW;rw [hx1,hx2,if_neg (fun h=>h h1),if_neg (fun h=>h h2)];rfl)
   clear h1 h2 hx1 hx2
   go_enter func58,ntmps58
   go_wp2_with fail
   refine zcl HC1.out fun w5 he5=>?_
   have HX5:=zh (HX.out.trans he5)
   have HA5:=zh (HA.out.ext he5)
   have HB5:=zh (HB.out.ext he5)
   have a1:=HA5.out.cell 1
   have b1:=HB5.out.cell 1
   clear he5 a0 b0
   go_wp2_with fail
   refine zcl (HC2.out w5) fun w6 he6=>?_
   have HX6:=zh (HX5.out.trans he6)
   have ra:w6.rangeAt w.heap.size 2 (RowT.enc a.lk):=pK (HA5.out.ext he6)
   have rb:w6.rangeAt (w.heap.size+1) 2 (RowT.enc b.lk):=pK (HB5.out.ext he6)
   clear he6 a1 b1
   go_wp2_with (first | (with_reducible refine aD nmP rfl (.tmp 23) rfl w.heap.size 2 rfl a.lk _ rfl ra ?_) | (with_reducible refine aD nmP rfl (.tmp 25) rfl (w.heap.size+1) 2 rfl b.lk _ rfl rb ?_) | fail "A")
   refine zcl (zZ a.lk b.lk w6) fun w7 he7=>?_
   have HX7:=zh (HX6.out.trans he7)
   clear he7 ra rb
   go_wp2_with fail
   go_ret
   exact ⟨bm,HX7.out⟩
  have c2:(x2 != 0)=true:=bne_iff_ne.2 h2
  have HSP:=zh (show lJ a b=x2 from by unfold lJ iW;rw [hx1,hx2,if_neg (fun h=>h h1),if_pos h2])
  clear h1 h2 hx1 hx2
  go_enter func58,ntmps58
  go_wp2_with fail
  refine zcl HC1.out fun w5 he5=>?_
  have HX5:=zh (HX.out.trans he5)
  have HA5:=zh (HA.out.ext he5)
  have HB5:=zh (HB.out.ext he5)
  have a1:=HA5.out.cell 1
  have b1:=HB5.out.cell 1
  clear he5 a0 b0
  go_wp2_with fail
  refine zcl (HC2.out w5) fun w6 he6=>?_
  have HX6:=zh (HX5.out.trans he6)
  have ra:w6.rangeAt w.heap.size 2 (RowT.enc a.lk):=pK (HA5.out.ext he6)
  have rb:w6.rangeAt (w.heap.size+1) 2 (RowT.enc b.lk):=pK (HB5.out.ext he6)
  clear he6 a1 b1 ra rb
  go_wp2_with fail
  go_ret
  exact ⟨bm,HX6.out⟩
 have c1:(x1 != 0)=true:=bne_iff_ne.2 h1
 have HSP:=zh (show lJ a b=x1 from by unfold lJ iW;rw [hx1,if_pos h1])
 clear h1 hx1 hx2
 go_enter func58,ntmps58
 go_wp2_with fail
 refine zcl HC1.out fun w5 he5=>?_
 have HX5:=zh (HX.out.trans he5)
 have HA5:=zh (HA.out.ext he5)
 have HB5:=zh (HB.out.ext he5)
 have a1:=HA5.out.cell 1
 have b1:=HB5.out.cell 1
 clear he5 a0 b0
 go_wp2_with fail
 go_ret
 exact ⟨bm,HX5.out⟩
theorem aHI (x:StpR) (R:OpR) (ev:OpR→Bool) (w:World) (hs:x.s.ok w) (hro:R.ok w) (hpn:R.n1≤140737488355328) (hv:vOp R=true) (hac:wfI x.ac)
  (hbl:R.k=6→∀ V,Ext w V→Calls prog 68 #[.agg (stpA x),.agg (opA R)] V fun e w'=>e=.returned (.int .i64 (dG x.m2 x.m1 x.ht cL ev x.ac R x.s.V))∧Ext V w') :
  Calls prog 26 #[.agg (stpA x),.agg (opA R)] w fun e w'=>e=.returned (.int .i64 (dG x.m2 x.m1 x.ht cL ev x.ac R x.s.V))∧Ext w w':=by
 have HS:=zh hs
 have HRO:=zh hro
 have HPN:=zh hpn
 have HAC:=zh hac
 obtain ⟨hkk,-,-,-,-,-,hvb,-,-⟩:=jI hv
 obtain ⟨W,hW⟩:=gx ((w.alloc (.cells (stpA x) 70)).alloc (.cells (opA R) 52))
 have HP:=zh (show Blk W w.heap.size 70 (stpA x) from dj)
 have HO:=zh (show Blk W (w.heap.size+1) 52 (opA R) from ag)
 have HX:=zh (show Ext w W from ai)
 have rx:W.rangeAt w.heap.size 0 (RowT.enc x):=aC HP.out
 have ro:W.rangeAt (w.heap.size+1) 0 (RowT.enc R):=aC HO.out
 have p0:=HO.out.cell 0
 have p1:=HO.out.cell 1
 have p2:=HO.out.cell 2
 have p3:=HO.out.cell 3
 have p4:=HO.out.cell 4
 have g2:=HP.out.cell 2
 have g3:=HP.out.cell 3
 have g13:=HP.out.cell 13
 obtain ⟨vx,hvx⟩:=gx (Value.agg (stpA x))
 obtain ⟨vo,hvo⟩:=gx (Value.agg (opA R))
 have HVX:=zh hvx
 have HVO:=zh hvo
 obtain ⟨z,hz⟩:∃ z:Int,(if cX x.s.C (aV x.ac) < R.am then 100 else 0)=z:=⟨_,rfl⟩
 clear hs hro hpn hac hv
 rcases (by omega:R.k=1 ∨ R.k=2 ∨ R.k=3 ∨ R.k=4 ∨ R.k=5 ∨ R.k=6) with hk | hk | hk | hk | hk | hk
 ·have hk6 : R.k ≠ 5 := aa
  obtain ⟨b1,d1,b2,d2,b3,d3,b4,d4,b5,d5,b6,d6⟩:=kd1 hk
  have HFU:=zh (tP x R.am W (HS.out.ext HX.out) HAC.out)
  rw [hvx,hz] at HFU
  have HX5:=HX
  by_cases h1:(x.m2:Int)≤R.tO
  ·exact BA
  have HSP:=zh (show dG x.m2 x.m1 x.ht cL ev x.ac R x.s.V=z from by rw [← hz];unfold dG;rw [hk];simp [h1];rfl)
  exact At
 ·have hk6 : R.k ≠ 5 := aa
  obtain ⟨b1,d1,b2,d2,b3,d3,b4,d4,b5,d5,b6,d6⟩:=kd2 hk
  have HFU:=zh (tP x R.am W (HS.out.ext HX.out) HAC.out)
  rw [hvx,hz] at HFU
  have HX5:=HX
  by_cases h1:(x.m2:Int)≤R.tO
  ·exact BA
  by_cases h2:R.ul≤x.ht
  ·have HSP := zh (show dG x.m2 x.m1 x.ht cL ev x.ac R x.s.V = 102 from by unfold dG; rw [hk]; simp [h1, h2])
   exact Cv
  have HSP:=zh (show dG x.m2 x.m1 x.ht cL ev x.ac R x.s.V=z from by rw [← hz];unfold dG;rw [hk];simp [h1,h2];rfl)
  exact At
 ·have HSP := zh (show dG x.m2 x.m1 x.ht cL ev x.ac R x.s.V = qV x.s.V x.ht R from by unfold dG qV; rw [if_pos hk]; cases fdK x.s.V.K R.lk <;> rfl)
  obtain ⟨b1,d1,b2,d2,b3,d3,b4,d4,b5,d5,b6,d6⟩:=kd3 hk
  have HC:=zh (aHH x R W (HS.out.ext HX.out) (HRO.out.ext HX.out) HPN.out)
  exact vf
 ·have HSP := zh (show dG x.m2 x.m1 x.ht cL ev x.ac R x.s.V = tD x.s.V x.ht R from by unfold dG tD; rw [if_neg aa, if_pos hk]; cases fdK x.s.V.K R.lk <;> rfl)
  obtain ⟨b1,d1,b2,d2,b3,d3,b4,d4,b5,d5,b6,d6⟩:=kd4 hk
  have HC:=zh (aEM x R W (HS.out.ext HX.out))
  exact vf
 ·have ha : R.va = ((R.va.toNat : Nat) : Int) := (Int.toNat_of_nonneg hvb.1).symm
  obtain ⟨b1,d1,b2,d2,b3,d3,b4,d4,b5,d5,b6,d6⟩:=kd5 hk
  by_cases h1:(x.m1:Int)≤R.va
  ·have HSP := zh (show dG x.m2 x.m1 x.ht cL ev x.ac R x.s.V = 1 from m6)
   clear hk hvx hvo hz ha
   go_enter func26,ntmps26
   go_wp2_with fail
   go_ret
   exact ⟨bm,HX.out⟩
  have HEX:=zh (sK x R.va.toNat W aa)
  rw [← ha,hvx] at HEX
  clear ha
  by_cases h2:fA x.s.G R.va.toNat=true
  ·have HSP := zh (show dG x.m2 x.m1 x.ht cL ev x.ac R x.s.V = 7 from by unfold dG; rw [hk]; simp [h1, show fA x.s.V.G R.va.toNat = true from h2])
   rw [h2] at HEX
   clear hk hvx hvo h2 hz
   go_enter func26,ntmps26
   go_wp2_with (first | (with_reducible refine aD iQ rfl (.tmp 2) rfl w.heap.size 0 rfl x vx HVX.out rx ?_) | fail "A")
   refine zcl HEX.out fun w5 he5=>?_
   have HX5:=zh (HX.out.trans he5)
   clear he5 rx ro p0 p1 p2 p3 p4 g2 g3 g13
   go_wp2_with fail
   go_ret
   exact ⟨bm,HX5.out⟩
  have h2':fA x.s.G R.va.toNat=false:=by simpa using h2
  have HSP:=zh (show dG x.m2 x.m1 x.ht cL ev x.ac R x.s.V=z from by rw [← hz];unfold dG;rw [hk];simp [h1,show fA x.s.V.G R.va.toNat=false from h2'];rfl)
  rw [h2'] at HEX
  have HZZ:=zh hz
  clear hk h2 h2' hvx hvo hz
  go_enter func26,ntmps26
  go_wp2_with (first | (with_reducible refine aD iQ rfl (.tmp 2) rfl w.heap.size 0 rfl x vx HVX.out rx ?_) | fail "A")
  refine zcl HEX.out fun w5 he5=>?_
  have HX5:=zh (HX.out.trans he5)
  have HP5:=zh (HP.out.ext he5)
  have HO5:=zh (HO.out.ext he5)
  clear he5 rx ro p0 p1 p2 p3 p4 g2 g3 g13
  have rx5:w5.rangeAt w.heap.size 0 (RowT.enc x):=aC HP5.out
  have p2:=HO5.out.cell 2
  have HFU:=zh (tP x R.am w5 (HS.out.ext HX5.out) HAC.out)
  rw [HVX.out,HZZ.out] at HFU
  go_wp2_with (first | (with_reducible refine aD iQ rfl (.tmp 2) rfl w.heap.size 0 rfl x vx HVX.out rx5 ?_) | fail "A")
  exact Cc
 have HSP:=zh (show True from trivial)
 obtain ⟨b1,d1,b2,d2,b3,d3,b4,d4,b5,d5,b6,d6⟩:=kd6 hk
 have HC:=zh (hbl hk W HX.out)
 rw [hvx,hvo] at HC
 clear hk hvx hvo hz
 go_enter func26,ntmps26
 go_wp2_with (first | (with_reducible refine aD iQ rfl (.tmp 2) rfl w.heap.size 0 rfl x vx HVX.out rx ?_) | (with_reducible refine aD opP rfl (.tmp 3) rfl (w.heap.size+1) 0 rfl R vo HVO.out ro ?_) | fail "A")
 refine zcl HC.out fun w5 he5=>?_
 have HX5:=zh (HX.out.trans he5)
 clear he5 rx ro p0
 go_wp2_with fail
 go_ret
 exact ⟨rfl,HX5.out⟩
theorem vtP:RowP VtR 124 vtA:=⟨fun _=>rfl,by kernel_rfl,_,underlying124,rfl⟩
theorem sgP:RowP SgR 126 sgA:=⟨fun _=>rfl,by kernel_rfl,_,underlying126,rfl⟩
structure EvR where
 a:SgR
 b:SgR
abbrev evA (E:EvR):Array Value:=#[.int .i64 E.a.v.k,.int .i64 E.a.v.sl,.int .i64 E.a.v.ro,.int .i64 E.a.v.ch,.int .i64 E.a.v.si,.int .i64 E.a.v.su,.int .u8 (nb8 E.a.v.pa 0),.int .u8 (nb8 E.a.v.pa 1),.int .u8 (nb8 E.a.v.pa 2),.int .u8 (nb8 E.a.v.pa 3),.int .u8 (nb8 E.a.v.pa 4),.int .u8 (nb8 E.a.v.pa 5),.int .u8 (nb8 E.a.v.pa 6),.int .u8 (nb8 E.a.v.pa 7),.int .u8 (nb8 E.a.v.va 0),.int .u8 (nb8 E.a.v.va 1),.int .u8 (nb8 E.a.v.va 2),.int .u8 (nb8 E.a.v.va 3),.int .u8 (nb8 E.a.v.va 4),.int .u8 (nb8 E.a.v.va 5),.int .u8 (nb8 E.a.v.va 6),.int .u8 (nb8 E.a.v.va 7),.slice E.a.A E.a.n E.a.c,.int .i64 E.b.v.k,.int .i64 E.b.v.sl,.int .i64 E.b.v.ro,.int .i64 E.b.v.ch,.int .i64 E.b.v.si,.int .i64 E.b.v.su,.int .u8 (nb8 E.b.v.pa 0),.int .u8 (nb8 E.b.v.pa 1),.int .u8 (nb8 E.b.v.pa 2),.int .u8 (nb8 E.b.v.pa 3),.int .u8 (nb8 E.b.v.pa 4),.int .u8 (nb8 E.b.v.pa 5),.int .u8 (nb8 E.b.v.pa 6),.int .u8 (nb8 E.b.v.pa 7),.int .u8 (nb8 E.b.v.va 0),.int .u8 (nb8 E.b.v.va 1),.int .u8 (nb8 E.b.v.va 2),.int .u8 (nb8 E.b.v.va 3),.int .u8 (nb8 E.b.v.va 4),.int .u8 (nb8 E.b.v.va 5),.int .u8 (nb8 E.b.v.va 6),.int .u8 (nb8 E.b.v.va 7),.slice E.b.A E.b.n E.b.c]
def evL (E:EvR):List Value:=(evA E).toList
instance:RowT EvR where
 sz:=46
 z:=⟨eM,eM⟩
 enc:=evL
 ok E w:=E.a.ok w∧E.b.ok w
 pos:=by decide
 len _:=rfl
 one E u hu:=by
  rw [show evL E=sgL E.a ++ sgL E.b from rfl] at hu
  rcases List.mem_append.1 hu with h | h
  ·exact vO _ u h
  exact vO _ u h
 ext E w w' h e:=⟨h.1.ext e,h.2.ext e⟩
theorem evP:RowP EvR 128 evA:=⟨fun _=>rfl,by kernel_rfl,_,underlying128,rfl⟩
section
variable {w:World} {b of:Nat}
theorem aHA {E:EvR} (h:w.rangeAt b of (RowT.enc E)):w.rangeAt b of (RowT.enc E.a):=aQ (k:=23) h
theorem aHz {E:EvR} (h:w.rangeAt b of (RowT.enc E)):w.rangeAt b (of+23) (RowT.enc E.b):=bG (k:=23) h
theorem aCJ {S:SgR} (h:w.rangeAt b of (RowT.enc S)):w.rangeAt b of (RowT.enc S.v):=aQ (k:=22) h
end
def skV (a b:VtR):Bool:=decide (a.k=b.k) && (decide (a.pa=b.pa) && (decide (a.sl=b.sl) && (decide (a.ro=b.ro) && decide (a.si=b.si))))
theorem aCL (a b:VtR) (w:World):Calls prog 226 #[.agg (vtA a),.agg (vtA b)] w fun e w'=>e=.returned (.bool (skV a b))∧Ext w w':=by
 obtain ⟨W,hW⟩:=gx ((w.alloc (.cells (vtA a) 124)).alloc (.cells (vtA b) 124))
 have HA:=zh (show Blk W w.heap.size 124 (vtA a) from ey)
 have HB:=zh (show Blk W (w.heap.size+1) 124 (vtA b) from ag)
 have HE:=zh (show Ext w W from ai)
 have a0:W.cell? ⟨w.heap.size,0,none⟩=some (.int .i64 a.k):=HA.out.cell 0
 have a1:W.cell? ⟨w.heap.size,1,none⟩=some (.int .i64 a.sl):=HA.out.cell 1
 have a2:W.cell? ⟨w.heap.size,2,none⟩=some (.int .i64 a.ro):=HA.out.cell 2
 have a4:W.cell? ⟨w.heap.size,4,none⟩=some (.int .i64 a.si):=HA.out.cell 4
 have b0:W.cell? ⟨w.heap.size+1,0,none⟩=some (.int .i64 b.k):=HB.out.cell 0
 have b1:W.cell? ⟨w.heap.size+1,1,none⟩=some (.int .i64 b.sl):=HB.out.cell 1
 have b2:W.cell? ⟨w.heap.size+1,2,none⟩=some (.int .i64 b.ro):=HB.out.cell 2
 have b4:W.cell? ⟨w.heap.size+1,4,none⟩=some (.int .i64 b.si):=HB.out.cell 4
 have ra:W.rangeAt w.heap.size 6 (RowT.enc a.pa):=aQ (k:=8) (bG (k:=6) (aC HA.out))
 have rb:W.rangeAt (w.heap.size+1) 6 (RowT.enc b.pa):=aQ (k:=8) (bG (k:=6) (aC HB.out))
 obtain ⟨x1,h1⟩:=gx (decide (a.k=b.k))
 obtain ⟨x2,h2⟩:=gx (decide (a.pa=b.pa))
 obtain ⟨x3,h3⟩:=gx (decide (a.sl=b.sl))
 obtain ⟨x4,h4⟩:=gx (decide (a.ro=b.ro))
 obtain ⟨x5,h5⟩:=gx (decide (a.si=b.si))
 have HV:=zh (show skV a b=(x1 && (x2 && (x3 && (x4 && x5)))) from by unfold skV;rw [h1,h2,h3,h4,h5])
 have q7:=fun W=>cE a.pa b.pa W
 rw [h2] at q7
 have e1:(a.k == b.k)=x1:=kb
 have e3:(a.sl == b.sl)=x3:=ka
 have e4:(a.ro == b.ro)=x4:=j9
 have e5:(a.si == b.si)=x5:=qq
 clear h2
 have hcs:(x1=false) ∨ (x1=true∧x2=false) ∨ (x1=true∧x2=true∧x3=false) ∨ (x1=true∧x2=true∧x3=true∧x4=false) ∨ (x1=true∧x2=true∧x3=true∧x4=true∧x5=false) ∨ (x1=true∧x2=true∧x3=true∧x4=true∧x5=true):=by
  cases x1 <;> cases x2 <;> cases x3 <;> cases x4 <;> cases x5 <;> simp
 rcases hcs with rfl | ⟨rfl,rfl⟩ | ⟨rfl,rfl,rfl⟩ | ⟨rfl,rfl,rfl,rfl⟩ | ⟨rfl,rfl,rfl,rfl,rfl⟩ | ⟨rfl,rfl,rfl,rfl,rfl⟩
 all_goals
  go_enter func226,ntmps226
  go_wp2_with (first | (with_reducible refine aX nmP ay (.tmp 11) rfl w.heap.size 6 rfl a.pa _ rfl ra ?_) | (with_reducible refine aX nmP ay (.tmp 13) rfl (w.heap.size+1) 6 rfl b.pa _ rfl rb ?_))
  go_ret
  exact ⟨dc,HE.out⟩
theorem aCN (a b:VtR) (ha:a.wf) (hb:b.wf) (w:World):(binOp .neq 124 (.agg (vtA a)) (.agg (vtA b))).run prog w=.ok (.bool (decide (a ≠ b))) w:=by
 have h:=aIo a b ha hb w
 unfold binOp at h ⊢
 simp only [Sem.run_bind,Sem.run_pure] at h ⊢
 generalize (Op.equal 124 (.agg (vtA a)) (.agg (vtA b))).run prog w=r at h ⊢
 cases r with
 | ok x w' =>
  simp only [Result.andThen_ok] at h ⊢
  injection h with h1 h2
  injection h1 with h1
  rw [h1,h2,decide_not]
 | halt x w'=>simp [Result.andThen] at h
theorem aDC (op:BinOp) (x y:Operand) (a b:VtR) (w:World):(eqGuard op 124 x y (.agg (vtA a)) (.agg (vtA b))).run prog w=.ok () w:=run_eqGuard_agg w op _ x y _ _ (by kernel_rfl)
def cfV (a b:VtR):Bool:=decide (a ≠ b) && (skV a b && (eS a && eS b))
theorem aCa (a b:VtR) (w:World) (ha:a.wf) (hb:b.wf):Calls prog 191 #[.agg (vtA a),.agg (vtA b)] w fun e w'=>e=.returned (.bool (cfV a b))∧Ext w w':=by
 obtain ⟨W,hW⟩:=gx ((w.alloc (.cells (vtA a) 124)).alloc (.cells (vtA b) 124))
 have HA:=zh (show Blk W w.heap.size 124 (vtA a) from ey)
 have HB:=zh (show Blk W (w.heap.size+1) 124 (vtA b) from ag)
 have HE:=zh (show Ext w W from ai)
 obtain ⟨va,hva⟩:=gx (Value.agg (vtA a))
 obtain ⟨vb,hvb⟩:=gx (Value.agg (vtA b))
 have HVA:=zh hva
 have HVB:=zh hvb
 obtain ⟨x1,h1⟩:=gx (decide (a ≠ b))
 obtain ⟨x2,h2⟩:=gx (skV a b)
 obtain ⟨x3,h3⟩:=gx (eS a)
 obtain ⟨x4,h4⟩:=gx (eS b)
 have HV:=zh (show cfV a b=(x1 && (x2 && (x3 && x4))) from by unfold cfV;rw [h1,h2,h3,h4])
 have HN:=zh (fun W=>aCN a b ha hb W)
 have HG:=zh (fun (W:World)=>aDC .neq (.tmp 5) (.tmp 6) a b W)
 have HSK:=zh (fun W=>aCL a b W)
 have HVA2:=zh (fun W=>gR a W)
 have HVB2:=zh (fun W=>gR b W)
 rw [h1,hva,hvb] at HN
 rw [hva,hvb] at HG
 rw [h2,hva,hvb] at HSK
 rw [h3,hva] at HVA2
 rw [h4,hvb] at HVB2
 have HRA:=zh (fun (V:World) (e:Ext W V)=>show V.rangeAt w.heap.size 0 (RowT.enc a) from aC (HA.out.ext e))
 have HRB:=zh (fun (V:World) (e:Ext W V)=>show V.rangeAt (w.heap.size+1) 0 (RowT.enc b) from aC (HB.out.ext e))
 clear h1 h2 h3 h4 ha hb hva hvb
 have HX0:=zh (Ext.refl W)
 have q8:=HG.out
 have q9:=HN.out
 have hcs:(x1=false) ∨ (x1=true∧x2=false) ∨ (x1=true∧x2=true∧x3=false) ∨ (x1=true∧x2=true∧x3=true∧x4=false) ∨ (x1=true∧x2=true∧x3=true∧x4=true):=by
  cases x1 <;> cases x2 <;> cases x3 <;> cases x4 <;> simp
 rcases hcs with rfl | ⟨rfl,rfl⟩ | ⟨rfl,rfl,rfl⟩ | ⟨rfl,rfl,rfl,rfl⟩ | ⟨rfl,rfl,rfl,rfl⟩
 all_goals
  go_enter func191,ntmps191
  go_wp2_with (first | (with_reducible refine aD vtP rfl (.tmp 2) rfl w.heap.size 0 rfl a va HVA.out (HRA.out _ HX0.out) ?_) | (with_reducible refine aD vtP rfl (.tmp 3) rfl (w.heap.size+1) 0 rfl b vb HVB.out (HRB.out _ HX0.out) ?_)  | (with_reducible refine aX vtP ay (.tmp 2) rfl w.heap.size 0 rfl a va HVA.out (HRA.out _ HX0.out) ?_) | (with_reducible refine aX vtP ay (.tmp 3) rfl (w.heap.size+1) 0 rfl b vb HVB.out (HRB.out _ HX0.out) ?_) | (go_at_call 226;(with_reducible refine zcl (HSK.out _) fun w5 he5=>?_);have HX0:=zh (HX0.out.trans he5);clear he5) | (go_at_call 227;(first | (with_reducible refine (HVA2.out _).mono ?_) | (with_reducible refine (HVB2.out _).mono ?_));rintro e w5 ⟨rfl,he5⟩;have HX0:=zh (HX0.out.trans he5);clear he5))
  go_ret
  exact ⟨dc,HE.out.trans HX0.out⟩
def aEo (v:VtR):UInt64:=dY 64 (mR v)
theorem aAW (v:VtR) (h:eS v=true) (w:World):Calls prog 244 #[.agg (vtA v)] w fun e w'=>e=.returned (.agg (nmc (aEo v)))∧Ext w w':=by
 obtain ⟨W,hW⟩:=gx ((w.alloc (.cells (vtA v) 124)).alloc (.cells zcs.toArray 50))
 have HB2:=zh (show Blk W (w.heap.size+1) 50 zcs.toArray from ag)
 have HE:=zh (show Ext w W from ai)
 have rv:W.rangeAt w.heap.size 0 (RowT.enc v):=oa
 obtain ⟨vv,hvv⟩:=gx (Value.agg (vtA v))
 have HVV:=zh hvv
 have HEN:=zh (fun W=>aCo v h W)
 rw [hvv] at HEN
 clear hvv h
 go_enter func244,ntmps244
 go_wp2_with (with_reducible refine aD vtP rfl (.tmp 1) rfl w.heap.size 0 rfl v vv HVV.out rv ?_)
 refine (HEN.out _).mono ?_
 rintro e w2 ⟨A2,c2,rfl,hO2,he2⟩
 have HX2:=zh he2
 have HS2:=zh hO2.sl
 clear hO2 he2 rv
 go_wp2_with fail
 refine zcl (iC 64 A2 23 c2 _ _ HS2.out aa) fun w3 he3=>?_
 exact wn
def vfV (pub:UInt64) (v:VtR) (sig:List UInt8):Bool:=eS v && gS pub 2 (aEo v) sig
theorem aBf (pub:UInt64) (S:SgR) (w:World) (h:S.ok w):Calls prog 229 #[.agg (nmc pub),.agg (sgA S)] w fun e w'=>e=.returned (.bool (vfV pub S.v S.sig))∧Ext w w':=by
 obtain ⟨W,hW⟩:=gx ((w.alloc (.cells (nmc pub) 50)).alloc (.cells (sgA S) 126))
 have HB1:=zh (show Blk W w.heap.size 50 (nmc pub) from pg)
 have HB2:=zh (show Blk W (w.heap.size+1) 126 (sgA S) from ag)
 have HE:=zh (show Ext w W from ai)
 have HS:=zh h
 obtain ⟨vv,hvv⟩:=gx (Value.agg (vtA S.v))
 have HVV:=zh hvv
 have HVD:=zh (fun W=>gR S.v W)
 rw [hvv] at HVD
 obtain ⟨z,hz⟩:=gx (gS pub 2 (aEo S.v) S.sig)
 have HVF:=zh (fun (V:World) (e:Ext w V)=>wH pub (aEo S.v) 2 S.A S.n S.c S.sig V (HS.out.sig.ext e))
 rw [hz] at HVF
 cases hv:eS S.v with
 | false =>
  have HV:=zh (show vfV pub S.v S.sig=false from by unfold vfV;rw [hv];rfl)
  rw [hv] at HVD
  have HNM:True:=trivial
  exact tv
 | true =>
  have HV:=zh (show vfV pub S.v S.sig=z from by unfold vfV;rw [hv,hz];rfl)
  have HNM:=zh (fun W=>aAW S.v hv W)
  rw [hv] at HVD
  rw [hvv] at HNM
  exact tv
def vfK (PN:List UInt64) (v:VtR) (sig:List UInt8):Bool:=decide (0≤v.si∧v.si < PN.length) && vfV (aS PN v.si.toNat) v sig
theorem rJ (B:Option Addr) (m d:Nat) (PN:List UInt64) (S:SgR) (w:World) (hp:SlG w B m d PN) (h:S.ok w):Calls prog 193 #[.slice B m d,.agg (sgA S)] w fun e w'=>e=.returned (.bool (vfK PN S.v S.sig))∧Ext w w':=by
 obtain ⟨W,hW⟩:=gx (w.alloc (.cells (sgA S) 126))
 have HB:=zh (show Blk W w.heap.size 126 (sgA S) from rp)
 have HE:=zh (show Ext w W from be)
 have HS:=zh h
 have HP:=zh hp
 have HLEN:=zh hp.len
 have hle:=hp.le
 have hcap:=hp.cap
 obtain ⟨vs,hvs⟩:=gx (Value.agg (sgA S))
 have HVS:=zh hvs
 have q4:W.cell? ⟨w.heap.size,4,none⟩=some (.int .i64 S.v.si):=HB.out.cell 4
 obtain ⟨si,hsi⟩:=gx (S.v.si)
 rw [hsi] at q4
 by_cases hok:0≤si∧si < (m:Int)
 ·obtain ⟨i, rfl⟩ : ∃ i : Nat, si = (i : Int) := ⟨si.toNat, aa⟩
  have hi:i < m:=aa
  have j0:(0:Int)≤(i:Int):=aa
  have j1:(i:Int) < (m:Int):=aa
  obtain ⟨b,o,hab,-,-⟩:=hp.at (show 0 < m by omega)
  have HKR:=zh (fun (V:World) (e:Ext w V)=>show V.rangeAt b (o+i * 8) (RowT.enc (aS PN i)) from by
   exact AK)
  subst hab
  obtain ⟨z,hz⟩:=gx (vfV (aS PN i) S.v S.sig)
  have HVF:=zh (fun (V:World) (e:Ext w V)=>aBf (aS PN i) S V (HS.out.ext e))
  rw [hz,hvs] at HVF
  have HV:=zh (show vfK PN S.v S.sig=z from by
   unfold vfK
   rw [hsi,HLEN.out,decide_eq_true hok,Int.toNat_natCast,hz];rfl)
  clear h hp hvs hz hsi hok
  go_enter func193,ntmps193
  go_upto_region 2 with fail
  clear q4
  refine wp_region_held_drew (S:=fun V=>Blk V w.heap.size 126 (sgA S)∧Ext w V) ab (⟨HB.out.drew,HE.out.trans ((Ext.refl _).drew')⟩) (fun aA=>?_)
  refine zzr [0,1,2,3,4,5,6,7,8,9,10,11] ?_
  first | refine zu 12 (v:=.agg (nmc (aS PN i))) aA ?_ (hy:=by exact aG nmP dp (.tmp 20) dp b (o+i * 8) dp (aS PN i) _ rfl (fun V h=>HKR.out V h.2)) | (refine zs 12 aA ?_)
  try simp only [bB]
  first | refine zu 13 (v:=vs) aA ?_ (hy:=ll) | (refine zs 13 aA ?_)
  try simp only [bB]
  refine za 14 (fun K hK=>?_)
  (go_simp;first | (go_at_call 229;refine (HVF.out _ aA.2).mono ?_;rintro e w8 ⟨rfl,he8⟩) | skip)
  refine hK.out _ _ ni (fun aA=>?_)
  clear hK K
  try simp only [bB]
  refine zzr [15,16] ?_
  exact Ck
 have HV:=zh (show vfK PN S.v S.sig=false from by
  unfold vfK
  rw [hsi,HLEN.out,decide_eq_false hok];rfl)
 have hcs:(¬ si ≥ 0) ∨ (si ≥ 0∧¬ si < (m:Int)):=aa
 clear h hp hvs hsi hok
 rcases hcs with j0 | ⟨j0,j1⟩
 all_goals
  go_enter func193,ntmps193
  go_upto_region 2 with fail
  clear q4
  refine wp_region_held_drew (S:=fun V=>Blk V w.heap.size 126 (sgA S)∧Ext w V) ab (⟨HB.out.drew,HE.out.trans ((Ext.refl _).drew')⟩) (fun aA=>?_)
  refine zzr [0,1,2,3,4,5,6,7,8] ?_
  (refine zs 9 aA ?_)
  (refine zs 10 aA ?_)
  (refine zs 11 aA ?_)
  (refine zs 12 aA ?_)
  (refine zs 13 aA ?_)
  (refine zs 14 aA ?_)
  refine zzr [15,16] ?_
  refine wpd ?_
  have HX:=zh aA.2
  clear aA
  go_wp2_with fail
  go_ret
  exact ⟨bg,HX.out⟩
def evV (PN:List UInt64) (v:VtR) (s:List UInt8) (u:VtR) (t:List UInt8):Bool:=cfV v u && (tM v u && (vfK PN v s && vfK PN u t))
theorem aDM (B:Option Addr) (m d:Nat) (PN:List UInt64) (E:EvR) (w:World) (hp:SlG w B m d PN) (h:RowT.ok E w):Calls prog 128 #[.slice B m d,.agg (evA E)] w fun e w'=>e=.returned (.bool (evV PN E.a.v E.a.sig E.b.v E.b.sig))∧Ext w w':=by
 obtain ⟨W,hW⟩:=gx (w.alloc (.cells (evA E) 128))
 have HB:=zh (show Blk W w.heap.size 128 (evA E) from rm)
 have HE:=zh (show Ext w W from be)
 have HS:=zh (show E.a.ok w∧E.b.ok w from h)
 have HP:=zh hp
 obtain ⟨va,hva⟩:=gx (Value.agg (vtA E.a.v))
 obtain ⟨vb,hvb⟩:=gx (Value.agg (vtA E.b.v))
 obtain ⟨sa,hsa⟩:=gx (Value.agg (sgA E.a))
 obtain ⟨sb,hsb⟩:=gx (Value.agg (sgA E.b))
 have HVA:=zh hva
 have HVB:=zh hvb
 have HSA:=zh hsa
 have HSB:=zh hsb
 obtain ⟨x1,h1⟩:=gx (cfV E.a.v E.b.v)
 obtain ⟨x2,h2⟩:=gx (tM E.a.v E.b.v)
 obtain ⟨x3,h3⟩:=gx (vfK PN E.a.v E.a.sig)
 obtain ⟨x4,h4⟩:=gx (vfK PN E.b.v E.b.sig)
 have HV:=zh (show evV PN E.a.v E.a.sig E.b.v E.b.sig=(x1 && (x2 && (x3 && x4))) from by unfold evV;rw [h1,h2,h3,h4])
 have HC1:=zh (fun W=>aCa E.a.v E.b.v W HS.out.1.v HS.out.2.v)
 have HC2:=zh (fun W=>aEp E.a.v E.b.v W)
 have HC3:=zh (fun (V:World) (e:Ext w V)=>rJ B m d PN E.a V (HP.out.ext e) (HS.out.1.ext e))
 have HC4:=zh (fun (V:World) (e:Ext w V)=>rJ B m d PN E.b V (HP.out.ext e) (HS.out.2.ext e))
 rw [h1,hva,hvb] at HC1
 rw [h2,hva,hvb] at HC2
 rw [h3,hsa] at HC3
 rw [h4,hsb] at HC4
 have HRE:=zh (fun (V:World) (e:Ext W V)=>show V.rangeAt w.heap.size 0 (RowT.enc E) from aC (HB.out.ext e))
 have HX0:=zh (Ext.refl W)
 clear h1 h2 h3 h4 h hp hva hvb hsa hsb
 have hcs:(x1=false) ∨ (x1=true∧x2=false) ∨ (x1=true∧x2=true∧x3=false) ∨ (x1=true∧x2=true∧x3=true∧x4=false) ∨ (x1=true∧x2=true∧x3=true∧x4=true):=by
  cases x1 <;> cases x2 <;> cases x3 <;> cases x4 <;> simp
 rcases hcs with rfl | ⟨rfl,rfl⟩ | ⟨rfl,rfl,rfl⟩ | ⟨rfl,rfl,rfl,rfl⟩ | ⟨rfl,rfl,rfl,rfl⟩
 all_goals
  go_enter func128,ntmps128
  go_wp2_with (first | (with_reducible refine aD vtP rfl (.tmp 6) rfl w.heap.size 0 rfl E.a.v va HVA.out (aCJ (aHA (HRE.out _ HX0.out))) ?_) | (with_reducible refine aD vtP rfl (.tmp 9) rfl w.heap.size 23 rfl E.b.v vb HVB.out (aCJ (aHz (HRE.out _ HX0.out))) ?_)  | (with_reducible refine aX vtP ay (.tmp 14) rfl w.heap.size 0 rfl E.a.v va HVA.out (aCJ (aHA (HRE.out _ HX0.out))) ?_) | (with_reducible refine aX vtP ay (.tmp 17) rfl w.heap.size 23 rfl E.b.v vb HVB.out (aCJ (aHz (HRE.out _ HX0.out))) ?_)  | (with_reducible refine aX sgP ay (.tmp 23) rfl w.heap.size 0 rfl E.a sa HSA.out (aHA (HRE.out _ HX0.out)) ?_) | (with_reducible refine aX sgP ay (.tmp 29) rfl w.heap.size 23 rfl E.b sb HSB.out (aHz (HRE.out _ HX0.out)) ?_) | (go_at_call 191;(with_reducible refine zcl (HC1.out _) fun w5 he5=>?_);have HX0:=zh (HX0.out.trans he5);clear he5) | (go_at_call 192;(with_reducible refine zcl (HC2.out _) fun w5 he5=>?_);have HX0:=zh (HX0.out.trans he5);clear he5) | (go_at_call 193;(first | (with_reducible refine (HC3.out _ (HE.out.trans HX0.out)).mono ?_) | (with_reducible refine (HC4.out _ (HE.out.trans HX0.out)).mono ?_));rintro e w5 ⟨rfl,he5⟩;have HX0:=zh (HX0.out.trans he5);clear he5))
  go_ret
  exact ⟨dc,HE.out.trans HX0.out⟩
end
end Go.Proofs.YtgmnmjeccfnmbaaGreat
