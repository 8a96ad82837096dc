/- The reference's cells and comparisons. -/
import Derived.Test.YtohmmcahpakokaaGreatH34
set_option maxRecDepth 100000
set_option maxHeartbeats 8000000
set_option linter.unusedVariables false
set_option linter.unusedSimpArgs false
namespace Go.Proofs.YtohmmcahpakokaaGreat
section
open Go.RowKit
attribute [local go_sem ↓] Go.wp_at_zero Go.wp_at_succ
theorem dE (i:Int) (w:World):Calls Tryz.prog 33 #[.int .i64 i] w fun e w'=>e=.returned (.agg (ceA (aP i)))∧Ext w w':=by
 have HB:=zh (Blk.new w 32 ce0)
 have HX:=zh ((Ext.refl w).alloc' (.cells ce0 32))
 have ht:(w.alloc (.cells ce0 32)).there w.heap.size 0 (RowT.sz CeR):=aR HB.out
 have HV:=zh (show Value.agg (ceA (aP i))=.agg #[.int .i64 1,.int .i64 i,.int .u8 0,.int .u8 0,.int .u8 0,.int .u8 0,.int .u8 0,.int .u8 0,.int .u8 0,.int .u8 0] by unfold aP;rw [nM])
 go_enter Tryz.func33,Tryz.ntmps33
 go_wp2_with ((with_reducible refine bL ceP rfl (.tmp 2) (.tmp 4) rfl w.heap.size 0 rfl (aP i) _ HV.out rfl ht ?_))
 have hst:=aQ (ds:=ceA (aP i)) HB.out rfl
 exact bodyPost_ret (eI rfl _ _ w.heap.size _ rfl (run_loadVar_row _ _ _ _ _ (0,0) _ hst Tryz.underlying32 rfl (by kernel_rfl))) rfl ⟨rfl,Below.setCells' HX.out (Nat.le_refl _) _ _⟩
theorem lL (i:Int) (w:World):Calls Tryz.prog 49 #[.int .i64 i] w fun e w'=>e=.returned (.agg (ceA (bT i)))∧Ext w w':=by
 have HB:=zh (Blk.new w 32 ce0)
 have HX:=zh ((Ext.refl w).alloc' (.cells ce0 32))
 have ht:(w.alloc (.cells ce0 32)).there w.heap.size 0 (RowT.sz CeR):=aR HB.out
 have HV:=zh (show Value.agg (ceA (bT i))=.agg #[.int .i64 3,.int .i64 i,.int .u8 0,.int .u8 0,.int .u8 0,.int .u8 0,.int .u8 0,.int .u8 0,.int .u8 0,.int .u8 0] by unfold bT;rw [nM])
 go_enter Tryz.func49,Tryz.ntmps49
 go_wp2_with ((with_reducible refine bL ceP rfl (.tmp 2) (.tmp 4) rfl w.heap.size 0 rfl (bT i) _ HV.out rfl ht ?_))
 have hst:=aQ (ds:=ceA (bT i)) HB.out rfl
 exact bodyPost_ret (eI rfl _ _ w.heap.size _ rfl (run_loadVar_row _ _ _ _ _ (0,0) _ hst Tryz.underlying32 rfl (by kernel_rfl))) rfl ⟨rfl,Below.setCells' HX.out (Nat.le_refl _) _ _⟩
theorem nH (w:World):Calls Tryz.prog 31 #[] w fun e w'=>e=.returned (.agg (ceA bV))∧Ext w w':=by
 have HB:=zh (Blk.new w 32 ce0)
 have HX:=zh ((Ext.refl w).alloc' (.cells ce0 32))
 have ht:(w.alloc (.cells ce0 32)).there w.heap.size 0 (RowT.sz CeR):=aR HB.out
 have HV:=zh (show Value.agg (ceA bV)=.agg #[.int .i64 4,.int .i64 0,.int .u8 0,.int .u8 0,.int .u8 0,.int .u8 0,.int .u8 0,.int .u8 0,.int .u8 0,.int .u8 0] by unfold bV;rw [nM])
 go_enter Tryz.func31,Tryz.ntmps31
 go_wp2_with ((with_reducible refine bL ceP rfl (.tmp 0) (.tmp 1) rfl w.heap.size 0 rfl bV _ HV.out rfl ht ?_))
 have hst:=aQ (ds:=ceA bV) HB.out rfl
 exact bodyPost_ret (eI rfl _ _ w.heap.size _ rfl (run_loadVar_row _ _ _ _ _ (0,0) _ hst Tryz.underlying32 rfl (by kernel_rfl))) rfl ⟨rfl,Below.setCells' HX.out (Nat.le_refl _) _ _⟩
theorem kL (n:UInt64) (w:World):Calls Tryz.prog 47 #[.agg (nmc n)] w fun e w'=>e=.returned (.agg (ceA (bW n)))∧Ext w w':=by
 obtain ⟨W,hW⟩:∃ W,(w.alloc (.cells (nmc n) 30)).alloc (.cells ce0 32)=W:=⟨_,rfl⟩
 have HB:=zh (show Blk W (w.heap.size+1) 32 ce0 from by rw [← hW];exact Blk.newAt _ _ _ _ (by simp))
 have HX:=zh (show Ext w W from by rw [← hW];exact ((Ext.refl w).alloc' _).alloc' _)
 have ht:W.there (w.heap.size+1) 0 (RowT.sz CeR):=aR HB.out
 have r0:W.rangeAt w.heap.size 0 (RowT.enc n):=bP (show Blk W w.heap.size 30 (nmc n) from by rw [← hW];exact (Blk.new w 30 (nmc n)).alloc _)
 obtain ⟨v,hv⟩:∃ v,Value.agg (ceA (bW n))=v:=⟨_,rfl⟩
 have HR:=zh (fun W=>tT n W)
 rw [hv] at HR ⊢
 have HV:=zh hv
 clear hv
 go_enter Tryz.func47,Tryz.ntmps47
 go_wp2_with (first | (with_reducible refine aC nmP rfl (.tmp 1) rfl w.heap.size 0 rfl n _ rfl r0 ?_) | (with_reducible refine dS rfl (cS (vx:=.int .i64 2) (vy:=.agg (nmc n)) (.const (.int .i64 2)) (.tmp 3) rfl rfl rfl HR.out) ?_) | (with_reducible refine bL ceP rfl (.tmp 2) (.tmp 4) rfl (w.heap.size+1) 0 rfl (bW n) v HV.out rfl ht ?_))
 have hst:=aQ (ds:=ceA (bW n)) HB.out rfl
 exact bodyPost_ret (eI rfl _ _ (w.heap.size+1) _ rfl (run_loadVar_row _ _ _ _ _ (0,0) _ hst Tryz.underlying32 rfl (by kernel_rfl))) rfl ⟨by rw [HV.out],Below.setCells' HX.out (Nat.le_succ _) _ _⟩
theorem nS (x y:Int) (w:World):Calls Tryz.prog 128 #[.int .i64 x,.int .i64 y] w fun e w'=>e=.returned (.int .i64 (gV x y))∧Ext w w':=by
 rcases Int.lt_trichotomy x y with h | h | h
 ·have HC := zh (iS h)
  go_enter Tryz.func128,Tryz.ntmps128
  go_wp2_with fail
  go_ret
  exact ⟨by rw [HC.out];rfl,Ext.refl w⟩
 ·subst h
  have HC:=zh (iU x)
  go_enter Tryz.func128,Tryz.ntmps128
  go_wp2_with fail
  go_ret
  exact ⟨by rw [HC.out];rfl,Ext.refl w⟩
 have HC:=zh (iT h)
 have h':¬ x < y:=by omega
 go_enter Tryz.func128,Tryz.ntmps128
 go_wp2_with fail
 go_ret
 exact ⟨by rw [HC.out];rfl,Ext.refl w⟩
theorem wT (a b:UInt64) (w:World):Calls Tryz.prog 129 #[.agg (nmc a),.agg (nmc b)] w fun e w'=>e=.returned (.int .i64 (jW a b))∧Ext w w':=by
 obtain ⟨W,hW⟩:∃ W,(w.alloc (.cells (nmc a) 30)).alloc (.cells (nmc b) 30)=W:=⟨_,rfl⟩
 have HA:=zh (show Blk W w.heap.size 30 (nmc a) from by rw [← hW];exact (Blk.new w 30 (nmc a)).alloc _)
 have HB:=zh (show Blk W (w.heap.size+1) 30 (nmc b) from by rw [← hW];exact Blk.newAt _ _ _ _ (by simp))
 have HX:=zh (show Ext w W from by rw [← hW];exact ((Ext.refl w).alloc' _).alloc' _)
 have ra:W.rangeAt w.heap.size 0 (RowT.enc a):=bP HA.out
 have rb:W.rangeAt (w.heap.size+1) 0 (RowT.enc b):=bP HB.out
 rcases Int.lt_trichotomy (un a) (un b) with h | h | h
 ·have HC := zh (show jW a b = -1 from iS h)
  have HL1:=zh (iJ a b W)
  rw [show decide (un a < un b)=true from by simp;omega] at HL1
  go_enter Tryz.func129,Tryz.ntmps129
  go_wp2_with (first | (with_reducible refine aC nmP rfl (.tmp 2) rfl w.heap.size 0 rfl a _ rfl ra ?_) | (with_reducible refine aC nmP rfl (.tmp 3) rfl (w.heap.size+1) 0 rfl b _ rfl rb ?_) | fail "A")
  refine HL1.out.mono ?_
  rintro e w5 ⟨rfl,he5⟩
  have HX5:=zh (HX.out.trans he5)
  clear he5 ra rb
  go_wp2_with fail
  go_ret
  exact ⟨by rw [HC.out];rfl,HX5.out⟩
 ·have HC := zh (show jW a b = 0 from by unfold jW; rw [h]; exact iU _)
  have HL1:=zh (iJ a b W)
  rw [show decide (un a < un b)=false from by simp;omega] at HL1
  go_enter Tryz.func129,Tryz.ntmps129
  go_wp2_with (first | (with_reducible refine aC nmP rfl (.tmp 2) rfl w.heap.size 0 rfl a _ rfl ra ?_) | (with_reducible refine aC nmP rfl (.tmp 3) rfl (w.heap.size+1) 0 rfl b _ rfl rb ?_) | fail "A")
  refine HL1.out.mono ?_
  rintro e w5 ⟨rfl,he5⟩
  have HX5:=zh (HX.out.trans he5)
  have HL2:=zh (iJ b a w5)
  rw [show decide (un b < un a)=false from by simp;omega] at HL2
  have ra:w5.rangeAt w.heap.size 0 (RowT.enc a):=bP (HA.out.ext he5)
  have rb:w5.rangeAt (w.heap.size+1) 0 (RowT.enc b):=bP (HB.out.ext he5)
  clear he5
  go_wp2_with (first | (with_reducible refine aC nmP rfl (.tmp 2) rfl w.heap.size 0 rfl a _ rfl ra ?_) | (with_reducible refine aC nmP rfl (.tmp 3) rfl (w.heap.size+1) 0 rfl b _ rfl rb ?_) | fail "A")
  refine HL2.out.mono ?_
  rintro e w6 ⟨rfl,he6⟩
  have HX6:=zh (HX5.out.trans he6)
  clear he6 ra rb
  go_wp2_with fail
  go_ret
  exact ⟨by rw [HC.out];rfl,HX6.out⟩
 have HC:=zh (show jW a b=1 from iT h)
 have HL1:=zh (iJ a b W)
 rw [show decide (un a < un b)=false from by simp;omega] at HL1
 go_enter Tryz.func129,Tryz.ntmps129
 go_wp2_with (first | (with_reducible refine aC nmP rfl (.tmp 2) rfl w.heap.size 0 rfl a _ rfl ra ?_) | (with_reducible refine aC nmP rfl (.tmp 3) rfl (w.heap.size+1) 0 rfl b _ rfl rb ?_) | fail "A")
 refine HL1.out.mono ?_
 rintro e w5 ⟨rfl,he5⟩
 have HX5:=zh (HX.out.trans he5)
 have HL2:=zh (iJ b a w5)
 rw [show decide (un b < un a)=true from by simp;omega] at HL2
 have ra:w5.rangeAt w.heap.size 0 (RowT.enc a):=bP (HA.out.ext he5)
 have rb:w5.rangeAt (w.heap.size+1) 0 (RowT.enc b):=bP (HB.out.ext he5)
 clear he5
 go_wp2_with (first | (with_reducible refine aC nmP rfl (.tmp 2) rfl w.heap.size 0 rfl a _ rfl ra ?_) | (with_reducible refine aC nmP rfl (.tmp 3) rfl (w.heap.size+1) 0 rfl b _ rfl rb ?_) | fail "A")
 refine HL2.out.mono ?_
 rintro e w6 ⟨rfl,he6⟩
 have HX6:=zh (HX5.out.trans he6)
 clear he6 ra rb
 go_wp2_with fail
 go_ret
 exact ⟨by rw [HC.out];rfl,HX6.out⟩
theorem wU (a b:CeR) (w:World):Calls Tryz.prog 71 #[.agg (ceA a),.agg (ceA b)] w fun e w'=>e=.returned (.int .i64 (jV a b))∧Ext w w':=by
 obtain ⟨W,hW⟩:∃ W,(w.alloc (.cells (ceA a) 32)).alloc (.cells (ceA b) 32)=W:=⟨_,rfl⟩
 have HA:=zh (show Blk W w.heap.size 32 (ceA a) from by rw [← hW];exact (Blk.new w 32 (ceA a)).alloc _)
 have HB:=zh (show Blk W (w.heap.size+1) 32 (ceA b) from by rw [← hW];exact Blk.newAt _ _ _ _ (by simp))
 have HX:=zh (show Ext w W from by rw [← hW];exact ((Ext.refl w).alloc' _).alloc' _)
 have a0:=HA.out.cell 0
 have b0:=HB.out.cell 0
 have HC1:=zh (nS a.k b.k W)
 have HC2:=zh (fun W=>nS a.id b.id W)
 obtain ⟨x1,hx1⟩:∃ x,gV a.k b.k=x:=⟨_,rfl⟩
 obtain ⟨x2,hx2⟩:∃ x,gV a.id b.id=x:=⟨_,rfl⟩
 rw [hx1] at HC1
 rw [hx2] at HC2
 by_cases h1:x1=0
 ·have c1 : (x1 != 0) = false := by rw [h1]; rfl
  by_cases h2:x2=0
  ·have c2 : (x2 != 0) = false := by rw [h2]; rfl
   have HSP:=zh (show jV a b=jW a.lk b.lk from by unfold jV gT;rw [hx1,hx2,if_neg (fun h=>h h1),if_neg (fun h=>h h2)];rfl)
   clear h1 h2 hx1 hx2
   go_enter Tryz.func71,Tryz.ntmps71
   go_wp2_with fail
   refine HC1.out.mono ?_
   rintro e w5 ⟨rfl,he5⟩
   have HX5:=zh (HX.out.trans he5)
   have HA5:=zh (HA.out.ext he5)
   have HB5:=zh (HB.out.ext he5)
   have a1:=HA5.out.cell 1
   have b1:=HB5.out.cell 1
   clear he5 a0 b0
   go_wp2_with fail
   refine (HC2.out w5).mono ?_
   rintro e w6 ⟨rfl,he6⟩
   have HX6:=zh (HX5.out.trans he6)
   have ra:w6.rangeAt w.heap.size 2 (RowT.enc a.lk):=nN (HA5.out.ext he6)
   have rb:w6.rangeAt (w.heap.size+1) 2 (RowT.enc b.lk):=nN (HB5.out.ext he6)
   clear he6 a1 b1
   go_wp2_with (first | (with_reducible refine aC nmP rfl (.tmp 23) rfl w.heap.size 2 rfl a.lk _ rfl ra ?_) | (with_reducible refine aC nmP rfl (.tmp 25) rfl (w.heap.size+1) 2 rfl b.lk _ rfl rb ?_) | fail "A")
   refine (wT a.lk b.lk w6).mono ?_
   rintro e w7 ⟨rfl,he7⟩
   have HX7:=zh (HX6.out.trans he7)
   clear he7 ra rb
   go_wp2_with fail
   go_ret
   exact ⟨by rw [HSP.out];rfl,HX7.out⟩
  have c2:(x2 != 0)=true:=bne_iff_ne.2 h2
  have HSP:=zh (show jV a b=x2 from by unfold jV gT;rw [hx1,hx2,if_neg (fun h=>h h1),if_pos h2])
  clear h1 h2 hx1 hx2
  go_enter Tryz.func71,Tryz.ntmps71
  go_wp2_with fail
  refine HC1.out.mono ?_
  rintro e w5 ⟨rfl,he5⟩
  have HX5:=zh (HX.out.trans he5)
  have HA5:=zh (HA.out.ext he5)
  have HB5:=zh (HB.out.ext he5)
  have a1:=HA5.out.cell 1
  have b1:=HB5.out.cell 1
  clear he5 a0 b0
  go_wp2_with fail
  refine (HC2.out w5).mono ?_
  rintro e w6 ⟨rfl,he6⟩
  have HX6:=zh (HX5.out.trans he6)
  have ra:w6.rangeAt w.heap.size 2 (RowT.enc a.lk):=nN (HA5.out.ext he6)
  have rb:w6.rangeAt (w.heap.size+1) 2 (RowT.enc b.lk):=nN (HB5.out.ext he6)
  clear he6 a1 b1
  clear ra rb
  go_wp2_with fail
  go_ret
  exact ⟨by rw [HSP.out];rfl,HX6.out⟩
 have c1:(x1 != 0)=true:=bne_iff_ne.2 h1
 have HSP:=zh (show jV a b=x1 from by unfold jV gT;rw [hx1,if_pos h1])
 clear h1 hx1 hx2
 go_enter Tryz.func71,Tryz.ntmps71
 go_wp2_with fail
 refine HC1.out.mono ?_
 rintro e w5 ⟨rfl,he5⟩
 have HX5:=zh (HX.out.trans he5)
 have HA5:=zh (HA.out.ext he5)
 have HB5:=zh (HB.out.ext he5)
 have a1:=HA5.out.cell 1
 have b1:=HB5.out.cell 1
 clear he5 a0 b0
 go_wp2_with fail
 go_ret
 exact ⟨by rw [HSP.out];rfl,HX5.out⟩
theorem aFe (x:StpR) (R:OpR) (ev:OpR→Bool) (w:World) (hs:x.s.ok w) (hro:R.ok w) (hpn:R.n1≤140737488355328) (hv:vOp R=true) (hac:wfI x.ac)
  (hbl:R.k=6→∀ V,Ext w V→Calls Tryz.prog 96 #[.agg (stpA x),.agg (opA R)] V fun e w'=>e=.returned (.int .i64 (iC x.m2 x.m1 x.ht dU ev x.ac R x.s.V))∧Ext V w') :
  Calls Tryz.prog 52 #[.agg (stpA x),.agg (opA R)] w fun e w'=>e=.returned (.int .i64 (iC x.m2 x.m1 x.ht dU ev x.ac R x.s.V))∧Ext w w':=by
 have HS:=zh hs
 have HRO:=zh hro
 have HPN:=zh hpn
 have HAC:=zh hac
 obtain ⟨hkk,-,-,-,-,-,hvb,-,-⟩:=kJ hv
 obtain ⟨W,hW⟩:∃ W,(w.alloc (.cells (stpA x) 86)).alloc (.cells (opA R) 69)=W:=⟨_,rfl⟩
 have HP:=zh (show Blk W w.heap.size 86 (stpA x) from by rw [← hW];exact (Blk.new w 86 (stpA x)).alloc _)
 have HO:=zh (show Blk W (w.heap.size+1) 69 (opA R) from by rw [← hW];exact Blk.newAt _ _ _ _ (by simp))
 have HX:=zh (show Ext w W from by rw [← hW];exact ((Ext.refl w).alloc' _).alloc' _)
 have rx:W.rangeAt w.heap.size 0 (RowT.enc x):=aD HP.out
 have ro:W.rangeAt (w.heap.size+1) 0 (RowT.enc R):=aD HO.out
 have p0:=HO.out.cell 0
 have p1:=HO.out.cell 1
 have p2:=HO.out.cell 2
 have p3:=HO.out.cell 3
 have p4:=HO.out.cell 4
 have g2:=HP.out.cell 2
 have g3:=HP.out.cell 3
 have g13:=HP.out.cell 13
 obtain ⟨vx,hvx⟩:∃ v,Value.agg (stpA x)=v:=⟨_,rfl⟩
 obtain ⟨vo,hvo⟩:∃ v,Value.agg (opA R)=v:=⟨_,rfl⟩
 have HVX:=zh hvx
 have HVO:=zh hvo
 obtain ⟨z,hz⟩:∃ z:Int,(if cY x.s.C (aP x.ac) < R.am then 100 else 0)=z:=⟨_,rfl⟩
 clear hs hro hpn hac hv
 rcases (by omega:R.k=1 ∨ R.k=2 ∨ R.k=3 ∨ R.k=4 ∨ R.k=5 ∨ R.k=6) with hk | hk | hk | hk | hk | hk
 ·have hk6 : R.k ≠ 5 := by omega
  have b1:(R.k == 1)=true:=by rw [hk];rfl
  have d1:decide (R.k=1)=true:=by rw [hk];rfl
  have b2:(R.k == 2)=false:=by rw [hk];rfl
  have d2:decide (R.k=2)=false:=by rw [hk];rfl
  have b3:(R.k == 3)=false:=by rw [hk];rfl
  have d3:decide (R.k=3)=false:=by rw [hk];rfl
  have b4:(R.k == 4)=false:=by rw [hk];rfl
  have d4:decide (R.k=4)=false:=by rw [hk];rfl
  have b5:(R.k == 5)=false:=by rw [hk];rfl
  have d5:decide (R.k=5)=false:=by rw [hk];rfl
  have b6:(R.k == 6)=false:=by rw [hk];rfl
  have d6:decide (R.k=6)=false:=by rw [hk];rfl
  have HFU:=zh (rE x R.am W (HS.out.ext HX.out) HAC.out)
  rw [hvx,hz] at HFU
  have HX5:=HX
  by_cases h1:(x.m2:Int)≤R.tO
  ·have HSP := zh (show iC x.m2 x.m1 x.ht dU ev x.ac R x.s.V = 1 from by unfold iC; rw [hk]; simp [h1])
   clear hk hvx hvo hz
   go_enter Tryz.func52,Tryz.ntmps52
   go_wp2_with fail
   go_ret
   exact ⟨by rw [HSP.out];rfl,HX.out⟩
  have HSP:=zh (show iC x.m2 x.m1 x.ht dU ev x.ac R x.s.V=z from by rw [← hz];unfold iC;rw [hk];simp [h1];rfl)
  clear hk hvx hvo hz
  go_enter Tryz.func52,Tryz.ntmps52
  go_wp2_with (first | (with_reducible refine aC gY rfl (.tmp 2) rfl w.heap.size 0 rfl x vx HVX.out rx ?_) | fail "A")
  refine HFU.out.mono ?_
  rintro e w7 ⟨rfl,he7⟩
  have HX7:=zh (HX5.out.trans he7)
  clear he7
  go_wp2_with fail
  go_ret
  exact ⟨by rw [HSP.out];rfl,HX7.out⟩
 ·have hk6 : R.k ≠ 5 := by omega
  have b1:(R.k == 1)=false:=by rw [hk];rfl
  have d1:decide (R.k=1)=false:=by rw [hk];rfl
  have b2:(R.k == 2)=true:=by rw [hk];rfl
  have d2:decide (R.k=2)=true:=by rw [hk];rfl
  have b3:(R.k == 3)=false:=by rw [hk];rfl
  have d3:decide (R.k=3)=false:=by rw [hk];rfl
  have b4:(R.k == 4)=false:=by rw [hk];rfl
  have d4:decide (R.k=4)=false:=by rw [hk];rfl
  have b5:(R.k == 5)=false:=by rw [hk];rfl
  have d5:decide (R.k=5)=false:=by rw [hk];rfl
  have b6:(R.k == 6)=false:=by rw [hk];rfl
  have d6:decide (R.k=6)=false:=by rw [hk];rfl
  have HFU:=zh (rE x R.am W (HS.out.ext HX.out) HAC.out)
  rw [hvx,hz] at HFU
  have HX5:=HX
  by_cases h1:(x.m2:Int)≤R.tO
  ·have HSP := zh (show iC x.m2 x.m1 x.ht dU ev x.ac R x.s.V = 1 from by unfold iC; rw [hk]; simp [h1])
   clear hk hvx hvo hz
   go_enter Tryz.func52,Tryz.ntmps52
   go_wp2_with fail
   go_ret
   exact ⟨by rw [HSP.out];rfl,HX.out⟩
  by_cases h2:R.ul≤x.ht
  ·have HSP := zh (show iC x.m2 x.m1 x.ht dU ev x.ac R x.s.V = 102 from by unfold iC; rw [hk]; simp [h1, h2])
   clear hk hvx hvo hz
   go_enter Tryz.func52,Tryz.ntmps52
   go_wp2_with fail
   go_ret
   exact ⟨by rw [HSP.out];rfl,HX.out⟩
  have HSP:=zh (show iC x.m2 x.m1 x.ht dU ev x.ac R x.s.V=z from by rw [← hz];unfold iC;rw [hk];simp [h1,h2];rfl)
  clear hk hvx hvo hz
  go_enter Tryz.func52,Tryz.ntmps52
  go_wp2_with (first | (with_reducible refine aC gY rfl (.tmp 2) rfl w.heap.size 0 rfl x vx HVX.out rx ?_) | fail "A")
  refine HFU.out.mono ?_
  rintro e w7 ⟨rfl,he7⟩
  have HX7:=zh (HX5.out.trans he7)
  clear he7
  go_wp2_with fail
  go_ret
  exact ⟨by rw [HSP.out];rfl,HX7.out⟩
 ·have HSP := zh (show iC x.m2 x.m1 x.ht dU ev x.ac R x.s.V = oR x.s.V x.ht R from by unfold iC oR; rw [if_pos hk]; cases fdK x.s.V.K R.lk <;> rfl)
  have b1:(R.k == 1)=false:=by rw [hk];rfl
  have d1:decide (R.k=1)=false:=by rw [hk];rfl
  have b2:(R.k == 2)=false:=by rw [hk];rfl
  have d2:decide (R.k=2)=false:=by rw [hk];rfl
  have b3:(R.k == 3)=true:=by rw [hk];rfl
  have d3:decide (R.k=3)=true:=by rw [hk];rfl
  have b4:(R.k == 4)=false:=by rw [hk];rfl
  have d4:decide (R.k=4)=false:=by rw [hk];rfl
  have b5:(R.k == 5)=false:=by rw [hk];rfl
  have d5:decide (R.k=5)=false:=by rw [hk];rfl
  have b6:(R.k == 6)=false:=by rw [hk];rfl
  have d6:decide (R.k=6)=false:=by rw [hk];rfl
  have HC:=zh (aFd x R W (HS.out.ext HX.out) (HRO.out.ext HX.out) HPN.out)
  rw [hvx,hvo] at HC
  clear hk hvx hvo hz
  go_enter Tryz.func52,Tryz.ntmps52
  go_wp2_with (first | (with_reducible refine aC gY rfl (.tmp 2) rfl w.heap.size 0 rfl x vx HVX.out rx ?_) | (with_reducible refine aC opP rfl (.tmp 3) rfl (w.heap.size+1) 0 rfl R vo HVO.out ro ?_) | fail "A")
  refine HC.out.mono ?_
  rintro e w5 ⟨rfl,he5⟩
  have HX5:=zh (HX.out.trans he5)
  clear he5 rx ro p0
  go_wp2_with fail
  go_ret
  exact ⟨by rw [HSP.out];rfl,HX5.out⟩
 ·have HSP := zh (show iC x.m2 x.m1 x.ht dU ev x.ac R x.s.V = qV x.s.V x.ht R from by unfold iC qV; rw [if_neg (by omega), if_pos hk]; cases fdK x.s.V.K R.lk <;> rfl)
  have b1:(R.k == 1)=false:=by rw [hk];rfl
  have d1:decide (R.k=1)=false:=by rw [hk];rfl
  have b2:(R.k == 2)=false:=by rw [hk];rfl
  have d2:decide (R.k=2)=false:=by rw [hk];rfl
  have b3:(R.k == 3)=false:=by rw [hk];rfl
  have d3:decide (R.k=3)=false:=by rw [hk];rfl
  have b4:(R.k == 4)=true:=by rw [hk];rfl
  have d4:decide (R.k=4)=true:=by rw [hk];rfl
  have b5:(R.k == 5)=false:=by rw [hk];rfl
  have d5:decide (R.k=5)=false:=by rw [hk];rfl
  have b6:(R.k == 6)=false:=by rw [hk];rfl
  have d6:decide (R.k=6)=false:=by rw [hk];rfl
  have HC:=zh (aCz x R W (HS.out.ext HX.out))
  rw [hvx,hvo] at HC
  clear hk hvx hvo hz
  go_enter Tryz.func52,Tryz.ntmps52
  go_wp2_with (first | (with_reducible refine aC gY rfl (.tmp 2) rfl w.heap.size 0 rfl x vx HVX.out rx ?_) | (with_reducible refine aC opP rfl (.tmp 3) rfl (w.heap.size+1) 0 rfl R vo HVO.out ro ?_) | fail "A")
  refine HC.out.mono ?_
  rintro e w5 ⟨rfl,he5⟩
  have HX5:=zh (HX.out.trans he5)
  clear he5 rx ro p0
  go_wp2_with fail
  go_ret
  exact ⟨by rw [HSP.out];rfl,HX5.out⟩
 ·have ha : R.va = ((R.va.toNat : Nat) : Int) := (Int.toNat_of_nonneg hvb.1).symm
  have b1:(R.k == 1)=false:=by rw [hk];rfl
  have d1:decide (R.k=1)=false:=by rw [hk];rfl
  have b2:(R.k == 2)=false:=by rw [hk];rfl
  have d2:decide (R.k=2)=false:=by rw [hk];rfl
  have b3:(R.k == 3)=false:=by rw [hk];rfl
  have d3:decide (R.k=3)=false:=by rw [hk];rfl
  have b4:(R.k == 4)=false:=by rw [hk];rfl
  have d4:decide (R.k=4)=false:=by rw [hk];rfl
  have b5:(R.k == 5)=true:=by rw [hk];rfl
  have d5:decide (R.k=5)=true:=by rw [hk];rfl
  have b6:(R.k == 6)=false:=by rw [hk];rfl
  have d6:decide (R.k=6)=false:=by rw [hk];rfl
  by_cases h1:(x.m1:Int)≤R.va
  ·have HSP := zh (show iC x.m2 x.m1 x.ht dU ev x.ac R x.s.V = 1 from by unfold iC; rw [hk]; simp [h1])
   clear hk hvx hvo hz ha
   go_enter Tryz.func52,Tryz.ntmps52
   go_wp2_with fail
   go_ret
   exact ⟨by rw [HSP.out];rfl,HX.out⟩
  have HEX:=zh (aAa x R.va.toNat W (by omega))
  rw [← ha,hvx] at HEX
  clear ha
  by_cases h2:fN x.s.G R.va.toNat=true
  ·have HSP := zh (show iC x.m2 x.m1 x.ht dU ev x.ac R x.s.V = 7 from by unfold iC; rw [hk]; simp [h1, show fN x.s.V.G R.va.toNat = true from h2])
   rw [h2] at HEX
   clear hk hvx hvo h2 hz
   go_enter Tryz.func52,Tryz.ntmps52
   go_wp2_with (first | (with_reducible refine aC gY rfl (.tmp 2) rfl w.heap.size 0 rfl x vx HVX.out rx ?_) | fail "A")
   refine HEX.out.mono ?_
   rintro e w5 ⟨rfl,he5⟩
   have HX5:=zh (HX.out.trans he5)
   clear he5 rx ro p0 p1 p2 p3 p4 g2 g3 g13
   go_wp2_with fail
   go_ret
   exact ⟨by rw [HSP.out];rfl,HX5.out⟩
  have h2':fN x.s.G R.va.toNat=false:=by simpa using h2
  have HSP:=zh (show iC x.m2 x.m1 x.ht dU ev x.ac R x.s.V=z from by rw [← hz];unfold iC;rw [hk];simp [h1,show fN x.s.V.G R.va.toNat=false from h2'];rfl)
  rw [h2'] at HEX
  have HZZ:=zh hz
  clear hk h2 h2' hvx hvo hz
  go_enter Tryz.func52,Tryz.ntmps52
  go_wp2_with (first | (with_reducible refine aC gY rfl (.tmp 2) rfl w.heap.size 0 rfl x vx HVX.out rx ?_) | fail "A")
  refine HEX.out.mono ?_
  rintro e w5 ⟨rfl,he5⟩
  have HX5:=zh (HX.out.trans he5)
  have HP5:=zh (HP.out.ext he5)
  have HO5:=zh (HO.out.ext he5)
  clear he5 rx ro p0 p1 p2 p3 p4 g2 g3 g13
  have rx5:w5.rangeAt w.heap.size 0 (RowT.enc x):=aD HP5.out
  have p2:=HO5.out.cell 2
  have HFU:=zh (rE x R.am w5 (HS.out.ext HX5.out) HAC.out)
  rw [HVX.out,HZZ.out] at HFU
  go_wp2_with (first | (with_reducible refine aC gY rfl (.tmp 2) rfl w.heap.size 0 rfl x vx HVX.out rx5 ?_) | fail "A")
  refine HFU.out.mono ?_
  rintro e w7 ⟨rfl,he7⟩
  have HX7:=zh (HX5.out.trans he7)
  clear he7
  go_wp2_with fail
  go_ret
  exact ⟨by rw [HSP.out];rfl,HX7.out⟩
 have HSP:=zh (show True from trivial)
 have b1:(R.k == 1)=false:=by rw [hk];rfl
 have d1:decide (R.k=1)=false:=by rw [hk];rfl
 have b2:(R.k == 2)=false:=by rw [hk];rfl
 have d2:decide (R.k=2)=false:=by rw [hk];rfl
 have b3:(R.k == 3)=false:=by rw [hk];rfl
 have d3:decide (R.k=3)=false:=by rw [hk];rfl
 have b4:(R.k == 4)=false:=by rw [hk];rfl
 have d4:decide (R.k=4)=false:=by rw [hk];rfl
 have b5:(R.k == 5)=false:=by rw [hk];rfl
 have d5:decide (R.k=5)=false:=by rw [hk];rfl
 have b6:(R.k == 6)=true:=by rw [hk];rfl
 have d6:decide (R.k=6)=true:=by rw [hk];rfl
 have HC:=zh (hbl hk W HX.out)
 rw [hvx,hvo] at HC
 clear hk hvx hvo hz
 go_enter Tryz.func52,Tryz.ntmps52
 go_wp2_with (first | (with_reducible refine aC gY rfl (.tmp 2) rfl w.heap.size 0 rfl x vx HVX.out rx ?_) | (with_reducible refine aC opP rfl (.tmp 3) rfl (w.heap.size+1) 0 rfl R vo HVO.out ro ?_) | fail "A")
 refine HC.out.mono ?_
 rintro e w5 ⟨rfl,he5⟩
 have HX5:=zh (HX.out.trans he5)
 clear he5 rx ro p0
 go_wp2_with fail
 go_ret
 exact ⟨rfl,HX5.out⟩
end
end Go.Proofs.YtohmmcahpakokaaGreat
