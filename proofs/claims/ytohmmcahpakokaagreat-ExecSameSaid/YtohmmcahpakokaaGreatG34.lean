/- Evidence decoded; the check of a blame. -/
import Derived.Test.YtohmmcahpakokaaGreatG32
set_option maxRecDepth 100000
set_option maxHeartbeats 8000000
set_option linter.unusedVariables false
set_option linter.unusedSimpArgs false
namespace Go.Proofs.YtohmmcahpakokaaGreat
section
open Go.RowKit
attribute [local go_sem ↓] Go.wp_at_zero Go.wp_at_succ
def zE:EvR:=⟨gH,gH⟩
abbrev ev0:Array Value:=#[.int .i64 0,.int .i64 0,.int .i64 0,.int .i64 0,.int .i64 0,.int .i64 0,.int .u8 0,.int .u8 0,.int .u8 0,.int .u8 0,.int .u8 0,.int .u8 0,.int .u8 0,.int .u8 0,.int .u8 0,.int .u8 0,.int .u8 0,.int .u8 0,.int .u8 0,.int .u8 0,.int .u8 0,.int .u8 0,.slice none 0 0,.int .i64 0,.int .i64 0,.int .i64 0,.int .i64 0,.int .i64 0,.int .i64 0,.int .u8 0,.int .u8 0,.int .u8 0,.int .u8 0,.int .u8 0,.int .u8 0,.int .u8 0,.int .u8 0,.int .u8 0,.int .u8 0,.int .u8 0,.int .u8 0,.int .u8 0,.int .u8 0,.int .u8 0,.int .u8 0,.slice none 0 0]
theorem aEB:Value.agg (evA zE)=.agg ev0:=by
 unfold evA zE gH nQ;simp only [bC 0 (by omega),bC 1 (by omega),bC 2 (by omega),bC 3 (by omega),bC 4 (by omega),bC 5 (by omega),bC 6 (by omega),bC 7 (by omega)]
theorem aFK (S1 S2:SgR) (w:World):(Instr.build 138 #[(0,.agg (sgA S1)),(1,.agg (sgA S2))]).run Tryz.prog w=.ok (.agg (evA ⟨S1,S2⟩)) w:=by kernel_rfl
def evC (l:List UInt8):Int:=if l.length < 786 then 2 else if 786 < l.length then 3 else if sdC (l.take 393) ≠ 0 then sdC (l.take 393) else sdC (l.drop 393)
def aNf (l:List UInt8) (E:EvR):Prop:=E.a.v=eT ((l.take 393).take 23)∧E.a.sig=(l.take 393).drop 23∧E.b.v=eT ((l.drop 393).take 23)∧E.b.sig=(l.drop 393).drop 23
def aKQ (w:World) (l:List UInt8) (e:Ending) (w':World):Prop:=∃ E:EvR,e=.returned (.tuple #[.agg (evA E),.int .i64 (evC l)])∧RowT.ok E w'∧Ext w w'∧(evC l=0→aNf l E)
theorem rtE {fn:Func} {p q:Tmp} {a:Act} {w W9 WF:World} {l:List UInt8} {cs:Array Value} (g:Nat) (E:EvR) (c:Int) (hB:Blk WF g 138 cs) (hcs:cs.size=46) (hX:Ext w WF) (hg:w.heap.size≤g) (h9:Hid (WF.setCells g 0 (RowT.enc E)=W9))
  (hoa:OwnB WF w.heap.size 5 E.a.A E.a.n E.a.c E.a.sig) (hob:OwnB WF w.heap.size 5 E.b.A E.b.n E.b.c E.b.sig) (wa:E.a.v.wf) (wb:E.b.v.wf) (hc:evC l=c) (hh:c=0→aNf l E)
  (hres:fn.results=#[.cell p 138,.tmp q]:=by rfl) (hp:a.tmps.getD p undef=.pointer (some ⟨g,0,none⟩):=by rfl) (hq:a.tmps.getD q undef=.int .i64 c:=by rfl) (hd:a.defers=[]:=by rfl):bodyPost Tryz.prog fn (aKQ w l) .ret a W9:=by
 have hst:Blk W9 g 138 (evA E):=by rw [← h9.out];exact aQ (ds:=evA E) hB (by rw [hcs];rfl)
 have ha:OwnB W9 w.heap.size 5 E.a.A E.a.n E.a.c E.a.sig:=by rw [← h9.out];exact World.ownsRow.kept hoa (aD WF g _ 0) (.inr (Ne.symm (aM hoa hB (by decide))))
 have hb:OwnB W9 w.heap.size 5 E.b.A E.b.n E.b.c E.b.sig:=by rw [← h9.out];exact World.ownsRow.kept hob (aD WF g _ 0) (.inr (Ne.symm (aM hob hB (by decide))))
 have hx:Ext w W9:=by rw [← h9.out];exact Below.setCells' hX hg _ _
 exact bodyPost_ret (v:=.tuple #[.agg (evA E),.int .i64 c]) (kV hres _ _ g _ _ hp hq (run_loadVar_row _ _ _ _ _ (0,0) _ hst Tryz.underlying138 rfl (by kernel_rfl))) hd ⟨E,by rw [hc],⟨⟨wa,ha.sl⟩,⟨wb,hb.sl⟩⟩,hx,fun h=>hh (hc ▸ h)⟩
theorem aAO (A:Option Addr) (n c:Nat) (l:List UInt8) (w:World) (hS:SlB w A n c l):Calls Tryz.prog 150 #[.slice A n c] w (aKQ w l):=by
 have hcap:=hS.cap
 have hle:=hS.le
 have hlen:=hS.len
 obtain ⟨W,hW⟩:∃ W,w.alloc (.cells ev0 138)=W:=⟨_,rfl⟩
 have HB:=zh (show Blk W w.heap.size 138 ev0 from by rw [← hW];exact Blk.new w 138 ev0)
 have HE:=zh (show Ext w W from by rw [← hW];exact (Ext.refl w).alloc' _)
 rcases Nat.lt_trichotomy n 786 with h | rfl | h
 ·have HC := zh (show evC l = 2 from by unfold evC; rw [hlen, if_pos h])
  have i1:(n:Int) < 786:=by omega
  have HTH:W.there w.heap.size 0 (RowT.sz EvR):=aK HB.out
  clear hS h hlen
  go_enter Tryz.func150,Tryz.ntmps150
  go_wp2_with ((with_reducible refine dN evP rfl (.tmp 2) (.tmp 11) rfl w.heap.size 0 rfl zE (.agg ev0) aEB rfl HTH ?_);intro W9 h9)
  exact rtE w.heap.size zE 2 HB.out rfl HE.out (Nat.le_refl _) h9 (OwnB.nil _ _ _) (OwnB.nil _ _ _) fQ fQ HC.out (fun h=>absurd h (by decide))
 ·have HS := zh hS
  obtain ⟨b,o,rfl,hr,-⟩:=hS.at (by omega)
  have HD1:=zh (show SlB w (some ⟨b,o,none⟩) 393 c (l.take 393) from hS.upto (by omega))
  obtain ⟨A2,hA2⟩:∃ A2:Option Addr,(if c=393 then (some ⟨b,o,none⟩:Option Addr) else (some ⟨b,o,none⟩:Option Addr).map (·.add 393))=A2:=⟨_,rfl⟩
  have HD2:=zh (show SlB w A2 393 (c - 393) (l.drop 393) from by
   rw [← hA2,if_neg (by omega)]
   exact hS.cut (by omega) (by omega))
  obtain ⟨k1,hk1⟩:∃ k,sdC (l.take 393)=k:=⟨_,rfl⟩
  obtain ⟨k2,hk2⟩:∃ k,sdC (l.drop 393)=k:=⟨_,rfl⟩
  have HC:=zh (show evC l=if k1 ≠ 0 then k1 else k2 from by unfold evC;rw [hlen,if_neg (by omega),if_neg (by omega),hk1,hk2])
  have HC1:=zh (fun (V:World) (e:Ext w V)=>yM _ 393 c (l.take 393) V (HD1.out.ext e))
  have HC2:=zh (fun (V:World) (e:Ext w V)=>yM A2 393 (c - 393) (l.drop 393) V (HD2.out.ext e))
  have z0:(393:Int)≤(c:Int):=by omega
  have z1:(786:Int)≤(c:Int):=by omega
  have z2:¬ c=393:=by omega
  have HA2:=zh hA2
  rw [if_neg z2] at hA2
  have hA3:(some (⟨b,o+393,none⟩:Addr))=A2:=by rw [← hA2,Option.map_some,Addr.add_mid]
  clear hS hr hlen hA2
  go_enter Tryz.func150,Tryz.ntmps150
  go_wp2_with fail
  refine (HC1.out _ HE.out).mono ?_
  rintro e w1 ⟨S1,rfl,hok1,he1,hy1,hn1,ho1⟩
  rw [hk1] at hy1 hn1
  obtain ⟨v1,hv1⟩:∃ v,Value.agg (sgA S1)=v:=⟨_,rfl⟩
  have HV1:=zh hv1
  have HY1:=zh hy1
  have HOK1:=zh hok1
  have HO1:=zh (bB ho1 HE.out.size)
  have HX1:=zh (HE.out.trans he1)
  have HB1:=zh (HB.out.ext he1)
  obtain ⟨X,hX⟩:∃ X,w1.heap.size=X:=⟨_,rfl⟩
  have HXS:=zh hX
  rw [hk1,hv1]
  clear hv1 hy1 hn1 hok1 ho1 he1 HB HE HC1 hX
  go_upto_region 6 with ((with_reducible refine aS sgP rfl (.tmp 4) (.tmp 21) rfl sg0 rfl S1 v1 HV1.out rfl rfl ?_);intro W4 h4)
  have hx4:Ext w1 W4:=by rw [← h4.out];exact (Ext.refl w1).alloc' _
  have HX4:=zh (HX1.out.trans hx4)
  have HB4:=zh (HB1.out.ext hx4)
  have HO4:=zh (OwnB.ext HO1.out hx4)
  have HR1:=zh (show Blk W4 X 136 (sgA S1) from by rw [← h4.out,← HXS.out];exact Blk.new w1 136 (sgA S1))
  try rw [HXS.out]
  clear h4 hx4 HX1 HB1 HO1
  have HTH:W4.there w.heap.size 0 (RowT.sz EvR):=aK HB4.out
  by_cases hk:k1=0
  ·subst hk
   have HC3:=zh (show evC l=k2 from by rw [HC.out];rfl)
   go_wp2_with fail
   try rw [hA3]
   refine (HC2.out _ HX4.out).mono ?_
   rintro e w5 ⟨S2,rfl,hok2,he5,hy2,hn2,ho2⟩
   rw [hk2] at hy2 hn2
   obtain ⟨v2,hv2⟩:∃ v,Value.agg (sgA S2)=v:=⟨_,rfl⟩
   have HV2:=zh hv2
   have HY2:=zh hy2
   have HOK2:=zh hok2
   have HO5:=zh (OwnB.ext HO4.out he5)
   have HO2:=zh (bB ho2 HX4.out.size)
   have HX5:=zh (HX4.out.trans he5)
   have HB5:=zh (HB4.out.ext he5)
   have HR5:=zh (HR1.out.ext he5)
   obtain ⟨Y,hY⟩:∃ Y,w5.heap.size=Y:=⟨_,rfl⟩
   have HYS:=zh hY
   rw [hk2,hv2]
   clear hv2 hy2 hn2 hok2 ho2 he5 HX4 HB4 HO4 HR1 HC2 hY HTH
   go_upto_region 9 with ((with_reducible refine aS sgP rfl (.tmp 6) (.tmp 31) rfl sg0 rfl S2 v2 HV2.out rfl rfl ?_);intro W6 h6)
   have hx6:Ext w5 W6:=by rw [← h6.out];exact (Ext.refl w5).alloc' _
   have HX6:=zh (HX5.out.trans hx6)
   have HB6:=zh (HB5.out.ext hx6)
   have HO6:=zh (OwnB.ext HO5.out hx6)
   have HP6:=zh (OwnB.ext HO2.out hx6)
   have HR6:=zh (HR5.out.ext hx6)
   have HR2:=zh (show Blk W6 Y 136 (sgA S2) from by rw [← h6.out,← HYS.out];exact Blk.new w5 136 (sgA S2))
   try rw [HYS.out]
   clear h6 hx6 HX5 HB5 HO5 HR5 HO2
   have HTH:W6.there w.heap.size 0 (RowT.sz EvR):=aK HB6.out
   by_cases hk:k2=0
   ·subst hk
    have r1:W6.rangeAt X 0 (RowT.enc S1):=aC HR6.out
    have r2:W6.rangeAt Y 0 (RowT.enc S2):=aC HR2.out
    obtain ⟨vE,hvE⟩:∃ v,Value.agg (evA ⟨S1,S2⟩)=v:=⟨_,rfl⟩
    have HVE:=zh hvE
    have HBD:=zh (fun (V:World)=>aFK S1 S2 V)
    rw [HV1.out,HV2.out,hvE] at HBD
    clear hvE
    go_wp2_with (first | (with_reducible refine aB sgP rfl (.tmp 4) rfl X 0 rfl S1 v1 HV1.out r1 ?_) | (with_reducible refine aB sgP rfl (.tmp 6) rfl Y 0 rfl S2 v2 HV2.out r2 ?_) | (with_reducible refine fW rfl (jG (vx:=v1) (vy:=v2) (.tmp 37) (.tmp 38) rfl rfl rfl HBD.out) ?_) | ((with_reducible refine dN evP rfl (.tmp 2) (.tmp 39) rfl w.heap.size 0 rfl ⟨S1,S2⟩ vE HVE.out rfl HTH ?_);intro W9 h9))
    exact rtE w.heap.size ⟨S1,S2⟩ 0 HB6.out rfl HX6.out (Nat.le_refl _) h9 HO6.out HP6.out HOK1.out.v HOK2.out.v HC3.out (fun _=>⟨(HY1.out (by simp)).1,(HY1.out (by simp)).2.2.2,(HY2.out (by simp)).1,(HY2.out (by simp)).2.2.2⟩)
   have b1:(k2 == 0)=false:=beq_eq_false_iff_ne.2 hk
   have b2:(k2 != 0)=true:=by rw [bne,b1];rfl
   have b3:decide (k2=0)=false:=decide_eq_false hk
   have HK:=zh hk
   clear hk
   go_wp2_with ((with_reducible refine dN evP rfl (.tmp 2) (.tmp 35) rfl w.heap.size 0 rfl zE (.agg ev0) aEB rfl HTH ?_);intro W9 h9)
   exact rtE w.heap.size zE k2 HB6.out rfl HX6.out (Nat.le_refl _) h9 (OwnB.nil _ _ _) (OwnB.nil _ _ _) fQ fQ HC3.out (fun h=>absurd h HK.out)
  have b1:(k1 == 0)=false:=beq_eq_false_iff_ne.2 hk
  have b2:(k1 != 0)=true:=by rw [bne,b1];rfl
  have b3:decide (k1=0)=false:=decide_eq_false hk
  have HK:=zh hk
  have HC3:=zh (show evC l=k1 from by rw [HC.out,if_pos hk])
  clear hk
  go_wp2_with ((with_reducible refine dN evP rfl (.tmp 2) (.tmp 25) rfl w.heap.size 0 rfl zE (.agg ev0) aEB rfl HTH ?_);intro W9 h9)
  exact rtE w.heap.size zE k1 HB4.out rfl HX4.out (Nat.le_refl _) h9 (OwnB.nil _ _ _) (OwnB.nil _ _ _) fQ fQ HC3.out (fun h=>absurd h HK.out)
 have HC:=zh (show evC l=3 from by unfold evC;rw [hlen,if_neg (by omega),if_pos h])
 have i1:¬ (n:Int) < 786:=by omega
 have i2:(n:Int) > 786:=by omega
 have HTH:W.there w.heap.size 0 (RowT.sz EvR):=aK HB.out
 clear hS h hlen
 go_enter Tryz.func150,Tryz.ntmps150
 go_wp2_with ((with_reducible refine dN evP rfl (.tmp 2) (.tmp 16) rfl w.heap.size 0 rfl zE (.agg ev0) aEB rfl HTH ?_);intro W9 h9)
 exact rtE w.heap.size zE 3 HB.out rfl HE.out (Nat.le_refl _) h9 (OwnB.nil _ _ _) (OwnB.nil _ _ _) fQ fQ HC.out (fun h=>absurd h (by decide))
def evU (PN:List UInt64) (R:OpR):Bool:=decide (evC R.prf=0) && (decide ((eT ((R.prf.take 393).take 23)).si=R.va) && evV PN (eT ((R.prf.take 393).take 23)) ((R.prf.take 393).drop 23) (eT ((R.prf.drop 393).take 23)) ((R.prf.drop 393).drop 23))
theorem aGA (x:StpR) (R:OpR) (PN:List UInt64) (w:World) (hs:x.s.ok w) (hro:R.ok w) (hp:SlG w x.B1 x.m1 x.d1 PN) (hv:vOp R=true) (hk:R.k=6) :
  Calls Tryz.prog 96 #[.agg (stpA x),.agg (opA R)] w fun e w'=>e=.returned (.int .i64 (dA x.m2 x.m1 x.ht cM (evU PN) x.ac R x.s.V))∧Ext w w':=by
 have HRO:=zh hro
 have HPP:=zh hp
 have hple:=hp.le
 have hpcap:=hp.cap
 obtain ⟨hkk,-,-,-,-,-,hvb,-,-⟩:=oH hv
 obtain ⟨W,hW⟩:∃ W,(w.alloc (.cells (stpA x) 86)).alloc (.cells (opA R) 69)=W:=⟨_,rfl⟩
 have HP:=zh (show Blk W w.heap.size 86 (stpA x) from by rw [← hW];exact (Blk.new w 86 (stpA x)).alloc _)
 have HO:=zh (show Blk W (w.heap.size+1) 69 (opA R) from by rw [← hW];exact Blk.newAt _ _ _ _ (by simp))
 have HX:=zh (show Ext w W from by rw [← hW];exact ((Ext.refl w).alloc' _).alloc' _)
 have rx:W.rangeAt w.heap.size 0 (RowT.enc x):=aC HP.out
 have p4:W.cell? ⟨w.heap.size+1,4,none⟩=some (.int .i64 R.va):=HO.out.cell 4
 have g2:W.cell? ⟨w.heap.size,2,none⟩=some (.slice x.B1 x.m1 x.d1):=HP.out.cell 2
 obtain ⟨vx,hvx⟩:∃ v,Value.agg (stpA x)=v:=⟨_,rfl⟩
 have HVX:=zh hvx
 obtain ⟨i,hi⟩:∃ i:Nat,R.va=(i:Int):=⟨R.va.toNat,by omega⟩
 have HI:=zh hi
 have hi9:i≤9:=by omega
 have HCH:=zh (show dA x.m2 x.m1 x.ht cM (evU PN) x.ac R x.s.V=if (x.m1:Int)≤R.va then 1 else if gE x.s.V.G R.va.toNat=true then 7 else if evU PN R=true then 0 else 12 from by
  unfold dA;rw [if_neg (by omega),if_neg (by omega),if_pos hk])
 obtain ⟨mg,hmg⟩:∃ z,gE x.s.G i=z:=⟨_,rfl⟩
 have HEX:=zh (fun V=>qI x i V hi9)
 rw [hvx,hmg] at HEX
 have HMG:=zh (show gE x.s.V.G R.va.toNat=mg from by rw [hi,Int.toNat_natCast];exact hmg)
 rw [hi] at p4
 clear hs hro hp hv hvb hkk hk hvx hmg hi
 by_cases h1:(x.m1:Int)≤(i:Int)
 ·have HF := zh (show dA x.m2 x.m1 x.ht cM (evU PN) x.ac R x.s.V = 1 from by rw [HCH.out, HI.out, if_pos h1])
  have i1:(i:Int) ≥ (x.m1:Int):=h1
  clear h1
  go_enter Tryz.func96,Tryz.ntmps96
  go_wp2_with fail
  go_ret
  exact ⟨by rw [HF.out];rfl,HX.out⟩
 have HCH2:=zh (show dA x.m2 x.m1 x.ht cM (evU PN) x.ac R x.s.V=if mg=true then 7 else if evU PN R=true then 0 else 12 from by rw [HCH.out,HI.out,if_neg h1,← HI.out,HMG.out])
 have i1:¬ (i:Int) ≥ (x.m1:Int):=h1
 clear h1 HCH HMG
 go_enter Tryz.func96,Tryz.ntmps96
 go_wp2_with (with_reducible refine aB gP rfl (.tmp 2) rfl w.heap.size 0 rfl x vx HVX.out rx ?_)
 refine (HEX.out _).mono ?_
 rintro e w1 ⟨rfl,he1⟩
 have HP1:=zh (HP.out.ext he1)
 have HO1:=zh (HO.out.ext he1)
 have HX1:=zh (HX.out.trans he1)
 clear p4 g2 rx he1 HP HO HX
 cases mg with
 | true =>
  have HF:=zh (show dA x.m2 x.m1 x.ht cM (evU PN) x.ac R x.s.V=7 from by rw [HCH2.out];rfl)
  go_wp2_with fail
  go_ret
  exact ⟨by rw [HF.out];rfl,HX1.out⟩
 | false =>
  have HCH3:=zh (show dA x.m2 x.m1 x.ht cM (evU PN) x.ac R x.s.V=if evU PN R=true then 0 else 12 from by rw [HCH2.out];rfl)
  have p8:w1.cell? ⟨w.heap.size+1,22,none⟩=some (.slice R.A2 R.n2 R.c2):=HO1.out.cell 22
  go_wp2_with fail
  refine (aAO R.A2 R.n2 R.c2 R.prf _ (HRO.out.prf.ext HX1.out)).mono ?_
  rintro e w2 ⟨E,rfl,hok,he2,hev⟩
  obtain ⟨kc,hkc⟩:∃ k,evC R.prf=k:=⟨_,rfl⟩
  rw [hkc] at hev ⊢
  obtain ⟨vE,hvE⟩:∃ v,Value.agg (evA E)=v:=⟨_,rfl⟩
  rw [hvE]
  have HVE:=zh hvE
  have HEV:=zh hev
  have HKC:=zh hkc
  have HOK:=zh hok
  have HP2:=zh (HP1.out.ext he2)
  have HO2:=zh (HO1.out.ext he2)
  have HX2:=zh (HX1.out.trans he2)
  obtain ⟨X,hX⟩:∃ X,w2.heap.size=X:=⟨_,rfl⟩
  have HXS:=zh hX
  clear p8 he2 HP1 HO1 HX1 hvE hev hkc hok hX
  go_upto_region 6 with ((with_reducible refine aS evP rfl (.tmp 5) (.tmp 22) rfl ev0 rfl E vE HVE.out rfl rfl ?_);intro W4 h4)
  have hx4:Ext w2 W4:=by rw [← h4.out];exact (Ext.refl w2).alloc' _
  have HX4:=zh (HX2.out.trans hx4)
  have HOK4:=zh (show RowT.ok E W4 from RowT.ext E w2 W4 HOK.out hx4)
  have HR4:=zh (show Blk W4 X 138 (evA E) from by rw [← h4.out,← HXS.out];exact Blk.new w2 138 (evA E))
  have p4:W4.cell? ⟨w.heap.size+1,4,none⟩=some (.int .i64 i):=by rw [← HI.out];exact (HO2.out.ext hx4).cell 4
  have g2:W4.cell? ⟨w.heap.size,2,none⟩=some (.slice x.B1 x.m1 x.d1):=(HP2.out.ext hx4).cell 2
  have x4:W4.cell? ⟨X,4,none⟩=some (.int .i64 E.a.v.si):=HR4.out.cell 4
  have rE:W4.rangeAt X 0 (RowT.enc E):=aC HR4.out
  try rw [HXS.out]
  clear h4 hx4 HX2 HP2 HO2 HOK
  by_cases h1:kc=0
  ·subst h1
   obtain ⟨f1,f2,f3,f4⟩:=HEV.out rfl
   obtain ⟨si,hsi⟩:∃ z,E.a.v.si=z:=⟨_,rfl⟩
   obtain ⟨z,hz⟩:∃ z,evV PN E.a.v E.a.sig E.b.v E.b.sig=z:=⟨_,rfl⟩
   have HU:=zh (show evU PN R=(decide (si=(i:Int)) && z) from by
    unfold evU
    rw [HKC.out,← f1,← f2,← f3,← f4,hz,hsi,HI.out];rfl)
   have HVL:=zh (aCN x.B1 x.m1 x.d1 PN E W4 (HPP.out.ext HX4.out) HOK4.out)
   rw [hz,HVE.out] at HVL
   rw [hsi] at x4
   clear f1 f2 f3 f4 hz hsi
   by_cases h2:si=(i:Int)
   ·subst h2
    have HU2:=zh (show evU PN R=z from by rw [HU.out,decide_eq_true rfl];rfl)
    go_wp2_with (with_reducible refine aZ evP (by with_unfolding_all rfl) (.tmp 5) rfl X 0 rfl E vE HVE.out rE ?_)
    refine HVL.out.mono ?_
    rintro e w5 ⟨rfl,he5⟩
    have HX5:=zh (HX4.out.trans he5)
    clear p4 g2 x4 rE he5
    cases z
    ·have HF := zh (show dA x.m2 x.m1 x.ht cM (evU PN) x.ac R x.s.V = 12 from by rw [HCH3.out, HU2.out]; rfl)
     go_wp2_with fail
     go_ret
     exact ⟨by rw [HF.out];rfl,HX5.out⟩
    have HF:=zh (show dA x.m2 x.m1 x.ht cM (evU PN) x.ac R x.s.V=0 from by rw [HCH3.out,HU2.out];rfl)
    go_wp2_with fail
    go_ret
    exact ⟨by rw [HF.out];rfl,HX5.out⟩
   have HF:=zh (show dA x.m2 x.m1 x.ht cM (evU PN) x.ac R x.s.V=12 from by rw [HCH3.out,HU.out,decide_eq_false h2];rfl)
   have b1:(si == (i:Int))=false:=beq_eq_false_iff_ne.2 h2
   have b3:decide (si=(i:Int))=false:=decide_eq_false h2
   go_wp2_with fail
   go_ret
   exact ⟨by rw [HF.out];rfl,HX4.out⟩
  have HF:=zh (show dA x.m2 x.m1 x.ht cM (evU PN) x.ac R x.s.V=12 from by
   rw [HCH3.out]
   unfold evU
   rw [HKC.out,decide_eq_false h1];rfl)
  have b1:(kc == 0)=false:=beq_eq_false_iff_ne.2 h1
  have b3:decide (kc=0)=false:=decide_eq_false h1
  go_wp2_with fail
  go_ret
  exact ⟨by rw [HF.out];rfl,HX4.out⟩
theorem aFR {w:World} {e:TypeId} {size n:Nat} {cs:Array Value} (hc:cs.size=n * size) (hn:n≤9223372036854775807):(w.alloc (.cells cs e)).ownsRow w.heap.size e size (.slice (some ⟨w.heap.size,0,none⟩) n n) n cs.toList :=
 ⟨by rw [Array.length_toList,hc],.inr ⟨w.heap.size,n,cs,rfl,Nat.le_refl _,heap_alloc_new w _,Nat.le_refl _,hn,hc,by rw [← hc,← Array.length_toList];exact List.take_length⟩⟩
theorem aJz (L:List Int):gcs L=ics L:=by
 induction L with
 | nil=>rfl
 | cons x r ih=>rw [dD,ih];rfl
theorem aJx (n:Nat) (hn:n≤1000) (w:World):(Instr.makeSlice 38 (.int .i64 (n:Int)) (.int .i64 (n:Int))).run Tryz.prog w=.ok (.slice (some ⟨w.heap.size,0,none⟩) n n) (w.alloc (.cells (gcs (List.replicate n (0:Int))).toArray 3)):=by
 obtain ⟨i,hi,hz,hs,hby⟩:=inE.get
 have h:=run_make (P:=Tryz.prog) w 38 3 i (.int .i64 0) inE.ut hi hz .i64 .i64 n n (by omega) (by omega) (by rw [hby];omega) (by omega)
 rw [hs,Nat.mul_one,Int.toNat_natCast] at h
 have e:madeCells (Value.int .i64 0).cells n=(gcs (List.replicate n (0:Int))).toArray:=by
  rw [aJz]
  unfold ics madeCells
  rw [List.map_replicate]
  apply Array.ext
  ·simp
  intro j h1 h2
  simp [Value.cells,iv,Nat.mod_one]
 rw [e] at h
 exact h
def pC (BL:List Int) (n:Nat):List DeR:=(List.range n).foldl (fun C (i:Nat)=>dM C (aY (i:Int)) (aH BL i)) []
def wX (Z:Int) (C:List DeR) (n:Nat):List DeR:=(List.range n).foldl (fun C (i:Nat)=>dM C (cN (i:Int)) Z) C
theorem zH (BL:List Int) (n:Nat):pC BL (n+1)=dM (pC BL n) (aY (n:Int)) (aH BL n):=by unfold pC;rw [List.range_succ,List.foldl_append];rfl
theorem yJ (Z:Int) (C:List DeR) (n:Nat):wX Z C (n+1)=dM (wX Z C n) (cN (n:Int)) Z:=by unfold wX;rw [List.range_succ,List.foldl_append];rfl
theorem aDf (BL:List Int) (n:Nat):(pC BL n).length≤n:=by
 induction n with
 | zero=>exact Nat.le_refl _
 | succ n ih=>rw [zH];have:=wW (pC BL n) (aY (n:Int)) (aH BL n);omega
theorem aHb (Z:Int) (C:List DeR) (n:Nat):(wX Z C n).length≤C.length+n:=by
 induction n with
 | zero=>exact Nat.le_refl _
 | succ n ih=>rw [yJ];have:=wW (wX Z C n) (cN (n:Int)) Z;omega
def aKx (m2:Nat) (BL:List Int) (Z:Int) (m1:Nat):StV:=⟨wX Z (pC BL BL.length) m1,List.replicate m2 0,[],[],0⟩
theorem aFN (N Z:Int) (B1:Option Addr) (m1 d1:Nat) (B2:Option Addr) (m2 d2:Nat) (B3:Option Addr) (m3 d3:Nat) (BL:List Int) (w:World) (hB:SlG w B3 m3 d3 BL) (hz:wfI Z) (h1:m1≤1000) (h2:m2≤1000) (h3:m3≤1000) :
  Calls Tryz.prog 40 #[.agg (genC N Z B1 m1 d1 B2 m2 d2 B3 m3 d3)] w (mE w (aKx m2 BL Z m1)):=by
 obtain ⟨W,hW⟩:∃ W,(w.alloc (.cells (genC N Z B1 m1 d1 B2 m2 d2 B3 m3 d3) 40)).alloc (.cells #[.slice none 0 0,.slice none 0 0,.slice none 0 0,.slice none 0 0,.int .i64 0] 44)=W:=⟨_,rfl⟩
 have HG:=zh (show Blk W w.heap.size 40 (genC N Z B1 m1 d1 B2 m2 d2 B3 m3 d3) from by rw [← hW];exact (Blk.new w 40 (genC N Z B1 m1 d1 B2 m2 d2 B3 m3 d3)).alloc _)
 have HR:=zh (show Blk W (w.heap.size+1) 44 (ssA ss0) from by rw [← hW];exact Blk.newAt _ _ _ _ (by simp))
 have HE:=zh (show Ext w W from by rw [← hW];exact ((Ext.refl w).alloc' _).alloc' _)
 have HWS:W.heap.size=w.heap.size+2:=by rw [← hW];simp
 have HBL:=zh hB
 have HLEN:=zh hB.len
 have HZW:=zh hz
 have hle:=hB.le
 have hcap:=hB.cap
 have g2:=HG.out.cell 2
 have g3:=HG.out.cell 3
 have g4:=HG.out.cell 4
 have hmk:=aJx m2 h2
 clear hB hz
 go_enter Tryz.func40,Tryz.ntmps40
 go_upto_region 2 with fail
 obtain ⟨sg,hsg⟩:∃ sg:StR,(⟨none,0,0,[],some ⟨w.heap.size+2,0,none⟩,m2,m2,List.replicate m2 0,none,0,0,[],none,0,0,[],0⟩:StR)=sg:=⟨_,rfl⟩
 obtain ⟨W1,hW1⟩:∃ W1,(W.alloc (.cells (gcs (List.replicate m2 (0:Int))).toArray 3)).alloc (.cells #[.slice none 0 0,.slice (some ⟨w.heap.size+2,0,none⟩) m2 m2,.slice none 0 0,.slice none 0 0,.int .i64 0] 44)=W1:=⟨_,rfl⟩
 rw [hW1]
 have HX1:=zh (show Ext W W1 from by rw [← hW1];exact ((Ext.refl W).alloc' _).alloc' _)
 have HG1:=zh (HG.out.ext HX1.out)
 have HR1:=zh (HR.out.ext HX1.out)
 have HS1:=zh (show StB w W1 (w.heap.size+3) sg from by
  refine ⟨?_,?_,HE.out.trans HX1.out,by omega⟩
  ·rw [← hW1,← hsg];exact Blk.newAt _ _ _ _ (by simp;omega)
  rw [← hsg]
  refine ⟨World.ownsRow_nil _ _ _ _,?_,World.ownsRow_nil _ _ _ _,World.ownsRow_nil _ _ _ _,fun d hd=>by (cases hd),fun z hz=>by (rw [List.eq_of_mem_replicate hz];exact (wfS ⟨by decide,by decide⟩:wfI (0:Int))),fun d hd=>by (cases hd),(wfS ⟨by decide,by decide⟩:wfI (0:Int))⟩
  have h9:=aFR (w:=W) (e:=3) (size:=1) (n:=m2) (cs:=(gcs (List.replicate m2 (0:Int))).toArray) (by rw [List.size_toArray,aI,List.length_replicate];rfl) (by omega)
  rw [List.toList_toArray,HWS] at h9
  rw [← hW1]
  exact bB (bF h9 ((Ext.refl _).alloc' _)) (by omega))
 have HV1:=zh (show sg.V=(⟨pC BL 0,List.replicate m2 0,[],[],0⟩:StV) from by rw [← hsg];rfl)
 clear g2 g3 g4 hmk hsg hW1 hW HG HR HE HX1
 go_wp2_with fail
 go_loopw [4] (fun vi wr=>∃ (k:Nat) (s:StR),vi=.int .i64 (k:Int)∧k≤m3∧Hid (StB w wr (w.heap.size+3) s)∧Hid (Blk wr w.heap.size 40 (genC N Z B1 m1 d1 B2 m2 d2 B3 m3 d3))∧Hid (Blk wr (w.heap.size+1) 44 (ssA ss0))∧Hid (s.V=(⟨pC BL k,List.replicate m2 0,[],[],0⟩:StV))) (fun i _=>m3 - (intOf i).toNat)
 case atStart=>exact ⟨0,sg,rfl,Nat.zero_le _,HS1,HG1,HR1,HV1⟩
 case round =>
  clear HS1 HG1 HR1 HV1
  obtain ⟨k,s,rfl,hk,HS,HG,HR,HV⟩:=hrel
  have g4:wr.cell? ⟨w.heap.size,4,none⟩=some (.slice B3 m3 d3):=HG.out.cell 4
  by_cases hlt:k < m3
  ·have i0 : (0 : Int) ≤ (k : Int) := by omega
   have i1:(k:Int) < (m3:Int):=by omega
   obtain ⟨b,o,hab,-,-⟩:=HBL.out.at (by omega)
   subst hab
   have HCB:=zh (fun (V:World) (e:Ext w V)=>show V.cell? ⟨b,o+k,none⟩=some (.int .i64 (aH BL k)) from by
    obtain ⟨b2,o2,e2,hr2,-⟩:=(HBL.out.ext e).at (by omega)
    injection e2 with e3
    injection e3 with e4 e5
    subst e4
    subst e5
    have h5:=cO (k:=k) hr2 (by rw [HLEN.out];exact hlt)
    have h7:=h5 0 _ rfl
    rwa [show RowT.sz Int=1 from rfl,Nat.mul_one,Nat.add_zero] at h7)
   have HCW:=zh (show ceW (aY (k:Int)) from fM (k:=1) (wfS ⟨by omega,by omega⟩) (wfS ⟨by omega,by omega⟩))
   have HAW:=zh (show wfI (aH BL k) from HBL.out.nth hlt)
   have HBD:=zh (show s.n1≤1000000∧s.n2≤1000000∧s.n3≤1000000∧s.n4≤1000000 from by
    have m1':=HS.out.own.l1;have m2':=HS.out.own.l2;have m3':=HS.out.own.l3;have m4':=HS.out.own.l4
    have hv:=HV.out
    rw [show s.C=pC BL k from congrArg StV.C hv] at m1'
    rw [show s.Q=List.replicate m2 0 from congrArg StV.Q hv,List.length_replicate] at m2'
    rw [show s.K=[] from congrArg StV.K hv] at m3'
    rw [show s.P=[] from congrArg StV.P hv] at m4'
    have h5:=aDf BL k
    simp only [List.length_nil] at m3' m4'
    omega)
   have HS6:=zh (HS.out.ext ((Ext.refl wr).drew'))
   have HG6:=zh (HG.out.ext ((Ext.refl wr).drew'))
   have HR6:=zh (HR.out.ext ((Ext.refl wr).drew'))
   have HX6:=zh HS6.out.low
   go_upto_region 5 with fail
   clear g4
   refine wp_region_held_drew (S:=fun _=>True) (by kernel_rfl) (trivial) (fun aA=>?_)
   refine zzr [1,3,5] ?_
   refine zzj (VE 0 (.agg (ssA s)) (VE 2 (.agg (ceA (aY (k:Int)))) (VE 4 (.slice (some ⟨b,o,none⟩) m3 d3) (VE 6 (.pointer (some ⟨b,o+k,none⟩)) (VE 7 (.int .i64 (aH BL k)) (VV 8 (fun v V=>∃ s2,v=.agg (ssA s2)∧OwnS V w.heap.size s2∧s2.V=⟨dM s.C (aY (k:Int)) (aH BL k),s.Q,s.K,s.P,s.G⟩) VN)))))) [(0,some 18),(2,some 20),(4,some 22),(6,some 24),(7,some 25),(8,some 26)] 1 (fun _ _ h _=>h) (ve (ve (ve (ve (ve (VV.ext (fun v w w' ⟨s2,h1,h2,h3⟩ e=>⟨s2,h1,h2.ext e,h3⟩) VN.ext)))))) (zzc ?_ (zzc ?_ (zzc ?_ (zzc ?_ (zzc ?_ (zzc ?_ zzn)))))) ?_
   ·refine zzp fun W hE hS K hK => ?_
    obtain ⟨q0,q1,q2,q3,q4⟩:=aE (HS6.out.blk.ext hE)
    go_simp
    exact zzF hK (.agg (ssA s))
   ·refine zzp fun W hE hS K hK => ?_
    go_simp
    go_at_call 33
    refine (dX (k:Int) _).mono ?_
    rintro e w5 ⟨rfl,he5⟩
    exact zzK (hK.out (.agg (ceA (aY (k:Int)))) _ (he5) (rfl))
   ·refine zzp fun W hE hS K hK => ?_
    have g4:W.cell? ⟨w.heap.size,4,none⟩=some (.slice (some ⟨b,o,none⟩) m3 d3):=(HG6.out.ext hE).cell 4
    go_simp
    exact zzF hK (.slice (some ⟨b,o,none⟩) m3 d3)
   ·refine zm [(4, some 22)] fun env W hE hS hD K hK => ?_
    obtain ⟨h4,-⟩:=zzV hD
    clear hD
    simp only [aV,h4] at hK ⊢
    clear h4
    go_simp
    exact zzF hK (.pointer (some ⟨b,o+k,none⟩))
   ·refine zm [(6, some 24)] fun env W hE hS hD K hK => ?_
    obtain ⟨h6,-⟩:=zzV hD
    clear hD
    simp only [aV,h6] at hK ⊢
    clear h6
    have c9:=HCB.out W (HX6.out.trans hE)
    go_simp
    exact zzF hK (.int .i64 (aH BL k))
   ·refine zm [(0, some 18), (2, some 20), (7, some 25)] fun env W hE hS hD K hK => ?_
    obtain ⟨h0,h2,h7,-⟩:=zzV hD
    clear hD
    simp only [aV,h0,h2,h7] at hK ⊢
    clear h0
    clear h2
    clear h7
    go_simp
    go_at_call 42
    refine (uV s (aY (k:Int)) (aH BL k) _ (HS6.out.own.ok.ext hE) HCW.out HAW.out HBD.out).mono ?_
    rintro e w5 ⟨s2,rfl,ho2,hv2,he5⟩
    exact zzK (hK.out (.agg (ssA s2)) _ (he5) (⟨s2,rfl,bS ho2 (Nat.le_trans HS6.out.low.size hE.size),hv2⟩))
   intro env W hE hS hV
   obtain ⟨h0,h2,h4,h6,h7,h8,-⟩:=zzV hV
   clear hV
   simp only [aV,h0,h2,h4,h6,h7]
   clear h0
   clear h2
   clear h4
   clear h6
   clear h7
   generalize env 8=x8 at h8 ⊢
   obtain ⟨s2,rfl,ho2,hv2⟩:=h8
   have aA:=hS
   refine za 9 (fun K hK=>?_)
   (refine bY rfl (.tmp 3) (.tmp 26) (by rfl) (w.heap.size+3) (.agg (ssA s2)) s2 rfl (by rfl) (by rfl) (HS6.out.blk.ext hE) ?_;intro W9 h9)
   refine hK.out _ _ (trivial) (fun aA=>?_)
   clear hK K
   try simp only [aX]
   refine wpAnyH_done (by kernel_rfl) ?_ _
   have HF:=zh (show StB w W9 (w.heap.size+3) s2 from by rw [← h9.out.1];exact StB.start ho2 (HS6.out.blk.ext hE) (HS6.out.low.trans hE) (by omega))
   have HGF:=zh (show Blk W9 w.heap.size 40 (genC N Z B1 m1 d1 B2 m2 d2 (some ⟨b,o,none⟩) m3 d3) from by rw [← h9.out.1];exact (HG6.out.ext hE).grown (aD _ _ _ _) (fun e=>by injection e;omega))
   have HRF:=zh (show Blk W9 (w.heap.size+1) 44 (ssA ss0) from by rw [← h9.out.1];exact (HR6.out.ext hE).grown (aD _ _ _ _) (fun e=>by injection e;omega))
   have HVF:=zh (show s2.V=(⟨pC BL (k+1),List.replicate m2 0,[],[],0⟩:StV) from by
    have hh:=HV.out
    rw [hv2,zH,show s.C=_ from congrArg StV.C hh,show s.Q=_ from congrArg StV.Q hh,show s.K=_ from congrArg StV.K hh,show s.P=_ from congrArg StV.P hh,show s.G=_ from congrArg StV.G hh])
   clear h9 ho2 hv2 hE hS aA HS6 HG6 HR6
   go_wp2_with fail
   go_roundw
   case rel=>exact ⟨k+1,s2,by go_num,hlt,HF,HGF,HRF,HVF⟩
   case measure=>simp [intOf];omega
  obtain rfl:m3=k:=by omega
  have i1:¬ (m3:Int) < (m3:Int):=by omega
  have HV2:=zh (show s.V=(⟨wX Z (pC BL BL.length) 0,List.replicate m2 0,[],[],0⟩:StV) from by rw [HV.out,HLEN.out];rfl)
  obtain ⟨s9,hs9⟩:∃ s9,s=s9:=⟨_,rfl⟩
  subst hs9
  go_upto_region 6 with fail
  clear g4
  go_wp2_with fail
  obtain ⟨W0,rfl⟩:∃ W0,W0=wr:=⟨_,rfl⟩
  go_loopw [5] (fun vi wr=>∃ (k:Nat) (s:StR),vi=.int .i64 (k:Int)∧k≤m1∧Hid (StB w wr (w.heap.size+3) s)∧Hid (Blk wr w.heap.size 40 (genC N Z B1 m1 d1 B2 m2 d2 B3 m3 d3))∧Hid (Blk wr (w.heap.size+1) 44 (ssA ss0))∧Hid (s.V=(⟨wX Z (pC BL BL.length) k,List.replicate m2 0,[],[],0⟩:StV))) (fun i _=>m1 - (intOf i).toNat)
  case atStart=>exact ⟨0,s,rfl,Nat.zero_le _,HS,HG,HR,HV2⟩
  case round =>
   clear HS HG HR HV HV2
   obtain ⟨k,s,rfl,hk2,HS,HG,HR,HV⟩:=hrel
   have g2:wr.cell? ⟨w.heap.size,2,none⟩=some (.slice B1 m1 d1):=HG.out.cell 2
   by_cases hlt:k < m1
   ·have i0 : (0 : Int) ≤ (k : Int) := by omega
    have i2:(k:Int) < (m1:Int):=by omega
    have HCW:=zh (show ceW (cN (k:Int)) from fM (k:=3) (wfS ⟨by omega,by omega⟩) (wfS ⟨by omega,by omega⟩))
    have HAW:=HZW
    have HBD:=zh (show s.n1≤1000000∧s.n2≤1000000∧s.n3≤1000000∧s.n4≤1000000 from by
     have m1':=HS.out.own.l1;have m2':=HS.out.own.l2;have m3':=HS.out.own.l3;have m4':=HS.out.own.l4
     have hv:=HV.out
     rw [show s.C=wX Z (pC BL BL.length) k from congrArg StV.C hv] at m1'
     rw [show s.Q=List.replicate m2 0 from congrArg StV.Q hv,List.length_replicate] at m2'
     rw [show s.K=[] from congrArg StV.K hv] at m3'
     rw [show s.P=[] from congrArg StV.P hv] at m4'
     have h5:=aDf BL BL.length;have h6:=aHb Z (pC BL BL.length) k;have h7:=HLEN.out
     simp only [List.length_nil] at m3' m4'
     omega)
    have HS6:=zh (HS.out.ext ((Ext.refl wr).drew'))
    have HG6:=zh (HG.out.ext ((Ext.refl wr).drew'))
    have HR6:=zh (HR.out.ext ((Ext.refl wr).drew'))
    have HX6:=zh HS6.out.low
    go_upto_region 9 with fail
    clear g2
    refine wp_region_held_drew (S:=fun _=>True) (by kernel_rfl) (trivial) (fun aA=>?_)
    refine zzr [1,3] ?_
    refine zzj (VE 0 (.agg (ssA s)) (VE 2 (.agg (ceA (cN (k:Int)))) (VE 4 (.int .i64 Z) (VV 5 (fun v V=>∃ s2,v=.agg (ssA s2)∧OwnS V w.heap.size s2∧s2.V=⟨dM s.C (cN (k:Int)) (Z),s.Q,s.K,s.P,s.G⟩) VN)))) [(0,some 34),(2,some 36),(4,some 38),(5,some 39)] 1 (fun _ _ h _=>h) (ve (ve (ve (VV.ext (fun v w w' ⟨s2,h1,h2,h3⟩ e=>⟨s2,h1,h2.ext e,h3⟩) VN.ext)))) (zzc ?_ (zzc ?_ (zzc ?_ (zzc ?_ zzn)))) ?_
    ·refine zzp fun W hE hS K hK => ?_
     obtain ⟨q0,q1,q2,q3,q4⟩:=aE (HS6.out.blk.ext hE)
     go_simp
     exact zzF hK (.agg (ssA s))
    ·refine zzp fun W hE hS K hK => ?_
     go_simp
     go_at_call 49
     refine (aDQ (k:Int) _).mono ?_
     rintro e w5 ⟨rfl,he5⟩
     exact zzK (hK.out (.agg (ceA (cN (k:Int)))) _ (he5) (rfl))
    ·refine zzp fun W hE hS K hK => ?_
     have g1:W.cell? ⟨w.heap.size,1,none⟩=some (.int .i64 Z):=(HG6.out.ext hE).cell 1
     go_simp
     exact zzF hK (.int .i64 Z)
    ·refine zm [(0, some 34), (2, some 36), (4, some 38)] fun env W hE hS hD K hK => ?_
     obtain ⟨h0,h2,h4,-⟩:=zzV hD
     clear hD
     simp only [aV,h0,h2,h4] at hK ⊢
     clear h0
     clear h2
     clear h4
     go_simp
     go_at_call 42
     refine (uV s (cN (k:Int)) (Z) _ (HS6.out.own.ok.ext hE) HCW.out HAW.out HBD.out).mono ?_
     rintro e w5 ⟨s2,rfl,ho2,hv2,he5⟩
     exact zzK (hK.out (.agg (ssA s2)) _ (he5) (⟨s2,rfl,bS ho2 (Nat.le_trans HS6.out.low.size hE.size),hv2⟩))
    intro env W hE hS hV
    obtain ⟨h0,h2,h4,h5,-⟩:=zzV hV
    clear hV
    simp only [aV,h0,h2,h4]
    clear h0
    clear h2
    clear h4
    generalize env 5=x5 at h5 ⊢
    obtain ⟨s2,rfl,ho2,hv2⟩:=h5
    have aA:=hS
    refine za 6 (fun K hK=>?_)
    (refine bY rfl (.tmp 3) (.tmp 39) (by rfl) (w.heap.size+3) (.agg (ssA s2)) s2 rfl (by rfl) (by rfl) (HS6.out.blk.ext hE) ?_;intro W9 h9)
    refine hK.out _ _ (trivial) (fun aA=>?_)
    clear hK K
    try simp only [aX]
    refine wpAnyH_done (by kernel_rfl) ?_ _
    have HF:=zh (show StB w W9 (w.heap.size+3) s2 from by rw [← h9.out.1];exact StB.start ho2 (HS6.out.blk.ext hE) (HS6.out.low.trans hE) (by omega))
    have HGF:=zh (show Blk W9 w.heap.size 40 (genC N Z B1 m1 d1 B2 m2 d2 B3 m3 d3) from by rw [← h9.out.1];exact (HG6.out.ext hE).grown (aD _ _ _ _) (fun e=>by injection e;omega))
    have HRF:=zh (show Blk W9 (w.heap.size+1) 44 (ssA ss0) from by rw [← h9.out.1];exact (HR6.out.ext hE).grown (aD _ _ _ _) (fun e=>by injection e;omega))
    have HVF:=zh (show s2.V=(⟨wX Z (pC BL BL.length) (k+1),List.replicate m2 0,[],[],0⟩:StV) from by
     have hh:=HV.out
     rw [hv2,yJ,show s.C=_ from congrArg StV.C hh,show s.Q=_ from congrArg StV.Q hh,show s.K=_ from congrArg StV.K hh,show s.P=_ from congrArg StV.P hh,show s.G=_ from congrArg StV.G hh])
    clear h9 ho2 hv2 hE hS aA HS6 HG6 HR6
    go_wp2_with fail
    go_roundw
    case rel=>exact ⟨k+1,s2,by go_num,hlt,HF,HGF,HRF,HVF⟩
    case measure=>simp [intOf];omega
   obtain rfl:m1=k:=by omega
   have i2:¬ (m1:Int) < (m1:Int):=by omega
   go_upto_region 10 with fail
   clear g2
   have HF:=HS
   have HRF:=HR
   obtain ⟨q0,q1,q2,q3,q4⟩:=aE HF.out.blk
   go_wp2_with ((with_reducible refine aN rfl (.tmp 2) (.tmp 40) rfl (w.heap.size+1) (s) rfl rfl HRF.out ?_);intro W9 h9)
   exact rtS _ _ HF.out HRF.out (by omega) h9 (HV.out)
end
end Go.Proofs.YtohmmcahpakokaaGreat
