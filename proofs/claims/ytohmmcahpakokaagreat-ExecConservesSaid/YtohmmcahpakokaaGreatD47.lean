/- Evidence decoded; the check of a blame. -/
import Derived.Test.YtohmmcahpakokaaGreatD40
import Derived.Test.YtohmmcahpakokaaGreatD44
set_option maxRecDepth 100000
set_option maxHeartbeats 8000000
set_option linter.unusedVariables false
set_option linter.unusedSimpArgs false
namespace Go.Proofs.YtohmmcahpakokaaGreat
section
open Go.RowKit
attribute [local go_sem ↓] Go.wp_at_zero Go.wp_at_succ
def zE:EvR:=⟨zeroS,zeroS⟩
abbrev ev0:Array Value:=#[.int .i64 0,.int .i64 0,.int .i64 0,.int .i64 0,.int .i64 0,.int .i64 0,.int .u8 0,.int .u8 0,.int .u8 0,.int .u8 0,.int .u8 0,.int .u8 0,.int .u8 0,.int .u8 0,.int .u8 0,.int .u8 0,.int .u8 0,.int .u8 0,.int .u8 0,.int .u8 0,.int .u8 0,.int .u8 0,.slice none 0 0,.int .i64 0,.int .i64 0,.int .i64 0,.int .i64 0,.int .i64 0,.int .i64 0,.int .u8 0,.int .u8 0,.int .u8 0,.int .u8 0,.int .u8 0,.int .u8 0,.int .u8 0,.int .u8 0,.int .u8 0,.int .u8 0,.int .u8 0,.int .u8 0,.int .u8 0,.int .u8 0,.int .u8 0,.int .u8 0,.slice none 0 0]
theorem zE_eq:Value.agg (evA zE)=.agg ev0:=by
 unfold evA zE zeroS zeroV;simp only [nb8_nil 0 (by omega),nb8_nil 1 (by omega),nb8_nil 2 (by omega),nb8_nil 3 (by omega),nb8_nil 4 (by omega),nb8_nil 5 (by omega),nb8_nil 6 (by omega),nb8_nil 7 (by omega)]
theorem run_bldEv (S1 S2:SgR) (w:World):(Instr.build 138 #[(0,.agg (sgA S1)),(1,.agg (sgA S2))]).run Tryz.prog w=.ok (.agg (evA ⟨S1,S2⟩)) w:=by kernel_rfl
def evC (l:List UInt8):Int:=if l.length < 786 then 2 else if 786 < l.length then 3 else if sdC (l.take 393) ≠ 0 then sdC (l.take 393) else sdC (l.drop 393)
def EvIs (l:List UInt8) (E:EvR):Prop:=E.a.v=decVt ((l.take 393).take 23)∧E.a.sig=(l.take 393).drop 23∧E.b.v=decVt ((l.drop 393).take 23)∧E.b.sig=(l.drop 393).drop 23
def EvOut (w:World) (l:List UInt8) (e:Ending) (w':World):Prop:=∃ E:EvR,e=.returned (.tuple #[.agg (evA E),.int .i64 (evC l)])∧RowT.ok E w'∧Ext w w'∧(evC l=0→EvIs l E)
theorem rtE {fn:Func} {p q:Tmp} {a:Act} {w W9 WF:World} {l:List UInt8} {cs:Array Value} (g:Nat) (E:EvR) (c:Int) (hB:Blk WF g 138 cs) (hcs:cs.size=46) (hX:Ext w WF) (hg:w.heap.size≤g) (h9:Hid (WF.setCells g 0 (RowT.enc E)=W9))
  (hoa:OwnB WF w.heap.size 5 E.a.A E.a.n E.a.c E.a.sig) (hob:OwnB WF w.heap.size 5 E.b.A E.b.n E.b.c E.b.sig) (wa:E.a.v.wf) (wb:E.b.v.wf) (hc:evC l=c) (hh:c=0→EvIs l E)
  (hres:fn.results=#[.cell p 138,.tmp q]:=by rfl) (hp:a.tmps.getD p undef=.pointer (some ⟨g,0,none⟩):=by rfl) (hq:a.tmps.getD q undef=.int .i64 c:=by rfl) (hd:a.defers=[]:=by rfl):bodyPost Tryz.prog fn (EvOut w l) .ret a W9:=by
 have hst:Blk W9 g 138 (evA E):=by rw [← h9.out];exact bW (ds:=evA E) hB (by rw [hcs];rfl)
 have ha:OwnB W9 w.heap.size 5 E.a.A E.a.n E.a.c E.a.sig:=by rw [← h9.out];exact World.ownsRow.kept hoa (gS WF g _ 0) (.inr (Ne.symm (oO hoa hB (by decide))))
 have hb:OwnB W9 w.heap.size 5 E.b.A E.b.n E.b.c E.b.sig:=by rw [← h9.out];exact World.ownsRow.kept hob (gS WF g _ 0) (.inr (Ne.symm (oO hob hB (by decide))))
 have hx:Ext w W9:=by rw [← h9.out];exact Below.setCells' hX hg _ _
 exact bodyPost_ret (v:=.tuple #[.agg (evA E),.int .i64 c]) (retCV hres _ _ g _ _ hp hq (run_loadVar_row _ _ _ _ _ (0,0) _ hst Tryz.underlying138 rfl (by kernel_rfl))) hd ⟨E,by rw [hc],⟨⟨wa,ha.sl⟩,⟨wb,hb.sl⟩⟩,hx,fun h=>hh (hc ▸ h)⟩
theorem evDecode_any (A:Option Addr) (n c:Nat) (l:List UInt8) (w:World) (hS:SlB w A n c l):Calls Tryz.prog 150 #[.slice A n c] w (EvOut w l):=by
 have hcap:=hS.cap
 have hle:=hS.le
 have hlen:=hS.len
 obtain ⟨W,hW⟩:∃ W,w.alloc (.cells ev0 138)=W:=⟨_,rfl⟩
 have HB:=zh (show Blk W w.heap.size 138 ev0 from by rw [← hW];exact Blk.new w 138 ev0)
 have HE:=zh (show Ext w W from by rw [← hW];exact (Ext.refl w).alloc' _)
 rcases Nat.lt_trichotomy n 786 with h | rfl | h
 ·have HC := zh (show evC l = 2 from by unfold evC; rw [hlen, if_pos h])
  have i1:(n:Int) < 786:=by omega
  have HTH:W.there w.heap.size 0 (RowT.sz EvR):=tB HB.out
  clear hS h hlen
  go_enter Tryz.func150,Tryz.ntmps150
  go_wp2_with ((with_reducible refine wpList_storeGh evP rfl (.tmp 2) (.tmp 11) rfl w.heap.size 0 rfl zE (.agg ev0) zE_eq rfl HTH ?_);intro W9 h9)
  exact rtE w.heap.size zE 2 HB.out rfl HE.out (Nat.le_refl _) h9 (OwnB.nil _ _ _) (OwnB.nil _ _ _) zeroV_wf zeroV_wf HC.out (fun h=>absurd h (by decide))
 ·have HS := zh hS
  obtain ⟨b,o,rfl,hr,-⟩:=hS.at (by omega)
  have HD1:=zh (show SlB w (some ⟨b,o,none⟩) 393 c (l.take 393) from hS.upto (by omega))
  obtain ⟨A2,hA2⟩:∃ A2:Option Addr,(if c=393 then (some ⟨b,o,none⟩:Option Addr) else (some ⟨b,o,none⟩:Option Addr).map (·.add 393))=A2:=⟨_,rfl⟩
  have HD2:=zh (show SlB w A2 393 (c - 393) (l.drop 393) from by
   rw [← hA2,if_neg (by omega)]
   exact hS.cut (by omega) (by omega))
  obtain ⟨k1,hk1⟩:∃ k,sdC (l.take 393)=k:=⟨_,rfl⟩
  obtain ⟨k2,hk2⟩:∃ k,sdC (l.drop 393)=k:=⟨_,rfl⟩
  have HC:=zh (show evC l=if k1 ≠ 0 then k1 else k2 from by unfold evC;rw [hlen,if_neg (by omega),if_neg (by omega),hk1,hk2])
  have HC1:=zh (fun (V:World) (e:Ext w V)=>sgDec_any _ 393 c (l.take 393) V (HD1.out.ext e))
  have HC2:=zh (fun (V:World) (e:Ext w V)=>sgDec_any A2 393 (c - 393) (l.drop 393) V (HD2.out.ext e))
  have z0:(393:Int)≤(c:Int):=by omega
  have z1:(786:Int)≤(c:Int):=by omega
  have z2:¬ c=393:=by omega
  have HA2:=zh hA2
  rw [if_neg z2] at hA2
  have hA3:(some (⟨b,o+393,none⟩:Addr))=A2:=by rw [← hA2,Option.map_some,Addr.add_mid]
  clear hS hr hlen hA2
  go_enter Tryz.func150,Tryz.ntmps150
  go_wp2_with fail
  refine (HC1.out _ HE.out).mono ?_
  rintro e w1 ⟨S1,rfl,hok1,he1,hy1,hn1,ho1⟩
  rw [hk1] at hy1 hn1
  obtain ⟨v1,hv1⟩:∃ v,Value.agg (sgA S1)=v:=⟨_,rfl⟩
  have HV1:=zh hv1
  have HY1:=zh hy1
  have HOK1:=zh hok1
  have HO1:=zh (own_mono ho1 HE.out.size)
  have HX1:=zh (HE.out.trans he1)
  have HB1:=zh (HB.out.ext he1)
  obtain ⟨X,hX⟩:∃ X,w1.heap.size=X:=⟨_,rfl⟩
  have HXS:=zh hX
  rw [hk1,hv1]
  clear hv1 hy1 hn1 hok1 ho1 he1 HB HE HC1 hX
  go_upto_region 6 with ((with_reducible refine wpList_newG sgP rfl (.tmp 4) (.tmp 21) rfl sg0 rfl S1 v1 HV1.out rfl rfl ?_);intro W4 h4)
  have hx4:Ext w1 W4:=by rw [← h4.out];exact (Ext.refl w1).alloc' _
  have HX4:=zh (HX1.out.trans hx4)
  have HB4:=zh (HB1.out.ext hx4)
  have HO4:=zh (OwnB.ext HO1.out hx4)
  have HR1:=zh (show Blk W4 X 136 (sgA S1) from by rw [← h4.out,← HXS.out];exact Blk.new w1 136 (sgA S1))
  try rw [HXS.out]
  clear h4 hx4 HX1 HB1 HO1
  have HTH:W4.there w.heap.size 0 (RowT.sz EvR):=tB HB4.out
  by_cases hk:k1=0
  ·subst hk
   have HC3:=zh (show evC l=k2 from by rw [HC.out];rfl)
   go_wp2_with fail
   try rw [hA3]
   refine (HC2.out _ HX4.out).mono ?_
   rintro e w5 ⟨S2,rfl,hok2,he5,hy2,hn2,ho2⟩
   rw [hk2] at hy2 hn2
   obtain ⟨v2,hv2⟩:∃ v,Value.agg (sgA S2)=v:=⟨_,rfl⟩
   have HV2:=zh hv2
   have HY2:=zh hy2
   have HOK2:=zh hok2
   have HO5:=zh (OwnB.ext HO4.out he5)
   have HO2:=zh (own_mono ho2 HX4.out.size)
   have HX5:=zh (HX4.out.trans he5)
   have HB5:=zh (HB4.out.ext he5)
   have HR5:=zh (HR1.out.ext he5)
   obtain ⟨Y,hY⟩:∃ Y,w5.heap.size=Y:=⟨_,rfl⟩
   have HYS:=zh hY
   rw [hk2,hv2]
   clear hv2 hy2 hn2 hok2 ho2 he5 HX4 HB4 HO4 HR1 HC2 hY HTH
   go_upto_region 9 with ((with_reducible refine wpList_newG sgP rfl (.tmp 6) (.tmp 31) rfl sg0 rfl S2 v2 HV2.out rfl rfl ?_);intro W6 h6)
   have hx6:Ext w5 W6:=by rw [← h6.out];exact (Ext.refl w5).alloc' _
   have HX6:=zh (HX5.out.trans hx6)
   have HB6:=zh (HB5.out.ext hx6)
   have HO6:=zh (OwnB.ext HO5.out hx6)
   have HP6:=zh (OwnB.ext HO2.out hx6)
   have HR6:=zh (HR5.out.ext hx6)
   have HR2:=zh (show Blk W6 Y 136 (sgA S2) from by rw [← h6.out,← HYS.out];exact Blk.new w5 136 (sgA S2))
   try rw [HYS.out]
   clear h6 hx6 HX5 HB5 HO5 HR5 HO2
   have HTH:W6.there w.heap.size 0 (RowT.sz EvR):=tB HB6.out
   by_cases hk:k2=0
   ·subst hk
    have r1:W6.rangeAt X 0 (RowT.enc S1):=rB HR6.out
    have r2:W6.rangeAt Y 0 (RowT.enc S2):=rB HR2.out
    obtain ⟨vE,hvE⟩:∃ v,Value.agg (evA ⟨S1,S2⟩)=v:=⟨_,rfl⟩
    have HVE:=zh hvE
    have HBD:=zh (fun (V:World)=>run_bldEv S1 S2 V)
    rw [HV1.out,HV2.out,hvE] at HBD
    clear hvE
    go_wp2_with (first | (with_reducible refine wL sgP rfl (.tmp 4) rfl X 0 rfl S1 v1 HV1.out r1 ?_) | (with_reducible refine wL sgP rfl (.tmp 6) rfl Y 0 rfl S2 v2 HV2.out r2 ?_) | (with_reducible refine wpList_val rfl (exec_bld2 (vx:=v1) (vy:=v2) (.tmp 37) (.tmp 38) rfl rfl rfl HBD.out) ?_) | ((with_reducible refine wpList_storeGh evP rfl (.tmp 2) (.tmp 39) rfl w.heap.size 0 rfl ⟨S1,S2⟩ vE HVE.out rfl HTH ?_);intro W9 h9))
    exact rtE w.heap.size ⟨S1,S2⟩ 0 HB6.out rfl HX6.out (Nat.le_refl _) h9 HO6.out HP6.out HOK1.out.v HOK2.out.v HC3.out (fun _=>⟨(HY1.out (by simp)).1,(HY1.out (by simp)).2.2.2,(HY2.out (by simp)).1,(HY2.out (by simp)).2.2.2⟩)
   have b1:(k2 == 0)=false:=beq_eq_false_iff_ne.2 hk
   have b2:(k2 != 0)=true:=by rw [bne,b1];rfl
   have b3:decide (k2=0)=false:=decide_eq_false hk
   have HK:=zh hk
   clear hk
   go_wp2_with ((with_reducible refine wpList_storeGh evP rfl (.tmp 2) (.tmp 35) rfl w.heap.size 0 rfl zE (.agg ev0) zE_eq rfl HTH ?_);intro W9 h9)
   exact rtE w.heap.size zE k2 HB6.out rfl HX6.out (Nat.le_refl _) h9 (OwnB.nil _ _ _) (OwnB.nil _ _ _) zeroV_wf zeroV_wf HC3.out (fun h=>absurd h HK.out)
  have b1:(k1 == 0)=false:=beq_eq_false_iff_ne.2 hk
  have b2:(k1 != 0)=true:=by rw [bne,b1];rfl
  have b3:decide (k1=0)=false:=decide_eq_false hk
  have HK:=zh hk
  have HC3:=zh (show evC l=k1 from by rw [HC.out,if_pos hk])
  clear hk
  go_wp2_with ((with_reducible refine wpList_storeGh evP rfl (.tmp 2) (.tmp 25) rfl w.heap.size 0 rfl zE (.agg ev0) zE_eq rfl HTH ?_);intro W9 h9)
  exact rtE w.heap.size zE k1 HB4.out rfl HX4.out (Nat.le_refl _) h9 (OwnB.nil _ _ _) (OwnB.nil _ _ _) zeroV_wf zeroV_wf HC3.out (fun h=>absurd h HK.out)
 have HC:=zh (show evC l=3 from by unfold evC;rw [hlen,if_neg (by omega),if_pos h])
 have i1:¬ (n:Int) < 786:=by omega
 have i2:(n:Int) > 786:=by omega
 have HTH:W.there w.heap.size 0 (RowT.sz EvR):=tB HB.out
 clear hS h hlen
 go_enter Tryz.func150,Tryz.ntmps150
 go_wp2_with ((with_reducible refine wpList_storeGh evP rfl (.tmp 2) (.tmp 16) rfl w.heap.size 0 rfl zE (.agg ev0) zE_eq rfl HTH ?_);intro W9 h9)
 exact rtE w.heap.size zE 3 HB.out rfl HE.out (Nat.le_refl _) h9 (OwnB.nil _ _ _) (OwnB.nil _ _ _) zeroV_wf zeroV_wf HC.out (fun h=>absurd h (by decide))
def evU (PN:List UInt64) (R:OpR):Bool:=decide (evC R.prf=0) && (decide ((decVt ((R.prf.take 393).take 23)).si=R.va) && evV PN (decVt ((R.prf.take 393).take 23)) ((R.prf.take 393).drop 23) (decVt ((R.prf.drop 393).take 23)) ((R.prf.drop 393).drop 23))
theorem blame_any (x:StpR) (R:OpR) (PN:List UInt64) (w:World) (hs:x.s.ok w) (hro:R.ok w) (hp:SlG w x.B1 x.m1 x.d1 PN) (hv:vOp R=true) (hk:R.k=6) :
  Calls Tryz.prog 96 #[.agg (stpA x),.agg (opA R)] w fun e w'=>e=.returned (.int .i64 (chkO x.m2 x.m1 x.ht sumU (evU PN) x.ac R x.s.V))∧Ext w w':=by
 have HRO:=zh hro
 have HPP:=zh hp
 have hple:=hp.le
 have hpcap:=hp.cap
 obtain ⟨hkk,-,-,-,-,-,hvb,-,-⟩:=vOp_bd hv
 obtain ⟨W,hW⟩:∃ W,(w.alloc (.cells (stpA x) 86)).alloc (.cells (opA R) 69)=W:=⟨_,rfl⟩
 have HP:=zh (show Blk W w.heap.size 86 (stpA x) from by rw [← hW];exact (Blk.new w 86 (stpA x)).alloc _)
 have HO:=zh (show Blk W (w.heap.size+1) 69 (opA R) from by rw [← hW];exact Blk.newAt _ _ _ _ (by simp))
 have HX:=zh (show Ext w W from by rw [← hW];exact ((Ext.refl w).alloc' _).alloc' _)
 have rx:W.rangeAt w.heap.size 0 (RowT.enc x):=rB HP.out
 have p4:W.cell? ⟨w.heap.size+1,4,none⟩=some (.int .i64 R.va):=HO.out.cell 4
 have g2:W.cell? ⟨w.heap.size,2,none⟩=some (.slice x.B1 x.m1 x.d1):=HP.out.cell 2
 obtain ⟨vx,hvx⟩:∃ v,Value.agg (stpA x)=v:=⟨_,rfl⟩
 have HVX:=zh hvx
 obtain ⟨i,hi⟩:∃ i:Nat,R.va=(i:Int):=⟨R.va.toNat,by omega⟩
 have HI:=zh hi
 have hi9:i≤9:=by omega
 have HCH:=zh (show chkO x.m2 x.m1 x.ht sumU (evU PN) x.ac R x.s.V=if (x.m1:Int)≤R.va then 1 else if hasM x.s.V.G R.va.toNat=true then 7 else if evU PN R=true then 0 else 12 from by
  unfold chkO;rw [if_neg (by omega),if_neg (by omega),if_pos hk])
 obtain ⟨mg,hmg⟩:∃ z,hasM x.s.G i=z:=⟨_,rfl⟩
 have HEX:=zh (fun V=>expelled_any x i V hi9)
 rw [hvx,hmg] at HEX
 have HMG:=zh (show hasM x.s.V.G R.va.toNat=mg from by rw [hi,Int.toNat_natCast];exact hmg)
 rw [hi] at p4
 clear hs hro hp hv hvb hkk hk hvx hmg hi
 by_cases h1:(x.m1:Int)≤(i:Int)
 ·have HF := zh (show chkO x.m2 x.m1 x.ht sumU (evU PN) x.ac R x.s.V = 1 from by rw [HCH.out, HI.out, if_pos h1])
  have i1:(i:Int) ≥ (x.m1:Int):=h1
  clear h1
  go_enter Tryz.func96,Tryz.ntmps96
  go_wp2_with fail
  go_ret
  exact ⟨by rw [HF.out];rfl,HX.out⟩
 have HCH2:=zh (show chkO x.m2 x.m1 x.ht sumU (evU PN) x.ac R x.s.V=if mg=true then 7 else if evU PN R=true then 0 else 12 from by rw [HCH.out,HI.out,if_neg h1,← HI.out,HMG.out])
 have i1:¬ (i:Int) ≥ (x.m1:Int):=h1
 clear h1 HCH HMG
 go_enter Tryz.func96,Tryz.ntmps96
 go_wp2_with (with_reducible refine wL stpP rfl (.tmp 2) rfl w.heap.size 0 rfl x vx HVX.out rx ?_)
 refine (HEX.out _).mono ?_
 rintro e w1 ⟨rfl,he1⟩
 have HP1:=zh (HP.out.ext he1)
 have HO1:=zh (HO.out.ext he1)
 have HX1:=zh (HX.out.trans he1)
 clear p4 g2 rx he1 HP HO HX
 cases mg with
 | true =>
  have HF:=zh (show chkO x.m2 x.m1 x.ht sumU (evU PN) x.ac R x.s.V=7 from by rw [HCH2.out];rfl)
  go_wp2_with fail
  go_ret
  exact ⟨by rw [HF.out];rfl,HX1.out⟩
 | false =>
  have HCH3:=zh (show chkO x.m2 x.m1 x.ht sumU (evU PN) x.ac R x.s.V=if evU PN R=true then 0 else 12 from by rw [HCH2.out];rfl)
  have p8:w1.cell? ⟨w.heap.size+1,22,none⟩=some (.slice R.A2 R.n2 R.c2):=HO1.out.cell 22
  go_wp2_with fail
  refine (evDecode_any R.A2 R.n2 R.c2 R.prf _ (HRO.out.prf.ext HX1.out)).mono ?_
  rintro e w2 ⟨E,rfl,hok,he2,hev⟩
  obtain ⟨kc,hkc⟩:∃ k,evC R.prf=k:=⟨_,rfl⟩
  rw [hkc] at hev ⊢
  obtain ⟨vE,hvE⟩:∃ v,Value.agg (evA E)=v:=⟨_,rfl⟩
  rw [hvE]
  have HVE:=zh hvE
  have HEV:=zh hev
  have HKC:=zh hkc
  have HOK:=zh hok
  have HP2:=zh (HP1.out.ext he2)
  have HO2:=zh (HO1.out.ext he2)
  have HX2:=zh (HX1.out.trans he2)
  obtain ⟨X,hX⟩:∃ X,w2.heap.size=X:=⟨_,rfl⟩
  have HXS:=zh hX
  clear p8 he2 HP1 HO1 HX1 hvE hev hkc hok hX
  go_upto_region 6 with ((with_reducible refine wpList_newG evP rfl (.tmp 5) (.tmp 22) rfl ev0 rfl E vE HVE.out rfl rfl ?_);intro W4 h4)
  have hx4:Ext w2 W4:=by rw [← h4.out];exact (Ext.refl w2).alloc' _
  have HX4:=zh (HX2.out.trans hx4)
  have HOK4:=zh (show RowT.ok E W4 from RowT.ext E w2 W4 HOK.out hx4)
  have HR4:=zh (show Blk W4 X 138 (evA E) from by rw [← h4.out,← HXS.out];exact Blk.new w2 138 (evA E))
  have p4:W4.cell? ⟨w.heap.size+1,4,none⟩=some (.int .i64 i):=by rw [← HI.out];exact (HO2.out.ext hx4).cell 4
  have g2:W4.cell? ⟨w.heap.size,2,none⟩=some (.slice x.B1 x.m1 x.d1):=(HP2.out.ext hx4).cell 2
  have x4:W4.cell? ⟨X,4,none⟩=some (.int .i64 E.a.v.si):=HR4.out.cell 4
  have rE:W4.rangeAt X 0 (RowT.enc E):=rB HR4.out
  try rw [HXS.out]
  clear h4 hx4 HX2 HP2 HO2 HOK
  by_cases h1:kc=0
  ·subst h1
   obtain ⟨f1,f2,f3,f4⟩:=HEV.out rfl
   obtain ⟨si,hsi⟩:∃ z,E.a.v.si=z:=⟨_,rfl⟩
   obtain ⟨z,hz⟩:∃ z,evV PN E.a.v E.a.sig E.b.v E.b.sig=z:=⟨_,rfl⟩
   have HU:=zh (show evU PN R=(decide (si=(i:Int)) && z) from by
    unfold evU
    rw [HKC.out,← f1,← f2,← f3,← f4,hz,hsi,HI.out];rfl)
   have HVL:=zh (evValid_any x.B1 x.m1 x.d1 PN E W4 (HPP.out.ext HX4.out) HOK4.out)
   rw [hz,HVE.out] at HVL
   rw [hsi] at x4
   clear f1 f2 f3 f4 hz hsi
   by_cases h2:si=(i:Int)
   ·subst h2
    have HU2:=zh (show evU PN R=z from by rw [HU.out,decide_eq_true rfl];rfl)
    go_wp2_with (with_reducible refine wpList_loadGg evP (by with_unfolding_all rfl) (.tmp 5) rfl X 0 rfl E vE HVE.out rE ?_)
    refine HVL.out.mono ?_
    rintro e w5 ⟨rfl,he5⟩
    have HX5:=zh (HX4.out.trans he5)
    clear p4 g2 x4 rE he5
    cases z
    ·have HF := zh (show chkO x.m2 x.m1 x.ht sumU (evU PN) x.ac R x.s.V = 12 from by rw [HCH3.out, HU2.out]; rfl)
     go_wp2_with fail
     go_ret
     exact ⟨by rw [HF.out];rfl,HX5.out⟩
    have HF:=zh (show chkO x.m2 x.m1 x.ht sumU (evU PN) x.ac R x.s.V=0 from by rw [HCH3.out,HU2.out];rfl)
    go_wp2_with fail
    go_ret
    exact ⟨by rw [HF.out];rfl,HX5.out⟩
   have HF:=zh (show chkO x.m2 x.m1 x.ht sumU (evU PN) x.ac R x.s.V=12 from by rw [HCH3.out,HU.out,decide_eq_false h2];rfl)
   have b1:(si == (i:Int))=false:=beq_eq_false_iff_ne.2 h2
   have b3:decide (si=(i:Int))=false:=decide_eq_false h2
   go_wp2_with fail
   go_ret
   exact ⟨by rw [HF.out];rfl,HX4.out⟩
  have HF:=zh (show chkO x.m2 x.m1 x.ht sumU (evU PN) x.ac R x.s.V=12 from by
   rw [HCH3.out]
   unfold evU
   rw [HKC.out,decide_eq_false h1];rfl)
  have b1:(kc == 0)=false:=beq_eq_false_iff_ne.2 h1
  have b3:decide (kc=0)=false:=decide_eq_false h1
  go_wp2_with fail
  go_ret
  exact ⟨by rw [HF.out];rfl,HX4.out⟩
end
end Go.Proofs.YtohmmcahpakokaaGreat
