import Derived.Test.YtgmnmjeccfnmbaaGreatE20
import Derived.Test.YtgmnmjeccfnmbaaGreatE21
set_option maxRecDepth 100000
set_option maxHeartbeats 8000000
set_option linter.unusedVariables false
set_option linter.unusedSimpArgs false
namespace Go.Proofs.YtgmnmjeccfnmbaaGreat
open Go.Proofs.Tryz
section
open Go.RowKit
attribute [local go_sem ↓] Go.wp_at_zero Go.wp_at_succ
def zE:EvR:=⟨eM,eM⟩
abbrev ev0:Array Value:=#[.int .i64 0,.int .i64 0,.int .i64 0,.int .i64 0,.int .i64 0,.int .i64 0,.int .u8 0,.int .u8 0,.int .u8 0,.int .u8 0,.int .u8 0,.int .u8 0,.int .u8 0,.int .u8 0,.int .u8 0,.int .u8 0,.int .u8 0,.int .u8 0,.int .u8 0,.int .u8 0,.int .u8 0,.int .u8 0,.slice none 0 0,.int .i64 0,.int .i64 0,.int .i64 0,.int .i64 0,.int .i64 0,.int .i64 0,.int .u8 0,.int .u8 0,.int .u8 0,.int .u8 0,.int .u8 0,.int .u8 0,.int .u8 0,.int .u8 0,.int .u8 0,.int .u8 0,.int .u8 0,.int .u8 0,.int .u8 0,.int .u8 0,.int .u8 0,.int .u8 0,.slice none 0 0]
theorem uC:Value.agg (evA zE)=.agg ev0:=by
 unfold evA zE eM mE;simp only [bJ 0 aa,bJ 1 aa,bJ 2 aa,bJ 3 aa,bJ 4 aa,bJ 5 aa,bJ 6 aa,bJ 7 aa]
theorem aAz (S1 S2:SgR) (w:World):(Instr.build 128 #[(0,.agg (sgA S1)),(1,.agg (sgA S2))]).run prog w=.ok (.agg (evA ⟨S1,S2⟩)) w:=by kernel_rfl
def evC (l:List UInt8):Int:=if l.length < 786 then 2 else if 786 < l.length then 3 else if sdC (l.take 393) ≠ 0 then sdC (l.take 393) else sdC (l.drop 393)
def aLh (l:List UInt8) (E:EvR):Prop:=E.a.v=cZ ((l.take 393).take 23)∧E.a.sig=(l.take 393).drop 23∧E.b.v=cZ ((l.drop 393).take 23)∧E.b.sig=(l.drop 393).drop 23
def aLN (w:World) (l:List UInt8) (e:Ending) (w':World):Prop:=∃ E:EvR,e=.returned (.tuple #[.agg (evA E),.int .i64 (evC l)])∧RowT.ok E w'∧Ext w w'∧(evC l=0→aLh l E)
theorem rtE {fn:Func} {p q:Tmp} {a:Act} {w W9 WF:World} {l:List UInt8} {cs:Array Value} (g:Nat) (E:EvR) (c:Int) (hB:Blk WF g 128 cs) (hcs:cs.size=46) (hX:Ext w WF) (hg:w.heap.size≤g) (h9:Hid (WF.setCells g 0 (RowT.enc E)=W9))
  (hoa:OwnB WF w.heap.size 5 E.a.A E.a.n E.a.c E.a.sig) (hob:OwnB WF w.heap.size 5 E.b.A E.b.n E.b.c E.b.sig) (wa:E.a.v.wf) (wb:E.b.v.wf) (hc:evC l=c) (hh:c=0→aLh l E)
  (hres:fn.results=#[.cell p 128,.tmp q]:=by rfl) (hp:a.tmps.getD p undef=.pointer (some ⟨g,0,none⟩):=by rfl) (hq:a.tmps.getD q undef=.int .i64 c:=by rfl) (hd:a.defers=[]:=by rfl):bodyPost prog fn (aLN w l) .ret a W9:=by
 exact vh
theorem aBQ (A:Option Addr) (n c:Nat) (l:List UInt8) (w:World) (hS:SlB w A n c l):Calls prog 127 #[.slice A n c] w (aLN w l):=by
 have hle:=hS.le
 have hlen:=hS.len
 obtain ⟨W,hW⟩:=gx (w.alloc (.cells ev0 128))
 have HB:=zh (show Blk W w.heap.size 128 ev0 from sk)
 have HE:=zh (show Ext w W from be)
 rcases Nat.lt_trichotomy n 786 with h | rfl | h
 ·have HC := zh (show evC l = 2 from by unfold evC; rw [hlen, if_pos h])
  have i1:(n:Int) < 786:=aa
  have HTH:W.there w.heap.size 0 (RowT.sz EvR):=aI HB.out
  go_enter func127,ntmps127
  go_wp2_with ((with_reducible refine bH evP rfl (.tmp 2) (.tmp 11) rfl w.heap.size 0 rfl zE (.agg ev0) uC rfl HTH ?_);intro W9 h9)
  exact rtE w.heap.size zE 2 HB.out rfl HE.out (Nat.le_refl _) h9 (OwnB.nil _ _ _) (OwnB.nil _ _ _) dB dB HC.out (fun h=>absurd h ae)
 ·have HS := zh hS
  obtain ⟨b,o,rfl,hr,-⟩:=hS.at aa
  have HD1:=zh (show SlB w (some ⟨b,o,none⟩) 393 c (l.take 393) from hS.upto aa)
  obtain ⟨A2,hA2⟩:∃ A2:Option Addr,(if c=393 then (some ⟨b,o,none⟩:Option Addr) else (some ⟨b,o,none⟩:Option Addr).map (·.add 393))=A2:=⟨_,rfl⟩
  have HD2:=zh (show SlB w A2 393 (c - 393) (l.drop 393) from by
   rw [← hA2,if_neg aa]
   exact hS.cut aa aa)
  obtain ⟨k1,hk1⟩:=gx (sdC (l.take 393))
  obtain ⟨k2,hk2⟩:=gx (sdC (l.drop 393))
  have HC:=zh (show evC l=if k1 ≠ 0 then k1 else k2 from by unfold evC;rw [hlen,if_neg aa,if_neg aa,hk1,hk2])
  have HC1:=zh (fun (V:World) (e:Ext w V)=>aAx _ 393 c (l.take 393) V (HD1.out.ext e))
  have HC2:=zh (fun (V:World) (e:Ext w V)=>aAx A2 393 (c - 393) (l.drop 393) V (HD2.out.ext e))
  have z2:¬ c=393:=aa
  rw [if_neg z2] at hA2
  have hA3:(some (⟨b,o+393,none⟩:Addr))=A2:=re
  go_enter func127,ntmps127
  go_wp2_with fail
  refine (HC1.out _ HE.out).mono ?_
  rintro e w1 ⟨S1,rfl,hok1,he1,hy1,hn1,ho1⟩
  rw [hk1] at hy1 hn1
  obtain ⟨v1,hv1⟩:=gx (Value.agg (sgA S1))
  have HV1:=zh hv1
  have HY1:=zh hy1
  have HOK1:=zh hok1
  have HO1:=zh (bA ho1 HE.out.size)
  have HX1:=zh (HE.out.trans he1)
  have HB1:=zh (HB.out.ext he1)
  obtain ⟨X,hX⟩:=gx (w1.heap.size)
  have HXS:=zh hX
  rw [hk1,hv1]
  clear hv1 hy1 hn1 hok1 ho1 he1 HB HE HC1 hX
  go_upto_region 6 with ((with_reducible refine aU sgP rfl (.tmp 4) (.tmp 21) rfl sg0 rfl S1 v1 HV1.out rfl rfl ?_);intro W4 h4)
  have hx4:Ext w1 W4:=qn
  have HX4:=zh (HX1.out.trans hx4)
  have HB4:=zh (HB1.out.ext hx4)
  have HO4:=zh (OwnB.ext HO1.out hx4)
  have HR1:=zh (show Blk W4 X 126 (sgA S1) from nl)
  try rw [HXS.out]
  have HTH:W4.there w.heap.size 0 (RowT.sz EvR):=aI HB4.out
  by_cases hk:k1=0
  ·subst hk
   have HC3:=zh (show evC l=k2 from dn)
   go_wp2_with fail
   try rw [hA3]
   refine (HC2.out _ HX4.out).mono ?_
   rintro e w5 ⟨S2,rfl,hok2,he5,hy2,hn2,ho2⟩
   rw [hk2] at hy2 hn2
   obtain ⟨v2,hv2⟩:=gx (Value.agg (sgA S2))
   have HV2:=zh hv2
   have HY2:=zh hy2
   have HOK2:=zh hok2
   have HO5:=zh (OwnB.ext HO4.out he5)
   have HO2:=zh (bA ho2 HX4.out.size)
   have HX5:=zh (HX4.out.trans he5)
   have HB5:=zh (HB4.out.ext he5)
   have HR5:=zh (HR1.out.ext he5)
   obtain ⟨Y,hY⟩:=gx (w5.heap.size)
   have HYS:=zh hY
   rw [hk2,hv2]
   clear hv2 hy2 hn2 hok2 ho2 he5 HX4 HB4 HO4 HR1 HC2 hY HTH
   go_upto_region 9 with ((with_reducible refine aU sgP rfl (.tmp 6) (.tmp 31) rfl sg0 rfl S2 v2 HV2.out rfl rfl ?_);intro W6 h6)
   have hx6:Ext w5 W6:=a8
   have HX6:=zh (HX5.out.trans hx6)
   have HB6:=zh (HB5.out.ext hx6)
   have HO6:=zh (OwnB.ext HO5.out hx6)
   have HP6:=zh (OwnB.ext HO2.out hx6)
   have HR6:=zh (HR5.out.ext hx6)
   have HR2:=zh (show Blk W6 Y 126 (sgA S2) from nk)
   try rw [HYS.out]
   have HTH:W6.there w.heap.size 0 (RowT.sz EvR):=aI HB6.out
   by_cases hk:k2=0
   ·subst hk
    have r1:W6.rangeAt X 0 (RowT.enc S1):=aC HR6.out
    have r2:W6.rangeAt Y 0 (RowT.enc S2):=aC HR2.out
    obtain ⟨vE,hvE⟩:=gx (Value.agg (evA ⟨S1,S2⟩))
    have HVE:=zh hvE
    have HBD:=zh (fun (V:World)=>aAz S1 S2 V)
    rw [HV1.out,HV2.out,hvE] at HBD
    go_wp2_with (first | (with_reducible refine aD sgP rfl (.tmp 4) rfl X 0 rfl S1 v1 HV1.out r1 ?_) | (with_reducible refine aD sgP rfl (.tmp 6) rfl Y 0 rfl S2 v2 HV2.out r2 ?_) | (with_reducible refine dV rfl (cV (vx:=v1) (vy:=v2) (.tmp 37) (.tmp 38) rfl rfl rfl HBD.out) ?_) | ((with_reducible refine bH evP rfl (.tmp 2) (.tmp 39) rfl w.heap.size 0 rfl ⟨S1,S2⟩ vE HVE.out rfl HTH ?_);intro W9 h9))
    exact rtE w.heap.size ⟨S1,S2⟩ 0 HB6.out rfl HX6.out (Nat.le_refl _) h9 HO6.out HP6.out HOK1.out.v HOK2.out.v HC3.out (fun _=>⟨(HY1.out dr).1,(HY1.out dr).2.2.2,(HY2.out dr).1,(HY2.out dr).2.2.2⟩)
   have b1:(k2 == 0)=false:=beq_eq_false_iff_ne.2 hk
   have b2:(k2 != 0)=true:=qa
   have b3:decide (k2=0)=false:=decide_eq_false hk
   have HK:=zh hk
   go_wp2_with ((with_reducible refine bH evP rfl (.tmp 2) (.tmp 35) rfl w.heap.size 0 rfl zE (.agg ev0) uC rfl HTH ?_);intro W9 h9)
   exact rtE w.heap.size zE k2 HB6.out rfl HX6.out (Nat.le_refl _) h9 (OwnB.nil _ _ _) (OwnB.nil _ _ _) dB dB HC3.out (fun h=>absurd h HK.out)
  have b1:(k1 == 0)=false:=beq_eq_false_iff_ne.2 hk
  have HK:=zh hk
  have HC3:=zh (show evC l=k1 from by rw [HC.out,if_pos hk])
  go_wp2_with ((with_reducible refine bH evP rfl (.tmp 2) (.tmp 25) rfl w.heap.size 0 rfl zE (.agg ev0) uC rfl HTH ?_);intro W9 h9)
  exact rtE w.heap.size zE k1 HB4.out rfl HX4.out (Nat.le_refl _) h9 (OwnB.nil _ _ _) (OwnB.nil _ _ _) dB dB HC3.out (fun h=>absurd h HK.out)
 have HC:=zh (show evC l=3 from by unfold evC;rw [hlen,if_neg aa,if_pos h])
 have i2:(n:Int) > 786:=aa
 have HTH:W.there w.heap.size 0 (RowT.sz EvR):=aI HB.out
 go_enter func127,ntmps127
 go_wp2_with ((with_reducible refine bH evP rfl (.tmp 2) (.tmp 16) rfl w.heap.size 0 rfl zE (.agg ev0) uC rfl HTH ?_);intro W9 h9)
 exact rtE w.heap.size zE 3 HB.out rfl HE.out (Nat.le_refl _) h9 (OwnB.nil _ _ _) (OwnB.nil _ _ _) dB dB HC.out (fun h=>absurd h ae)
def evU (PN:List UInt64) (R:OpR):Bool:=decide (evC R.prf=0) && (decide ((cZ ((R.prf.take 393).take 23)).si=R.va) && evV PN (cZ ((R.prf.take 393).take 23)) ((R.prf.take 393).drop 23) (cZ ((R.prf.drop 393).take 23)) ((R.prf.drop 393).drop 23))
theorem aHL (x:StpR) (R:OpR) (PN:List UInt64) (w:World) (hs:x.s.ok w) (hro:R.ok w) (hp:SlG w x.B1 x.m1 x.d1 PN) (hv:vOp R=true) (hk:R.k=6) :
  Calls prog 68 #[.agg (stpA x),.agg (opA R)] w fun e w'=>e=.returned (.int .i64 (dG x.m2 x.m1 x.ht cL (evU PN) x.ac R x.s.V))∧Ext w w':=by
 have HRO:=zh hro
 have HPP:=zh hp
 obtain ⟨hkk,-,-,-,-,-,hvb,-,-⟩:=jI hv
 obtain ⟨W,hW⟩:=gx ((w.alloc (.cells (stpA x) 70)).alloc (.cells (opA R) 52))
 have HP:=zh (show Blk W w.heap.size 70 (stpA x) from dj)
 have HO:=zh (show Blk W (w.heap.size+1) 52 (opA R) from ag)
 have HX:=zh (show Ext w W from ai)
 have rx:W.rangeAt w.heap.size 0 (RowT.enc x):=aC HP.out
 have p4:W.cell? ⟨w.heap.size+1,4,none⟩=some (.int .i64 R.va):=HO.out.cell 4
 have g2:W.cell? ⟨w.heap.size,2,none⟩=some (.slice x.B1 x.m1 x.d1):=HP.out.cell 2
 obtain ⟨vx,hvx⟩:=gx (Value.agg (stpA x))
 have HVX:=zh hvx
 obtain ⟨i,hi⟩:∃ i:Nat,R.va=(i:Int):=⟨R.va.toNat,aa⟩
 have HI:=zh hi
 have hi9:i≤9:=aa
 have HCH:=zh (show dG x.m2 x.m1 x.ht cL (evU PN) x.ac R x.s.V=if (x.m1:Int)≤R.va then 1 else if fA x.s.V.G R.va.toNat=true then 7 else if evU PN R=true then 0 else 12 from by
  unfold dG;rw [if_neg aa,if_neg aa,if_pos hk])
 obtain ⟨mg,hmg⟩:=gx (fA x.s.G i)
 have HEX:=zh (fun V=>sK x i V hi9)
 rw [hvx,hmg] at HEX
 have HMG:=zh (show fA x.s.V.G R.va.toNat=mg from by rw [hi,Int.toNat_natCast];exact hmg)
 rw [hi] at p4
 clear hs hro hp hv hvb hkk hk hvx hmg hi
 by_cases h1:(x.m1:Int)≤(i:Int)
 ·have HF := zh (show dG x.m2 x.m1 x.ht cL (evU PN) x.ac R x.s.V = 1 from by rw [HCH.out, HI.out, if_pos h1])
  have i1:(i:Int) ≥ (x.m1:Int):=h1
  go_enter func68,ntmps68
  go_wp2_with fail
  go_ret
  exact ⟨av,HX.out⟩
 have HCH2:=zh (show dG x.m2 x.m1 x.ht cL (evU PN) x.ac R x.s.V=if mg=true then 7 else if evU PN R=true then 0 else 12 from by rw [HCH.out,HI.out,if_neg h1,← HI.out,HMG.out])
 have i1:¬ (i:Int) ≥ (x.m1:Int):=h1
 go_enter func68,ntmps68
 go_wp2_with (with_reducible refine aD iQ rfl (.tmp 2) rfl w.heap.size 0 rfl x vx HVX.out rx ?_)
 refine zcl (HEX.out _) fun w1 he1=>?_
 have HP1:=zh (HP.out.ext he1)
 have HO1:=zh (HO.out.ext he1)
 have HX1:=zh (HX.out.trans he1)
 cases mg with
 | true =>
  have HF:=zh (show dG x.m2 x.m1 x.ht cL (evU PN) x.ac R x.s.V=7 from by rw [HCH2.out];rfl)
  go_wp2_with fail
  go_ret
  exact ⟨av,HX1.out⟩
 | false =>
  have HCH3:=zh (show dG x.m2 x.m1 x.ht cL (evU PN) x.ac R x.s.V=if evU PN R=true then 0 else 12 from by rw [HCH2.out];rfl)
  have p8:w1.cell? ⟨w.heap.size+1,22,none⟩=some (.slice R.A2 R.n2 R.c2):=HO1.out.cell 22
  go_wp2_with fail
  refine (aBQ R.A2 R.n2 R.c2 R.prf _ (HRO.out.prf.ext HX1.out)).mono ?_
  rintro e w2 ⟨E,rfl,hok,he2,hev⟩
  obtain ⟨kc,hkc⟩:=gx (evC R.prf)
  rw [hkc] at hev ⊢
  obtain ⟨vE,hvE⟩:=gx (Value.agg (evA E))
  rw [hvE]
  have HVE:=zh hvE
  have HEV:=zh hev
  have HKC:=zh hkc
  have HOK:=zh hok
  have HP2:=zh (HP1.out.ext he2)
  have HO2:=zh (HO1.out.ext he2)
  have HX2:=zh (HX1.out.trans he2)
  obtain ⟨X,hX⟩:=gx (w2.heap.size)
  have HXS:=zh hX
  clear p8 he2 HP1 HO1 HX1 hvE hev hkc hok hX
  go_upto_region 6 with ((with_reducible refine aU evP rfl (.tmp 5) (.tmp 22) rfl ev0 rfl E vE HVE.out rfl rfl ?_);intro W4 h4)
  have hx4:Ext w2 W4:=qm
  have HX4:=zh (HX2.out.trans hx4)
  have HOK4:=zh (show RowT.ok E W4 from RowT.ext E w2 W4 HOK.out hx4)
  have HR4:=zh (show Blk W4 X 128 (evA E) from nr)
  have p4:W4.cell? ⟨w.heap.size+1,4,none⟩=some (.int .i64 i):=by rw [← HI.out];exact (HO2.out.ext hx4).cell 4
  have g2:W4.cell? ⟨w.heap.size,2,none⟩=some (.slice x.B1 x.m1 x.d1):=(HP2.out.ext hx4).cell 2
  have x4:W4.cell? ⟨X,4,none⟩=some (.int .i64 E.a.v.si):=HR4.out.cell 4
  have rE:W4.rangeAt X 0 (RowT.enc E):=aC HR4.out
  try rw [HXS.out]
  by_cases h1:kc=0
  ·subst h1
   obtain ⟨f1,f2,f3,f4⟩:=HEV.out rfl
   obtain ⟨si,hsi⟩:=gx (E.a.v.si)
   obtain ⟨z,hz⟩:=gx (evV PN E.a.v E.a.sig E.b.v E.b.sig)
   have HU:=zh (show evU PN R=(decide (si=(i:Int)) && z) from by
    unfold evU
    rw [HKC.out,← f1,← f2,← f3,← f4,hz,hsi,HI.out];rfl)
   have HVL:=zh (aDM x.B1 x.m1 x.d1 PN E W4 (HPP.out.ext HX4.out) HOK4.out)
   rw [hz,HVE.out] at HVL
   rw [hsi] at x4
   by_cases h2:si=(i:Int)
   ·subst h2
    have HU2:=zh (show evU PN R=z from by rw [HU.out,decide_eq_true rfl];rfl)
    go_wp2_with (with_reducible refine aX evP ay (.tmp 5) rfl X 0 rfl E vE HVE.out rE ?_)
    refine zcl HVL.out fun w5 he5=>?_
    have HX5:=zh (HX4.out.trans he5)
    cases z
    ·have HF := zh (show dG x.m2 x.m1 x.ht cL (evU PN) x.ac R x.s.V = 12 from by rw [HCH3.out, HU2.out]; rfl)
     go_wp2_with fail
     go_ret
     exact ⟨av,HX5.out⟩
    have HF:=zh (show dG x.m2 x.m1 x.ht cL (evU PN) x.ac R x.s.V=0 from by rw [HCH3.out,HU2.out];rfl)
    go_wp2_with fail
    go_ret
    exact ⟨av,HX5.out⟩
   have HF:=zh (show dG x.m2 x.m1 x.ht cL (evU PN) x.ac R x.s.V=12 from by rw [HCH3.out,HU.out,decide_eq_false h2];rfl)
   have b1:(si == (i:Int))=false:=beq_eq_false_iff_ne.2 h2
   have b3:decide (si=(i:Int))=false:=decide_eq_false h2
   go_wp2_with fail
   go_ret
   exact ⟨av,HX4.out⟩
  have HF:=zh (show dG x.m2 x.m1 x.ht cL (evU PN) x.ac R x.s.V=12 from by
   rw [HCH3.out]
   unfold evU
   rw [HKC.out,decide_eq_false h1];rfl)
  go_wp2_with fail
  go_ret
  exact ⟨av,HX4.out⟩
theorem aHa {w:World} {e:TypeId} {size n:Nat} {cs:Array Value} (hc:cs.size=n * size) (hn:n≤9223372036854775807):(w.alloc (.cells cs e)).ownsRow w.heap.size e size (.slice (some ⟨w.heap.size,0,none⟩) n n) n cs.toList :=
 ⟨by rw [Array.length_toList,hc],.inr ⟨w.heap.size,n,cs,rfl,Nat.le_refl _,heap_alloc_new w _,Nat.le_refl _,hn,hc,by rw [← hc,← Array.length_toList];exact List.take_length⟩⟩
theorem aKv (L:List Int):gcs L=ics L:=by
 induction L with
 | nil=>rfl
 | cons x r ih=>rw [dK,ih];rfl
theorem aKt (n:Nat) (hn:n≤1000) (w:World):(Instr.makeSlice 23 (.int .i64 (n:Int)) (.int .i64 (n:Int))).run prog w=.ok (.slice (some ⟨w.heap.size,0,none⟩) n n) (w.alloc (.cells (gcs (List.replicate n (0:Int))).toArray 3)):=by
 obtain ⟨i,hi,hz,hs,hby⟩:=inE.get
 have h:=run_make (P:=prog) w 23 3 i (.int .i64 0) inE.ut hi hz .i64 .i64 n n aa aa f7 aa
 rw [hs,Nat.mul_one,Int.toNat_natCast] at h
 have e:madeCells (Value.int .i64 0).cells n=(gcs (List.replicate n (0:Int))).toArray:=by
  rw [aKv]
  unfold ics madeCells
  rw [List.map_replicate]
  apply Array.ext
  ·simp
  intro j h1 h2
  simp [Value.cells,iv,Nat.mod_one]
 rw [e] at h
 exact h
def rA (BL:List Int) (n:Nat):List DeR:=(List.range n).foldl (fun C (i:Nat)=>eB C (aV (i:Int)) (aS BL i)) []
def yV (Z:Int) (C:List DeR) (n:Nat):List DeR:=(List.range n).foldl (fun C (i:Nat)=>eB C (bY (i:Int)) Z) C
theorem aAR (BL:List Int) (n:Nat):rA BL (n+1)=eB (rA BL n) (aV (n:Int)) (aS BL n):=by unfold rA;rw [List.range_succ,List.foldl_append];rfl
theorem aAu (Z:Int) (C:List DeR) (n:Nat):yV Z C (n+1)=eB (yV Z C n) (bY (n:Int)) Z:=by unfold yV;rw [List.range_succ,List.foldl_append];rfl
theorem aEg (BL:List Int) (n:Nat):(rA BL n).length≤n:=by
 induction n with
 | zero=>exact Nat.le_refl _
 | succ n ih=>rw [aAR];have:=sW (rA BL n) (aV (n:Int)) (aS BL n);omega
theorem aIh (Z:Int) (C:List DeR) (n:Nat):(yV Z C n).length≤C.length+n:=by
 induction n with
 | zero=>exact Nat.le_refl _
 | succ n ih=>rw [aAu];have:=sW (yV Z C n) (bY (n:Int)) Z;omega
def aLu (m2:Nat) (BL:List Int) (Z:Int) (m1:Nat):StV:=⟨yV Z (rA BL BL.length) m1,List.replicate m2 0,[],[],0⟩
theorem aGW (N Z:Int) (B1:Option Addr) (m1 d1:Nat) (B2:Option Addr) (m2 d2:Nat) (B3:Option Addr) (m3 d3:Nat) (BL:List Int) (w:World) (hB:SlG w B3 m3 d3 BL) (hz:wfI Z) (h1:m1≤1000) (h2:m2≤1000) (h3:m3≤1000) :
  Calls prog 13 #[.agg (genC N Z B1 m1 d1 B2 m2 d2 B3 m3 d3)] w (jB w (aLu m2 BL Z m1)):=by
 obtain ⟨W,hW⟩:=gx ((w.alloc (.cells (genC N Z B1 m1 d1 B2 m2 d2 B3 m3 d3) 25)).alloc (.cells #[.slice none 0 0,.slice none 0 0,.slice none 0 0,.slice none 0 0,.int .i64 0] 30))
 have HG:=zh (show Blk W w.heap.size 25 (genC N Z B1 m1 d1 B2 m2 d2 B3 m3 d3) from by rw [← hW];exact (Blk.new w 25 (genC N Z B1 m1 d1 B2 m2 d2 B3 m3 d3)).alloc _)
 have HR:=zh (show Blk W (w.heap.size+1) 30 (ssA ss0) from ag)
 have HE:=zh (show Ext w W from ai)
 have HWS:W.heap.size=w.heap.size+2:=kf
 have HBL:=zh hB
 have HLEN:=zh hB.len
 have HZW:=zh hz
 have hle:=hB.le
 have hcap:=hB.cap
 have g2:=HG.out.cell 2
 have g3:=HG.out.cell 3
 have g4:=HG.out.cell 4
 have hmk:=aKt m2 h2
 clear hB hz
 go_enter func13,ntmps13
 go_upto_region 2 with fail
 obtain ⟨sg,hsg⟩:∃ sg:StR,(⟨none,0,0,[],some ⟨w.heap.size+2,0,none⟩,m2,m2,List.replicate m2 0,none,0,0,[],none,0,0,[],0⟩:StR)=sg:=⟨_,rfl⟩
 obtain ⟨W1,hW1⟩:=gx ((W.alloc (.cells (gcs (List.replicate m2 (0:Int))).toArray 3)).alloc (.cells #[.slice none 0 0,.slice (some ⟨w.heap.size+2,0,none⟩) m2 m2,.slice none 0 0,.slice none 0 0,.int .i64 0] 30))
 rw [hW1]
 have HX1:=zh (show Ext W W1 from by rw [← hW1];exact ((Ext.refl W).alloc' _).alloc' _)
 have HG1:=zh (HG.out.ext HX1.out)
 have HR1:=zh (HR.out.ext HX1.out)
 have HS1:=zh (show StB w W1 (w.heap.size+3) sg from by
  refine ⟨?_,?_,HE.out.trans HX1.out,aa⟩
  ·rw [← hW1,← hsg];exact Blk.newAt _ _ _ _ gj
  rw [← hsg]
  refine ⟨World.ownsRow_nil _ _ _ _,?_,World.ownsRow_nil _ _ _ _,World.ownsRow_nil _ _ _ _,fun d hd=>by (cases hd),fun z hz=>by (rw [List.eq_of_mem_replicate hz];exact (wfS ⟨ae,ae⟩:wfI (0:Int))),fun d hd=>by (cases hd),(wfS ⟨ae,ae⟩:wfI (0:Int))⟩
  have h9:=aHa (w:=W) (e:=3) (size:=1) (n:=m2) (cs:=(gcs (List.replicate m2 (0:Int))).toArray) (by rw [List.size_toArray,aJ,List.length_replicate];rfl) aa
  rw [List.toList_toArray,HWS] at h9
  rw [← hW1]
  exact bA (bC h9 ((Ext.refl _).alloc' _)) aa)
 have HV1:=zh (show sg.V=(⟨rA BL 0,List.replicate m2 0,[],[],0⟩:StV) from by rw [← hsg];rfl)
 clear g2 g3 g4 hmk hsg hW1 hW HG HR HE HX1
 go_wp2_with fail
 go_loopw [4] (fun vi wr=>∃ (k:Nat) (s:StR),vi=.int .i64 (k:Int)∧k≤m3∧Hid (StB w wr (w.heap.size+3) s)∧Hid (Blk wr w.heap.size 25 (genC N Z B1 m1 d1 B2 m2 d2 B3 m3 d3))∧Hid (Blk wr (w.heap.size+1) 30 (ssA ss0))∧Hid (s.V=(⟨rA BL k,List.replicate m2 0,[],[],0⟩:StV))) (fun i _=>m3 - (intOf i).toNat)
 case atStart=>exact ⟨0,sg,rfl,Nat.zero_le _,HS1,HG1,HR1,HV1⟩
 case round =>
  clear HS1 HG1 HR1 HV1
  obtain ⟨k,s,rfl,hk,HS,HG,HR,HV⟩:=hrel
  have g4:wr.cell? ⟨w.heap.size,4,none⟩=some (.slice B3 m3 d3):=HG.out.cell 4
  by_cases hlt:k < m3
  ·have i0 : (0 : Int) ≤ (k : Int) := aa
   have i1:(k:Int) < (m3:Int):=aa
   obtain ⟨b,o,hab,-,-⟩:=HBL.out.at aa
   subst hab
   have HCB:=zh (fun (V:World) (e:Ext w V)=>show V.cell? ⟨b,o+k,none⟩=some (.int .i64 (aS BL k)) from by
    obtain ⟨b2,o2,e2,hr2,-⟩:=(HBL.out.ext e).at aa
    injection e2 with e3
    injection e3 with e4 e5
    subst e4
    subst e5
    have h5:=cN (k:=k) hr2 ak
    have h7:=h5 0 _ rfl
    rwa [show RowT.sz Int=1 from rfl,Nat.mul_one,Nat.add_zero] at h7)
   have HCW:=zh (show ceW (aV (k:Int)) from dP (k:=1) (wfS ⟨aa,aa⟩) (wfS ⟨aa,aa⟩))
   have HAW:=zh (show wfI (aS BL k) from HBL.out.nth hlt)
   have HBD:=zh (show s.n1≤1000000∧s.n2≤1000000∧s.n3≤1000000∧s.n4≤1000000 from by
    have m1':=HS.out.own.l1;have m2':=HS.out.own.l2;have m3':=HS.out.own.l3;have m4':=HS.out.own.l4
    have hv:=HV.out
    rw [show s.C=rA BL k from congrArg StV.C hv] at m1'
    rw [show s.Q=List.replicate m2 0 from congrArg StV.Q hv,List.length_replicate] at m2'
    rw [show s.K=[] from congrArg StV.K hv] at m3'
    rw [show s.P=[] from congrArg StV.P hv] at m4'
    have h5:=aEg BL k
    simp only [List.length_nil] at m3' m4'
    omega)
   have HS6:=zh (HS.out.ext ((Ext.refl wr).drew'))
   have HG6:=zh (HG.out.ext ((Ext.refl wr).drew'))
   have HR6:=zh (HR.out.ext ((Ext.refl wr).drew'))
   have HX6:=zh HS6.out.low
   go_upto_region 5 with fail
   clear g4
   refine wp_region_held_drew (S:=fun _=>True) ab (trivial) (fun aA=>?_)
   refine zzr [1,3,5] ?_
   refine zzj (VE 0 (.agg (ssA s)) (VE 2 (.agg (ceA (aV (k:Int)))) (VE 4 (.slice (some ⟨b,o,none⟩) m3 d3) (VE 6 (.pointer (some ⟨b,o+k,none⟩)) (VE 7 (.int .i64 (aS BL k)) (VV 8 (fun v V=>∃ s2,v=.agg (ssA s2)∧OwnS V w.heap.size s2∧s2.V=⟨eB s.C (aV (k:Int)) (aS BL k),s.Q,s.K,s.P,s.G⟩) VN)))))) [(0,some 18),(2,some 20),(4,some 22),(6,some 24),(7,some 25),(8,some 26)] 1 (fun _ _ h _=>h) (ve (ve (ve (ve (ve (VV.ext (fun v w w' ⟨s2,h1,h2,h3⟩ e=>⟨s2,h1,h2.ext e,h3⟩) VN.ext)))))) (zzc ?_ (zzc ?_ (zzc ?_ (zzc ?_ (zzc ?_ (zzc ?_ zzn)))))) ?_
   ·exact Cd
   ·refine zzp fun W hE hS K hK => ?_
    go_simp
    go_at_call 21
    refine zcl (dC (k:Int) _) fun w5 he5=>?_
    exact zzK (hK.out (.agg (ceA (aV (k:Int)))) _ (he5) (rfl))
   ·refine zzp fun W hE hS K hK => ?_
    have g4:W.cell? ⟨w.heap.size,4,none⟩=some (.slice (some ⟨b,o,none⟩) m3 d3):=(HG6.out.ext hE).cell 4
    go_simp
    exact zzF hK (.slice (some ⟨b,o,none⟩) m3 d3)
   ·refine zm [(4, some 22)] fun env W hE hS hD K hK => ?_
    obtain ⟨h4,-⟩:=zzV hD
    clear hD
    simp only [aR,h4] at hK ⊢
    clear h4
    go_simp
    exact zzF hK (.pointer (some ⟨b,o+k,none⟩))
   ·refine zm [(6, some 24)] fun env W hE hS hD K hK => ?_
    obtain ⟨h6,-⟩:=zzV hD
    clear hD
    simp only [aR,h6] at hK ⊢
    clear h6
    have c9:=HCB.out W (HX6.out.trans hE)
    go_simp
    exact zzF hK (.int .i64 (aS BL k))
   ·refine zm [(0, some 18), (2, some 20), (7, some 25)] fun env W hE hS hD K hK => ?_
    obtain ⟨h0,h2,h7,-⟩:=zzV hD
    clear hD
    simp only [aR,h0,h2,h7] at hK ⊢
    clear h0 h2 h7
    go_simp
    go_at_call 17
    refine (mM s (aV (k:Int)) (aS BL k) _ (HS6.out.own.ok.ext hE) HCW.out HAW.out HBD.out).mono ?_
    exact AR
   intro env W hE hS hV
   obtain ⟨h0,h2,h4,h6,h7,h8,-⟩:=zzV hV
   clear hV
   simp only [aR,h0,h2,h4,h6,h7]
   clear h0 h2 h4 h6 h7
   generalize env 8=x8 at h8 ⊢
   obtain ⟨s2,rfl,ho2,hv2⟩:=h8
   have aA:=hS
   refine za 9 (fun K hK=>?_)
   (refine bQ rfl (.tmp 3) (.tmp 26) dp (w.heap.size+3) (.agg (ssA s2)) s2 rfl dp dp (HS6.out.blk.ext hE) ?_;intro W9 h9)
   refine hK.out _ _ (trivial) (fun aA=>?_)
   clear hK K
   try simp only [bB]
   refine wpd ?_
   have HF:=zh (show StB w W9 (w.heap.size+3) s2 from kg)
   have HGF:=zh (show Blk W9 w.heap.size 25 (genC N Z B1 m1 d1 B2 m2 d2 (some ⟨b,o,none⟩) m3 d3) from lr)
   have HRF:=zh (show Blk W9 (w.heap.size+1) 30 (ssA ss0) from gn)
   have HVF:=zh (show s2.V=(⟨rA BL (k+1),List.replicate m2 0,[],[],0⟩:StV) from by
    have hh:=HV.out
    rw [hv2,aAR,show s.C=_ from congrArg StV.C hh,show s.Q=_ from congrArg StV.Q hh,show s.K=_ from congrArg StV.K hh,show s.P=_ from congrArg StV.P hh,show s.G=_ from congrArg StV.G hh])
   exact ya
  obtain rfl:m3=k:=aa
  have i1:¬ (m3:Int) < (m3:Int):=aa
  have HV2:=zh (show s.V=(⟨yV Z (rA BL BL.length) 0,List.replicate m2 0,[],[],0⟩:StV) from by rw [HV.out,HLEN.out];rfl)
  obtain ⟨s9,hs9⟩:=gx (s)
  subst hs9
  go_upto_region 6 with fail
  clear g4
  go_wp2_with fail
  obtain ⟨W0,rfl⟩:∃ W0,W0=wr:=⟨_,rfl⟩
  go_loopw [5] (fun vi wr=>∃ (k:Nat) (s:StR),vi=.int .i64 (k:Int)∧k≤m1∧Hid (StB w wr (w.heap.size+3) s)∧Hid (Blk wr w.heap.size 25 (genC N Z B1 m1 d1 B2 m2 d2 B3 m3 d3))∧Hid (Blk wr (w.heap.size+1) 30 (ssA ss0))∧Hid (s.V=(⟨yV Z (rA BL BL.length) k,List.replicate m2 0,[],[],0⟩:StV))) (fun i _=>m1 - (intOf i).toNat)
  case atStart=>exact ⟨0,s,rfl,Nat.zero_le _,HS,HG,HR,HV2⟩
  case round =>
   clear HS HG HR HV HV2
   obtain ⟨k,s,rfl,hk2,HS,HG,HR,HV⟩:=hrel
   have g2:wr.cell? ⟨w.heap.size,2,none⟩=some (.slice B1 m1 d1):=HG.out.cell 2
   by_cases hlt:k < m1
   ·have i0 : (0 : Int) ≤ (k : Int) := aa
    have i2:(k:Int) < (m1:Int):=aa
    have HCW:=zh (show ceW (bY (k:Int)) from dP (k:=3) (wfS ⟨aa,aa⟩) (wfS ⟨aa,aa⟩))
    have HAW:=HZW
    have HBD:=zh (show s.n1≤1000000∧s.n2≤1000000∧s.n3≤1000000∧s.n4≤1000000 from by
     have m1':=HS.out.own.l1;have m2':=HS.out.own.l2;have m3':=HS.out.own.l3;have m4':=HS.out.own.l4
     have hv:=HV.out
     rw [show s.C=yV Z (rA BL BL.length) k from congrArg StV.C hv] at m1'
     rw [show s.Q=List.replicate m2 0 from congrArg StV.Q hv,List.length_replicate] at m2'
     rw [show s.K=[] from congrArg StV.K hv] at m3'
     rw [show s.P=[] from congrArg StV.P hv] at m4'
     have h5:=aEg BL BL.length;have h6:=aIh Z (rA BL BL.length) k;have h7:=HLEN.out
     simp only [List.length_nil] at m3' m4'
     omega)
    have HS6:=zh (HS.out.ext ((Ext.refl wr).drew'))
    have HG6:=zh (HG.out.ext ((Ext.refl wr).drew'))
    have HR6:=zh (HR.out.ext ((Ext.refl wr).drew'))
    have HX6:=zh HS6.out.low
    go_upto_region 9 with fail
    clear g2
    refine wp_region_held_drew (S:=fun _=>True) ab (trivial) (fun aA=>?_)
    refine zzr [1,3] ?_
    refine zzj (VE 0 (.agg (ssA s)) (VE 2 (.agg (ceA (bY (k:Int)))) (VE 4 (.int .i64 Z) (VV 5 (fun v V=>∃ s2,v=.agg (ssA s2)∧OwnS V w.heap.size s2∧s2.V=⟨eB s.C (bY (k:Int)) (Z),s.Q,s.K,s.P,s.G⟩) VN)))) [(0,some 34),(2,some 36),(4,some 38),(5,some 39)] 1 (fun _ _ h _=>h) (ve (ve (ve (VV.ext (fun v w w' ⟨s2,h1,h2,h3⟩ e=>⟨s2,h1,h2.ext e,h3⟩) VN.ext)))) (zzc ?_ (zzc ?_ (zzc ?_ (zzc ?_ zzn)))) ?_
    ·exact Cd
    ·refine zzp fun W hE hS K hK => ?_
     exact BH
    ·refine zzp fun W hE hS K hK => ?_
     have g1:W.cell? ⟨w.heap.size,1,none⟩=some (.int .i64 Z):=(HG6.out.ext hE).cell 1
     go_simp
     exact zzF hK (.int .i64 Z)
    ·refine zm [(0, some 34), (2, some 36), (4, some 38)] fun env W hE hS hD K hK => ?_
     obtain ⟨h0,h2,h4,-⟩:=zzV hD
     clear hD
     simp only [aR,h0,h2,h4] at hK ⊢
     clear h0 h2 h4
     go_simp
     go_at_call 17
     refine (mM s (bY (k:Int)) (Z) _ (HS6.out.own.ok.ext hE) HCW.out HAW.out HBD.out).mono ?_
     exact AR
    intro env W hE hS hV
    obtain ⟨h0,h2,h4,h5,-⟩:=zzV hV
    clear hV
    simp only [aR,h0,h2,h4]
    clear h0 h2 h4
    generalize env 5=x5 at h5 ⊢
    obtain ⟨s2,rfl,ho2,hv2⟩:=h5
    have aA:=hS
    refine za 6 (fun K hK=>?_)
    (refine bQ rfl (.tmp 3) (.tmp 39) dp (w.heap.size+3) (.agg (ssA s2)) s2 rfl dp dp (HS6.out.blk.ext hE) ?_;intro W9 h9)
    refine hK.out _ _ (trivial) (fun aA=>?_)
    clear hK K
    try simp only [bB]
    refine wpd ?_
    have HF:=zh (show StB w W9 (w.heap.size+3) s2 from kg)
    have HGF:=zh (show Blk W9 w.heap.size 25 (genC N Z B1 m1 d1 B2 m2 d2 B3 m3 d3) from lr)
    have HRF:=zh (show Blk W9 (w.heap.size+1) 30 (ssA ss0) from gn)
    have HVF:=zh (show s2.V=(⟨yV Z (rA BL BL.length) (k+1),List.replicate m2 0,[],[],0⟩:StV) from by
     have hh:=HV.out
     rw [hv2,aAu,show s.C=_ from congrArg StV.C hh,show s.Q=_ from congrArg StV.Q hh,show s.K=_ from congrArg StV.K hh,show s.P=_ from congrArg StV.P hh,show s.G=_ from congrArg StV.G hh])
    exact ya
   obtain rfl:m1=k:=aa
   have i2:¬ (m1:Int) < (m1:Int):=aa
   go_upto_region 10 with fail
   clear g2
   have HF:=HS
   have HRF:=HR
   obtain ⟨q0,q1,q2,q3,q4⟩:=aE HF.out.blk
   go_wp2_with ((with_reducible refine aH rfl (.tmp 2) (.tmp 40) rfl (w.heap.size+1) (s) rfl rfl HRF.out ?_);intro W9 h9)
   exact rtS _ _ HF.out HRF.out aa h9 (HV.out)
theorem aGK (seed pb:UInt64) (ac sq:Int) (L:List OpR) (hpb:mB seed 1=pb) (hl:aFF L) (hv:vTx ac sq L=true) (T:TxR) (hT:aJH T) (e:T.v=(ac,sq,L.map OpR.v,yW seed sq.toNat (cG ac sq L))):vSg pb T=true:=by
 obtain ⟨hh,_⟩:=dX hv
 obtain ⟨nm,hnm⟩:=gx (cG ac sq L)
 have hsq:((sq.toNat:Nat):Int)=sq:=aa
 obtain ⟨s,h1,_,h3,h4,_⟩:=aGN seed nm 1 sq.toNat (.inl ⟨rfl,aa⟩)
 rw [hsq,aFR seed nm hh.2.2.1 hh.2.2.2.1] at h1
 injection h1 with h1
 rw [hpb] at h4
 rw [hnm] at e
 unfold TxR.v at e
 injection e with e1 e
 injection e with e2 e
 injection e with e3 e4
 have hn:=congrArg List.length e3
 rw [List.length_map,List.length_map] at hn
 have hvt:vTx T.ac T.sq T.L=true:=by
  rw [aLm (fun R hR=>aLn (hT.1 R hR).1 (hT.1 R hR).2),e1,e2,e3,← aLm (fun R hR=>aLn (hl R hR).1 (hl R hR).2)]
  exact hv
 have hnt:cG T.ac T.sq T.L=nm:=by
  rw [← hnm]
  unfold cG
  rw [hvt,hv]
  unfold nT
  rw [aJq e3,hn,e1,e2]
 unfold vSg
 rw [hvt,hnt,e4,h1,h4,h3,hsq,e2]
 simp
def nA:UInt64:=144115188075855872
theorem yY:nmc nA=#[.int .u8 2,.int .u8 0,.int .u8 0,.int .u8 0,.int .u8 0,.int .u8 0,.int .u8 0,.int .u8 0]:=by kernel_rfl
theorem aIp (a b:UInt64) (w:World):(Instr.buildSlice 22 2 #[(0,.agg (nmc a)),(1,.agg (nmc b))]).run prog w=.ok (.slice (some ⟨w.heap.size,0,none⟩) 2 2) (w.alloc (.cells (nmc a ++ nmc b) 50)):=by
 rw [← gI a,← gI b];kernel_rfl
section
variable {ops:Array Oper} {rest:List Oper} {o:Oper} {a:Act} {w:World} {K:Act→World→Prop} {Q:Exit→Act→World→Prop}
theorem aEl (hgd:o.guard=none) {ty e:TypeId} (x y:Operand) (ho:o.op=.buildSlice ty 2 #[(0,x),(1,y)]) {vx vy:Value} {cs:Array Value} (hx:a.eval x=vx) (hy:a.eval y=vy) (hr:(Instr.buildSlice ty 2 #[(0,vx),(1,vy)]).run prog w=.ok (.slice (some ⟨w.heap.size,0,none⟩) 2 2) (w.alloc (.cells cs e)))
  (h:∀ (g:Nat) (W2:World),Hid (Blk W2 g e cs∧Ext w W2)→wpList prog ops Q rest (a.put o.dst (.slice (some ⟨g,0,none⟩) 2 2)) W2):wpList prog ops Q (o :: rest) a w :=
 qB hgd (yH x y ho hx hy hr) (h _ _ (zh ⟨Blk.new w e cs,(Ext.refl w).alloc' _⟩))
theorem wE (hgd:o.guard=none) (x y:Operand) (ho:o.op=.store 25 x y) (g:Nat) (N Z:Int) (B1:Option Addr) (m1 d1:Nat) (B2:Option Addr) (m2 d2:Nat) (B3:Option Addr) (m3 d3:Nat) (hx:a.eval x=.pointer (some ⟨g,0,none⟩)) (hy:a.eval y=.agg (genC N Z B1 m1 d1 B2 m2 d2 B3 m3 d3)) {cs:Array Value} (hcs:cs.size=5) (hb:Blk w g 25 cs)
  (h:∀ W,Hid (Blk W g 25 (genC N Z B1 m1 d1 B2 m2 d2 B3 m3 d3)∧w.setCells g 0 (genC N Z B1 m1 d1 B2 m2 d2 B3 m3 d3).toList=W)→wpList prog ops Q rest (a.put o.dst undef) W):wpList prog ops Q (o :: rest) a w :=
 wpList_store_mid hgd 25 x y ho g 0 (genC N Z B1 m1 d1 B2 m2 d2 B3 m3 d3) hx hy (by have:=aI hb;rw [hcs] at this;exact this) (by kernel_rfl) (by simp [Value.oneCell']) (h _ (zh ⟨aN (ds:=genC N Z B1 m1 d1 B2 m2 d2 B3 m3 d3) hb (by rw [hcs];rfl),rfl⟩))
end
def aNX (w:World) (e:Ending) (w':World):Prop:=∃ B1 B2 B3:Option Addr,e=.returned (.agg (genC 1 3 B1 1 1 B2 2 2 B3 2 2))∧SlG w' B2 2 2 [mB eU 1,mB nA 1]∧SlG w' B3 2 2 [(5:Int),0]∧SlG w' B1 1 1 [eU]∧Ext w w'
theorem aAe (w:World):Calls prog 12 #[] w (aNX w):=by
 obtain ⟨W,hW⟩:=gx (w.alloc (.cells #[.int .i64 0,.int .i64 0,.slice none 0 0,.slice none 0 0,.slice none 0 0] 25))
 have HB:=zh (show Blk W w.heap.size 25 #[.int .i64 0,.int .i64 0,.slice none 0 0,.slice none 0 0,.slice none 0 0] from by rw [← hW];exact Blk.new w _ _)
 have HE:=zh (show Ext w W from be)
 obtain ⟨k1,hk1⟩:=gx (mB eU 1)
 obtain ⟨k2,hk2⟩:=gx (mB nA 1)
 have HP1:=zh (fun (V:World)=>pR eU 1 V)
 have HP2:=zh (fun (V:World)=>pR nA 1 V)
 rw [hk1,lZ] at HP1
 rw [hk2,yY] at HP2
 have HBN:=zh (fun (V:World)=>aIp k1 k2 V)
 obtain ⟨v1,hv1⟩:=gx (Value.agg (nmc k1))
 obtain ⟨v2,hv2⟩:=gx (Value.agg (nmc k2))
 rw [hv1] at HP1
 rw [hv2] at HP2
 rw [hv1,hv2] at HBN
 obtain ⟨W1,hW1⟩:=gx (W.alloc (.cells #[.int .u8 1,.int .u8 0,.int .u8 0,.int .u8 0,.int .u8 0,.int .u8 0,.int .u8 0,.int .u8 0] 50))
 obtain ⟨X,hX⟩:=gx (W.heap.size)
 have HX:=zh (show Blk W1 X 50 (nmc eU) from by rw [← hW1,← hX,lZ];exact Blk.new W _ _)
 have HE1:=zh (show Ext W W1 from by rw [← hW1];exact (Ext.refl W).alloc' _)
 have HXE:=zh hX
 have HK1:=zh hk1
 have HK2:=zh hk2
 show Calls _ _ _ _ (fun e w'=>∃ B1 B2 B3:Option Addr,e=.returned (.agg (genC 1 3 B1 1 1 B2 2 2 B3 2 2))∧SlG w' B2 2 2 [mB eU 1,mB nA 1]∧SlG w' B3 2 2 [(5:Int),0]∧SlG w' B1 1 1 [eU]∧Ext w w')
 rw [hk1,hk2]
 clear hk1 hk2 hv1 hv2 hX
 go_enter func12,ntmps12
 go_wp2_with fail
 try rw [hW1]
 rw [HXE.out]
 clear hW1
 refine zcl (HP1.out _) fun w1 he1=>?_
 have HA1:=zh (HE1.out.trans he1)
 have HX1:=zh (HX.out.ext he1)
 clear he1
 go_wp2_with fail
 refine zcl (HP2.out _) fun w2 he2=>?_
 have HA2:=zh (HA1.out.trans he2)
 have HX2:=zh (HX1.out.ext he2)
 clear he2
 have HZ2:=zh (HB.out.ext HA2.out)
 go_wp2_with (first | ((with_reducible refine aEl (vx:=v1) (vy:=v2) rfl (.tmp 4) (.tmp 6) rfl rfl rfl (HBN.out _) ?_);intro g3 W3 h3;obtain ⟨W4,hW4⟩:=gx (W3.alloc (.cells #[.int .i64 5,.int .i64 0] 3));have HE4:=zh (show Ext W3 W4 from by rw [← hW4];exact (Ext.refl W3).alloc' _);have HI4:=zh (show Blk W4 W3.heap.size 3 #[.int .i64 5,.int .i64 0] from by rw [← hW4];exact Blk.new W3 _ _);have HZ4:=zh ((HZ2.out.ext h3.out.2).ext HE4.out)) | ((try rw [hW4]);(with_reducible refine wE rfl (.tmp 0) (.tmp 9) rfl w.heap.size 1 3 (some ⟨X,0,none⟩) 1 1 (some ⟨g3,0,none⟩) 2 2 (some ⟨W3.heap.size,0,none⟩) 2 2 rfl rfl rfl HZ4.out ?_);intro W5 h5))
 have hZ:=HZ4.out
 have hb1:Blk W4 X 50 (nmc eU):=(HX2.out.ext h3.out.2).ext HE4.out
 have hb2:Blk W4 g3 50 (nmc k1 ++ nmc k2):=h3.out.1.ext HE4.out
 have hb3:=HI4.out
 have hA:Ext w W4:=HE.out.trans (HA2.out.trans (h3.out.2.trans HE4.out))
 have hst:=h5.out.1
 have h55:=h5.out.2
 have c1:Blk W5 X 50 (nmc eU):=by rw [← h55];exact hb1.setCells_far (aFu hb1 hZ ae) _ _
 have c2:Blk W5 g3 50 (nmc k1 ++ nmc k2):=by rw [← h55];exact hb2.setCells_far (aFu hb2 hZ ae) _ _
 have c3:Blk W5 W3.heap.size 3 #[.int .i64 5,.int .i64 0]:=by rw [← h55];exact hb3.setCells_far (aFu hb3 hZ ae) _ _
 have c4:Ext w W5:=by rw [← h55];exact Below.setCells' hA (Nat.le_refl _) _ _
 refine bodyPost_ret (v:=.agg (genC 1 3 (some ⟨X,0,none⟩) 1 1 (some ⟨g3,0,none⟩) 2 2 (some ⟨W3.heap.size,0,none⟩) 2 2)) (fP rfl _ _ w.heap.size _ rfl (run_loadVar_row _ _ _ _ _ (0,0) _ hst underlying25 rfl ab)) rfl ⟨_,_,_,rfl,⟨rfl,ae,ae,?_,fun _ _=>trivial⟩,⟨rfl,ae,ae,?_,?_⟩,⟨rfl,ae,ae,?_,fun _ _=>trivial⟩,c4⟩
 ·have := Rd.of_blk c2
  rwa [Array.toList_append,bW,bW] at this
 ·exact Rd.of_blk c3
 ·intro R hR
  rcases List.mem_cons.1 hR with rfl | hR
  ·show (Lit.int .i64 5).wf=true;decide
  rcases List.mem_cons.1 hR with rfl | hR
  ·show (Lit.int .i64 0).wf=true;decide
  simp at hR
 have:=Rd.of_blk c1
 rwa [bW] at this
def aOk (w:World) (L:List OpR) (e:Ending) (w':World):Prop:=(∃ b,e=.returned (.bool b)∧(b=false→∀ R ∈ L,R.n1≤5000))∧Ext w w'
theorem aIX (ac sq:Int) (A:Option Addr) (n c:Nat) (L:List OpR) (w:World) (hS:SlO w A n c L) :
  Calls prog 6 #[.agg (txA ac sq A n c)] w (aOk w L):=by
 have hle:=hS.le
 have hcap:=hS.cap
 have HL:=zh hS.len
 have hE:=(Ext.refl w).alloc' (.cells (txA ac sq A n c) 33)
 obtain ⟨w0,hw0⟩:=gx (w.alloc (.cells (txA ac sq A n c) 33))
 have q0:(w.alloc (.cells (txA ac sq A n c) 33)).cell? ⟨w.heap.size,2,none⟩=some (.slice A n c):=(Blk.new w 33 (txA ac sq A n c)).cell 2
 have HE:=zh hE
 have HS:=zh (hS.ext hE)
 rw [hw0] at HE HS q0
 clear hS hE
 by_cases h50:50 < n
 ·have d1 : (50 : Int) < (n : Int) := aa
  go_enter func6,ntmps6
  exact zx
 have d1:decide ((50:Int) < (n:Int))=false:=decide_eq_false aa
 go_enter func6,ntmps6
 go_wp2_with fail
 clear hw0
 go_loop [3] (fun i=>∃ k:Nat,k≤n∧i=.int .i64 (k:Int)∧Hid (∀ j,j < k→(bR L j).n1≤5000)) (fun i=>n - (intOf i).toNat)
 case atStart=>exact ⟨0,Nat.zero_le _,rfl,zh (fun j hj=>absurd hj (Nat.not_lt_zero _))⟩
 case round =>
  obtain ⟨k,hk,rfl,HJ⟩:=hrel
  by_cases hlt:k < n
  ·obtain ⟨b, o, rfl, hr, hb⟩ := HS.out.at aa
   have hrt:=sA hr (k:=k) (by rw [HL.out];exact hlt)
   have hok:=HS.out.nth hlt
   have i0:(0:Int)≤(k:Int):=aa
   have i1:(k:Int) < (n:Int):=aa
   obtain ⟨R,hR⟩:=gx (bR L k)
   rw [hR] at hrt hok
   have HRR:=zh hR
   obtain ⟨r1,r2⟩:=aHh hrt
   have m1:=hok.pre.le
   have m2:=hok.pre.cap
   have m3:=hok.prf.le
   have m4:=hok.prf.cap
   clear hr hb hrt hok hR
   by_cases hC:5000 < R.n2
   ·have d4 : (5000 : Int) < (R.n2 : Int) := aa
    exact zx
   have d4:decide ((5000:Int) < (R.n2:Int))=false:=decide_eq_false aa
   by_cases hD:5000 < R.n1
   ·have d5 : (5000 : Int) < (R.n1 : Int) := aa
    exact zx
   have d5:decide ((5000:Int) < (R.n1:Int))=false:=decide_eq_false aa
   have HN:=zh (show R.n1≤5000 from aa)
   go_wp2_with fail
   go_round
   case rel=>exact ⟨k+1,aa,ar,zh (fun j hj=>by
    rcases (by omega:j < k ∨ j=k) with hj | rfl
    ·exact HJ.out j hj
    rw [HRR.out];exact HN.out)⟩
   case measure=>simp [intOf];omega
  obtain rfl:k=n:=aa
  go_wp2_with fail
  go_ret
  exact ⟨⟨false,rfl,fun _=>fun R hR=>by
   obtain ⟨j,hj,rfl⟩:=List.getElem_of_mem hR
   rw [show L[j]=bR L j from cH hj]
   exact HJ.out j (by rw [← HL.out];exact hj)⟩,HE.out⟩
def aOi (w:World) (a b c:Nat) (e:Ending) (w':World):Prop:=(∃ z,e=.returned (.bool z)∧(z=false→a≤100∧b≤100∧c≤100))∧Ext w w'
theorem yU (N Z:Int) (B1:Option Addr) (m1 d1:Nat) (B2:Option Addr) (m2 d2:Nat) (B3:Option Addr) (m3 d3:Nat) (w:World) (h1:m1≤d1∧d1≤9223372036854775807) (h2:m2≤d2∧d2≤9223372036854775807) (h3:m3≤d3∧d3≤9223372036854775807):Calls prog 4 #[.agg (genC N Z B1 m1 d1 B2 m2 d2 B3 m3 d3)] w (aOi w m1 m2 m3):=by
 obtain ⟨W,hW⟩:=gx (w.alloc (.cells (genC N Z B1 m1 d1 B2 m2 d2 B3 m3 d3) 25))
 have HB:=zh (show Blk W w.heap.size 25 (genC N Z B1 m1 d1 B2 m2 d2 B3 m3 d3) from by rw [← hW];exact Blk.new w 25 (genC N Z B1 m1 d1 B2 m2 d2 B3 m3 d3))
 have HE:=zh (show Ext w W from be)
 have q2:W.cell? ⟨w.heap.size,2,none⟩=some (.slice B1 m1 d1):=HB.out.cell 2
 have q3:W.cell? ⟨w.heap.size,3,none⟩=some (.slice B2 m2 d2):=HB.out.cell 3
 have q4:W.cell? ⟨w.heap.size,4,none⟩=some (.slice B3 m3 d3):=HB.out.cell 4
 have hcs:(m1 > 100) ∨ (¬ m1 > 100∧m2 > 100) ∨ (¬ m1 > 100∧¬ m2 > 100):=aa
 rcases hcs with c1 | ⟨c1,c2⟩ | ⟨c1,c2⟩
 ·have k1 : (m1 : Int) > 100 := aa
  clear c1
  exact zi
 ·have k1 : ¬ (m1 : Int) > 100 := aa
  have k2:(m2:Int) > 100:=aa
  clear c1 c2
  exact zi
 have k1:¬ (m1:Int) > 100:=aa
 have k2:¬ (m2:Int) > 100:=aa
 have HN:=zh (And.intro c1 c2)
 clear c1 c2
 by_cases c3:m3 > 100
 ·have k3 : (m3 : Int) > 100 := aa
  clear c3
  exact zi
 have k3:¬ (m3:Int) > 100:=aa
 have HN3:=zh c3
 clear c3
 go_enter func4,ntmps4
 go_wp2_with fail
 go_ret
 exact ⟨⟨false,rfl,fun _=>by have:=HN.out;have:=HN3.out;omega⟩,HE.out⟩
theorem aHy (x:StpR) (S:Option Addr) (m d:Nat) (L:List OpR) (sig:List UInt8) (VN PN:List UInt64) (BL:List Int) (w:World) (hs:x.s.ok w) (hT:(⟨x.ac,x.sq,x.A,x.n,x.c,S,m,d,L,sig⟩:TxR).ok w) (hV:SlG w x.B1 x.m1 x.d1 VN) (hN:SlG w x.B2 x.m2 x.d2 PN) (hB:SlZ w x.B3 x.m3 x.d3 BL) (hn:x.s.n1≤200000∧x.s.n2≤200000∧x.s.n3≤200000∧x.s.n4≤200000) (hpn:∀ R ∈ L,R.n1≤5000) :
  Calls prog 8 #[.agg (genC x.gN x.gZ x.B1 x.m1 x.d1 x.B2 x.m2 x.d2 x.B3 x.m3 x.d3),.agg (ssA x.s),.agg (stA x.ac x.sq x.A x.n x.c S m d),.int .i64 x.ht] w
   (aJJ w (nX (dG x.m2 x.m1 x.ht cL (evU VN) x.ac) (eP x.gN x.gZ x.m1 x.m2 x.m3 BL) x.m2 (vSg (aS PN x.ac.toNat) ⟨x.ac, x.sq, x.A, x.n, x.c, S, m, d, L, sig⟩) x.s.V x.ac x.sq L)
    (iX (dG x.m2 x.m1 x.ht cL (evU VN) x.ac) (eP x.gN x.gZ x.m1 x.m2 x.m3 BL) x.m2 (vSg (aS PN x.ac.toNat) ⟨x.ac,x.sq,x.A,x.n,x.c,S,m,d,L,sig⟩) x.s.V x.ac x.sq L)
    (rcE (iX (dG x.m2 x.m1 x.ht cL (evU VN) x.ac) (eP x.gN x.gZ x.m1 x.m2 x.m3 BL) x.m2 (vSg (aS PN x.ac.toNat) ⟨x.ac,x.sq,x.A,x.n,x.c,S,m,d,L,sig⟩) x.s.V x.ac x.sq L) x.ac x.sq L)
    (rcO (iX (dG x.m2 x.m1 x.ht cL (evU VN) x.ac) (eP x.gN x.gZ x.m1 x.m2 x.m3 BL) x.m2 (vSg (aS PN x.ac.toNat) ⟨x.ac,x.sq,x.A,x.n,x.c,S,m,d,L,sig⟩) x.s.V x.ac x.sq L) x.ac x.sq L)
    (rcG (iX (dG x.m2 x.m1 x.ht cL (evU VN) x.ac) (eP x.gN x.gZ x.m1 x.m2 x.m3 BL) x.m2 (vSg (aS PN x.ac.toNat) ⟨x.ac,x.sq,x.A,x.n,x.c,S,m,d,L,sig⟩) x.s.V x.ac x.sq L) x.s.V (nX (dG x.m2 x.m1 x.ht cL (evU VN) x.ac) (eP x.gN x.gZ x.m1 x.m2 x.m3 BL) x.m2 (vSg (aS PN x.ac.toNat) ⟨x.ac,x.sq,x.A,x.n,x.c,S,m,d,L,sig⟩) x.s.V x.ac x.sq L))) :=
 uT x S m d L sig PN BL (evU VN) _ _ _ w hs hT hN hB (Nat.le_trans hV.le hV.cap) hn (fun R hR=>Nat.le_trans (hpn R hR) (by omega)) rfl rfl rfl
  (fun R hR hk hv V s e hsV=>aHL { x with s:=s } R VN V hsV (RowT.ext R w V (hT.ops.g.ok R hR) e) (hV.ext e) hv hk)
theorem aFN (w:World) (c1 c2:Array Value) (t1 t2:TypeId):∃ U,(w.alloc (.cells c1 t1)).alloc (.cells c2 t2)=U∧Hid (Blk U w.heap.size t1 c1)∧Hid (Blk U (w.heap.size+1) t2 c2)∧Hid (Ext w U) :=
 ⟨_,rfl,zh ((Blk.new w t1 c1).alloc _),zh (Blk.newAt _ _ _ _ (by simp)),zh (((Ext.refl w).alloc' _).alloc' _)⟩
theorem rT (N Z:Int) (A1:Option Addr) (n1 c1:Nat) (A2:Option Addr) (n2 c2:Nat) (A3:Option Addr) (n3 c3:Nat) (l:List Int) (w:World) (hS:SlZ w A3 n3 c3 l) (hm1:n1≤9223372036854775807) (hm2:n2≤9223372036854775807) :
  Calls prog 34 #[.agg (genC N Z A1 n1 c1 A2 n2 c2 A3 n3 c3)] w fun e w'=>e=.returned (.bool (eP N Z n1 n2 n3 l))∧Ext w w':=by
 have hlen:=hS.len
 have hle:=hS.le
 have hcap:=hS.cap
 have HE:=zh ((Ext.refl w).alloc' (.cells (genC N Z A1 n1 c1 A2 n2 c2 A3 n3 c3) 25))
 have HB:=zh (Blk.new w 25 (genC N Z A1 n1 c1 A2 n2 c2 A3 n3 c3))
 have HS:=zh hS
 have HLEN:=zh hlen
 clear hS hlen
 by_cases t0:1≤N∧N≤7
 ·have HW0 := zh (iA N 1 7 t0)
  by_cases t1:(1:Int)≤(n1:Int)∧(n1:Int)≤10
  ·have HW1 := zh (iA (n1 : Int) 1 10 t1)
   by_cases t2:N≤(n1:Int)
   ·have d2 : decide ((n1 : Int) < N) = false := decide_eq_false aa
    by_cases t3:(1:Int)≤(n2:Int)∧(n2:Int)≤16
    ·have HW3 := zh (iA (n2 : Int) 1 16 t3)
     by_cases t4:n3=n2
     ·subst t4
      by_cases t5:0≤Z∧Z≤1099511627776
      ·have HW5 := zh (iA Z 0 1099511627776 t5)
       have HH:=zh (show xX N Z n1 n3 n3 from ⟨t0.1,t0.2,aa,aa,t2,aa,aa,rfl,t5.1,t5.2⟩)
       obtain ⟨b,o,rfl,hr,hb⟩:=HS.out.at aa
       have HR:=zh hr
       have HBL:=zh hb
       clear hr hb HS
       go_enter func34,ntmps34
       go_wp2_with (go_at_call 86;(first | (with_reducible refine (HW0.out _).mono ?_) | (with_reducible refine (HW1.out _).mono ?_) | (with_reducible refine (HW3.out _).mono ?_) | (with_reducible refine (HW5.out _).mono ?_) | fail "W");rintro e wv ⟨rfl,rfl⟩)
       go_loopw [3] (fun i wr=>∃ q:Nat,q≤n3∧i=.int .i64 (q:Int)∧Hid (∀ j,j < q→nY (lE l j)=true)∧Ext (w.alloc (.cells (genC N Z A1 n1 c1 A2 n3 c2 (some ⟨b,o,none⟩) n3 c3) 25)) wr) (fun i _=>n3 - (intOf i).toNat)
       case atStart=>exact ⟨0,Nat.zero_le _,rfl,zh (fun j hj=>aa),Ext.refl _⟩
       case round =>
        obtain ⟨q,hq,rfl,HP,hX⟩:=hrel
        have HX:=zh hX
        have hra:=aY HR.out ((HE.out.trans hX).block b HBL.out)
        have g4:wr.cell? ⟨w.heap.size,4,none⟩=some (.slice (some ⟨b,o,none⟩) n3 c3):=(HB.out.ext hX).cell 4
        clear hX
        by_cases hlt:q < n3
        ·have hid := aJc hra (k := q) fk
         have HQ:=zh (fun (hx:nY (lE l q)=true)=>show ∀ j,j < q+1→nY (lE l j)=true from fun j hj=>by
          exact Cx)
         have HN:=zh (fun (hx:nY (lE l q)=false)=>show eP N Z n1 n3 n3 l=false by rw [aFK ak hx])
         have HA:=zh (fun (W:World)=>show Calls prog 86 #[.int .i64 (lE l q),.int .i64 0,.int .i64 1099511627776] W (fun e w'=>e=.returned (.bool (nY (lE l q)))∧W=w') from iB _ 0 1099511627776 W)
         have i0:(0:Int)≤(q:Int):=aa
         have i1:(q:Int) < (n3:Int):=aa
         clear hra
         rcases hx:nY (lE l q) with _ | _
         ·have HXX := zh (HN.out hx)
          simp only [hx] at HA
          exact B5
         have HXX:=zh (HQ.out hx)
         simp only [hx] at HA
         exact Bu
        obtain rfl:q=n3:=aa
        have HF:=zh (show eP N Z n1 q q l=true by rw [aCq HH.out (fun k hk=>HP.out k (by rw [HLEN.out] at hk;exact hk))])
        exact CL
      have HW5:=zh (mG Z 0 1099511627776 aa)
      have HF:=zh (show eP N Z n1 n3 n3 l=false by rw [fH (fun h=>t5 ⟨h.2.2.2.2.2.2.2.2.1,h.2.2.2.2.2.2.2.2.2⟩)])
      clear HS
      go_enter func34,ntmps34
      go_wp2_with (go_at_call 86;(first | (with_reducible refine (HW0.out _).mono ?_) | (with_reducible refine (HW1.out _).mono ?_) | (with_reducible refine (HW3.out _).mono ?_) | (with_reducible refine (HW5.out _).mono ?_) | fail "W");rintro e wv ⟨rfl,rfl⟩)
      go_ret
      exact ⟨av,HE.out⟩
     have d4:((n3:Int) != (n2:Int))=true:=gj
     have d5:¬ (n3:Int)=(n2:Int):=aa
     have HF:=zh (show eP N Z n1 n2 n3 l=false by rw [fH (fun h=>t4 h.2.2.2.2.2.2.2.1)])
     exact wk
    have HW3:=zh (mG (n2:Int) 1 16 aa)
    have HF:=zh (show eP N Z n1 n2 n3 l=false by rw [fH (fun h=>t3 (by have:=h.2.2.2.2.2.1;have:=h.2.2.2.2.2.2.1;omega))])
    exact wk
   have d2:(n1:Int) < N:=aa
   have HF:=zh (show eP N Z n1 n2 n3 l=false by rw [fH (fun h=>t2 h.2.2.2.2.1)])
   exact AD
  have HW1:=zh (mG (n1:Int) 1 10 aa)
  have HF:=zh (show eP N Z n1 n2 n3 l=false by rw [fH (fun h=>t1 (by have:=h.2.2.1;have:=h.2.2.2.1;omega))])
  exact AD
 have HW0:=zh (mG N 1 7 aa)
 have HF:=zh (show eP N Z n1 n2 n3 l=false by rw [fH (fun h=>t0 ⟨h.1,h.2.1⟩)])
 clear HS
 go_enter func34,ntmps34
 go_wp2_with (go_at_call 86;(first | (with_reducible refine (HW0.out _).mono ?_) | fail "W");rintro e wv ⟨rfl,rfl⟩)
 go_ret
 exact ⟨av,HE.out⟩
def srV (x y:RcR) (E F:List DeR):Bool:=decide (x.cd=y.cd) && (decide (E=F) && (decide (x.o=y.o) && decide (x.g=y.g)))
theorem aDd (x y:RcR) (E F:List DeR) (w:World) (hx:SlG w x.A x.n x.c E) (hy:SlG w y.A y.n y.c F):Calls prog 11 #[.agg (rcA x),.agg (rcA y)] w fun e w'=>e=.returned (.bool (srV x y E F))∧Ext w w':=by
 obtain ⟨W,hW⟩:=gx ((w.alloc (.cells (rcA x) 43)).alloc (.cells (rcA y) 43))
 have HA:=zh (show Blk W w.heap.size 43 (rcA x) from by rw [← hW];exact (Blk.new w 43 (rcA x)).alloc _)
 have HB:=zh (show Blk W (w.heap.size+1) 43 (rcA y) from ag)
 have HE:=zh (show Ext w W from ai)
 obtain ⟨x1,h1⟩:=gx (decide (x.cd=y.cd))
 obtain ⟨x2,h2⟩:=gx (decide (E=F))
 obtain ⟨x3,h3⟩:=gx (decide (x.o=y.o))
 obtain ⟨x4,h4⟩:=gx (decide (x.g=y.g))
 have HV:=zh (show srV x y E F=(x1 && (x2 && (x3 && x4))) from by unfold srV;rw [h1,h2,h3,h4])
 have HSD:=zh (nS x.A x.n x.c E y.A y.n y.c F W (hx.ext HE.out) (hy.ext HE.out))
 rw [h2] at HSD
 have e1:(x.cd == y.cd)=x1:=kb
 have e3:(x.o == y.o)=x3:=ka
 have e4:(x.g == y.g)=x4:=j9
 have HA2:=zh (fun (V:World) (e:Ext W V)=>(⟨(HA.out.ext e).cell 2,(HA.out.ext e).cell 3,(HB.out.ext e).cell 2,(HB.out.ext e).cell 3⟩:V.cell? ⟨w.heap.size,2,none⟩=some (.int .i64 x.o)∧V.cell? ⟨w.heap.size,3,none⟩=some (.int .i64 x.g)∧V.cell? ⟨w.heap.size+1,2,none⟩=some (.int .i64 y.o)∧V.cell? ⟨w.heap.size+1,3,none⟩=some (.int .i64 y.g)))
 have a0:W.cell? ⟨w.heap.size,0,none⟩=some (.int .i64 x.cd):=HA.out.cell 0
 have a1:W.cell? ⟨w.heap.size,1,none⟩=some (.slice x.A x.n x.c):=HA.out.cell 1
 have b0:W.cell? ⟨w.heap.size+1,0,none⟩=some (.int .i64 y.cd):=HB.out.cell 0
 have b1:W.cell? ⟨w.heap.size+1,1,none⟩=some (.slice y.A y.n y.c):=HB.out.cell 1
 have HX0:=zh (Ext.refl W)
 clear hx hy h1 h2 h3 h4
 have hcs:(x1=false) ∨ (x1=true∧x2=false) ∨ (x1=true∧x2=true∧x3=false) ∨ (x1=true∧x2=true∧x3=true∧x4=false) ∨ (x1=true∧x2=true∧x3=true∧x4=true):=by
  cases x1 <;> cases x2 <;> cases x3 <;> cases x4 <;> simp
 rcases hcs with rfl | ⟨rfl,rfl⟩ | ⟨rfl,rfl,rfl⟩ | ⟨rfl,rfl,rfl,rfl⟩ | ⟨rfl,rfl,rfl,rfl⟩
 all_goals
  go_enter func11,ntmps11
  go_wp2_with (go_at_call 43;(with_reducible refine HSD.out.mono ?_);rintro e w5 ⟨rfl,he5⟩;obtain ⟨c2,c3,d2,d3⟩:=HA2.out w5 he5;have HX0:=zh he5;clear he5)
  go_ret
  exact ⟨dc,HE.out.trans HX0.out⟩
end
section
open Go.RowKit
def opW (n:Int) (A1:Option Addr) (c1:Nat) (A2:Option Addr) (c2:Nat):OpR:=⟨1,1,n,0,0,0,0,A1,0,c1,[],A2,0,c2,[]⟩
def aMa (n:Int):OpV:=⟨1,1,n,0,0,0,0,[],[]⟩
theorem aNe {n:Int} {R:OpR} {w:World} (h:R.ok w) (hv:R.v=aMa n):∃ A1 c1 A2 c2,R=opW n A1 c1 A2 c2:=by
 obtain ⟨k,to',am,ul,va,lk,hs,A1,n1,c1,pre,A2,n2,c2,prf⟩:=R
 have h1:=h.pre.len
 have h2:=h.prf.len
 unfold OpR.v aMa at hv
 injection hv with e1 e2 e3 e4 e5 e6 e7 e8 e9
 simp only at h1 h2 e1 e2 e3 e4 e5 e6 e7 e8 e9
 subst e1;subst e2;subst e3;subst e4;subst e5;subst e6;subst e7;subst e8;subst e9
 simp only [List.length_nil] at h1 h2
 subst h1;subst h2
 exact ⟨A1,c1,A2,c2,rfl⟩
theorem aLZ {n:Int} {L:List OpR} {w:World} (h:∀ R,R ∈ L→R.ok w) (hv:L.map OpR.v=[aMa n]):∃ A1 c1 A2 c2,L=[opW n A1 c1 A2 c2]:=by
 cases L with
 | nil=>simp at hv
 | cons R r =>
  cases r with
  | nil =>
   obtain ⟨A1,c1,A2,c2,rfl⟩:=aNe (h R dr) (by simpa using hv)
   exact ⟨A1,c1,A2,c2,rfl⟩
  | cons _ _=>simp at hv
def S22:StV:=aLu 2 [5,0] 3 1
section
variable (H:List UInt8→UInt64) (ev:OpR→Bool) (A1:Option Addr) (c1:Nat) (A2:Option Addr) (c2:Nat)
theorem vW6:vTx 0 0 [opW 6 A1 c1 A2 c2]=true:=by kernel_rfl
theorem vW4:vTx 0 0 [opW 4 A1 c1 A2 c2]=true:=by kernel_rfl
theorem aOb:eP 1 3 1 2 2 [5,0]=true:=by decide
theorem aNV:S22=⟨[⟨aV 0,5⟩,⟨bY 0,3⟩],[0,0],[],[],0⟩:=by kernel_rfl
theorem aNQ:iX (dG 2 1 1 H ev 0) true 2 true S22 0 0 [opW 6 A1 c1 A2 c2]=100:=by kernel_rfl
theorem aNR:iX (dG 2 1 1 H ev 0) true 2 true S22 0 0 [opW 4 A1 c1 A2 c2]=0:=by kernel_rfl
theorem aNF:(nX (dG 2 1 1 H ev 0) true 2 true S22 0 0 [opW 4 A1 c1 A2 c2]).C=[⟨aV 0,1⟩,⟨aV 1,4⟩,⟨bY 0,3⟩]:=by kernel_rfl
theorem aNI:gH 0 0 [opW 4 A1 c1 A2 c2]=4:=by kernel_rfl
theorem aNH:gH 0 0 [opW 6 A1 c1 A2 c2]=6:=by kernel_rfl
theorem aNP:(iO 0 0 [opW 4 A1 c1 A2 c2]).length=2:=by kernel_rfl
theorem aNO:(iO 0 0 [opW 6 A1 c1 A2 c2]).length=2:=by kernel_rfl
theorem aLK:(pL S22 0 0 [opW 6 A1 c1 A2 c2]).C=[⟨aV 0,-1⟩,⟨aV 1,6⟩,⟨bY 0,3⟩]:=by kernel_rfl
theorem aNG:eB [⟨aV 0,-1⟩,⟨aV 1,6⟩,⟨bY 0,3⟩] cA 4=[⟨aV 0,-1⟩,⟨aV 1,6⟩,⟨bY 0,3⟩,⟨cA,4⟩]:=by kernel_rfl
theorem aOh:aNq [⟨aV 0,-1⟩,⟨aV 1,6⟩,⟨bY 0,3⟩,⟨cA,4⟩]=[⟨aV 1,6⟩,⟨bY 0,3⟩,⟨cA,3⟩]:=by kernel_rfl
theorem aOg:yE 1 S22=⟨[⟨aV 0,5⟩,⟨cA,3⟩],[0,0],[],[],1⟩:=by kernel_rfl
theorem aNN:cX [⟨aV 0,1⟩,⟨aV 1,4⟩,⟨bY 0,3⟩] (aV 1)=4:=by kernel_rfl
theorem aNM:cX [⟨aV 0,-1⟩,⟨aV 1,6⟩,⟨bY 0,3⟩] (aV 0)=-1:=by kernel_rfl
theorem aNL:cX [⟨aV 1,6⟩,⟨bY 0,3⟩,⟨cA,3⟩] (aV 0)=0:=by kernel_rfl
theorem aNK:cX [⟨aV 1,6⟩,⟨bY 0,3⟩,⟨cA,3⟩] cA=3:=by kernel_rfl
theorem aNJ:cX [⟨aV 0,5⟩,⟨cA,3⟩] cA=3:=by kernel_rfl
end
end
end Go.Proofs.YtgmnmjeccfnmbaaGreat
