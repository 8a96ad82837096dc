/- ValidOp (the reference's), any operation. -/
import Derived.Test.YtohmmcahpakokaaGreatJ16
import Derived.Test.YtohmmcahpakokaaGreatJ17
set_option maxRecDepth 100000
set_option maxHeartbeats 8000000
set_option linter.unusedVariables false
set_option linter.unusedSimpArgs false
namespace Go.Proofs.YtohmmcahpakokaaGreat
section
open Go.RowKit
attribute [local go_sem ↓] Go.wp_at_zero Go.wp_at_succ
theorem wK (R:OpR) (h:¬ (1≤R.k∧R.k≤6)) (w:World) :
  Calls Tryz.prog 85 #[.agg (opA R)] w fun e w'=>e=.returned (.bool false)∧Ext w w':=by
 have HK:=zh (fun W=>aEG R.k 1 6 (by omega) W)
 have HE:=zh ((Ext.refl w).alloc' (.cells (opA R) 69))
 have e3:(R.k == 3)=false:=by simp;omega
 have e4:(R.k == 4)=false:=by simp;omega
 have e5:(R.k == 5)=false:=by simp;omega
 have e6:(R.k == 6)=false:=by simp;omega
 have d3:decide (R.k=3)=false:=by simp;omega
 have d4:decide (R.k=4)=false:=by simp;omega
 have d5:decide (R.k=5)=false:=by simp;omega
 have d6:decide (R.k=6)=false:=by simp;omega
 by_cases h1:1≤R.k
 ·have g1 : decide (R.k ≤ 4) = false := decide_eq_false (by omega)
  have g2:decide (R.k≤5)=false:=decide_eq_false (by omega)
  clear h
  go_enter Tryz.func85,Tryz.ntmps85
  go_wp2_with (go_at_call 73;(with_reducible refine (HK.out _).mono ?_);rintro e wv ⟨rfl,rfl⟩)
  go_ret
  exact ⟨rfl,HE.out⟩
 have g1:decide (1≤R.k)=false:=decide_eq_false h1
 clear h h1
 go_enter Tryz.func85,Tryz.ntmps85
 go_wp2_with (go_at_call 73;(with_reducible refine (HK.out _).mono ?_);rintro e wv ⟨rfl,rfl⟩)
 go_ret
 exact ⟨rfl,HE.out⟩
theorem tX (R:OpR) (w:World) (hR:R.ok w) :
  Calls Tryz.prog 85 #[.agg (opA R)] w fun e w'=>e=.returned (.bool (vOp R))∧Ext w w':=by
 have l1:(R.n1:Int)≤9223372036854775807:=by have:=hR.pre.le;have:=hR.pre.cap;omega
 have l2:(R.n2:Int)≤9223372036854775807:=by have:=hR.prf.le;have:=hR.prf.cap;omega
 obtain ⟨k,tO,am,ul,va,lk,hs,A1,n1,c1,pre,A2,n2,c2,prf⟩:=R
 rcases iC k with h | h | h | h | h | h | h
 ·subst h;exact zO tO am ul va lk hs A1 n1 c1 pre A2 n2 c2 prf w l1 l2
 ·subst h;exact zN tO am ul va lk hs A1 n1 c1 pre A2 n2 c2 prf w l1 l2
 ·subst h;exact zM tO am ul va lk hs A1 n1 c1 pre A2 n2 c2 prf w l1 l2
 ·subst h;exact zL tO am ul va lk hs A1 n1 c1 pre A2 n2 c2 prf w l1 l2
 ·subst h;exact zK tO am ul va lk hs A1 n1 c1 pre A2 n2 c2 prf w l1 l2
 ·subst h;exact zJ tO am ul va lk hs A1 n1 c1 pre A2 n2 c2 prf w l1 l2
 rw [aGj (R:=⟨k,tO,am,ul,va,lk,hs,A1,n1,c1,pre,A2,n2,c2,prf⟩) h];exact wK _ h w
theorem sL (A:Option Addr) (n c:Nat) (l:List UInt8) (z:Int) (wd:Nat) (hwd1:1≤wd) (hwd:wd≤8) (w:World) (h:SlB w A n c l) (hn:n≤140737488351232) :
  Calls Tryz.prog 143 #[.slice A n c,.int .u64 (un (uI z)),.int .i64 (wd:Int)] w fun e w'=>∃ A' c',e=.returned (.slice A' (n+wd) c')∧OwnB w' w.heap.size 5 A' (n+wd) c' (l ++ beI wd z)∧Ext w w':=by
 have:=kA A n c l (uI z) wd hwd1 hwd w h hn
 rw [aCN] at this;exact this
theorem oJ (A:Option Addr) (n c:Nat) (l:List UInt8) (P:Option Addr) (m d:Nat) (p:List UInt8) (w:World) (h:SlB w A n c l) (hp:SlB w P m d p) (hm:m≤65535) (hn:n≤1000000000) :
  Calls Tryz.prog 236 #[.slice A n c,.slice P m d] w fun e w'=>∃ A' n' c',e=.returned (.tuple #[.slice A' n' c',.bool true])∧OwnB w' w.heap.size 5 A' n' c' (l ++ rJ p)∧Ext w w':=by
 have hu:=pD (m:Int)
 have hlen:=hp.len
 have HA:=zh (sL A n c l (m:Int) 2 (by omega) (by omega) w h (by omega))
 have HP:=zh hp
 have HB:=zh (show rJ p=beI 2 (m:Int) ++ p by unfold rJ;rw [hlen])
 have d1:decide (65535 < (m:Int))=false:=decide_eq_false (by omega)
 clear h hp hlen
 generalize uI (m:Int)=u at *
 go_enter Tryz.func236,Tryz.ntmps236
 go_wp2_with fail
 refine HA.out.mono ?_
 rintro e w1 ⟨A1,c1,rfl,hO1,he1⟩
 have HO1:=zh hO1
 have HE1:=zh he1
 clear hO1 he1
 go_wp2_with (at_builtin;go_must (refine bZ bI rfl (.tmp 13) (.tmp 14) rfl w.heap.size A1 _ c1 _ rfl HO1.out P m d p rfl (HP.out.ext HE1.out) (by omega) HE1.out.size w HE1.out ?_))
 intro A2 c2 w2 hO2 hE2 hs2
 have HO2:=zh hO2
 clear hO2
 go_wp2_with fail
 go_ret2
 exact ⟨A2,_,c2,rfl,by rw [HB.out];simpa using HO2.out,hE2⟩
theorem uA (A:Option Addr) (n c:Nat) (l:List UInt8) (P:Option Addr) (m d:Nat) (p:List UInt8) (w:World) (h:SlB w A n c l) (hp:SlB w P m d p) (hm:m≤65535) (hn:n≤1000000000) :
  Calls Tryz.prog 193 #[.slice A n c,.slice P m d] w fun e w'=>∃ A' n' c',e=.returned (.slice A' n' c')∧OwnB w' w.heap.size 5 A' n' c' (l ++ rJ p)∧Ext w w':=by
 have HA:=zh (oJ A n c l P m d p w h hp hm hn)
 clear h hp
 go_enter Tryz.func193,Tryz.ntmps193
 go_wp2_with fail
 refine HA.out.mono ?_
 rintro e w1 ⟨A1,n1,c1,rfl,hO1,he1⟩
 go_wp2_with fail
 go_ret
 exact ⟨A1,n1,c1,rfl,hO1,he1⟩
theorem iO (A:Option Addr) (n c:Nat) (l:List UInt8) (z:Int) (w:World) (h:SlB w A n c l) (hn:n≤140737488351232) :
  Calls Tryz.prog 86 #[.slice A n c,.int .i64 z,.int .i64 6] w fun e w'=>∃ A' c',e=.returned (.slice A' (n+6) c')∧OwnB w' w.heap.size 5 A' (n+6) c' (l ++ beI 6 z)∧Ext w w':=oI A n c l z 6 (by omega) (by omega) w h hn
theorem aBs (A:Option Addr) (n c:Nat) (l:List UInt8) (z:Int) (w:World) (h:SlB w A n c l) (hn:n≤140737488351232) :
  Calls Tryz.prog 86 #[.slice A n c,.int .i64 z,.int .i64 2] w fun e w'=>∃ A' c',e=.returned (.slice A' (n+2) c')∧OwnB w' w.heap.size 5 A' (n+2) c' (l ++ beI 2 z)∧Ext w w':=oI A n c l z 2 (by omega) (by omega) w h hn
theorem aFn {R:OpR} {w w':World} (h:R.ok w) (e:Ext w w'):SlB w' R.A1 R.n1 R.c1 R.pre:=h.pre.ext e
theorem aFm {R:OpR} {w w':World} (h:R.ok w) (e:Ext w w'):SlB w' R.A2 R.n2 R.c2 R.prf:=h.prf.ext e
theorem wV (R:OpR) (h:R.k=1) (hv:vOp R=true) (A:Option Addr) (n c:Nat) (l:List UInt8) (w:World) (hR:R.ok w) (hS:SlB w A n c l) (hn:n≤1000000) :
  Calls Tryz.prog 131 #[.slice A n c,.agg (opA R)] w fun e w'=>∃ A' n' c',e=.returned (.slice A' n' c')∧OwnB w' w.heap.size 5 A' n' c' (l ++ dF R)∧Ext w w':=by
 have HEN:=zh (aAz h)
 have hA:=(Ext.refl w).alloc' (.cells (opA R) 69)
 have HA:=zh hA
 have HB:=zh (Blk.new w 69 (opA R))
 have HR:=zh (hR.ext hA)
 have HS:=zh (hS.ext hA)
 have HN1:=zh (bV A n c l R.k _ HS.out (by omega))
 have q0:(w.alloc (.cells (opA R) 69)).cell? ⟨w.heap.size,0,none⟩=some (.int .i64 R.k):=HB.out.cell 0
 have HK:=zh h
 clear hR hS hv hA h
 go_enter Tryz.func131,Tryz.ntmps131
 go_wp2_with fail
 refine HN1.out.mono ?_
 rintro e w1 ⟨A1,c1,rfl,hO1,he1⟩
 have hk:=HK.out
 have q1:w1.cell? ⟨w.heap.size,0,none⟩=some (.int .i64 1):=by rw [← hk];exact (HB.out.ext he1).cell 0
 have HQ:=zh (fun (W:World) (h:Ext w1 W)=>show W.cell? ⟨w.heap.size,1,none⟩=some (.int .i64 R.tO)∧W.cell? ⟨w.heap.size,2,none⟩=some (.int .i64 R.am) from ⟨((HB.out.ext he1).ext h).cell 1,((HB.out.ext he1).ext h).cell 2⟩)
 have HX1:=zh (HA.out.trans he1)
 have HS1:=zh (hO1.sl.ext (Ext.refl w1).drew')
 have HRR:=zh (fun (W:World) (h:Ext w1 W)=>(HR.out.ext he1).ext h)
 have hXd:=(Ext.refl w1).drew'
 clear hO1 he1 HN1 HS q0 hk
 go_wp2_with fail
 clear q1
 go_region_held3 (fun w'=>w'.cell? ⟨w.heap.size,1,none⟩=some (.int .i64 R.tO)∧w'.cell? ⟨w.heap.size,2,none⟩=some (.int .i64 R.am)) (first | (with_reducible exact HQ.out _ hXd) | (with_reducible exact HQ.out _ hX2) | (with_reducible exact HQ.out _ hX3) | fail "CELLS") (first | (go_at_call 86;(with_reducible refine (bV _ _ _ _ R.tO _ HS1.out (by omega)).mono ?_);rintro e w2 ⟨A2,c2,rfl,hO2,he2⟩;have hX2:=Ext.trans hXd he2;have HS2:=zh hO2.sl;clear hO2 he2) | (go_at_call 86;(with_reducible refine (iO _ _ _ _ R.am _ HS2.out (by omega)).mono ?_);rintro e w3 ⟨A3,c3,rfl,hO3,he3⟩;have hX3:=Ext.trans hX2 he3;have HS3:=zh hO3.sl;have HOz:=zh (bB hO3 hX2.size);clear hO3 he3) | fail "ARM")
 all_goals (
  have HXz:=zh hX3
  clear hXd hX2 hX3
  go_wp2_with fail
  go_ret
  refine ⟨A3,_,c3,rfl,bB (base:=w1.heap.size) ?_ HX1.out.size,HX1.out.trans HXz.out⟩
  rw [HEN.out];simpa using HOz.out)
theorem wU (R:OpR) (h:R.k=2) (hv:vOp R=true) (A:Option Addr) (n c:Nat) (l:List UInt8) (w:World) (hR:R.ok w) (hS:SlB w A n c l) (hn:n≤1000000) :
  Calls Tryz.prog 131 #[.slice A n c,.agg (opA R)] w fun e w'=>∃ A' n' c',e=.returned (.slice A' n' c')∧OwnB w' w.heap.size 5 A' n' c' (l ++ dF R)∧Ext w w':=by
 have HEN:=zh (aAy h)
 have hA:=(Ext.refl w).alloc' (.cells (opA R) 69)
 have HA:=zh hA
 have HB:=zh (Blk.new w 69 (opA R))
 have HR:=zh (hR.ext hA)
 have HS:=zh (hS.ext hA)
 have HN1:=zh (bV A n c l R.k _ HS.out (by omega))
 have q0:(w.alloc (.cells (opA R) 69)).cell? ⟨w.heap.size,0,none⟩=some (.int .i64 R.k):=HB.out.cell 0
 have HK:=zh h
 clear hR hS hv hA h
 go_enter Tryz.func131,Tryz.ntmps131
 go_wp2_with fail
 refine HN1.out.mono ?_
 rintro e w1 ⟨A1,c1,rfl,hO1,he1⟩
 have hk:=HK.out
 have q1:w1.cell? ⟨w.heap.size,0,none⟩=some (.int .i64 2):=by rw [← hk];exact (HB.out.ext he1).cell 0
 have HQ:=zh (fun (W:World) (h:Ext w1 W)=>show W.cell? ⟨w.heap.size,1,none⟩=some (.int .i64 R.tO)∧W.cell? ⟨w.heap.size,2,none⟩=some (.int .i64 R.am)∧W.cell? ⟨w.heap.size,3,none⟩=some (.int .i64 R.ul)∧W.cell? ⟨w.heap.size,13,none⟩=some (.int .u8 (nb8 R.hs 0))∧W.cell? ⟨w.heap.size,14,none⟩=some (.int .u8 (nb8 R.hs 1))∧W.cell? ⟨w.heap.size,15,none⟩=some (.int .u8 (nb8 R.hs 2))∧W.cell? ⟨w.heap.size,16,none⟩=some (.int .u8 (nb8 R.hs 3))∧W.cell? ⟨w.heap.size,17,none⟩=some (.int .u8 (nb8 R.hs 4))∧W.cell? ⟨w.heap.size,18,none⟩=some (.int .u8 (nb8 R.hs 5))∧W.cell? ⟨w.heap.size,19,none⟩=some (.int .u8 (nb8 R.hs 6))∧W.cell? ⟨w.heap.size,20,none⟩=some (.int .u8 (nb8 R.hs 7)) from ⟨((HB.out.ext he1).ext h).cell 1,((HB.out.ext he1).ext h).cell 2,((HB.out.ext he1).ext h).cell 3,((HB.out.ext he1).ext h).cell 13,((HB.out.ext he1).ext h).cell 14,((HB.out.ext he1).ext h).cell 15,((HB.out.ext he1).ext h).cell 16,((HB.out.ext he1).ext h).cell 17,((HB.out.ext he1).ext h).cell 18,((HB.out.ext he1).ext h).cell 19,((HB.out.ext he1).ext h).cell 20⟩)
 have HX1:=zh (HA.out.trans he1)
 have HS1:=zh (hO1.sl.ext (Ext.refl w1).drew')
 have HRR:=zh (fun (W:World) (h:Ext w1 W)=>(HR.out.ext he1).ext h)
 have hXd:=(Ext.refl w1).drew'
 clear hO1 he1 HN1 HS q0 hk
 go_wp2_with fail
 clear q1
 go_region_held3 (fun w'=>w'.cell? ⟨w.heap.size,1,none⟩=some (.int .i64 R.tO)∧w'.cell? ⟨w.heap.size,2,none⟩=some (.int .i64 R.am)∧w'.cell? ⟨w.heap.size,3,none⟩=some (.int .i64 R.ul)∧w'.cell? ⟨w.heap.size,13,none⟩=some (.int .u8 (nb8 R.hs 0))∧w'.cell? ⟨w.heap.size,14,none⟩=some (.int .u8 (nb8 R.hs 1))∧w'.cell? ⟨w.heap.size,15,none⟩=some (.int .u8 (nb8 R.hs 2))∧w'.cell? ⟨w.heap.size,16,none⟩=some (.int .u8 (nb8 R.hs 3))∧w'.cell? ⟨w.heap.size,17,none⟩=some (.int .u8 (nb8 R.hs 4))∧w'.cell? ⟨w.heap.size,18,none⟩=some (.int .u8 (nb8 R.hs 5))∧w'.cell? ⟨w.heap.size,19,none⟩=some (.int .u8 (nb8 R.hs 6))∧w'.cell? ⟨w.heap.size,20,none⟩=some (.int .u8 (nb8 R.hs 7))) (first | (with_reducible exact HQ.out _ hXd) | (with_reducible exact HQ.out _ hX2) | (with_reducible exact HQ.out _ hX3) | (with_reducible exact HQ.out _ hX4) | (with_reducible exact HQ.out _ hX5) | fail "CELLS") (first | (go_at_call 86;(with_reducible refine (bV _ _ _ _ R.tO _ HS1.out (by omega)).mono ?_);rintro e w2 ⟨A2,c2,rfl,hO2,he2⟩;have hX2:=Ext.trans hXd he2;have HS2:=zh hO2.sl;clear hO2 he2) | (go_at_call 86;(with_reducible refine (iO _ _ _ _ R.am _ HS2.out (by omega)).mono ?_);rintro e w3 ⟨A3,c3,rfl,hO3,he3⟩;have hX3:=Ext.trans hX2 he3;have HS3:=zh hO3.sl;clear hO3 he3) | (go_at_call 86;(with_reducible refine (aBs _ _ _ _ R.ul _ HS3.out (by omega)).mono ?_);rintro e w4 ⟨A4,c4,rfl,hO4,he4⟩;have hX4:=Ext.trans hX3 he4;have HS4:=zh hO4.sl;clear hO4 he4) | (go_at_call 87;(with_reducible refine (nE _ _ _ _ R.hs _ HS4.out (by omega)).mono ?_);rintro e w5 ⟨A5,c5,rfl,hO5,he5⟩;have hX5:=Ext.trans hX4 he5;have HS5:=zh hO5.sl;have HOz:=zh (bB hO5 hX4.size);clear hO5 he5) | fail "ARM")
 all_goals (
  have HXz:=zh hX5
  clear hXd hX2 hX3 hX4 hX5
  go_wp2_with fail
  go_ret
  refine ⟨A5,_,c5,rfl,bB (base:=w1.heap.size) ?_ HX1.out.size,HX1.out.trans HXz.out⟩
  rw [HEN.out];simpa using HOz.out)
theorem wT (R:OpR) (h:R.k=3) (hv:vOp R=true) (A:Option Addr) (n c:Nat) (l:List UInt8) (w:World) (hR:R.ok w) (hS:SlB w A n c l) (hn:n≤1000000) :
  Calls Tryz.prog 131 #[.slice A n c,.agg (opA R)] w fun e w'=>∃ A' n' c',e=.returned (.slice A' n' c')∧OwnB w' w.heap.size 5 A' n' c' (l ++ dF R)∧Ext w w':=by
 have HEN:=zh (aAx h)
 have b1:=yW hv
 have hA:=(Ext.refl w).alloc' (.cells (opA R) 69)
 have HA:=zh hA
 have HB:=zh (Blk.new w 69 (opA R))
 have HR:=zh (hR.ext hA)
 have HS:=zh (hS.ext hA)
 have HN1:=zh (bV A n c l R.k _ HS.out (by omega))
 have q0:(w.alloc (.cells (opA R) 69)).cell? ⟨w.heap.size,0,none⟩=some (.int .i64 R.k):=HB.out.cell 0
 have HK:=zh h
 clear hR hS hv hA h
 go_enter Tryz.func131,Tryz.ntmps131
 go_wp2_with fail
 refine HN1.out.mono ?_
 rintro e w1 ⟨A1,c1,rfl,hO1,he1⟩
 have hk:=HK.out
 have q1:w1.cell? ⟨w.heap.size,0,none⟩=some (.int .i64 3):=by rw [← hk];exact (HB.out.ext he1).cell 0
 have HQ:=zh (fun (W:World) (h:Ext w1 W)=>show W.cell? ⟨w.heap.size,1,none⟩=some (.int .i64 R.tO)∧W.cell? ⟨w.heap.size,2,none⟩=some (.int .i64 R.am)∧W.cell? ⟨w.heap.size,5,none⟩=some (.int .u8 (nb8 R.lk 0))∧W.cell? ⟨w.heap.size,6,none⟩=some (.int .u8 (nb8 R.lk 1))∧W.cell? ⟨w.heap.size,7,none⟩=some (.int .u8 (nb8 R.lk 2))∧W.cell? ⟨w.heap.size,8,none⟩=some (.int .u8 (nb8 R.lk 3))∧W.cell? ⟨w.heap.size,9,none⟩=some (.int .u8 (nb8 R.lk 4))∧W.cell? ⟨w.heap.size,10,none⟩=some (.int .u8 (nb8 R.lk 5))∧W.cell? ⟨w.heap.size,11,none⟩=some (.int .u8 (nb8 R.lk 6))∧W.cell? ⟨w.heap.size,12,none⟩=some (.int .u8 (nb8 R.lk 7))∧W.cell? ⟨w.heap.size,21,none⟩=some (.slice R.A1 R.n1 R.c1) from ⟨((HB.out.ext he1).ext h).cell 1,((HB.out.ext he1).ext h).cell 2,((HB.out.ext he1).ext h).cell 5,((HB.out.ext he1).ext h).cell 6,((HB.out.ext he1).ext h).cell 7,((HB.out.ext he1).ext h).cell 8,((HB.out.ext he1).ext h).cell 9,((HB.out.ext he1).ext h).cell 10,((HB.out.ext he1).ext h).cell 11,((HB.out.ext he1).ext h).cell 12,((HB.out.ext he1).ext h).cell 21⟩)
 have HX1:=zh (HA.out.trans he1)
 have HS1:=zh (hO1.sl.ext (Ext.refl w1).drew')
 have HRR:=zh (fun (W:World) (h:Ext w1 W)=>(HR.out.ext he1).ext h)
 have hXd:=(Ext.refl w1).drew'
 clear hO1 he1 HN1 HS q0 hk
 go_wp2_with fail
 clear q1
 go_region_held3 (fun w'=>w'.cell? ⟨w.heap.size,1,none⟩=some (.int .i64 R.tO)∧w'.cell? ⟨w.heap.size,2,none⟩=some (.int .i64 R.am)∧w'.cell? ⟨w.heap.size,5,none⟩=some (.int .u8 (nb8 R.lk 0))∧w'.cell? ⟨w.heap.size,6,none⟩=some (.int .u8 (nb8 R.lk 1))∧w'.cell? ⟨w.heap.size,7,none⟩=some (.int .u8 (nb8 R.lk 2))∧w'.cell? ⟨w.heap.size,8,none⟩=some (.int .u8 (nb8 R.lk 3))∧w'.cell? ⟨w.heap.size,9,none⟩=some (.int .u8 (nb8 R.lk 4))∧w'.cell? ⟨w.heap.size,10,none⟩=some (.int .u8 (nb8 R.lk 5))∧w'.cell? ⟨w.heap.size,11,none⟩=some (.int .u8 (nb8 R.lk 6))∧w'.cell? ⟨w.heap.size,12,none⟩=some (.int .u8 (nb8 R.lk 7))∧w'.cell? ⟨w.heap.size,21,none⟩=some (.slice R.A1 R.n1 R.c1)) (first | (with_reducible exact HQ.out _ hXd) | (with_reducible exact HQ.out _ hX2) | (with_reducible exact HQ.out _ hX3) | (with_reducible exact HQ.out _ hX4) | (with_reducible exact HQ.out _ hX5) | fail "CELLS") (first | (go_at_call 86;(with_reducible refine (bV _ _ _ _ R.tO _ HS1.out (by omega)).mono ?_);rintro e w2 ⟨A2,c2,rfl,hO2,he2⟩;have hX2:=Ext.trans hXd he2;have HS2:=zh hO2.sl;clear hO2 he2) | (go_at_call 86;(with_reducible refine (iO _ _ _ _ R.am _ HS2.out (by omega)).mono ?_);rintro e w3 ⟨A3,c3,rfl,hO3,he3⟩;have hX3:=Ext.trans hX2 he3;have HS3:=zh hO3.sl;clear hO3 he3) | (go_at_call 87;(with_reducible refine (nE _ _ _ _ R.lk _ HS3.out (by omega)).mono ?_);rintro e w4 ⟨A4,c4,rfl,hO4,he4⟩;have hX4:=Ext.trans hX3 he4;have HS4:=zh hO4.sl;clear hO4 he4) | (go_at_call 193;(with_reducible refine (uA _ _ _ _ _ _ _ R.pre _ HS4.out (aFn (HRR.out _ hX4) (Ext.refl _)) (by omega) (by omega)).mono ?_);rintro e w5 ⟨A5,n5,c5,rfl,hO5,he5⟩;have hX5:=Ext.trans hX4 he5;have HS5:=zh hO5.sl;have HOz:=zh (bB hO5 hX4.size);clear hO5 he5) | fail "ARM")
 all_goals (
  have HXz:=zh hX5
  clear hXd hX2 hX3 hX4 hX5
  go_wp2_with fail
  go_ret
  refine ⟨A5,_,c5,rfl,bB (base:=w1.heap.size) ?_ HX1.out.size,HX1.out.trans HXz.out⟩
  rw [HEN.out];simpa using HOz.out)
theorem wR (R:OpR) (h:R.k=4) (hv:vOp R=true) (A:Option Addr) (n c:Nat) (l:List UInt8) (w:World) (hR:R.ok w) (hS:SlB w A n c l) (hn:n≤1000000) :
  Calls Tryz.prog 131 #[.slice A n c,.agg (opA R)] w fun e w'=>∃ A' n' c',e=.returned (.slice A' n' c')∧OwnB w' w.heap.size 5 A' n' c' (l ++ dF R)∧Ext w w':=by
 have HEN:=zh (aAw h)
 have hA:=(Ext.refl w).alloc' (.cells (opA R) 69)
 have HA:=zh hA
 have HB:=zh (Blk.new w 69 (opA R))
 have HR:=zh (hR.ext hA)
 have HS:=zh (hS.ext hA)
 have HN1:=zh (bV A n c l R.k _ HS.out (by omega))
 have q0:(w.alloc (.cells (opA R) 69)).cell? ⟨w.heap.size,0,none⟩=some (.int .i64 R.k):=HB.out.cell 0
 have HK:=zh h
 clear hR hS hv hA h
 go_enter Tryz.func131,Tryz.ntmps131
 go_wp2_with fail
 refine HN1.out.mono ?_
 rintro e w1 ⟨A1,c1,rfl,hO1,he1⟩
 have hk:=HK.out
 have q1:w1.cell? ⟨w.heap.size,0,none⟩=some (.int .i64 4):=by rw [← hk];exact (HB.out.ext he1).cell 0
 have HQ:=zh (fun (W:World) (h:Ext w1 W)=>show W.cell? ⟨w.heap.size,1,none⟩=some (.int .i64 R.tO)∧W.cell? ⟨w.heap.size,2,none⟩=some (.int .i64 R.am)∧W.cell? ⟨w.heap.size,5,none⟩=some (.int .u8 (nb8 R.lk 0))∧W.cell? ⟨w.heap.size,6,none⟩=some (.int .u8 (nb8 R.lk 1))∧W.cell? ⟨w.heap.size,7,none⟩=some (.int .u8 (nb8 R.lk 2))∧W.cell? ⟨w.heap.size,8,none⟩=some (.int .u8 (nb8 R.lk 3))∧W.cell? ⟨w.heap.size,9,none⟩=some (.int .u8 (nb8 R.lk 4))∧W.cell? ⟨w.heap.size,10,none⟩=some (.int .u8 (nb8 R.lk 5))∧W.cell? ⟨w.heap.size,11,none⟩=some (.int .u8 (nb8 R.lk 6))∧W.cell? ⟨w.heap.size,12,none⟩=some (.int .u8 (nb8 R.lk 7)) from ⟨((HB.out.ext he1).ext h).cell 1,((HB.out.ext he1).ext h).cell 2,((HB.out.ext he1).ext h).cell 5,((HB.out.ext he1).ext h).cell 6,((HB.out.ext he1).ext h).cell 7,((HB.out.ext he1).ext h).cell 8,((HB.out.ext he1).ext h).cell 9,((HB.out.ext he1).ext h).cell 10,((HB.out.ext he1).ext h).cell 11,((HB.out.ext he1).ext h).cell 12⟩)
 have HX1:=zh (HA.out.trans he1)
 have HS1:=zh (hO1.sl.ext (Ext.refl w1).drew')
 have HRR:=zh (fun (W:World) (h:Ext w1 W)=>(HR.out.ext he1).ext h)
 have hXd:=(Ext.refl w1).drew'
 clear hO1 he1 HN1 HS q0 hk
 go_wp2_with fail
 clear q1
 go_region_held3 (fun w'=>w'.cell? ⟨w.heap.size,1,none⟩=some (.int .i64 R.tO)∧w'.cell? ⟨w.heap.size,2,none⟩=some (.int .i64 R.am)∧w'.cell? ⟨w.heap.size,5,none⟩=some (.int .u8 (nb8 R.lk 0))∧w'.cell? ⟨w.heap.size,6,none⟩=some (.int .u8 (nb8 R.lk 1))∧w'.cell? ⟨w.heap.size,7,none⟩=some (.int .u8 (nb8 R.lk 2))∧w'.cell? ⟨w.heap.size,8,none⟩=some (.int .u8 (nb8 R.lk 3))∧w'.cell? ⟨w.heap.size,9,none⟩=some (.int .u8 (nb8 R.lk 4))∧w'.cell? ⟨w.heap.size,10,none⟩=some (.int .u8 (nb8 R.lk 5))∧w'.cell? ⟨w.heap.size,11,none⟩=some (.int .u8 (nb8 R.lk 6))∧w'.cell? ⟨w.heap.size,12,none⟩=some (.int .u8 (nb8 R.lk 7))) (first | (with_reducible exact HQ.out _ hXd) | (with_reducible exact HQ.out _ hX2) | (with_reducible exact HQ.out _ hX3) | (with_reducible exact HQ.out _ hX4) | fail "CELLS") (first | (go_at_call 86;(with_reducible refine (bV _ _ _ _ R.tO _ HS1.out (by omega)).mono ?_);rintro e w2 ⟨A2,c2,rfl,hO2,he2⟩;have hX2:=Ext.trans hXd he2;have HS2:=zh hO2.sl;clear hO2 he2) | (go_at_call 86;(with_reducible refine (iO _ _ _ _ R.am _ HS2.out (by omega)).mono ?_);rintro e w3 ⟨A3,c3,rfl,hO3,he3⟩;have hX3:=Ext.trans hX2 he3;have HS3:=zh hO3.sl;clear hO3 he3) | (go_at_call 87;(with_reducible refine (nE _ _ _ _ R.lk _ HS3.out (by omega)).mono ?_);rintro e w4 ⟨A4,c4,rfl,hO4,he4⟩;have hX4:=Ext.trans hX3 he4;have HS4:=zh hO4.sl;have HOz:=zh (bB hO4 hX3.size);clear hO4 he4) | fail "ARM")
 all_goals (
  have HXz:=zh hX4
  clear hXd hX2 hX3 hX4
  go_wp2_with fail
  go_ret
  refine ⟨A4,_,c4,rfl,bB (base:=w1.heap.size) ?_ HX1.out.size,HX1.out.trans HXz.out⟩
  rw [HEN.out];simpa using HOz.out)
theorem wQ (R:OpR) (h:R.k=5) (hv:vOp R=true) (A:Option Addr) (n c:Nat) (l:List UInt8) (w:World) (hR:R.ok w) (hS:SlB w A n c l) (hn:n≤1000000) :
  Calls Tryz.prog 131 #[.slice A n c,.agg (opA R)] w fun e w'=>∃ A' n' c',e=.returned (.slice A' n' c')∧OwnB w' w.heap.size 5 A' n' c' (l ++ dF R)∧Ext w w':=by
 have HEN:=zh (aAv h)
 have hA:=(Ext.refl w).alloc' (.cells (opA R) 69)
 have HA:=zh hA
 have HB:=zh (Blk.new w 69 (opA R))
 have HR:=zh (hR.ext hA)
 have HS:=zh (hS.ext hA)
 have HN1:=zh (bV A n c l R.k _ HS.out (by omega))
 have q0:(w.alloc (.cells (opA R) 69)).cell? ⟨w.heap.size,0,none⟩=some (.int .i64 R.k):=HB.out.cell 0
 have HK:=zh h
 clear hR hS hv hA h
 go_enter Tryz.func131,Tryz.ntmps131
 go_wp2_with fail
 refine HN1.out.mono ?_
 rintro e w1 ⟨A1,c1,rfl,hO1,he1⟩
 have hk:=HK.out
 have q1:w1.cell? ⟨w.heap.size,0,none⟩=some (.int .i64 5):=by rw [← hk];exact (HB.out.ext he1).cell 0
 have HQ:=zh (fun (W:World) (h:Ext w1 W)=>show W.cell? ⟨w.heap.size,4,none⟩=some (.int .i64 R.va)∧W.cell? ⟨w.heap.size,2,none⟩=some (.int .i64 R.am) from ⟨((HB.out.ext he1).ext h).cell 4,((HB.out.ext he1).ext h).cell 2⟩)
 have HX1:=zh (HA.out.trans he1)
 have HS1:=zh (hO1.sl.ext (Ext.refl w1).drew')
 have HRR:=zh (fun (W:World) (h:Ext w1 W)=>(HR.out.ext he1).ext h)
 have hXd:=(Ext.refl w1).drew'
 clear hO1 he1 HN1 HS q0 hk
 go_wp2_with fail
 clear q1
 go_region_held3 (fun w'=>w'.cell? ⟨w.heap.size,4,none⟩=some (.int .i64 R.va)∧w'.cell? ⟨w.heap.size,2,none⟩=some (.int .i64 R.am)) (first | (with_reducible exact HQ.out _ hXd) | (with_reducible exact HQ.out _ hX2) | (with_reducible exact HQ.out _ hX3) | fail "CELLS") (first | (go_at_call 86;(with_reducible refine (bV _ _ _ _ R.va _ HS1.out (by omega)).mono ?_);rintro e w2 ⟨A2,c2,rfl,hO2,he2⟩;have hX2:=Ext.trans hXd he2;have HS2:=zh hO2.sl;clear hO2 he2) | (go_at_call 86;(with_reducible refine (iO _ _ _ _ R.am _ HS2.out (by omega)).mono ?_);rintro e w3 ⟨A3,c3,rfl,hO3,he3⟩;have hX3:=Ext.trans hX2 he3;have HS3:=zh hO3.sl;have HOz:=zh (bB hO3 hX2.size);clear hO3 he3) | fail "ARM")
 all_goals (
  have HXz:=zh hX3
  clear hXd hX2 hX3
  go_wp2_with fail
  go_ret
  refine ⟨A3,_,c3,rfl,bB (base:=w1.heap.size) ?_ HX1.out.size,HX1.out.trans HXz.out⟩
  rw [HEN.out];simpa using HOz.out)
theorem wP (R:OpR) (h:R.k=6) (hv:vOp R=true) (A:Option Addr) (n c:Nat) (l:List UInt8) (w:World) (hR:R.ok w) (hS:SlB w A n c l) (hn:n≤1000000) :
  Calls Tryz.prog 131 #[.slice A n c,.agg (opA R)] w fun e w'=>∃ A' n' c',e=.returned (.slice A' n' c')∧OwnB w' w.heap.size 5 A' n' c' (l ++ dF R)∧Ext w w':=by
 have HEN:=zh (aAu h)
 have b2:=yV hv
 have hA:=(Ext.refl w).alloc' (.cells (opA R) 69)
 have HA:=zh hA
 have HB:=zh (Blk.new w 69 (opA R))
 have HR:=zh (hR.ext hA)
 have HS:=zh (hS.ext hA)
 have HN1:=zh (bV A n c l R.k _ HS.out (by omega))
 have q0:(w.alloc (.cells (opA R) 69)).cell? ⟨w.heap.size,0,none⟩=some (.int .i64 R.k):=HB.out.cell 0
 have HK:=zh h
 clear hR hS hv hA h
 go_enter Tryz.func131,Tryz.ntmps131
 go_wp2_with fail
 refine HN1.out.mono ?_
 rintro e w1 ⟨A1,c1,rfl,hO1,he1⟩
 have hk:=HK.out
 have q1:w1.cell? ⟨w.heap.size,0,none⟩=some (.int .i64 6):=by rw [← hk];exact (HB.out.ext he1).cell 0
 have HQ:=zh (fun (W:World) (h:Ext w1 W)=>show W.cell? ⟨w.heap.size,4,none⟩=some (.int .i64 R.va)∧W.cell? ⟨w.heap.size,22,none⟩=some (.slice R.A2 R.n2 R.c2) from ⟨((HB.out.ext he1).ext h).cell 4,((HB.out.ext he1).ext h).cell 22⟩)
 have HX1:=zh (HA.out.trans he1)
 have HS1:=zh (hO1.sl.ext (Ext.refl w1).drew')
 have HRR:=zh (fun (W:World) (h:Ext w1 W)=>(HR.out.ext he1).ext h)
 have hXd:=(Ext.refl w1).drew'
 clear hO1 he1 HN1 HS q0 hk
 go_wp2_with fail
 clear q1
 go_region_held3 (fun w'=>w'.cell? ⟨w.heap.size,4,none⟩=some (.int .i64 R.va)∧w'.cell? ⟨w.heap.size,22,none⟩=some (.slice R.A2 R.n2 R.c2)) (first | (with_reducible exact HQ.out _ hXd) | (with_reducible exact HQ.out _ hX2) | (with_reducible exact HQ.out _ hX3) | fail "CELLS") (first | (go_at_call 86;(with_reducible refine (bV _ _ _ _ R.va _ HS1.out (by omega)).mono ?_);rintro e w2 ⟨A2,c2,rfl,hO2,he2⟩;have hX2:=Ext.trans hXd he2;have HS2:=zh hO2.sl;clear hO2 he2) | (go_at_call 193;(with_reducible refine (uA _ _ _ _ _ _ _ R.prf _ HS2.out (aFm (HRR.out _ hX2) (Ext.refl _)) (by omega) (by omega)).mono ?_);rintro e w3 ⟨A3,n3,c3,rfl,hO3,he3⟩;have hX3:=Ext.trans hX2 he3;have HS3:=zh hO3.sl;have HOz:=zh (bB hO3 hX2.size);clear hO3 he3) | fail "ARM")
 all_goals (
  have HXz:=zh hX3
  clear hXd hX2 hX3
  go_wp2_with fail
  go_ret
  refine ⟨A3,_,c3,rfl,bB (base:=w1.heap.size) ?_ HX1.out.size,HX1.out.trans HXz.out⟩
  rw [HEN.out];simpa using HOz.out)
theorem sM (R:OpR) (hv:vOp R=true) (A:Option Addr) (n c:Nat) (l:List UInt8) (w:World) (hR:R.ok w) (hS:SlB w A n c l) (hn:n≤1000000) :
  Calls Tryz.prog 131 #[.slice A n c,.agg (opA R)] w fun e w'=>∃ A' n' c',e=.returned (.slice A' n' c')∧OwnB w' w.heap.size 5 A' n' c' (l ++ dF R)∧Ext w w':=by
 rcases iC R.k with h | h | h | h | h | h | h
 ·exact wV R h hv A n c l w hR hS hn
 ·exact wU R h hv A n c l w hR hS hn
 ·exact wT R h hv A n c l w hR hS hn
 ·exact wR R h hv A n c l w hR hS hn
 ·exact wQ R h hv A n c l w hR hS hn
 ·exact wP R h hv A n c l w hR hS hn
 exact absurd (tG hv) h
theorem fL {w:World} {g:Nat} {t:TypeId} {ac sq:Int} {A:Option Addr} {n c:Nat} (h:Blk w g t (txA ac sq A n c)):w.cell? ⟨g,0,none⟩=some (.int .i64 ac)∧w.cell? ⟨g,1,none⟩=some (.int .i64 sq)∧w.cell? ⟨g,2,none⟩=some (.slice A n c) :=
 ⟨h.cell 0,h.cell 1,h.cell 2⟩
theorem wJ (ac sq:Int) (A:Option Addr) (n c:Nat) (L:List OpR) (w:World) (hS:SlO w A n c L) (hh:0≤ac∧ac≤15∧0≤sq∧sq≤31∧1≤n∧n≤4) :
  Calls Tryz.prog 46 #[.agg (txA ac sq A n c)] w fun e w'=>e=.returned (.bool (vTx ac sq L))∧Ext w w':=by
 have hle:=hS.le
 have hcap:=hS.cap
 have HLEN:=zh hS.len
 have hE:=(Ext.refl w).alloc' (.cells (txA ac sq A n c) 24)
 have HE:=zh hE
 have HS:=zh hS
 have HB:=zh (Blk.new w 24 (txA ac sq A n c))
 have HH:=zh (show tH ac sq L.length=true by rw [HLEN.out];exact decide_eq_true hh)
 have W1:=zh (fun W=>eG ac 0 15 (by omega) W)
 have W2:=zh (fun W=>eG sq 0 31 (by omega) W)
 have W3:=zh (fun W=>eG (n:Int) 1 4 (by omega) W)
 have hn4:n≤4:=by omega
 obtain ⟨b,o,rfl,hr,hb⟩:=HS.out.at (by omega)
 have HR:=zh hr
 have HBL:=zh hb
 clear hr hb hh hS hE
 go_enter Tryz.func46,Tryz.ntmps46
 go_wp2_with (go_at_call 73;(first | (with_reducible refine (W1.out _).mono ?_) | (with_reducible refine (W2.out _).mono ?_) | (with_reducible refine (W3.out _).mono ?_));rintro e wv ⟨rfl,rfl⟩)
 go_loopw [3] (fun i wr=>∃ k:Nat,k≤n∧i=.int .i64 (k:Int)∧Hid (∀ j,j < k→vOp (aY L j)=true)∧Hid (Ext (w.alloc (.cells (txA ac sq (some ⟨b,o,none⟩) n c) 24)) wr)) (fun i _=>n - (intOf i).toNat)
 case atStart=>exact ⟨0,Nat.zero_le _,rfl,zh (fun j hj=>by omega),zh (Ext.refl _)⟩
 case round =>
  obtain ⟨k,hk,rfl,HP,HX0⟩:=hrel
  have HX:=zh (HE.out.trans HX0.out)
  have q2:=(fL (HB.out.ext HX0.out)).2.2
  by_cases hlt:k < n
  ·have hr := kW (aX HR.out (HX.out.block b HBL.out)) (k := k) (by rw [HLEN.out]; exact hlt)
   have HQ:=zh (fun (hx:vOp (aY L k)=true)=>show ∀ j,j < k+1→vOp (aY L j)=true from fun j hj=>by
    rcases Nat.lt_or_ge j k with h | h
    ·exact HP.out j h
    obtain rfl:j=k:=by omega
    exact hx)
   have HN:=zh (fun (hx:vOp (aY L k)=false)=>aGi (ac:=ac) (sq:=sq) (by rw [HLEN.out];exact hlt) hx)
   have HOK:=zh ((HS.out.nth hlt).ext HX.out)
   have i0:(0:Int)≤(k:Int):=by omega
   have i1:(k:Int) < (n:Int):=by omega
   obtain ⟨R,hR⟩:∃ R,aY L k=R:=⟨_,rfl⟩
   rw [hR] at hr HQ HN HOK
   clear hR
   go_wp2_with (first | (with_reducible refine fC rfl (.tmp 31) rfl b (o+k * 23) rfl R hr ?_))
   refine (tX R _ HOK.out).mono ?_
   rintro e w1 ⟨rfl,he1⟩
   have HX1:=zh (HX0.out.trans he1)
   have HY1:=zh (HX.out.trans he1)
   clear he1 hr q2
   cases hv:vOp R with
   | true =>
    have HQ':=zh (HQ.out hv)
    clear hv
    go_wp2_with fail
    go_roundw
    case rel=>exact ⟨k+1,by omega,by go_num,HQ',HX1⟩
    case measure=>simp [intOf];omega
   | false =>
    have HN':=zh (HN.out hv)
    clear hv
    go_wp2_with fail
    go_ret
    exact ⟨by rw [HN'.out];rfl,HY1.out⟩
  obtain rfl:k=n:=by omega
  have HV:=zh (show vTx ac sq L=true from aDU HH.out (fun j hj=>HP.out j (by rw [HLEN.out] at hj;exact hj)))
  go_wp2_with fail
  go_ret
  exact ⟨by rw [HV.out];rfl,HX.out⟩
theorem tW (ac sq:Int) (A:Option Addr) (n c:Nat) (L:List OpR) (w:World) (hS:SlO w A n c L) (hh:¬ (0≤ac∧ac≤15∧0≤sq∧sq≤31∧1≤n∧n≤4)) :
  Calls Tryz.prog 46 #[.agg (txA ac sq A n c)] w fun e w'=>e=.returned (.bool (vTx ac sq L))∧Ext w w':=by
 have hle:=hS.le
 have hcap:=hS.cap
 have HE:=zh ((Ext.refl w).alloc' (.cells (txA ac sq A n c) 24))
 have HV:=zh (show vTx ac sq L=false from aAW (by rw [hS.len];exact decide_eq_false hh))
 obtain ⟨b1,e1⟩:∃ b,dA ac 0 15=b:=⟨_,rfl⟩
 obtain ⟨b2,e2⟩:∃ b,dA sq 0 31=b:=⟨_,rfl⟩
 obtain ⟨b3,e3⟩:∃ b,dA (n:Int) 1 4=b:=⟨_,rfl⟩
 have W1:=zh (fun W=>aN ac 0 15 W)
 have W2:=zh (fun W=>aN sq 0 31 W)
 have W3:=zh (fun W=>aN (n:Int) 1 4 W)
 rw [e1] at W1
 rw [e2] at W2
 rw [e3] at W3
 have hc:b1=false ∨ (b1=true∧b2=false) ∨ (b1=true∧b2=true∧b3=false):=by
  rw [← e1,← e2,← e3];unfold dA;simp only [decide_eq_true_eq,decide_eq_false_iff_not];omega
 clear hS hh e1 e2 e3
 rcases hc with rfl | ⟨rfl,rfl⟩ | ⟨rfl,rfl,rfl⟩
 all_goals (
  go_enter Tryz.func46,Tryz.ntmps46
  go_wp2_with (go_at_call 73;(first | (with_reducible refine (W1.out _).mono ?_) | (with_reducible refine (W2.out _).mono ?_) | (with_reducible refine (W3.out _).mono ?_));rintro e wv ⟨rfl,rfl⟩)
  go_ret
  exact ⟨by rw [HV.out];rfl,HE.out⟩)
theorem gD (ac sq:Int) (A:Option Addr) (n c:Nat) (L:List OpR) (w:World) (hS:SlO w A n c L) :
  Calls Tryz.prog 46 #[.agg (txA ac sq A n c)] w fun e w'=>e=.returned (.bool (vTx ac sq L))∧Ext w w':=by
 by_cases hh:0≤ac∧ac≤15∧0≤sq∧sq≤31∧1≤n∧n≤4
 ·exact wJ ac sq A n c L w hS hh
 exact tW ac sq A n c L w hS hh
theorem tY (ac sq:Int) (A:Option Addr) (n c:Nat) (L:List OpR) (w:World) (hS:SlO w A n c L) (hv:vTx ac sq L=true) :
  Calls Tryz.prog 76 #[.agg (txA ac sq A n c)] w fun e w'=>∃ A' n' c',e=.returned (.slice A' n' c')∧SlB w' A' n' c' (lW ac sq L)∧n'≤13000∧Ext w w':=by
 obtain ⟨⟨h1,h2,h3,h4,h5,h6⟩,hops⟩:=eO hv
 have hlen:=hS.len
 rw [hlen] at h5 h6
 have hle:=hS.le
 have hcap:=hS.cap
 have hE:=(Ext.refl w).alloc' (.cells (txA ac sq A n c) 24)
 obtain ⟨b,o,rfl,hr0,hb0⟩:=hS.at (by omega)
 obtain ⟨w1,hw1⟩:∃ w1,w.alloc (.cells (txA ac sq (some ⟨b,o,none⟩) n c) 24)=w1:=⟨_,rfl⟩
 have HB:=zh (Blk.new w 24 (txA ac sq (some ⟨b,o,none⟩) n c))
 have HSW:=zh (hS.ext hE)
 have HE:=zh hE
 rw [hw1] at HSW HE HB
 have HLEN:=zh hlen
 have HR0:=zh hr0
 have HBL:=zh hb0
 have HOPS:=zh hops
 have HQ:=zh (fun (W:World) (h:Ext w1 W)=>fL (HB.out.ext h))
 have HNL:=zh (SlB.nil w1.drew)
 have hXd:=(Ext.refl w1).drew'
 clear hS hE hr0 hb0 hops hlen hv
 go_enter Tryz.func76,Tryz.ntmps76
 go_wp2_with fail
 clear hw1
 go_region_held3 (fun w'=>w'.cell? ⟨w.heap.size,0,none⟩=some (.int .i64 ac)∧w'.cell? ⟨w.heap.size,1,none⟩=some (.int .i64 sq)∧w'.cell? ⟨w.heap.size,2,none⟩=some (.slice (some ⟨b,o,none⟩) n c)) (first | (with_reducible exact HQ.out _ hXd) | (with_reducible exact HQ.out _ hX2) | (with_reducible exact HQ.out _ hX3) | (with_reducible exact HQ.out _ hX4) | fail "CELLS") (first | (go_at_call 86;(with_reducible refine (bV _ _ _ _ ac _ HNL.out (by omega)).mono ?_);rintro e w2 ⟨A2,c2,rfl,hO2,he2⟩;have hX2:=Ext.trans hXd he2;have HS2:=zh hO2.sl;clear hO2 he2) | (go_at_call 86;(with_reducible refine (bV _ _ _ _ sq _ HS2.out (by omega)).mono ?_);rintro e w3 ⟨A3,c3,rfl,hO3,he3⟩;have hX3:=Ext.trans hX2 he3;have HS3:=zh hO3.sl;clear hO3 he3) | (go_at_call 86;(with_reducible refine (bV _ _ _ _ (n:Int) _ HS3.out (by omega)).mono ?_);rintro e w4 ⟨A4,c4,rfl,hO4,he4⟩;have hX4:=Ext.trans hX3 he4;have HS4:=zh hO4.sl;clear hO4 he4) | fail "ARM")
 all_goals (
  have HX4:=zh hX4
  clear hX4 hX3 hX2 hXd HS2 HS3 HNL
  go_wp2_with fail
  go_loopw [4,3] (fun i v wr=>∃ (k:Nat) (A5:Option Addr) (n5 c5:Nat),k≤n∧i=.int .i64 (k:Int)∧v=.slice A5 n5 c5∧n5≤3+3000 * k∧Hid (SlB wr A5 n5 c5 ([toB ac,toB sq,toB (n:Int)] ++ fA (L.take k)))∧Hid (Ext w1 wr)) (fun i _ _=>n - (intOf i).toNat)
  case atStart=>exact ⟨0,A4,_,c4,Nat.zero_le _,rfl,rfl,by omega,zh (by simpa [fA] using HS4.out),HX4⟩
  case round =>
   obtain ⟨k,A5,n5,c5,hk,rfl,rfl,hn5,HS5,HX5⟩:=hrel
   have q2:=(HQ.out _ HX5.out).2.2
   have HE5:=zh (HE.out.trans HX5.out)
   by_cases hlt:k < n
   ·have hr := kW (aX HR0.out (HE5.out.block b HBL.out)) (k := k) (by rw [HLEN.out]; exact hlt)
    have HTK:=zh (mZ (L:=L) (k:=k) (by rw [HLEN.out];exact hlt))
    have HOK:=zh (HSW.out.nth hlt)
    have HV:=zh (HOPS.out k (by rw [HLEN.out];exact hlt))
    have i0:(0:Int)≤(k:Int):=by omega
    have i1:(k:Int) < (n:Int):=by omega
    obtain ⟨R,hR⟩:∃ R,aY L k=R:=⟨_,rfl⟩
    rw [hR] at hr HTK HOK HV
    clear hR
    go_wp2_with (first | (with_reducible refine fC rfl (.tmp 26) rfl b (o+k * 23) rfl R hr ?_))
    refine (sM R HV.out A5 n5 c5 _ _ (HOK.out.ext HX5.out) HS5.out (by omega)).mono ?_
    rintro e w6 ⟨A6,n6,c6,rfl,hO6,he6⟩
    have HS6:=zh (show SlB w6 A6 n6 c6 ([toB ac,toB sq,toB (n:Int)] ++ fA (L.take (k+1))) by
     rw [HTK.out,nW]
     simpa [fA] using hO6.sl)
    have hn6:n6≤3+3000 * (k+1):=by
     have a1:=hO6.len
     have a2:=HS5.out.len
     have a3:=yJ HV.out HOK.out
     rw [List.length_append,a2] at a1
     omega
    have HX6:=zh (HX5.out.trans he6)
    clear hO6 he6 hr HTK q2
    go_wp2_with fail
    go_roundw
    case rel=>exact ⟨k+1,A6,n6,c6,by omega,by go_num,rfl,hn6,HS6,HX6⟩
    case measure=>simp [intOf];omega
   obtain rfl:k=n:=by omega
   go_wp2_with fail
   go_ret
   refine ⟨A5,n5,c5,rfl,?_,by omega,HE5.out⟩
   have:=HS5.out
   unfold lW
   rw [List.take_of_length_le (Nat.le_of_eq HLEN.out)] at this
   rw [HLEN.out]
   exact this)
end
end Go.Proofs.YtohmmcahpakokaaGreat
