/- EqualFunc over equalOp, Equal (the program's); large, code (the law's). -/
import Derived.Lib.Overlaps
import Derived.Lib.AppendZerosOnto
import Derived.Lib.SliceRun
import Derived.Test.YtohmmcahpakokaaGreatG13
import Derived.Test.YtohmmcahpakokaaGreatG14
set_option maxRecDepth 100000
set_option maxHeartbeats 8000000
set_option linter.unusedVariables false
set_option linter.unusedSimpArgs false
namespace Go.Proofs.YtohmmcahpakokaaGreat
section
open Go.RowKit
attribute [local go_sem ↓] Go.wp_at_zero Go.wp_at_succ
def cB (ac sq:Int) (L:List OpR):UInt64:=if vTx ac sq L=true then dW 80 (mB ac sq L) else 0
theorem fB (ac sq:Int) (A:Option Addr) (n c:Nat) (L:List OpR) (w:World) (hS:SlO w A n c L) :
  Calls Tryz.prog 56 #[.agg (txA ac sq A n c)] w fun e w'=>e=.returned (.agg (nmc (cB ac sq L)))∧Ext w w':=by
 have hE:=((Ext.refl w).alloc' (.cells (txA ac sq A n c) 24)).alloc' (.cells zcs.toArray 30)
 have HB1:=zh ((Blk.new w 24 (txA ac sq A n c)).alloc (.cells zcs.toArray 30))
 have HB2:=zh (show Blk ((w.alloc (.cells (txA ac sq A n c) 24)).alloc (.cells zcs.toArray 30)) (w.heap.size+1) 30 zcs.toArray from Blk.newAt _ _ _ _ (by simp))
 have HE:=zh hE
 have HS:=zh (hS.ext hE)
 have HV:=zh (eM ac sq A n c L _ HS.out)
 cases hv:vTx ac sq L with
 | false =>
  have HN:=zh (show cB ac sq L=0 by unfold cB;rw [if_neg (by rw [hv];decide)])
  rw [hv] at HV
  have HV:=zh (show Calls Tryz.prog 44 #[.agg (txA ac sq A n c)] _ (fun e w'=>e=.returned (.int .i64 1)∧Ext _ w') from HV.out)
  clear hS hE hv
  go_enter Tryz.func56,Tryz.ntmps56
  go_wp2_with fail
  refine HV.out.mono ?_
  rintro e w1 ⟨rfl,he1⟩
  have hb:=HB2.out.ext he1
  have hst:=cC hb 0
  rw [show (nmc 0).toList=zcs from by rw [← tD]] at hst
  have ht:=fN hb
  go_wp2_with (with_reducible refine bG rfl (.tmp 2) (.tmp 6) rfl (w.heap.size+1) 0 0 rfl rfl ht ?_)
  exact bodyPost_ret (v:=.agg (nmc 0)) (fI rfl _ _ (w.heap.size+1) 0 rfl (by first | exact blkN hb 0 | exact lD hb)) rfl ⟨by rw [HN.out],Below.setCells' (HE.out.trans he1) (by omega) _ _⟩
 | true =>
  have HN:=zh (show cB ac sq L=dW 80 (mB ac sq L) by unfold cB;rw [if_pos hv])
  have HEN:=zh (fun (W:World) (h:Ext ((w.alloc (.cells (txA ac sq A n c) 24)).alloc (.cells zcs.toArray 30)) W)=>aEk ac sq A n c L W (HS.out.ext h) hv)
  rw [hv] at HV
  have HV:=zh (show Calls Tryz.prog 44 #[.agg (txA ac sq A n c)] _ (fun e w'=>e=.returned (.int .i64 0)∧Ext _ w') from HV.out)
  clear hS hE hv
  go_enter Tryz.func56,Tryz.ntmps56
  go_wp2_with fail
  refine HV.out.mono ?_
  rintro e w1 ⟨rfl,he1⟩
  have HX1:=zh he1
  obtain ⟨q0,q1,q2⟩:=jK (HB1.out.ext he1)
  clear he1
  go_wp2_with fail
  refine (HEN.out _ HX1.out).mono ?_
  rintro e w2 ⟨A2,n2,c2,rfl,hO2,hn2,he2⟩
  have HX2:=zh (HX1.out.trans he2)
  have HS2:=zh hO2.sl
  clear hO2 he2 q0 q1 q2
  go_wp2_with fail
  refine (fZ 80 A2 n2 c2 _ _ HS2.out (by omega)).mono ?_
  rintro e w3 ⟨rfl,he3⟩
  have hb:=HB2.out.ext (HX2.out.trans he3)
  have hst:=cC hb (dW 80 (mB ac sq L))
  go_wp2_with fail
  exact bodyPost_ret (v:=.agg (nmc (dW 80 (mB ac sq L)))) (fI rfl _ _ (w.heap.size+1) _ rfl (blkN hb _)) rfl ⟨by rw [HN.out],Below.setCells' (HE.out.trans (HX2.out.trans he3)) (by omega) _ _⟩
theorem nT (ac sq:Int) (A:Option Addr) (n c:Nat) (L:List OpR) (w:World) (hS:SlO w A n c L) :
  Calls Tryz.prog 35 #[.agg (txA ac sq A n c)] w fun e w'=>e=.returned (.agg (nmc (cB ac sq L)))∧Ext w w':=by
 have hE:=((Ext.refl w).alloc' (.cells (txA ac sq A n c) 24)).alloc' (.cells zcs.toArray 30)
 have HB1:=zh ((Blk.new w 24 (txA ac sq A n c)).alloc (.cells zcs.toArray 30))
 have HB2:=zh (show Blk ((w.alloc (.cells (txA ac sq A n c) 24)).alloc (.cells zcs.toArray 30)) (w.heap.size+1) 30 zcs.toArray from Blk.newAt _ _ _ _ (by simp))
 have HE:=zh hE
 have HS:=zh (hS.ext hE)
 have HV:=zh (mP ac sq A n c L _ HS.out)
 cases hv:vTx ac sq L with
 | false =>
  have HN:=zh (show cB ac sq L=0 by unfold cB;rw [if_neg (by rw [hv];decide)])
  rw [hv] at HV
  have HV:=zh (show Calls Tryz.prog 46 #[.agg (txA ac sq A n c)] _ (fun e w'=>e=.returned (.bool false)∧Ext _ w') from HV.out)
  clear hS hE hv
  go_enter Tryz.func35,Tryz.ntmps35
  go_wp2_with fail
  refine HV.out.mono ?_
  rintro e w1 ⟨rfl,he1⟩
  have hb:=HB2.out.ext he1
  have hst:=cC hb 0
  rw [show (nmc 0).toList=zcs from by rw [← tD]] at hst
  have ht:=fN hb
  go_wp2_with (with_reducible refine bG rfl (.tmp 2) (.tmp 6) rfl (w.heap.size+1) 0 0 rfl rfl ht ?_)
  exact bodyPost_ret (v:=.agg (nmc 0)) (fI rfl _ _ (w.heap.size+1) 0 rfl (by first | exact blkN hb 0 | exact lD hb)) rfl ⟨by rw [HN.out],Below.setCells' (HE.out.trans he1) (by omega) _ _⟩
 | true =>
  have HN:=zh (show cB ac sq L=dW 80 (mB ac sq L) by unfold cB;rw [if_pos hv])
  have HEN:=zh (fun (W:World) (h:Ext ((w.alloc (.cells (txA ac sq A n c) 24)).alloc (.cells zcs.toArray 30)) W)=>uP ac sq A n c L W (HS.out.ext h) hv)
  rw [hv] at HV
  have HV:=zh (show Calls Tryz.prog 46 #[.agg (txA ac sq A n c)] _ (fun e w'=>e=.returned (.bool true)∧Ext _ w') from HV.out)
  clear hS hE hv
  go_enter Tryz.func35,Tryz.ntmps35
  go_wp2_with fail
  refine HV.out.mono ?_
  rintro e w1 ⟨rfl,he1⟩
  have HX1:=zh he1
  obtain ⟨q0,q1,q2⟩:=jK (HB1.out.ext he1)
  clear he1
  go_wp2_with fail
  refine (HEN.out _ HX1.out).mono ?_
  rintro e w2 ⟨A2,n2,c2,rfl,hO2,hn2,he2⟩
  have HX2:=zh (HX1.out.trans he2)
  have HS2:=zh hO2
  clear hO2 he2 q0 q1 q2
  go_wp2_with fail
  refine (eA 80 A2 n2 c2 _ _ HS2.out (by omega)).mono ?_
  rintro e w3 ⟨rfl,he3⟩
  have hb:=HB2.out.ext (HX2.out.trans he3)
  have hst:=cC hb (dW 80 (mB ac sq L))
  go_wp2_with fail
  exact bodyPost_ret (v:=.agg (nmc (dW 80 (mB ac sq L)))) (fI rfl _ _ (w.heap.size+1) _ rfl (blkN hb _)) rfl ⟨by rw [HN.out],Below.setCells' (HE.out.trans (HX2.out.trans he3)) (by omega) _ _⟩
def dG (ac sq:Int) (L:List OpR) (op:Int):UInt64:=if vTx ac sq L=true∧0≤op∧op < (L.length:Int)∧(bI L op.toNat).k=2 then dW 81 (nmb (cB ac sq L) ++ [toB op]) else 0
theorem qC (ac sq:Int) (A:Option Addr) (n c:Nat) (L:List OpR) (op:Int) (w:World) (hS:SlO w A n c L) :
  Calls Tryz.prog 84 #[.agg (txA ac sq A n c),.int .i64 op] w fun e w'=>e=.returned (.agg (nmc (dG ac sq L op)))∧Ext w w':=by
 have hle:=hS.le
 have hcap:=hS.cap
 have hlen:=hS.len
 have hE:=((Ext.refl w).alloc' (.cells (txA ac sq A n c) 24)).alloc' (.cells zcs.toArray 30)
 have HB1:=zh ((Blk.new w 24 (txA ac sq A n c)).alloc (.cells zcs.toArray 30))
 have HB2:=zh (show Blk ((w.alloc (.cells (txA ac sq A n c) 24)).alloc (.cells zcs.toArray 30)) (w.heap.size+1) 30 zcs.toArray from Blk.newAt _ _ _ _ (by simp))
 have HE:=zh hE
 have HS:=zh (hS.ext hE)
 have HV:=zh (eM ac sq A n c L _ HS.out)
 by_cases hall:vTx ac sq L=true∧0≤op∧op < (L.length:Int)∧(bI L op.toNat).k=2
 ·obtain ⟨hv, h0, h1, h2⟩ := hall
  have HN:=zh (show dG ac sq L op=dW 81 (nmb (cB ac sq L) ++ [toB op]) by unfold dG;rw [if_pos ⟨hv,h0,h1,h2⟩])
  rw [hlen] at h1
  rw [hv] at HV
  have HV:=zh (show Calls Tryz.prog 44 #[.agg (txA ac sq A n c)] _ (fun e w'=>e=.returned (.int .i64 0)∧Ext _ w') from HV.out)
  obtain ⟨b,o,rfl,hr0,hb0⟩:=HS.out.at (by omega)
  obtain ⟨j,rfl⟩:∃ j:Nat,op=(j:Int):=⟨op.toNat,by omega⟩
  rw [Int.toNat_natCast] at h2
  have HR:=zh (fun (W:World) (h:Ext ((w.alloc (.cells (txA ac sq (some ⟨b,o,none⟩) n c) 24)).alloc (.cells zcs.toArray 30)) W)=>show W.cell? ⟨b,o+j * 23,none⟩=some (.int .i64 2) from by
   have:=vB (bE hr0 (h.block b hb0)) (k:=j) (by rw [hlen];omega) 0 _ rfl
   rw [h2] at this;exact this)
  have d1:decide ((j:Int) < 0)=false:=decide_eq_false (by omega)
  have d2:decide ((n:Int)≤(j:Int))=false:=decide_eq_false (by omega)
  have d3:(j:Int) < (n:Int):=by omega
  have HNM:=zh (fun (W:World) (h:Ext ((w.alloc (.cells (txA ac sq (some ⟨b,o,none⟩) n c) 24)).alloc (.cells zcs.toArray 30)) W)=>fB ac sq (some ⟨b,o,none⟩) n c L W (HS.out.ext h))
  clear hS hE hv h0 h1 h2 hr0 hb0 hlen
  go_enter Tryz.func84,Tryz.ntmps84
  go_wp2_with fail
  refine HV.out.mono ?_
  rintro e w1 ⟨rfl,he1⟩
  have HX1:=zh he1
  obtain ⟨q0,q1,q2⟩:=jK (HB1.out.ext he1)
  have q3:=HR.out _ he1
  clear he1 HV
  go_wp2_with fail
  refine (HNM.out _ HX1.out).mono ?_
  rintro e w2 ⟨rfl,he2⟩
  obtain ⟨N,hN⟩:∃ N,cB ac sq L=N:=⟨_,rfl⟩
  rw [hN] at HN ⊢
  have HX2:=zh (HX1.out.trans he2)
  clear he2 q0 q1 q2 q3 hN
  have e3:=((Ext.refl w2).alloc' (.cells (nmc N) 30)).alloc' (.cells #[.int .u8 ((j:Int) % 256)] 5)
  have HSA:=zh (SlB.blkN ((Blk.new w2 30 (nmc N)).alloc (.cells #[.int .u8 ((j:Int) % 256)] 5)))
  have HSB:=zh (SlB.new1 (w2.alloc (.cells (nmc N) 30)) 5 ((j:Int) % 256) (toB (j:Int)) (w2.heap.size+1) (by simp) (bK _))
  go_wp2_with (first | (with_reducible refine lW rfl (.tmp 5) (.tmp 31) rfl w2.heap.size N rfl rfl rfl ?_) | (at_builtin;go_must (refine pG bL rfl (.tmp 32) (.tmp 35) rfl _ 8 8 (nmb N) rfl HSA.out (by omega) _ 1 1 [toB (j:Int)] rfl HSB.out (by omega) (by omega) (by omega) ?_;intro A5 c5 w5 hO5 he5)))
  have HX5:=zh (HX2.out.trans (e3.trans he5))
  have HS5:=zh hO5.sl
  clear hO5 he5 e3
  refine (fZ 81 A5 _ c5 _ _ HS5.out (by omega)).mono ?_
  rintro e w6 ⟨rfl,he6⟩
  have hb:=HB2.out.ext (HX5.out.trans he6)
  have hst:=cC hb (dW 81 (nmb N ++ [toB (j:Int)]))
  go_wp2_with fail
  exact bodyPost_ret (v:=.agg (nmc (dW 81 (nmb N ++ [toB (j:Int)])))) (fI rfl _ _ (w.heap.size+1) _ rfl (blkN hb _)) rfl ⟨by rw [HN.out],Below.setCells' (HE.out.trans (HX5.out.trans he6)) (by omega) _ _⟩
 have HN:=zh (show dG ac sq L op=0 by unfold dG;rw [if_neg hall])
 cases hv:vTx ac sq L with
 | false =>
  rw [hv] at HV
  have HV:=zh (show Calls Tryz.prog 44 #[.agg (txA ac sq A n c)] _ (fun e w'=>e=.returned (.int .i64 1)∧Ext _ w') from HV.out)
  clear hS hE hv hall
  go_enter Tryz.func84,Tryz.ntmps84
  go_wp2_with fail
  refine HV.out.mono ?_
  rintro e w1 ⟨rfl,he1⟩
  have hb:=HB2.out.ext he1
  have ht:=fN hb
  go_wp2_with (with_reducible refine bG rfl (.tmp 4) (.tmp 29) rfl (w.heap.size+1) 0 0 rfl rfl ht ?_)
  exact bodyPost_ret (v:=.agg (nmc 0)) (fI rfl _ _ (w.heap.size+1) 0 rfl (by first | exact blkN hb 0 | exact lD hb)) rfl ⟨by rw [HN.out],Below.setCells' (HE.out.trans he1) (by omega) _ _⟩
 | true =>
  rw [hv] at HV
  have HV:=zh (show Calls Tryz.prog 44 #[.agg (txA ac sq A n c)] _ (fun e w'=>e=.returned (.int .i64 0)∧Ext _ w') from HV.out)
  have hc:op < 0 ∨ (decide (op < 0)=false∧(n:Int)≤op) ∨ (∃ j:Nat,op=(j:Int)∧j < n∧(bI L j).k ≠ 2):=by
   by_cases h0:op < 0
   ·exact .inl h0
   by_cases h1:(n:Int)≤op
   ·exact .inr (.inl ⟨decide_eq_false h0,h1⟩)
   refine .inr (.inr ⟨op.toNat,by omega,by omega,fun h2=>hall ⟨hv,by omega,by rw [hlen];omega,h2⟩⟩)
  clear hall hv hE
  rcases hc with h0 | ⟨d1,h1⟩ | ⟨j,rfl,hj,h2⟩
  ·clear hS
   go_enter Tryz.func84,Tryz.ntmps84
   go_wp2_with fail
   refine HV.out.mono ?_
   rintro e w1 ⟨rfl,he1⟩
   have hb:=HB2.out.ext he1
   have ht:=fN hb
   go_wp2_with (with_reducible refine bG rfl (.tmp 4) (.tmp 29) rfl (w.heap.size+1) 0 0 rfl rfl ht ?_)
   exact bodyPost_ret (v:=.agg (nmc 0)) (fI rfl _ _ (w.heap.size+1) 0 rfl (by first | exact blkN hb 0 | exact lD hb)) rfl ⟨by rw [HN.out],Below.setCells' (HE.out.trans he1) (by omega) _ _⟩
  ·clear hS
   go_enter Tryz.func84,Tryz.ntmps84
   go_wp2_with fail
   refine HV.out.mono ?_
   rintro e w1 ⟨rfl,he1⟩
   obtain ⟨q0,q1,q2⟩:=jK (HB1.out.ext he1)
   have hb:=HB2.out.ext he1
   have ht:=fN hb
   go_wp2_with (with_reducible refine bG rfl (.tmp 4) (.tmp 29) rfl (w.heap.size+1) 0 0 rfl rfl ht ?_)
   exact bodyPost_ret (v:=.agg (nmc 0)) (fI rfl _ _ (w.heap.size+1) 0 rfl (by first | exact blkN hb 0 | exact lD hb)) rfl ⟨by rw [HN.out],Below.setCells' (HE.out.trans he1) (by omega) _ _⟩
  obtain ⟨b,o,rfl,hr0,hb0⟩:=HS.out.at (by omega)
  have d1:decide ((j:Int) < 0)=false:=decide_eq_false (by omega)
  have d2:decide ((n:Int)≤(j:Int))=false:=decide_eq_false (by omega)
  have d3:(j:Int) < (n:Int):=by omega
  have j0:(0:Int)≤(j:Int):=by omega
  have HR:=zh (fun (W:World) (h:Ext ((w.alloc (.cells (txA ac sq (some ⟨b,o,none⟩) n c) 24)).alloc (.cells zcs.toArray 30)) W)=>show W.cell? ⟨b,o+j * 23,none⟩=some (.int .i64 (bI L j).k) from vB (bE hr0 (h.block b hb0)) (k:=j) (by rw [hlen];omega) 0 _ rfl)
  obtain ⟨x,hx⟩:∃ x,(bI L j).k=x:=⟨_,rfl⟩
  rw [hx] at HR h2
  have y1:(x != 2)=true:=by simp;omega
  have y2:(x == 2)=false:=by simp;omega
  have y3:decide (x=2)=false:=by simp;omega
  clear hS hr0 hb0 hx h2 hj hlen
  go_enter Tryz.func84,Tryz.ntmps84
  go_wp2_with fail
  refine HV.out.mono ?_
  rintro e w1 ⟨rfl,he1⟩
  obtain ⟨q0,q1,q2⟩:=jK (HB1.out.ext he1)
  have q3:=HR.out _ he1
  have hb:=HB2.out.ext he1
  have ht:=fN hb
  go_wp2_with (with_reducible refine bG rfl (.tmp 4) (.tmp 29) rfl (w.heap.size+1) 0 0 rfl rfl ht ?_)
  exact bodyPost_ret (v:=.agg (nmc 0)) (fI rfl _ _ (w.heap.size+1) 0 rfl (by first | exact blkN hb 0 | exact lD hb)) rfl ⟨by rw [HN.out],Below.setCells' (HE.out.trans he1) (by omega) _ _⟩
end
section
open Go.RowKit
theorem xA {w:World} {g:Nat} {t:TypeId} {n:UInt64} (h:Blk w g t (nmc n)) (r:UInt64):(storeCells ⟨g,0,none⟩ (nmc r).toList).run Tryz.prog w=.ok () (w.setCells g 0 (nmc r).toList):=by
 have hl:(nmc r).toList.length=8:=by rw [bJ,aJ,aG]
 have:=run_storeCells_cells (P:=Tryz.prog) g 0 (nmc r).toList 0 w (fun j hj=>by rw [Nat.add_zero,Nat.zero_add,h.cell j,Array.getElem?_eq_getElem (by rw [cU];omega)];rfl) (fun j hj=>h.frozen _) (by rw [bJ];exact dT _)
 exact this
theorem aDu (pub m:UInt64) (A:Option Addr) (n c:Nat) (l:List UInt8) (w:World) (h:SlB w A n c l) (hn:n=186) (hlf:bM l 0 2 < 32) :
  Calls Tryz.prog 145 #[.agg (nmc pub),.int .i64 1,.agg (nmc m),.slice A n c] w fun e w'=>e=.returned (.bool (decide (fF l 2 (bM l 0 2 % 32) m=pub)))∧Ext w w':=by
 subst hn
 have hE:=((Ext.refl w).alloc' (.cells (nmc pub) 30)).alloc' (.cells (nmc m) 30)
 have hbp:=(Blk.new w 30 (nmc pub)).alloc (.cells (nmc m) 30)
 have hbm:Blk ((w.alloc (.cells (nmc pub) 30)).alloc (.cells (nmc m) 30)) (w.heap.size+1) 30 (nmc m):=Blk.newAt _ _ _ _ (by simp)
 have HE:=zh hE
 have HP:=zh hbp
 have hrm:=eB hbm
 have HL:=zh (qD A 186 c l _ (h.ext HE.out) (by omega))
 have HH:=zh (h.ext HE.out)
 have hcap:=h.cap
 clear h hE hbp hbm
 generalize hx:bM l 0 2=x at *
 clear hx
 have hq:=fun w=>bX (fF l 2 (x % 32) m) pub w
 go_enter Tryz.func145,Tryz.ntmps145
 go_wp2_with fail
 refine HL.out.mono ?_
 rintro e w1 ⟨rfl,rfl⟩
 go_wp2_with (first | (go_at_call 200;refine (pN 1 _).mono ?_;rintro e w1 ⟨rfl,rfl⟩;rw [show jZ 1=186 from rfl]) | (go_at_call 201;refine (jE 1 _).mono ?_;rintro e w1 ⟨rfl,rfl⟩;rw [show rQ 1=32 from rfl]) | (with_reducible refine aT rfl (.tmp 6) rfl (w.heap.size+1) 0 rfl m hrm ?_))
 refine (oZ A 186 c l 2 (x % 32) _ _ rfl (by omega) m _ HH.out (by omega) (by omega) (by omega)).mono ?_
 rintro e w2 ⟨rfl,he2⟩
 have HP2:=zh (HP.out.ext he2)
 have HE2:=zh (HE.out.trans he2)
 clear hrm he2
 generalize hr0:fF l 2 (x % 32) m=r at *
 have HR0:=zh hr0
 clear hr0
 have hst:=iI w2 w2.heap.size rfl r
 have hr:=eB (Blk.new w2 30 (nmc r))
 have hp:=eB (HP2.out.alloc (.cells (nmc r) 30))
 go_wp2_with (first | (with_reducible refine aT rfl (.tmp 11) rfl w2.heap.size 0 rfl r hr ?_) | (with_reducible refine aT rfl (.tmp 4) rfl w.heap.size 0 rfl pub hp ?_))
 go_ret
 exact ⟨by rw [HR0.out];rfl,HE2.out.alloc' _⟩
theorem aDt (pub m:UInt64) (A:Option Addr) (n c:Nat) (l:List UInt8) (w:World) (h:SlB w A n c l) (hn:n=370) (hlf:bM l 0 2 < 1024) :
  Calls Tryz.prog 145 #[.agg (nmc pub),.int .i64 2,.agg (nmc m),.slice A n c] w fun e w'=>e=.returned (.bool (decide (fF l 186 (bM l 0 2 / 32) (fF l 2 (bM l 0 2 % 32) m)=pub)))∧Ext w w':=by
 subst hn
 have hE:=((Ext.refl w).alloc' (.cells (nmc pub) 30)).alloc' (.cells (nmc m) 30)
 have hbp:=(Blk.new w 30 (nmc pub)).alloc (.cells (nmc m) 30)
 have hbm:Blk ((w.alloc (.cells (nmc pub) 30)).alloc (.cells (nmc m) 30)) (w.heap.size+1) 30 (nmc m):=Blk.newAt _ _ _ _ (by simp)
 have HE:=zh hE
 have HP:=zh hbp
 have hrm:=eB hbm
 have HL:=zh (qD A 370 c l _ (h.ext HE.out) (by omega))
 have HH:=zh (h.ext HE.out)
 have hcap:=h.cap
 clear h hE hbp hbm
 generalize hx:bM l 0 2=x at *
 clear hx
 go_enter Tryz.func145,Tryz.ntmps145
 go_wp2_with fail
 refine HL.out.mono ?_
 rintro e w1 ⟨rfl,rfl⟩
 go_wp2_with (first | (go_at_call 200;refine (pN 2 _).mono ?_;rintro e w1 ⟨rfl,rfl⟩;rw [show jZ 2=370 from rfl]) | (go_at_call 201;refine (jE 2 _).mono ?_;rintro e w1 ⟨rfl,rfl⟩;rw [show rQ 2=1024 from rfl]) | (with_reducible refine aT rfl (.tmp 6) rfl (w.heap.size+1) 0 rfl m hrm ?_))
 refine (oZ A 370 c l 2 (x % 32) _ _ rfl (by omega) m _ HH.out (by omega) (by omega) (by omega)).mono ?_
 rintro e w2 ⟨rfl,he2⟩
 have HP2:=zh (HP.out.ext he2)
 have HE2:=zh (HE.out.trans he2)
 have HH2:=zh (HH.out.ext he2)
 clear hrm he2
 generalize hr0:fF l 2 (x % 32) m=r at *
 have HR0:=zh hr0
 clear hr0
 have hst:=iI w2 w2.heap.size rfl r
 have hA:=(Ext.refl w2).alloc' (.cells (nmc r) 30)
 have HB:=zh (Blk.new w2 30 (nmc r))
 have hr:=eB HB.out
 have HH3:=zh (HH2.out.ext hA)
 have HP3:=zh (HP2.out.ext hA)
 have HE3:=zh (HE2.out.trans hA)
 clear hA
 go_wp2_with (with_reducible refine aT rfl (.tmp 11) rfl w2.heap.size 0 rfl r hr ?_)
 clear hr hst
 generalize w2.alloc (.cells (nmc r) 30)=W2 at *
 refine (oZ A 370 c l 186 (x / 32) _ _ rfl (by omega) r _ HH3.out (by omega) (by omega) (by omega)).mono ?_
 rintro e w3 ⟨rfl,he3⟩
 have HB3:=zh (HB.out.ext he3)
 have HP4:=zh (HP3.out.ext he3)
 have HE4:=zh (HE3.out.trans he3)
 have hlt:=HP.out.lt
 have hne:w.heap.size ≠ w2.heap.size:=by have:=HE2.out.size;have:=HP2.out.lt;omega
 clear he3
 generalize hr1:fF l 186 (x / 32) r=r2 at *
 have HR1:=zh hr1
 clear hr1
 have hq:=fun w=>bX r2 pub w
 have hst:=xA HB3.out r2
 have hr2:=eB (aIv HB3.out r2)
 have hp2:=eB (HP4.out.setCells_far hne (nmc r2).toList 0)
 go_wp2_with (first | (with_reducible refine aT rfl (.tmp 11) rfl w2.heap.size 0 rfl r2 hr2 ?_) | (with_reducible refine aT rfl (.tmp 4) rfl w.heap.size 0 rfl pub hp2 ?_))
 go_ret
 exact ⟨by rw [HR0.out,HR1.out];rfl,Below.setCells' HE4.out HE2.out.size _ _⟩
theorem tW (pub m:UInt64) (lv:Int) (A:Option Addr) (n c:Nat) (l:List UInt8) (w:World) (h:SlB w A n c l) :
  Calls Tryz.prog 145 #[.agg (nmc pub),.int .i64 lv,.agg (nmc m),.slice A n c] w fun e w'=>e=.returned (.bool (kQ pub lv m l))∧Ext w w':=by
 have hlen:=h.len
 by_cases hs:jZ lv=(n:Int)
 ·by_cases hc : rQ lv ≤ (bM l 0 2 : Int)
  ·rw [aGT pub lv m l hc]
   exact yG pub m lv A n c l w h (.inr (.inr hc))
  by_cases h1:lv=1
  ·subst h1
   have hn:n=186:=by have:(186:Int)=(n:Int):=hs;omega
   have hlf:bM l 0 2 < 32:=by have:¬ (32:Int)≤(bM l 0 2:Int):=hc;omega
   have hv:kQ pub 1 m l=decide (fF l 2 (bM l 0 2 % 32) m=pub):=by
    unfold kQ;rw [if_pos rfl,decide_eq_true (show l.length=186 by omega),decide_eq_true hlf];rfl
   rw [hv]
   exact aDu pub m A n c l w h hn hlf
  by_cases h2:lv=2
  ·subst h2
   have hn:n=370:=by have:(370:Int)=(n:Int):=hs;omega
   have hlf:bM l 0 2 < 1024:=by have:¬ (1024:Int)≤(bM l 0 2:Int):=hc;omega
   have hv:kQ pub 2 m l=decide (fF l 186 (bM l 0 2 / 32) (fF l 2 (bM l 0 2 % 32) m)=pub):=by
    unfold kQ;rw [if_neg (by decide),if_pos rfl,decide_eq_true (show l.length=370 by omega),decide_eq_true hlf];rfl
   rw [hv]
   exact aDt pub m A n c l w h hn hlf
  exact absurd (show rQ lv≤(bM l 0 2:Int) by rw [show rQ lv=0 from by simp [rQ,h1,h2]];omega) hc
 rw [oG pub lv m l (by rw [hlen];exact hs)]
 exact yG pub m lv A n c l w h (.inr (.inl hs))
end
section
open Go.RowKit
attribute [local go_sem ↓] Go.wp_at_zero Go.wp_at_succ
def gU (x y:Int):Int:=if x < y then -1 else if y < x then 1 else 0
theorem iL {x y:Int} (h:x < y):gU x y=-1:=if_pos h
theorem iM {x y:Int} (h:y < x):gU x y=1:=by unfold gU;rw [if_neg (by omega),if_pos h]
theorem iN (x:Int):gU x x=0:=by unfold gU;rw [if_neg (by omega),if_neg (by omega)]
def gS (x y z:Int):Int:=if x ≠ 0 then x else if y ≠ 0 then y else z
def jD (a b:CeR):Int:=gS (gU a.k b.k) (gU a.id b.id) (gU (un a.lk) (un b.lk))
def jV (a b:UInt64):Int:=gU (un a) (un b)
theorem wK (a b:UInt64):decide (jV a b > 0)=decide (un b < un a):=by
 unfold jV
 rcases Int.lt_trichotomy (un a) (un b) with h | h | h
 ·rw [iL h,decide_eq_false (by omega:¬ un b < un a)];rfl
 ·rw [h,iN];simp
 rw [iM h,decide_eq_true h];rfl
theorem wL (a b:CeR):decide (jD a b > 0)=eJ b a:=by
 unfold jD gS eJ wP
 rcases Int.lt_trichotomy a.k b.k with h | h | h
 ·rw [iL h,if_pos (by decide),eX,if_neg (by omega),decide_eq_false (by omega:¬ b.k < a.k)];rfl
 ·rw [h, iN, if_neg (by decide), eX, if_pos rfl]
  rcases Int.lt_trichotomy a.id b.id with h2 | h2 | h2
  ·rw [iL h2,if_pos (by decide),eX,if_neg (by omega),decide_eq_false (by omega:¬ b.id < a.id)];rfl
  ·rw [h2, iN, if_neg (by decide), eX, if_pos rfl, show gU (un a.lk) (un b.lk) = jV a.lk b.lk from rfl, wK, eX]
   by_cases e:un b.lk=un a.lk
   ·rw [if_pos e,decide_eq_false (by omega)];rfl
   rw [if_neg e]
  rw [iM h2,if_pos (by decide),eX,if_neg (by omega),decide_eq_true h2];rfl
 rw [iM h,if_pos (by decide),eX,if_neg (by omega),decide_eq_true h];rfl
theorem oS (x:Int) (w:World):Calls Tryz.prog 192 #[.int .i64 x] w fun e w'=>e=.returned (.bool false)∧w=w':=by
 go_enter Tryz.func192,Tryz.ntmps192
 go_wp2
 go_ret
 exact ⟨by simp,rfl⟩
theorem qL (x y:Int) (w:World):Calls Tryz.prog 127 #[.int .i64 x,.int .i64 y] w fun e w'=>e=.returned (.int .i64 (gU x y))∧w=w':=by
 rcases Int.lt_trichotomy x y with h | h | h
 ·have HC := zh (iL h)
  go_enter Tryz.func127,Tryz.ntmps127
  go_wp2_with (go_at_call 192;refine (oS _ _).mono ?_;rintro e w' ⟨rfl,rfl⟩)
  go_ret
  exact ⟨by rw [HC.out];rfl,rfl⟩
 ·subst h
  have h1:decide (x < x)=false:=decide_eq_false (by omega)
  have HC:=zh (iN x)
  go_enter Tryz.func127,Tryz.ntmps127
  go_wp2_with (go_at_call 192;refine (oS _ _).mono ?_;rintro e w' ⟨rfl,rfl⟩)
  go_ret
  exact ⟨by rw [HC.out];rfl,rfl⟩
 have h1:decide (x < y)=false:=decide_eq_false (by omega)
 have HC:=zh (iM h)
 go_enter Tryz.func127,Tryz.ntmps127
 go_wp2_with (go_at_call 192;refine (oS _ _).mono ?_;rintro e w' ⟨rfl,rfl⟩)
 go_ret
 exact ⟨by rw [HC.out];rfl,rfl⟩
theorem oR (x:Int) (w:World):Calls Tryz.prog 219 #[.int .u64 x] w fun e w'=>e=.returned (.bool false)∧w=w':=by
 go_enter Tryz.func219,Tryz.ntmps219
 go_wp2
 go_ret
 exact ⟨by simp,rfl⟩
theorem aBa (x y:Int) (w:World):Calls Tryz.prog 166 #[.int .u64 x,.int .u64 y] w fun e w'=>e=.returned (.int .i64 (gU x y))∧w=w':=by
 rcases Int.lt_trichotomy x y with h | h | h
 ·have HC := zh (iL h)
  go_enter Tryz.func166,Tryz.ntmps166
  go_wp2_with (go_at_call 219;refine (oR _ _).mono ?_;rintro e w' ⟨rfl,rfl⟩)
  go_ret
  exact ⟨by rw [HC.out];rfl,rfl⟩
 ·subst h
  have h1:decide (x < x)=false:=decide_eq_false (by omega)
  have HC:=zh (iN x)
  go_enter Tryz.func166,Tryz.ntmps166
  go_wp2_with (go_at_call 219;refine (oR _ _).mono ?_;rintro e w' ⟨rfl,rfl⟩)
  go_ret
  exact ⟨by rw [HC.out];rfl,rfl⟩
 have h1:decide (x < y)=false:=decide_eq_false (by omega)
 have HC:=zh (iM h)
 go_enter Tryz.func166,Tryz.ntmps166
 go_wp2_with (go_at_call 219;refine (oR _ _).mono ?_;rintro e w' ⟨rfl,rfl⟩)
 go_ret
 exact ⟨by rw [HC.out];rfl,rfl⟩
theorem aJa (x y z:Int) (g:Nat) (w:World) (hb:Blk w g 3 #[.int .i64 x,.int .i64 y,.int .i64 z]):Calls Tryz.prog 126 #[.slice (some ⟨g,0,none⟩) 3 3] w fun e w'=>e=.returned (.int .i64 (gS x y z))∧w=w':=by
 have c0:w.cell? ⟨g,0,none⟩=some (.int .i64 x):=hb.cell 0
 have c1:w.cell? ⟨g,1,none⟩=some (.int .i64 y):=hb.cell 1
 have c2:w.cell? ⟨g,2,none⟩=some (.int .i64 z):=hb.cell 2
 clear hb
 go_enter Tryz.func126,Tryz.ntmps126
 go_wp2_with fail
 go_loop [8] (fun i=>∃ k:Nat,i=.int .i64 (k:Int)∧k≤3∧Hid ((0 < k→x=0)∧(1 < k→y=0)∧(2 < k→z=0))) (fun i=>3 - (intOf i).toNat)
 case atStart=>exact ⟨0,rfl,by omega,zh ⟨by omega,by omega,by omega⟩⟩
 case round =>
  obtain ⟨k,rfl,hk,HZ⟩:=hrel
  rcases (by omega:k=0 ∨ k=1 ∨ k=2 ∨ k=3) with rfl | rfl | rfl | rfl
  ·by_cases h0 : x = 0
   ·have HF := zh h0
    have e1:(x != 0)=false:=by simp [h0]
    clear h0
    go_wp2_with fail
    go_round
    case rel=>exact ⟨1,by go_num,by omega,zh ⟨fun _=>HF.out,by omega,by omega⟩⟩
    case measure=>simp [intOf]
   have HF:=zh (show gS x y z=x from if_pos h0)
   have e1:(x != 0)=true:=by simp [h0]
   clear h0
   go_wp2_with fail
   go_ret
   exact ⟨by rw [HF.out];rfl,rfl⟩
  ·have HX := zh (HZ.out.1 (by omega))
   by_cases h0:y=0
   ·have HF := zh h0
    have e1:(y != 0)=false:=by simp [h0]
    clear h0
    go_wp2_with fail
    go_round
    case rel=>exact ⟨2,by go_num,by omega,zh ⟨fun _=>HX.out,fun _=>HF.out,by omega⟩⟩
    case measure=>simp [intOf]
   have HF:=zh (show gS x y z=y from by unfold gS;rw [if_neg (by simp [HX.out]),if_pos h0])
   have e1:(y != 0)=true:=by simp [h0]
   clear h0
   go_wp2_with fail
   go_ret
   exact ⟨by rw [HF.out];rfl,rfl⟩
  ·have HX := zh (HZ.out.1 (by omega))
   have HY:=zh (HZ.out.2.1 (by omega))
   have HF:=zh (show gS x y z=z from by unfold gS;rw [if_neg (by simp [HX.out]),if_neg (by simp [HY.out])])
   by_cases h0:z=0
   ·have HZ0 := zh h0
    have e1:(z != 0)=false:=by simp [h0]
    clear h0
    go_wp2_with fail
    go_round
    case rel=>exact ⟨3,by go_num,by omega,zh ⟨fun _=>HX.out,fun _=>HY.out,fun _=>HZ0.out⟩⟩
    case measure=>simp [intOf]
   have e1:(z != 0)=true:=by simp [h0]
   clear h0
   go_wp2_with fail
   go_ret
   exact ⟨by rw [HF.out];rfl,rfl⟩
  have HF:=zh (show gS x y z=0 from by unfold gS;rw [if_neg (by simp [HZ.out.1]),if_neg (by simp [HZ.out.2.1])];exact HZ.out.2.2 (by omega))
  go_wp2_with fail
  go_ret
  exact ⟨by rw [HF.out];rfl,rfl⟩
theorem aBU (x y z:Int) (w:World):(Instr.buildSlice 38 3 #[(0,.int .i64 x),(1,.int .i64 y),(2,.int .i64 z)]).run Tryz.prog w=.ok (.slice (some ⟨w.heap.size,0,none⟩) 3 3) (w.alloc (.cells #[.int .i64 x,.int .i64 y,.int .i64 z] 3)):=by kernel_rfl
theorem aFq {o:Oper} {a:Act} {w:World} {K:Act→World→Prop} {Q:Exit→Act→World→Prop} {ty:TypeId} (x y z:Operand) (ho:o.op=.buildSlice ty 3 #[(0,x),(1,y),(2,z)]) {vx vy vz v:Value} {w2:World} (hx:a.eval x=vx) (hy:a.eval y=vy) (hz:a.eval z=vz) (hr:(Instr.buildSlice ty 3 #[(0,vx),(1,vy),(2,vz)]).run Tryz.prog w=.ok v w2) (h:K (a.put o.dst v) w2):o.wp Tryz.prog a w K Q:=by
 unfold Oper.wp execOp
 simp only [ho,List.map_toArray,List.map_cons,List.map_nil,hx,hy,hz,Sem.run_bind,hr,Result.andThen_ok,Sem.run_pure]
 exact h
theorem nL {w:World} {g:Nat} {t:TypeId} {c:CeR} (h:Blk w g t (ceA c)):w.rangeAt g 2 (nmL c.lk):=by
 have:=bD (k:=2) (aC h)
 rw [show (ceA c).toList=ceL c from rfl,aKA] at this
 exact this
theorem bZ {w:World} {g:Nat} {t:TypeId} {n:UInt64} (h:Blk w g t (nmc n)):w.rangeAt g 0 (nmL n):=by
 have:=aC h
 rwa [bJ] at this
def nQ:VtR:=⟨0,0,0,0,0,0,0,0⟩
abbrev vtZ (k sl ro ch si su:Int):Array Value:=#[.int .i64 k,.int .i64 sl,.int .i64 ro,.int .i64 ch,.int .i64 si,.int .i64 su,.int .u8 0,.int .u8 0,.int .u8 0,.int .u8 0,.int .u8 0,.int .u8 0,.int .u8 0,.int .u8 0,.int .u8 0,.int .u8 0,.int .u8 0,.int .u8 0,.int .u8 0,.int .u8 0,.int .u8 0,.int .u8 0]
theorem aDq (k sl ro ch si su:Int):vtZ k sl ro ch si su=vtA ⟨k,sl,ro,ch,si,su,0,0⟩:=by
 unfold vtA;simp only [bC 0 (by omega),bC 1 (by omega),bC 2 (by omega),bC 3 (by omega),bC 4 (by omega),bC 5 (by omega),bC 6 (by omega),bC 7 (by omega)]
theorem aIK (k sl ro ch si su:Int):(vtZ k sl ro ch si su).all (·.oneCell')=true:=by rw [aDq];exact zL _
theorem aDp (k sl ro ch si su:Int) (n:UInt64):splice (vtA ⟨k,sl,ro,ch,si,su,0,0⟩).toList 6 (bcs (nmb n))=(vtA ⟨k,sl,ro,ch,si,su,n,0⟩).toList:=by
 have e:bcs (nmb n)=(nmc n).toList:=by unfold nmc;rfl
 rw [e,← fJ n];rfl
theorem aBp (k sl ro ch si su:Int) (p n:UInt64):splice (vtA ⟨k,sl,ro,ch,si,su,p,0⟩).toList 14 (bcs (nmb n))=(vtA ⟨k,sl,ro,ch,si,su,p,n⟩).toList:=by
 have e:bcs (nmb n)=(nmc n).toList:=by unfold nmc;rfl
 rw [e,← fJ n];rfl
section
variable {o:Oper} {a:Act} {w:World} {ops:Array Oper} {rest:List Oper} {Q:Exit→Act→World→Prop}
theorem mH (hgd:o.guard=none) (x y:Operand) (ho:o.op=.store 134 x y) (g:Nat) (S:VtR) (hx:a.eval x=.pointer (some ⟨g,0,none⟩)) (hy:a.eval y=.agg (vtA S)) (ht:w.there g 0 22)
  (h:wpList Tryz.prog ops Q rest (a.put o.dst undef) (w.setCells g 0 (vtA S).toList)):wpList Tryz.prog ops Q (o :: rest) a w :=
 wpList_store_mid hgd 134 x y ho g 0 (vtA S) hx hy ht (by kernel_rfl) (zL S) h
theorem tQ (hgd:o.guard=none) (x y:Operand) (ho:o.op=.store 134 x y) (g:Nat) (hx:a.eval x=.pointer (some ⟨g,0,none⟩)) (hy:a.eval y=.agg (vtZ 0 0 0 0 0 0)) (ht:w.there g 0 22)
  (h:wpList Tryz.prog ops Q rest (a.put o.dst undef) (w.setCells g 0 (vtA nQ).toList)):wpList Tryz.prog ops Q (o :: rest) a w:=by
 refine mH hgd x y ho g nQ hx (by rw [hy,aDq];rfl) ht h
end
theorem wR {w:World} {b o:Nat} {l:List UInt8} (h:w.rangeAt b o (bcs l)) {i:Nat} (hi:i < l.length):w.cell? ⟨b,o+i,none⟩=some (.int .u8 ((byt l i).toNat:Int)):=by
 refine h i _ ?_
 unfold bcs byt
 rw [List.getElem?_map,List.getD_eq_getElem?_getD,List.getElem?_eq_getElem hi]
 rfl
abbrev b5 (W:World) (b o:Nat) (l:List UInt8):Prop:=W.cell? ⟨b,o,none⟩=some (.int .u8 ((byt l 0).toNat:Int))∧W.cell? ⟨b,o+1,none⟩=some (.int .u8 ((byt l 1).toNat:Int))∧W.cell? ⟨b,o+2,none⟩=some (.int .u8 ((byt l 2).toNat:Int))∧W.cell? ⟨b,o+3,none⟩=some (.int .u8 ((byt l 3).toNat:Int))∧W.cell? ⟨b,o+4,none⟩=some (.int .u8 ((byt l 4).toNat:Int))
theorem aMJ {w:World} {b o:Nat} {l:List UInt8} (h:w.rangeAt b o (bcs l)) (hl:l.length=23):b5 w b o l:=⟨wR h (i:=0) (by omega),wR h (i:=1) (by omega),wR h (i:=2) (by omega),wR h (i:=3) (by omega),wR h (i:=4) (by omega)⟩
def vdV (l:List UInt8):VtR:=if cI (eT l)=true then eT l else nQ
def vdC (l:List UInt8):Int:=if cI (eT l)=true then 0 else 11
theorem aBx (A:Option Addr) (c:Nat) (l:List UInt8) (w:World) (hS:SlB w A 23 c l):Calls Tryz.prog 242 #[.slice A 23 c] w fun e w'=>e=.returned (.tuple #[.agg (vtA (vdV l)),.int .i64 (vdC l)])∧Ext w w':=by
 have hl:=hS.len
 have hcap:=hS.cap
 have hle:=hS.le
 obtain ⟨b,o,rfl,hr,hb⟩:=hS.at (by omega)
 have HE:=zh ((Ext.refl w).alloc' (.cells (vtZ 0 0 0 0 0 0) 134))
 have HB:=zh (Blk.new w 134 (vtZ 0 0 0 0 0 0))
 have HS:=zh (hS.ext HE.out)
 have HR:=zh (fun (W:World) (h:Ext w W)=>bE hr (h.block b hb))
 have HU:=zh (fun (W:World) (h:SlB W (some ⟨b,o,none⟩) 23 c l)=>aBF _ 23 c l 5 2 W h (by omega) (by omega) (by omega))
 have HL:=zh hl
 have hwr:IntKind.i64.wrap ((bM l 5 2:Nat):Int)=((bM l 5 2:Nat):Int):=by
  have h1:=iY ((l.drop 5).take 2)
  have h2:((l.drop 5).take 2).length≤2:=List.length_take_le _ _
  have h3:256 ^ ((l.drop 5).take 2).length≤256 ^ 2:=Nat.pow_le_pow_right (by omega) h2
  have h4:bM l 5 2=bP ((l.drop 5).take 2):=rfl
  rw [IntKind.wrap_i64];omega
 have hck:¬ c=7:=by omega
 have hck2:¬ c=15:=by omega
 clear hS hr hl
 go_enter Tryz.func242,Tryz.ntmps242
 go_wp2_with fail
 refine (HU.out _ HS.out).mono ?_
 rintro e w1 ⟨rfl,rfl⟩
 obtain ⟨W1,hW1⟩:∃ W1,w.alloc (.cells (vtZ 0 0 0 0 0 0) 134)=W1:=⟨_,rfl⟩
 rw [hW1] at HE HB HS
 have HSS:=zh (fun (W:World) (h:Ext W1 W)=>aMJ (HR.out W (HE.out.trans h)) HL.out)
 have i0:(0:Int) < 23:=by omega
 go_wp2_with fail
 refine wp_region_held_drew (S:=fun W=>Ext W1 W) (by kernel_rfl) ((Ext.refl W1).drew') (fun aA=>?_)
 refine zz0 [0,1,2,3,4,5,6,7,8,9,10,11,12,13,14,15,16,17,18,19,20,21,22] ?_;repeat first | refine zz1 ?_ (hy:=by intro W aL;obtain ⟨s0,s1,s2,s3,s4⟩:=HSS.out W aL;go_simp <;> with_reducible rfl) | refine zz2 ?_ | refine zz9 ?_
 refine wpAnyH_ready (rs:=[23]) (by kernel_rfl) (by simp) ?_
 refine AllReadyH.cons (o:=⟨some 6,.alloc 134,0,"vote.go:60",#[],none⟩) rfl (fun K hK=>?_) AllReadyH.nil
 refine Eq.mpr (if_pos (by rfl)) ?_
 go_simp
 refine hK.out _ _ (by first | exact (Ext.refl W1).drew'.alloc' _ | exact ((Ext.refl W1).alloc' _).drew') (fun aA=>?_)
 clear hK K
 try simp only [aX]
 refine wpAnyH_ready (rs:=[24]) (by kernel_rfl) (by simp) ?_
 refine AllReadyH.cons (o:=⟨none,.store 134 (.tmp 6) (.tmp 44),0,"vote.go:60",#[⟨23,.data⟩,⟨22,.data⟩,⟨0,.phase⟩,⟨1,.phase⟩,⟨2,.phase⟩,⟨3,.phase⟩,⟨4,.phase⟩,⟨5,.phase⟩,⟨6,.phase⟩,⟨7,.phase⟩,⟨8,.phase⟩,⟨9,.phase⟩,⟨10,.phase⟩,⟨11,.phase⟩,⟨12,.phase⟩,⟨13,.phase⟩,⟨14,.phase⟩,⟨15,.phase⟩,⟨16,.phase⟩,⟨17,.phase⟩,⟨18,.phase⟩,⟨19,.phase⟩,⟨20,.phase⟩,⟨21,.phase⟩,⟨22,.phase⟩,⟨23,.phase⟩],none⟩) rfl (fun K hK=>?_) AllReadyH.nil
 refine Eq.mpr (if_pos (by rfl)) ?_
 refine wp_store_mid 134 (.tmp 6) (.tmp 44) rfl W1.heap.size 0 (vtZ ((byt l 0).toNat:Int) ((byt l 1).toNat:Int) ((byt l 2).toNat:Int) ((byt l 3).toNat:Int) ((byt l 4).toNat:Int) ((bM l 5 2:Nat):Int)) rfl ?hy (show ((W1.alloc (.cells (vtZ 0 0 0 0 0 0) 134)).drew).there W1.heap.size 0 22 from aK (Blk.drew (Blk.new W1 134 (vtZ 0 0 0 0 0 0)))) (by kernel_rfl) (aIK _ _ _ _ _ _) ?_
 case hy=>rfl
 refine hK.out _ _ (Below.setCells' (((Ext.refl W1).alloc' (.cells (vtZ 0 0 0 0 0 0) 134)).drew') (Nat.le_refl _) _ _) (fun aA=>?_)
 clear hK K
 try simp only [aX]
 refine wpAnyH_done (by kernel_rfl) ?_ _
 have HE2:=zh (show Ext W1 (((W1.alloc (.cells (vtZ 0 0 0 0 0 0) 134)).drew).setCells W1.heap.size 0 (vtZ ((byt l 0).toNat:Int) ((byt l 1).toNat:Int) ((byt l 2).toNat:Int) ((byt l 3).toNat:Int) ((byt l 4).toNat:Int) ((bM l 5 2:Nat):Int)).toList) from Below.setCells' (((Ext.refl W1).alloc' (.cells (vtZ 0 0 0 0 0 0) 134)).drew') (Nat.le_refl _) _ _)
 have HB2:=zh (show Blk (((W1.alloc (.cells (vtZ 0 0 0 0 0 0) 134)).drew).setCells W1.heap.size 0 (vtZ ((byt l 0).toNat:Int) ((byt l 1).toNat:Int) ((byt l 2).toNat:Int) ((byt l 3).toNat:Int) ((byt l 4).toNat:Int) ((bM l 5 2:Nat):Int)).toList) W1.heap.size 134 (vtZ ((byt l 0).toNat:Int) ((byt l 1).toNat:Int) ((byt l 2).toNat:Int) ((byt l 3).toNat:Int) ((byt l 4).toNat:Int) ((bM l 5 2:Nat):Int)) from aQ (Blk.drew (Blk.new W1 134 (vtZ 0 0 0 0 0 0))) rfl)
 generalize (((W1.alloc (.cells (vtZ 0 0 0 0 0 0) 134)).drew).setCells W1.heap.size 0 (vtZ ((byt l 0).toNat:Int) ((byt l 1).toNat:Int) ((byt l 2).toNat:Int) ((byt l 3).toNat:Int) ((byt l 4).toNat:Int) ((bM l 5 2:Nat):Int)).toList)=W2 at HE2 HB2 ⊢
 rw [aDq] at HB2
 have HSRC:=zh (fun (W:World) (hW:Below W1.heap.size W1 W) (k m:Nat)=>show ∀ j v,(bcs ((l.drop k).take m))[j]?=some v→W.cell? ((⟨b,o+k,none⟩:Addr).add j)=some v from by
  intro j v hv
  have hy:=aO (k:=m) (bD (k:=k) (HR.out W (HE.out.trans hW)))
  rw [Addr.add_mid]
  refine hy j v ?_
  rw [← hv]
  simp [bcs])
 obtain ⟨n1,hn1⟩:∃ n1,rG ((l.drop 7).take 8)=n1:=⟨_,rfl⟩
 obtain ⟨n2,hn2⟩:∃ n2,rG ((l.drop 15).take 8)=n2:=⟨_,rfl⟩
 have N1:=zh (show bcs ((l.drop 7).take 8)=bcs (nmb n1) by rw [← hn1,mT _ (by rw [List.length_take,List.length_drop,HL.out];omega)])
 have N2:=zh (show bcs ((l.drop 15).take 8)=bcs (nmb n2) by rw [← hn2,mT _ (by rw [List.length_take,List.length_drop,HL.out];omega)])
 have HD:=zh (show eT l=⟨((byt l 0).toNat:Int),((byt l 1).toNat:Int),((byt l 2).toNat:Int),((byt l 3).toNat:Int),((byt l 4).toNat:Int),((bM l 5 2:Nat):Int),n1,n2⟩ by unfold eT;rw [hn1,hn2])
 clear hn1 hn2 HSS
 have HL8:=zh (fun (n:UInt64)=>show (bcs (nmb n)).length=8 by rw [aJ,aG])
 go_wp2_with fail
 have HZ:=zh (show Below W1.heap.size W1 W2.drew from HE2.out.drew')
 refine wp_region_held_drew (S:=fun W=>Below W1.heap.size W1 W) (by kernel_rfl) (HE2.out.drew') (fun aA=>?_)
 refine zzr [0,1,2,3] ?_
 refine wpAnyH_ready (rs:=[4]) (by kernel_rfl) (by simp) ?_
 refine AllReadyH.cons (o:=⟨some 49,.call { callee:=.builtin .copy,args:=#[.tmp 46,.tmp 48],argTypes:=#[45,45] },3,"vote.go:61",#[⟨1,.data⟩,⟨3,.data⟩],none⟩) rfl (fun K hK=>?_) AllReadyH.nil
 refine step_copy_splice rfl (.tmp 46) (.tmp 48) 45 45 rfl 5 Tryz.underlying45 (by kernel_rfl) (some ⟨W1.heap.size,6,none⟩) (some ⟨b,o+7,none⟩) 8 8 16 (c - 7) rfl rfl W1.heap.size 6 _ 134 HB2.out.drew (bcs (nmb n1)) (HL8.out _) (fun _=>⟨rfl,_,rfl,by rw [← N1.out];exact HSRC.out _ HZ.out _ _⟩) (by rw [HL8.out];exact Nat.le_of_ble_eq_true rfl) (dT _) W1.heap.size W1 HZ.out (Nat.le_refl _) ?_
 intro w1 hb1 he1
 refine hK.out _ _ (he1) (fun aA=>?_)
 clear hK K
 try simp only [aX]
 refine wpAnyH_done (by kernel_rfl) ?_ _
 have HB3:=zh (show Blk w1 W1.heap.size 134 (vtA ⟨_,_,_,_,_,_,n1,0⟩) from by have:=hb1.out;rwa [aDp] at this)
 have HE3:=zh he1
 clear hb1 he1 HB2 HE2 HZ
 go_wp2_with fail
 have HZ:=zh (show Below W1.heap.size W1 w1.drew from HE3.out.drew)
 refine wp_region_held_drew (S:=fun W=>Below W1.heap.size W1 W) (by kernel_rfl) (HE3.out.drew) (fun aA=>?_)
 refine zzr [0,1,2,3] ?_
 refine wpAnyH_ready (rs:=[4]) (by kernel_rfl) (by simp) ?_
 refine AllReadyH.cons (o:=⟨some 54,.call { callee:=.builtin .copy,args:=#[.tmp 51,.tmp 53],argTypes:=#[45,45] },3,"vote.go:62",#[⟨1,.data⟩,⟨3,.data⟩],none⟩) rfl (fun K hK=>?_) AllReadyH.nil
 refine step_copy_splice rfl (.tmp 51) (.tmp 53) 45 45 rfl 5 Tryz.underlying45 (by kernel_rfl) (some ⟨W1.heap.size,14,none⟩) (some ⟨b,o+15,none⟩) 8 8 8 (c - 15) rfl rfl W1.heap.size 14 _ 134 HB3.out.drew (bcs (nmb n2)) (HL8.out _) (fun _=>⟨rfl,_,rfl,by rw [← N2.out];exact HSRC.out _ HZ.out _ _⟩) (by rw [HL8.out];exact Nat.le_of_ble_eq_true rfl) (dT _) W1.heap.size W1 HZ.out (Nat.le_refl _) ?_
 intro w4 hb1 he1
 refine hK.out _ _ (he1) (fun aA=>?_)
 clear hK K
 try simp only [aX]
 refine wpAnyH_done (by kernel_rfl) ?_ _
 have HB4:=zh (show Blk w4 W1.heap.size 134 (vtA (eT l)) from by have:=hb1.out;rw [aBp] at this;rw [HD.out];exact this)
 have HE4:=zh he1
 clear hb1 he1 HB3 HE3 HZ
 have hr4:w4.rangeAt W1.heap.size 0 (vtL (eT l)):=aC HB4.out
 have HE0:=zh (Below.trans HE.out (Below.mono HE4.out HE.out.size):Ext w w4)
 have hlt:w.heap.size < W1.heap.size:=by rw [← hW1];simp
 have HB0:=zh (show Blk w4 w.heap.size 134 (vtZ 0 0 0 0 0 0) from HB.out.below HE4.out hlt)
 clear HB
 go_wp2_with (first | (with_reducible refine kJ rfl (.tmp 6) rfl W1.heap.size 0 rfl (eT l) hr4 ?_))
 refine (fS (eT l) w4).mono ?_
 rintro e w5 ⟨rfl,he5⟩
 have HX:=zh (Ext.trans HE0.out he5)
 have HB5:=zh (HB0.out.ext he5)
 have hr5:w5.rangeAt W1.heap.size 0 (vtL (eT l)):=aC (HB4.out.ext he5)
 have ht:w5.there w.heap.size 0 22:=aK HB5.out
 clear he5 hr4
 cases hv:cI (eT l) with
 | false =>
  have HC:=zh (show vdV l=nQ∧vdC l=11 from by unfold vdV vdC;rw [hv];exact ⟨rfl,rfl⟩)
  have hst:=aQ (ds:=vtA nQ) HB5.out rfl
  clear hv
  go_wp2_with (first | (with_reducible refine tQ rfl (.tmp 2) (.tmp 58) rfl w.heap.size rfl rfl ht ?_))
  rw [HC.out.1,HC.out.2]
  exact bodyPost_ret (v:=.tuple #[.agg (vtA nQ),.int .i64 11]) (kV rfl _ _ w.heap.size _ _ rfl rfl (run_loadVar_row _ _ _ _ _ (0,0) _ hst Tryz.underlying134 rfl (by kernel_rfl))) rfl ⟨rfl,Below.setCells' HX.out (Nat.le_refl _) _ _⟩
 | true =>
  have HC:=zh (show vdV l=eT l∧vdC l=0 from by unfold vdV vdC;rw [hv];exact ⟨rfl,rfl⟩)
  have hst:=aQ (ds:=vtA (eT l)) HB5.out rfl
  clear hv
  go_wp2_with (first | (with_reducible refine kJ rfl (.tmp 6) rfl W1.heap.size 0 rfl (eT l) hr5 ?_) | (with_reducible refine mH rfl (.tmp 2) (.tmp 59) rfl w.heap.size (eT l) rfl rfl ht ?_))
  rw [HC.out.1,HC.out.2]
  exact bodyPost_ret (v:=.tuple #[.agg (vtA (eT l)),.int .i64 0]) (kV rfl _ _ w.heap.size _ _ rfl rfl (run_loadVar_row _ _ _ _ _ (0,0) _ hst Tryz.underlying134 rfl (by kernel_rfl))) rfl ⟨rfl,Below.setCells' HX.out (Nat.le_refl _) _ _⟩
end
section
open Go.RowKit
theorem aIT {P:Program} {t e:TypeId} {z:Value} {size bytes:Nat} (E:Elem P t e z size bytes) (w:World) (ty:TypeId) (g o dLen dCap:Nat) (a:Addr) (sLen sCap:Nat) (cs:List Value)
  (hn:cs.length=Nat.min sLen dLen * size)
  (hsrc:∀ j v,cs[j]?=some v→w.cell? (a.add j)=some v) (hc:∀ j,j < cs.length→(w.cell? ⟨g,o+j,none⟩).isSome=true) (hf:∀ j,j < cs.length→w.frozen? ⟨g,o+j,none⟩=false) (h1:∀ v ∈ cs,v.oneCell'=true) :
  (Builtin.copy_ #[t,t] ty #[.slice (some ⟨g,o,none⟩) dLen dCap,.slice (some a) sLen sCap]).run P w=.ok (goInt (Nat.min sLen dLen)) (w.setCells g o cs):=by
 obtain ⟨i,hi,_,hs,_⟩:=E.get
 have hl:=run_loadCells_list (P:=P) w a cs hsrc
 have hst:=run_storeCells_cells (P:=P) g o cs 0 w (by simpa using hc) (by simpa using hf) h1
 simp [Builtin.copy_,run_underlying E.ut,Builtin.lenOf,Builtin.firstCells,sizeOf,typeInfo,hi,hs,← hn,hl,hst]
section
variable {P:Program} {t e:TypeId} {z:Value} {size bytes:Nat} {ops:Array Oper} {rest:List Oper} {o:Oper} {a:Act} {w:World} {K:Act→World→Prop} {Q:Exit→Act→World→Prop} {X:Prop}
theorem aGH (E:Elem P t e z size bytes) (d s:Operand)
  (ho:o.op=.call { callee:=.builtin .copy,args:=#[d,s],argTypes:=#[t,t] })
  (base g off n c:Nat) (xs:List Value) (hown:w.ownsRow base e size (.slice (some ⟨g,0,none⟩) n c) n xs)
  (ad:Addr) (dLen dCap sLen sCap:Nat) (hd:a.eval d=.slice (some ⟨g,off,none⟩) dLen dCap) (hs:a.eval s=.slice (some ad) sLen sCap)
  (cs:List Value) (hn:cs.length=Nat.min sLen dLen * size)
  (hsrc:∀ j v,cs[j]?=some v→w.cell? (ad.add j)=some v)
  (hfit:off+cs.length≤n * size) (h1:∀ v ∈ cs,v.oneCell'=true)
  (h:∀ w',w'.ownsRow base e size (.slice (some ⟨g,0,none⟩) n c) n (splice xs off cs)→w.grownBy w' (some g)→K (a.put o.dst (goInt (Nat.min sLen dLen))) w'):o.wp P a w K Q:=by
 have hxl:=hown.1
 have hrun:=aIT E w o.type g off dLen dCap ad sLen sCap cs hn hsrc (fun j hj=>by rw [hown.cellAt (off+j) (by omega),List.getElem?_eq_getElem (by omega)];rfl) (fun j hj=>hown.frozenAt _) h1
 obtain ⟨k1,k2⟩:=jQ cs off w xs (by omega) hown
 unfold Oper.wp execOp
 simp only [ho,resolve,invoke,builtin,Sem.run_bind,Sem.run_pure,Result.andThen_ok,List.map_toArray,List.map_cons,List.map_nil,hd,hs,hrun]
 exact h _ k1 k2
theorem kS (E:Elem P t e z size bytes) (hgd:o.guard=none) (d s:Operand)
  (ho:o.op=.call { callee:=.builtin .copy,args:=#[d,s],argTypes:=#[t,t] })
  (base g off n c:Nat) (xs:List Value) (hown:w.ownsRow base e size (.slice (some ⟨g,0,none⟩) n c) n xs)
  (ad:Addr) (dLen dCap sLen sCap:Nat) (hd:a.eval d=.slice (some ⟨g,off,none⟩) dLen dCap) (hs:a.eval s=.slice (some ad) sLen sCap)
  (cs:List Value) (hn:cs.length=Nat.min sLen dLen * size)
  (hsrc:∀ j v,cs[j]?=some v→w.cell? (ad.add j)=some v)
  (hfit:off+cs.length≤n * size) (h1:∀ v ∈ cs,v.oneCell'=true)
  (h:∀ w',w'.ownsRow base e size (.slice (some ⟨g,0,none⟩) n c) n (splice xs off cs)→w.grownBy w' (some g)→K (a.put o.dst (goInt (Nat.min sLen dLen))) w'):if Region.wanted o (yielded ops a.tmps)=true then Oper.wp P o a w K Q else X:=by
 have hw:Region.wanted o (yielded ops a.tmps)=true:=by simp [Region.wanted,hgd]
 rw [if_pos hw]
 exact aGH E d s ho base g off n c xs hown ad dLen dCap sLen sCap hd hs cs hn hsrc hfit h1 h
theorem gY (E:Elem P t e z size bytes) (hgd:o.guard=none) (d s:Operand)
  (ho:o.op=.call { callee:=.builtin .copy,args:=#[d,s],argTypes:=#[t,t] })
  (base g off n c:Nat) (xs:List Value) (hown:w.ownsRow base e size (.slice (some ⟨g,0,none⟩) n c) n xs)
  (ad:Addr) (dLen dCap sLen sCap:Nat) (hd:a.eval d=.slice (some ⟨g,off,none⟩) dLen dCap) (hs:a.eval s=.slice (some ad) sLen sCap)
  (cs:List Value) (hn:cs.length=Nat.min sLen dLen * size)
  (hsrc:∀ j v,cs[j]?=some v→w.cell? (ad.add j)=some v)
  (hfit:off+cs.length≤n * size) (h1:∀ v ∈ cs,v.oneCell'=true)
  (h:∀ w',w'.ownsRow base e size (.slice (some ⟨g,0,none⟩) n c) n (splice xs off cs)→w.grownBy w' (some g)→wpList P ops Q rest (a.put o.dst (goInt (Nat.min sLen dLen))) w'):wpList P ops Q (o :: rest) a w :=
 wpList_plain hgd fun K hK=>aGH E d s ho base g off n c xs hown ad dLen dCap sLen sCap hd hs cs hn hsrc hfit h1 (fun w' h2 h3=>hK _ _ (h w' h2 h3))
end
theorem aEO {P:Program} {t e:TypeId} {z:Value} {size bytes:Nat} (E:Elem P t e z size bytes) (hz1:∀ v ∈ z.cells,v.oneCell'=true) (w:World) (ty:TypeId) (g o n c:Nat) (hn:0 < n) (hc:∀ j,j < n * size→(w.cell? ⟨g,o+j,none⟩).isSome=true) (hf:∀ j,j < n * size→w.frozen? ⟨g,o+j,none⟩=false) :
  (Builtin.clear_ #[t] ty #[.slice (some ⟨g,o,none⟩) n c]).run P w=.ok (.tuple #[]) (w.setCells g o (Builtin.zeroCells z.cells n).toList):=by
 obtain ⟨i,hi,hz,hsz,hby⟩:=E.get
 have hlen:(Builtin.zeroCells z.cells n).toList.length=n * size:=by rw [Array.length_toList,size_zeroCells,E.zs]
 have h1:∀ v ∈ (Builtin.zeroCells z.cells n).toList,v.oneCell'=true:=by
  intro v hv
  simp only [Builtin.zeroCells,Array.toList_map,List.mem_map] at hv
  obtain ⟨q,_,rfl⟩:=hv
  have hp:0 < z.cells.size:=by rw [E.zs];exact E.pos
  have hq:q % z.cells.size < z.cells.size:=Nat.mod_lt _ hp
  rw [getElem!_pos z.cells _ hq]
  exact hz1 _ (Array.getElem_mem hq)
 have hst:=run_storeCells_cells (P:=P) g o (Builtin.zeroCells z.cells n).toList 0 w (fun j hj=>by rw [hlen] at hj;simpa using hc j hj) (fun j hj=>by rw [hlen] at hj;simpa using hf j hj) h1
 simp only [Nat.add_zero] at hst
 obtain ⟨m,rfl⟩:∃ m,n=m+1:=⟨n - 1,by omega⟩
 simp [Builtin.clear_,run_underlying E.ut,zeroValue,typeInfo,hi,hz,hst]
theorem uY {w:World} {base:Nat} {e:TypeId} {size g n c:Nat} {xs:List Value} (h:w.ownsRow base e size (.slice (some ⟨g,0,none⟩) n c) n xs) {m:Nat} (hm:n≤m) (hc:m≤c):∃ js,js.length=(m - n) * size∧w.ownsRow base e size (.slice (some ⟨g,0,none⟩) m c) m (xs ++ js):=by
 have hl:=h.1
 rcases h.2 with ⟨hv,_⟩ | ⟨g',cap,cur,hv,hb,hh,hn,hmx,hs,ht⟩
 ·cases hv
 injection hv with h1 h2 h3
 injection h1 with h1
 injection h1 with h1 h4
 subst h1;subst h3
 have e1:n * size+(m - n) * size=m * size:=by rw [← Nat.add_mul];congr 1;omega
 have e2:m * size≤c * size:=Nat.mul_le_mul_right _ hc
 refine ⟨(cur.toList.drop (n * size)).take ((m - n) * size),by simp [hs];omega,by simp [hs,hl];omega,.inr ⟨g,c,cur,rfl,hb,hh,hc,hmx,hs,?_⟩⟩
 rw [← e1,List.take_add,ht]
theorem rC {w:World} {base:Nat} {e:TypeId} {size g n c:Nat} {xs:List Value} {cur:Array Value} (hb:base≤g) (hh:Blk w g e cur) (hn:n≤c) (hc:c≤maxLen) (hs:cur.size=c * size) (hx:xs.length=n * size) (ht:cur.toList.take (n * size)=xs):w.ownsRow base e size (.slice (some ⟨g,0,none⟩) n c) n xs :=
 ⟨hx,.inr ⟨g,c,cur,rfl,hb,hh,hn,hc,hs,ht⟩⟩
theorem aAy {w:World} {base:Nat} {e:TypeId} {size g n c:Nat} {xs:List Value} (h:w.ownsRow base e size (.slice (some ⟨g,0,none⟩) n c) n xs):∃ cur,Blk w g e cur∧cur.size=c * size:=by
 rcases h.2 with ⟨hv,_⟩ | ⟨g',cap,cur,hv,hb,hh,hn,hmx,hs,ht⟩
 ·cases hv
 injection hv with h1 h2 h3
 injection h1 with h1
 injection h1 with h1 h4
 subst h1;subst h3
 exact ⟨cur,hh,hs⟩
theorem yL {w:World} {g:Nat} {t:TypeId} {cs:Array Value} (h:Blk w g t cs):w.shape? g=some (t,cs.size):=by
 unfold World.shape?;rw [h]
theorem aAb {P:Program} {f:FuncId} {fn:Func} {t e tR:TypeId} {z:Value} {size bytes:Nat} (E:Elem P t e z size bytes) (hf:P.funcs[f]?=some fn) (hname:(fn.name == "runtime.NumGoroutine")=false) (hb:fn.body.isNone=true) (hn:Extern.findNext fn=none) (he:Extern.find fn=some (Extern.SlicesOverlaps.overlaps #[t,t] #[tR]))
  {w:World} {g1 g2:Nat} {t1 t2:TypeId} {c1 c2:Array Value} (h1:Blk w g1 t1 c1) (h2:Blk w g2 t2 c2) (hne:g1 ≠ g2) (hc:c2.size ≠ 0) (o1 o2 la ca lb cb:Nat) :
  (callFunc f #[.slice (some ⟨g1,o1,none⟩) la ca,.slice (some ⟨g2,o2,none⟩) lb cb]).run P w=.ok (.value (.bool false)) w:=by
 obtain ⟨i,hi,_,hs,_⟩:=E.get
 rw [run_callFunc_extern hf hname hb hn he,Lib.run_overlaps_apart w t tR e E.ut size (fun w=>by simp [sizeOf,typeInfo,hi,hs]) ⟨g1,o1,none⟩ ⟨g2,o2,none⟩ la ca lb cb hne t1 t2 c1.size c2.size (yL h1) (yL h2) hc (h1.frozen _) (h1.frozen _)]
 rfl
section
variable {α:Type} [RowT α]
theorem rH (L:List α) (x:α) {i:Nat} (hi:i≤L.length) (js:List Value) (hj:js.length=RowT.sz α) :
  splice (splice (gcs L ++ js) ((i+1) * RowT.sz α) (gcs (L.drop i))) (i * RowT.sz α) (RowT.enc x)=gcs (L.take i ++ x :: L.drop i):=by
 have hl:=aI L
 have ht:((gcs L).take (i * RowT.sz α))=gcs (L.take i):=iW L i
 have htl:(gcs (L.take i)).length=i * RowT.sz α:=by rw [aI,List.length_take,Nat.min_eq_left hi]
 have hdl:(gcs (L.drop i)).length=(L.length - i) * RowT.sz α:=by rw [aI,List.length_drop]
 have e1:i * RowT.sz α+RowT.sz α=(i+1) * RowT.sz α:=by rw [Nat.add_mul,Nat.one_mul]
 have e2:i * RowT.sz α+(L.length - i) * RowT.sz α=L.length * RowT.sz α:=by rw [← Nat.add_mul];congr 1;omega
 have hle:i * RowT.sz α≤(gcs L).length:=by rw [hl];omega
 unfold splice
 rw [RowT.len,cH,dD,hdl]
 have a1:((gcs L ++ js).take ((i+1) * RowT.sz α) ++ (gcs (L.drop i) ++ (gcs L ++ js).drop ((i+1) * RowT.sz α+(L.length - i) * RowT.sz α))).take (i * RowT.sz α)=gcs (L.take i):=by
  rw [List.take_append_of_le_length (by rw [List.length_take,List.length_append,hl,hj];omega),List.take_take,Nat.min_eq_left (by omega),List.take_append_of_le_length hle,ht]
 have a2:((gcs L ++ js).take ((i+1) * RowT.sz α) ++ (gcs (L.drop i) ++ (gcs L ++ js).drop ((i+1) * RowT.sz α+(L.length - i) * RowT.sz α))).drop (i * RowT.sz α+RowT.sz α)=gcs (L.drop i):=by
  have h0:(gcs L ++ js).drop ((i+1) * RowT.sz α+(L.length - i) * RowT.sz α)=[]:=List.drop_of_length_le (by rw [List.length_append,hl,hj];omega)
  rw [h0,List.append_nil,e1,List.drop_append,List.drop_of_length_le (by rw [List.length_take];omega),List.length_take,List.length_append,hl,hj,Nat.min_eq_left (by omega),Nat.sub_self,List.drop_zero,List.nil_append]
 rw [a1,a2]
theorem oT (L:List α) (x:α) {i:Nat} (hi:i≤L.length) (js:List Value) (hj:js.length=(L.length+1 - i) * RowT.sz α) :
  splice (splice (gcs (L.take i) ++ js) (i * RowT.sz α) (RowT.enc x)) ((i+1) * RowT.sz α) (gcs (L.drop i))=gcs (L.take i ++ x :: L.drop i):=by
 have htl:(gcs (L.take i)).length=i * RowT.sz α:=by rw [aI,List.length_take,Nat.min_eq_left hi]
 have hdl:(gcs (L.drop i)).length=(L.length - i) * RowT.sz α:=by rw [aI,List.length_drop]
 have e1:i * RowT.sz α+RowT.sz α=(i+1) * RowT.sz α:=by rw [Nat.add_mul,Nat.one_mul]
 have e2:RowT.sz α+(L.length - i) * RowT.sz α=(L.length+1 - i) * RowT.sz α:=by rw [show L.length+1 - i=1+(L.length - i) by omega,Nat.add_mul,Nat.one_mul]
 unfold splice
 rw [RowT.len,cH,dD,hdl]
 have a0:(gcs (L.take i) ++ js).take (i * RowT.sz α)=gcs (L.take i):=by rw [List.take_append_of_le_length (by omega),List.take_of_length_le (by omega)]
 rw [a0]
 have a1:(gcs (L.take i) ++ (RowT.enc x ++ (gcs (L.take i) ++ js).drop (i * RowT.sz α+RowT.sz α))).take ((i+1) * RowT.sz α)=gcs (L.take i) ++ RowT.enc x:=by
  rw [← List.append_assoc,List.take_append_of_le_length (by rw [List.length_append,htl,RowT.len];omega),List.take_of_length_le (by rw [List.length_append,htl,RowT.len];omega)]
 have a2:(gcs (L.take i) ++ (RowT.enc x ++ (gcs (L.take i) ++ js).drop (i * RowT.sz α+RowT.sz α))).drop ((i+1) * RowT.sz α+(L.length - i) * RowT.sz α)=[]:=by
  apply List.drop_of_length_le
  rw [List.length_append,List.length_append,List.length_drop,List.length_append,htl,RowT.len,hj];omega
 rw [a1,a2,List.append_nil,List.append_assoc]
theorem rN (L:List α) {i:Nat} (hi:i < L.length) :
  (splice (gcs L) (i * RowT.sz α) (gcs (L.drop (i+1)))).take ((L.length - 1) * RowT.sz α)=gcs (L.take i ++ L.drop (i+1)):=by
 have ht:((gcs L).take (i * RowT.sz α))=gcs (L.take i):=iW L i
 have htl:(gcs (L.take i)).length=i * RowT.sz α:=by rw [aI,List.length_take,Nat.min_eq_left (by omega)]
 have hdl:(gcs (L.drop (i+1))).length=(L.length - (i+1)) * RowT.sz α:=by rw [aI,List.length_drop]
 have e2:i * RowT.sz α+(L.length - (i+1)) * RowT.sz α=(L.length - 1) * RowT.sz α:=by rw [← Nat.add_mul];congr 1;omega
 unfold splice
 rw [ht,cH,← List.append_assoc,List.take_append_of_le_length (by rw [List.length_append,htl,hdl];omega),List.take_of_length_le (by rw [List.length_append,htl,hdl];omega)]
end
end
end Go.Proofs.YtohmmcahpakokaaGreat
