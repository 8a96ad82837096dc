/- EqualFunc over equalOp, Equal (the program's); large, code (the law's). -/
import Derived.Test.YtohmmcahpakokaaGreatJ19
set_option maxRecDepth 100000
set_option maxHeartbeats 8000000
set_option linter.unusedVariables false
set_option linter.unusedSimpArgs false
namespace Go.Proofs.YtohmmcahpakokaaGreat
section
open Go.RowKit
attribute [local go_sem ↓] Go.wp_at_zero Go.wp_at_succ
def bQ (ac sq:Int) (L:List OpR):UInt64:=if vTx ac sq L=true then dM 80 (lW ac sq L) else 0
theorem eS (ac sq:Int) (A:Option Addr) (n c:Nat) (L:List OpR) (w:World) (hS:SlO w A n c L) :
  Calls Tryz.prog 56 #[.agg (txA ac sq A n c)] w fun e w'=>e=.returned (.agg (nmc (bQ ac sq L)))∧Ext w w':=by
 have hE:=((Ext.refl w).alloc' (.cells (txA ac sq A n c) 24)).alloc' (.cells zcs.toArray 30)
 have HB1:=zh ((Blk.new w 24 (txA ac sq A n c)).alloc (.cells zcs.toArray 30))
 have HB2:=zh (show Blk ((w.alloc (.cells (txA ac sq A n c) 24)).alloc (.cells zcs.toArray 30)) (w.heap.size+1) 30 zcs.toArray from Blk.newAt _ _ _ _ (by simp))
 have HE:=zh hE
 have HS:=zh (hS.ext hE)
 have HV:=zh (eH ac sq A n c L _ HS.out)
 cases hv:vTx ac sq L with
 | false =>
  have HN:=zh (show bQ ac sq L=0 by unfold bQ;rw [if_neg (by rw [hv];decide)])
  rw [hv] at HV
  have HV:=zh (show Calls Tryz.prog 44 #[.agg (txA ac sq A n c)] _ (fun e w'=>e=.returned (.int .i64 1)∧Ext _ w') from HV.out)
  clear hS hE hv
  go_enter Tryz.func56,Tryz.ntmps56
  go_wp2_with fail
  refine HV.out.mono ?_
  rintro e w1 ⟨rfl,he1⟩
  have hb:=HB2.out.ext he1
  have hst:=cA hb 0
  rw [show (nmc 0).toList=zcs from by rw [← sT]] at hst
  have ht:=dZ hb
  go_wp2_with (with_reducible refine aW rfl (.tmp 2) (.tmp 6) rfl (w.heap.size+1) 0 0 rfl rfl ht ?_)
  exact bodyPost_ret (v:=.agg (nmc 0)) (eL rfl _ _ (w.heap.size+1) 0 rfl (by first | exact blkN hb 0 | exact fP hb)) rfl ⟨by rw [HN.out],Below.setCells' (HE.out.trans he1) (by omega) _ _⟩
 | true =>
  have HN:=zh (show bQ ac sq L=dM 80 (lW ac sq L) by unfold bQ;rw [if_pos hv])
  have HEN:=zh (fun (W:World) (h:Ext ((w.alloc (.cells (txA ac sq A n c) 24)).alloc (.cells zcs.toArray 30)) W)=>aDC ac sq A n c L W (HS.out.ext h) hv)
  rw [hv] at HV
  have HV:=zh (show Calls Tryz.prog 44 #[.agg (txA ac sq A n c)] _ (fun e w'=>e=.returned (.int .i64 0)∧Ext _ w') from HV.out)
  clear hS hE hv
  go_enter Tryz.func56,Tryz.ntmps56
  go_wp2_with fail
  refine HV.out.mono ?_
  rintro e w1 ⟨rfl,he1⟩
  have HX1:=zh he1
  obtain ⟨q0,q1,q2⟩:=fL (HB1.out.ext he1)
  clear he1
  go_wp2_with fail
  refine (HEN.out _ HX1.out).mono ?_
  rintro e w2 ⟨A2,n2,c2,rfl,hO2,hn2,he2⟩
  have HX2:=zh (HX1.out.trans he2)
  have HS2:=zh hO2.sl
  clear hO2 he2 q0 q1 q2
  go_wp2_with fail
  refine (gX 80 A2 n2 c2 _ _ HS2.out (by omega)).mono ?_
  rintro e w3 ⟨rfl,he3⟩
  have hb:=HB2.out.ext (HX2.out.trans he3)
  have hst:=cA hb (dM 80 (lW ac sq L))
  go_wp2_with fail
  exact bodyPost_ret (v:=.agg (nmc (dM 80 (lW ac sq L)))) (eL rfl _ _ (w.heap.size+1) _ rfl (blkN hb _)) rfl ⟨by rw [HN.out],Below.setCells' (HE.out.trans (HX2.out.trans he3)) (by omega) _ _⟩
theorem kJ (ac sq:Int) (A:Option Addr) (n c:Nat) (L:List OpR) (w:World) (hS:SlO w A n c L) :
  Calls Tryz.prog 35 #[.agg (txA ac sq A n c)] w fun e w'=>e=.returned (.agg (nmc (bQ ac sq L)))∧Ext w w':=by
 have hE:=((Ext.refl w).alloc' (.cells (txA ac sq A n c) 24)).alloc' (.cells zcs.toArray 30)
 have HB1:=zh ((Blk.new w 24 (txA ac sq A n c)).alloc (.cells zcs.toArray 30))
 have HB2:=zh (show Blk ((w.alloc (.cells (txA ac sq A n c) 24)).alloc (.cells zcs.toArray 30)) (w.heap.size+1) 30 zcs.toArray from Blk.newAt _ _ _ _ (by simp))
 have HE:=zh hE
 have HS:=zh (hS.ext hE)
 have HV:=zh (gD ac sq A n c L _ HS.out)
 cases hv:vTx ac sq L with
 | false =>
  have HN:=zh (show bQ ac sq L=0 by unfold bQ;rw [if_neg (by rw [hv];decide)])
  rw [hv] at HV
  have HV:=zh (show Calls Tryz.prog 46 #[.agg (txA ac sq A n c)] _ (fun e w'=>e=.returned (.bool false)∧Ext _ w') from HV.out)
  clear hS hE hv
  go_enter Tryz.func35,Tryz.ntmps35
  go_wp2_with fail
  refine HV.out.mono ?_
  rintro e w1 ⟨rfl,he1⟩
  have hb:=HB2.out.ext he1
  have hst:=cA hb 0
  rw [show (nmc 0).toList=zcs from by rw [← sT]] at hst
  have ht:=dZ hb
  go_wp2_with (with_reducible refine aW rfl (.tmp 2) (.tmp 6) rfl (w.heap.size+1) 0 0 rfl rfl ht ?_)
  exact bodyPost_ret (v:=.agg (nmc 0)) (eL rfl _ _ (w.heap.size+1) 0 rfl (by first | exact blkN hb 0 | exact fP hb)) rfl ⟨by rw [HN.out],Below.setCells' (HE.out.trans he1) (by omega) _ _⟩
 | true =>
  have HN:=zh (show bQ ac sq L=dM 80 (lW ac sq L) by unfold bQ;rw [if_pos hv])
  have HEN:=zh (fun (W:World) (h:Ext ((w.alloc (.cells (txA ac sq A n c) 24)).alloc (.cells zcs.toArray 30)) W)=>tY ac sq A n c L W (HS.out.ext h) hv)
  rw [hv] at HV
  have HV:=zh (show Calls Tryz.prog 46 #[.agg (txA ac sq A n c)] _ (fun e w'=>e=.returned (.bool true)∧Ext _ w') from HV.out)
  clear hS hE hv
  go_enter Tryz.func35,Tryz.ntmps35
  go_wp2_with fail
  refine HV.out.mono ?_
  rintro e w1 ⟨rfl,he1⟩
  have HX1:=zh he1
  obtain ⟨q0,q1,q2⟩:=fL (HB1.out.ext he1)
  clear he1
  go_wp2_with fail
  refine (HEN.out _ HX1.out).mono ?_
  rintro e w2 ⟨A2,n2,c2,rfl,hO2,hn2,he2⟩
  have HX2:=zh (HX1.out.trans he2)
  have HS2:=zh hO2
  clear hO2 he2 q0 q1 q2
  go_wp2_with fail
  refine (dH 80 A2 n2 c2 _ _ HS2.out (by omega)).mono ?_
  rintro e w3 ⟨rfl,he3⟩
  have hb:=HB2.out.ext (HX2.out.trans he3)
  have hst:=cA hb (dM 80 (lW ac sq L))
  go_wp2_with fail
  exact bodyPost_ret (v:=.agg (nmc (dM 80 (lW ac sq L)))) (eL rfl _ _ (w.heap.size+1) _ rfl (blkN hb _)) rfl ⟨by rw [HN.out],Below.setCells' (HE.out.trans (HX2.out.trans he3)) (by omega) _ _⟩
def cB (ac sq:Int) (L:List OpR) (op:Int):UInt64:=if vTx ac sq L=true∧0≤op∧op < (L.length:Int)∧(aY L op.toNat).k=2 then dM 81 (nmb (bQ ac sq L) ++ [toB op]) else 0
theorem pX (ac sq:Int) (A:Option Addr) (n c:Nat) (L:List OpR) (op:Int) (w:World) (hS:SlO w A n c L) :
  Calls Tryz.prog 84 #[.agg (txA ac sq A n c),.int .i64 op] w fun e w'=>e=.returned (.agg (nmc (cB ac sq L op)))∧Ext w w':=by
 have hle:=hS.le
 have hcap:=hS.cap
 have hlen:=hS.len
 have hE:=((Ext.refl w).alloc' (.cells (txA ac sq A n c) 24)).alloc' (.cells zcs.toArray 30)
 have HB1:=zh ((Blk.new w 24 (txA ac sq A n c)).alloc (.cells zcs.toArray 30))
 have HB2:=zh (show Blk ((w.alloc (.cells (txA ac sq A n c) 24)).alloc (.cells zcs.toArray 30)) (w.heap.size+1) 30 zcs.toArray from Blk.newAt _ _ _ _ (by simp))
 have HE:=zh hE
 have HS:=zh (hS.ext hE)
 have HV:=zh (eH ac sq A n c L _ HS.out)
 by_cases hall:vTx ac sq L=true∧0≤op∧op < (L.length:Int)∧(aY L op.toNat).k=2
 ·obtain ⟨hv, h0, h1, h2⟩ := hall
  have HN:=zh (show cB ac sq L op=dM 81 (nmb (bQ ac sq L) ++ [toB op]) by unfold cB;rw [if_pos ⟨hv,h0,h1,h2⟩])
  rw [hlen] at h1
  rw [hv] at HV
  have HV:=zh (show Calls Tryz.prog 44 #[.agg (txA ac sq A n c)] _ (fun e w'=>e=.returned (.int .i64 0)∧Ext _ w') from HV.out)
  obtain ⟨b,o,rfl,hr0,hb0⟩:=HS.out.at (by omega)
  obtain ⟨j,rfl⟩:∃ j:Nat,op=(j:Int):=⟨op.toNat,by omega⟩
  rw [Int.toNat_natCast] at h2
  have HR:=zh (fun (W:World) (h:Ext ((w.alloc (.cells (txA ac sq (some ⟨b,o,none⟩) n c) 24)).alloc (.cells zcs.toArray 30)) W)=>show W.cell? ⟨b,o+j * 23,none⟩=some (.int .i64 2) from by
   have:=kW (aX hr0 (h.block b hb0)) (k:=j) (by rw [hlen];omega) 0 _ rfl
   rw [h2] at this;exact this)
  have d1:decide ((j:Int) < 0)=false:=decide_eq_false (by omega)
  have d2:decide ((n:Int)≤(j:Int))=false:=decide_eq_false (by omega)
  have d3:(j:Int) < (n:Int):=by omega
  have HNM:=zh (fun (W:World) (h:Ext ((w.alloc (.cells (txA ac sq (some ⟨b,o,none⟩) n c) 24)).alloc (.cells zcs.toArray 30)) W)=>eS ac sq (some ⟨b,o,none⟩) n c L W (HS.out.ext h))
  clear hS hE hv h0 h1 h2 hr0 hb0 hlen
  go_enter Tryz.func84,Tryz.ntmps84
  go_wp2_with fail
  refine HV.out.mono ?_
  rintro e w1 ⟨rfl,he1⟩
  have HX1:=zh he1
  obtain ⟨q0,q1,q2⟩:=fL (HB1.out.ext he1)
  have q3:=HR.out _ he1
  clear he1 HV
  go_wp2_with fail
  refine (HNM.out _ HX1.out).mono ?_
  rintro e w2 ⟨rfl,he2⟩
  obtain ⟨N,hN⟩:∃ N,bQ ac sq L=N:=⟨_,rfl⟩
  rw [hN] at HN ⊢
  have HX2:=zh (HX1.out.trans he2)
  clear he2 q0 q1 q2 q3 hN
  have e3:=((Ext.refl w2).alloc' (.cells (nmc N) 30)).alloc' (.cells #[.int .u8 ((j:Int) % 256)] 5)
  have HSA:=zh (SlB.blkN ((Blk.new w2 30 (nmc N)).alloc (.cells #[.int .u8 ((j:Int) % 256)] 5)))
  have HSB:=zh (SlB.new1 (w2.alloc (.cells (nmc N) 30)) 5 ((j:Int) % 256) (toB (j:Int)) (w2.heap.size+1) (by simp) (bT _))
  go_wp2_with (first | (with_reducible refine lS rfl (.tmp 5) (.tmp 31) rfl w2.heap.size N rfl rfl rfl ?_) | (at_builtin;go_must (refine pB bI rfl (.tmp 32) (.tmp 35) rfl _ 8 8 (nmb N) rfl HSA.out (by omega) _ 1 1 [toB (j:Int)] rfl HSB.out (by omega) (by omega) (by omega) ?_;intro A5 c5 w5 hO5 he5)))
  have HX5:=zh (HX2.out.trans (e3.trans he5))
  have HS5:=zh hO5.sl
  clear hO5 he5 e3
  refine (gX 81 A5 _ c5 _ _ HS5.out (by omega)).mono ?_
  rintro e w6 ⟨rfl,he6⟩
  have hb:=HB2.out.ext (HX5.out.trans he6)
  have hst:=cA hb (dM 81 (nmb N ++ [toB (j:Int)]))
  go_wp2_with fail
  exact bodyPost_ret (v:=.agg (nmc (dM 81 (nmb N ++ [toB (j:Int)])))) (eL rfl _ _ (w.heap.size+1) _ rfl (blkN hb _)) rfl ⟨by rw [HN.out],Below.setCells' (HE.out.trans (HX5.out.trans he6)) (by omega) _ _⟩
 have HN:=zh (show cB ac sq L op=0 by unfold cB;rw [if_neg hall])
 cases hv:vTx ac sq L with
 | false =>
  rw [hv] at HV
  have HV:=zh (show Calls Tryz.prog 44 #[.agg (txA ac sq A n c)] _ (fun e w'=>e=.returned (.int .i64 1)∧Ext _ w') from HV.out)
  clear hS hE hv hall
  go_enter Tryz.func84,Tryz.ntmps84
  go_wp2_with fail
  refine HV.out.mono ?_
  rintro e w1 ⟨rfl,he1⟩
  have hb:=HB2.out.ext he1
  have ht:=dZ hb
  go_wp2_with (with_reducible refine aW rfl (.tmp 4) (.tmp 29) rfl (w.heap.size+1) 0 0 rfl rfl ht ?_)
  exact bodyPost_ret (v:=.agg (nmc 0)) (eL rfl _ _ (w.heap.size+1) 0 rfl (by first | exact blkN hb 0 | exact fP hb)) rfl ⟨by rw [HN.out],Below.setCells' (HE.out.trans he1) (by omega) _ _⟩
 | true =>
  rw [hv] at HV
  have HV:=zh (show Calls Tryz.prog 44 #[.agg (txA ac sq A n c)] _ (fun e w'=>e=.returned (.int .i64 0)∧Ext _ w') from HV.out)
  have hc:op < 0 ∨ (decide (op < 0)=false∧(n:Int)≤op) ∨ (∃ j:Nat,op=(j:Int)∧j < n∧(aY L j).k ≠ 2):=by
   by_cases h0:op < 0
   ·exact .inl h0
   by_cases h1:(n:Int)≤op
   ·exact .inr (.inl ⟨decide_eq_false h0,h1⟩)
   refine .inr (.inr ⟨op.toNat,by omega,by omega,fun h2=>hall ⟨hv,by omega,by rw [hlen];omega,h2⟩⟩)
  clear hall hv hE
  rcases hc with h0 | ⟨d1,h1⟩ | ⟨j,rfl,hj,h2⟩
  ·clear hS
   go_enter Tryz.func84,Tryz.ntmps84
   go_wp2_with fail
   refine HV.out.mono ?_
   rintro e w1 ⟨rfl,he1⟩
   have hb:=HB2.out.ext he1
   have ht:=dZ hb
   go_wp2_with (with_reducible refine aW rfl (.tmp 4) (.tmp 29) rfl (w.heap.size+1) 0 0 rfl rfl ht ?_)
   exact bodyPost_ret (v:=.agg (nmc 0)) (eL rfl _ _ (w.heap.size+1) 0 rfl (by first | exact blkN hb 0 | exact fP hb)) rfl ⟨by rw [HN.out],Below.setCells' (HE.out.trans he1) (by omega) _ _⟩
  ·clear hS
   go_enter Tryz.func84,Tryz.ntmps84
   go_wp2_with fail
   refine HV.out.mono ?_
   rintro e w1 ⟨rfl,he1⟩
   obtain ⟨q0,q1,q2⟩:=fL (HB1.out.ext he1)
   have hb:=HB2.out.ext he1
   have ht:=dZ hb
   go_wp2_with (with_reducible refine aW rfl (.tmp 4) (.tmp 29) rfl (w.heap.size+1) 0 0 rfl rfl ht ?_)
   exact bodyPost_ret (v:=.agg (nmc 0)) (eL rfl _ _ (w.heap.size+1) 0 rfl (by first | exact blkN hb 0 | exact fP hb)) rfl ⟨by rw [HN.out],Below.setCells' (HE.out.trans he1) (by omega) _ _⟩
  obtain ⟨b,o,rfl,hr0,hb0⟩:=HS.out.at (by omega)
  have d1:decide ((j:Int) < 0)=false:=decide_eq_false (by omega)
  have d2:decide ((n:Int)≤(j:Int))=false:=decide_eq_false (by omega)
  have d3:(j:Int) < (n:Int):=by omega
  have j0:(0:Int)≤(j:Int):=by omega
  have HR:=zh (fun (W:World) (h:Ext ((w.alloc (.cells (txA ac sq (some ⟨b,o,none⟩) n c) 24)).alloc (.cells zcs.toArray 30)) W)=>show W.cell? ⟨b,o+j * 23,none⟩=some (.int .i64 (aY L j).k) from kW (aX hr0 (h.block b hb0)) (k:=j) (by rw [hlen];omega) 0 _ rfl)
  obtain ⟨x,hx⟩:∃ x,(aY L j).k=x:=⟨_,rfl⟩
  rw [hx] at HR h2
  have y1:(x != 2)=true:=by simp;omega
  have y2:(x == 2)=false:=by simp;omega
  have y3:decide (x=2)=false:=by simp;omega
  clear hS hr0 hb0 hx h2 hj hlen
  go_enter Tryz.func84,Tryz.ntmps84
  go_wp2_with fail
  refine HV.out.mono ?_
  rintro e w1 ⟨rfl,he1⟩
  obtain ⟨q0,q1,q2⟩:=fL (HB1.out.ext he1)
  have q3:=HR.out _ he1
  have hb:=HB2.out.ext he1
  have ht:=dZ hb
  go_wp2_with (with_reducible refine aW rfl (.tmp 4) (.tmp 29) rfl (w.heap.size+1) 0 0 rfl rfl ht ?_)
  exact bodyPost_ret (v:=.agg (nmc 0)) (eL rfl _ _ (w.heap.size+1) 0 rfl (by first | exact blkN hb 0 | exact fP hb)) rfl ⟨by rw [HN.out],Below.setCells' (HE.out.trans he1) (by omega) _ _⟩
theorem sK (ac sq:Int) (A:Option Addr) (n c:Nat) (L:List OpR) (op:Int) (w:World) (hS:SlO w A n c L) :
  Calls Tryz.prog 48 #[.agg (txA ac sq A n c),.int .i64 op] w fun e w'=>e=.returned (.agg (nmc (cB ac sq L op)))∧Ext w w':=by
 have hle:=hS.le
 have hcap:=hS.cap
 have hlen:=hS.len
 have hE:=((Ext.refl w).alloc' (.cells (txA ac sq A n c) 24)).alloc' (.cells zcs.toArray 30)
 have HB1:=zh ((Blk.new w 24 (txA ac sq A n c)).alloc (.cells zcs.toArray 30))
 have HB2:=zh (show Blk ((w.alloc (.cells (txA ac sq A n c) 24)).alloc (.cells zcs.toArray 30)) (w.heap.size+1) 30 zcs.toArray from Blk.newAt _ _ _ _ (by simp))
 have HE:=zh hE
 have HS:=zh (hS.ext hE)
 have HV:=zh (gD ac sq A n c L _ HS.out)
 by_cases hall:vTx ac sq L=true∧0≤op∧op < (L.length:Int)∧(aY L op.toNat).k=2
 ·obtain ⟨hv, h0, h1, h2⟩ := hall
  have HN:=zh (show cB ac sq L op=dM 81 (nmb (bQ ac sq L) ++ [toB op]) by unfold cB;rw [if_pos ⟨hv,h0,h1,h2⟩])
  rw [hlen] at h1
  rw [hv] at HV
  have HV:=zh (show Calls Tryz.prog 46 #[.agg (txA ac sq A n c)] _ (fun e w'=>e=.returned (.bool true)∧Ext _ w') from HV.out)
  obtain ⟨b,o,rfl,hr0,hb0⟩:=HS.out.at (by omega)
  obtain ⟨j,rfl⟩:∃ j:Nat,op=(j:Int):=⟨op.toNat,by omega⟩
  rw [Int.toNat_natCast] at h2
  have HR:=zh (fun (W:World) (h:Ext ((w.alloc (.cells (txA ac sq (some ⟨b,o,none⟩) n c) 24)).alloc (.cells zcs.toArray 30)) W)=>show W.cell? ⟨b,o+j * 23,none⟩=some (.int .i64 2) from by
   have:=kW (aX hr0 (h.block b hb0)) (k:=j) (by rw [hlen];omega) 0 _ rfl
   rw [h2] at this;exact this)
  have d1:decide ((j:Int) < 0)=false:=decide_eq_false (by omega)
  have d2:decide ((n:Int)≤(j:Int))=false:=decide_eq_false (by omega)
  have d3:(j:Int) < (n:Int):=by omega
  have HNM:=zh (fun (W:World) (h:Ext ((w.alloc (.cells (txA ac sq (some ⟨b,o,none⟩) n c) 24)).alloc (.cells zcs.toArray 30)) W)=>kJ ac sq (some ⟨b,o,none⟩) n c L W (HS.out.ext h))
  clear hS hE hv h0 h1 h2 hr0 hb0 hlen
  go_enter Tryz.func48,Tryz.ntmps48
  go_wp2_with fail
  refine HV.out.mono ?_
  rintro e w1 ⟨rfl,he1⟩
  have HX1:=zh he1
  obtain ⟨q0,q1,q2⟩:=fL (HB1.out.ext he1)
  have q3:=HR.out _ he1
  clear he1 HV
  go_wp2_with fail
  refine (HNM.out _ HX1.out).mono ?_
  rintro e w2 ⟨rfl,he2⟩
  have HX2:=zh (HX1.out.trans he2)
  clear he2 q0 q1 q2 q3
  go_wp2_with fail
  refine (nE none 0 0 [] (bQ ac sq L) w2 (SlB.nil _) (by omega)).mono ?_
  rintro e w3 ⟨A3,c3,rfl,hO3,he3⟩
  have HX3:=zh (HX2.out.trans he3)
  have HS3:=zh (show SlB w3 A3 8 c3 (nmb (bQ ac sq L)) from by simpa using hO3.sl)
  clear hO3 he3
  go_wp2_with fail
  refine (bV A3 8 c3 _ (j:Int) w3 HS3.out (by omega)).mono ?_
  rintro e w4 ⟨A4,c4,rfl,hO4,he4⟩
  have HX4:=zh (HX3.out.trans he4)
  have HS4:=zh hO4.sl
  clear hO4 he4
  go_wp2_with fail
  refine (dH 81 A4 _ c4 _ _ HS4.out (by omega)).mono ?_
  rintro e w5 ⟨rfl,he5⟩
  have hb:=HB2.out.ext (HX4.out.trans he5)
  have hst:=cA hb (dM 81 (nmb (bQ ac sq L) ++ [toB (j:Int)]))
  go_wp2_with fail
  exact bodyPost_ret (v:=.agg (nmc (dM 81 (nmb (bQ ac sq L) ++ [toB (j:Int)])))) (eL rfl _ _ (w.heap.size+1) _ rfl (blkN hb _)) rfl ⟨by rw [HN.out],Below.setCells' (HE.out.trans (HX4.out.trans he5)) (by omega) _ _⟩
 have HN:=zh (show cB ac sq L op=0 by unfold cB;rw [if_neg hall])
 cases hv:vTx ac sq L with
 | false =>
  rw [hv] at HV
  have HV:=zh (show Calls Tryz.prog 46 #[.agg (txA ac sq A n c)] _ (fun e w'=>e=.returned (.bool false)∧Ext _ w') from HV.out)
  clear hS hE hv hall
  go_enter Tryz.func48,Tryz.ntmps48
  go_wp2_with fail
  refine HV.out.mono ?_
  rintro e w1 ⟨rfl,he1⟩
  have hb:=HB2.out.ext he1
  have ht:=dZ hb
  go_wp2_with (with_reducible refine aW rfl (.tmp 4) (.tmp 28) rfl (w.heap.size+1) 0 0 rfl rfl ht ?_)
  exact bodyPost_ret (v:=.agg (nmc 0)) (eL rfl _ _ (w.heap.size+1) 0 rfl (by first | exact blkN hb 0 | exact fP hb)) rfl ⟨by rw [HN.out],Below.setCells' (HE.out.trans he1) (by omega) _ _⟩
 | true =>
  rw [hv] at HV
  have HV:=zh (show Calls Tryz.prog 46 #[.agg (txA ac sq A n c)] _ (fun e w'=>e=.returned (.bool true)∧Ext _ w') from HV.out)
  have hc:op < 0 ∨ (decide (op < 0)=false∧(n:Int)≤op) ∨ (∃ j:Nat,op=(j:Int)∧j < n∧(aY L j).k ≠ 2):=by
   by_cases h0:op < 0
   ·exact .inl h0
   by_cases h1:(n:Int)≤op
   ·exact .inr (.inl ⟨decide_eq_false h0,h1⟩)
   refine .inr (.inr ⟨op.toNat,by omega,by omega,fun h2=>hall ⟨hv,by omega,by rw [hlen];omega,h2⟩⟩)
  clear hall hv hE
  rcases hc with h0 | ⟨d1,h1⟩ | ⟨j,rfl,hj,h2⟩
  ·clear hS
   go_enter Tryz.func48,Tryz.ntmps48
   go_wp2_with fail
   refine HV.out.mono ?_
   rintro e w1 ⟨rfl,he1⟩
   have hb:=HB2.out.ext he1
   have ht:=dZ hb
   go_wp2_with (with_reducible refine aW rfl (.tmp 4) (.tmp 28) rfl (w.heap.size+1) 0 0 rfl rfl ht ?_)
   exact bodyPost_ret (v:=.agg (nmc 0)) (eL rfl _ _ (w.heap.size+1) 0 rfl (by first | exact blkN hb 0 | exact fP hb)) rfl ⟨by rw [HN.out],Below.setCells' (HE.out.trans he1) (by omega) _ _⟩
  ·clear hS
   go_enter Tryz.func48,Tryz.ntmps48
   go_wp2_with fail
   refine HV.out.mono ?_
   rintro e w1 ⟨rfl,he1⟩
   obtain ⟨q0,q1,q2⟩:=fL (HB1.out.ext he1)
   have hb:=HB2.out.ext he1
   have ht:=dZ hb
   go_wp2_with (with_reducible refine aW rfl (.tmp 4) (.tmp 28) rfl (w.heap.size+1) 0 0 rfl rfl ht ?_)
   exact bodyPost_ret (v:=.agg (nmc 0)) (eL rfl _ _ (w.heap.size+1) 0 rfl (by first | exact blkN hb 0 | exact fP hb)) rfl ⟨by rw [HN.out],Below.setCells' (HE.out.trans he1) (by omega) _ _⟩
  obtain ⟨b,o,rfl,hr0,hb0⟩:=HS.out.at (by omega)
  have d1:decide ((j:Int) < 0)=false:=decide_eq_false (by omega)
  have d2:decide ((n:Int)≤(j:Int))=false:=decide_eq_false (by omega)
  have d3:(j:Int) < (n:Int):=by omega
  have j0:(0:Int)≤(j:Int):=by omega
  have HR:=zh (fun (W:World) (h:Ext ((w.alloc (.cells (txA ac sq (some ⟨b,o,none⟩) n c) 24)).alloc (.cells zcs.toArray 30)) W)=>show W.cell? ⟨b,o+j * 23,none⟩=some (.int .i64 (aY L j).k) from kW (aX hr0 (h.block b hb0)) (k:=j) (by rw [hlen];omega) 0 _ rfl)
  obtain ⟨x,hx⟩:∃ x,(aY L j).k=x:=⟨_,rfl⟩
  rw [hx] at HR h2
  have y1:(x != 2)=true:=by simp;omega
  have y2:(x == 2)=false:=by simp;omega
  have y3:decide (x=2)=false:=by simp;omega
  clear hS hr0 hb0 hx h2 hj hlen
  go_enter Tryz.func48,Tryz.ntmps48
  go_wp2_with fail
  refine HV.out.mono ?_
  rintro e w1 ⟨rfl,he1⟩
  obtain ⟨q0,q1,q2⟩:=fL (HB1.out.ext he1)
  have q3:=HR.out _ he1
  have hb:=HB2.out.ext he1
  have ht:=dZ hb
  go_wp2_with (with_reducible refine aW rfl (.tmp 4) (.tmp 28) rfl (w.heap.size+1) 0 0 rfl rfl ht ?_)
  exact bodyPost_ret (v:=.agg (nmc 0)) (eL rfl _ _ (w.heap.size+1) 0 rfl (by first | exact blkN hb 0 | exact fP hb)) rfl ⟨by rw [HN.out],Below.setCells' (HE.out.trans he1) (by omega) _ _⟩
end
end Go.Proofs.YtohmmcahpakokaaGreat
