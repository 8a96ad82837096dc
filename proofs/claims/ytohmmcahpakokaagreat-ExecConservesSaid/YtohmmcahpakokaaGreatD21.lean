/- EqualFunc over equalOp, Equal (the program's); large, code (the law's). -/
import Derived.Lib.BytesEntry
import Derived.Test.YtohmmcahpakokaaGreatD18
import Derived.Test.YtohmmcahpakokaaGreatD19
set_option maxRecDepth 100000
set_option maxHeartbeats 8000000
set_option linter.unusedVariables false
set_option linter.unusedSimpArgs false
namespace Go.Proofs.YtohmmcahpakokaaGreat
section
open Go.RowKit
attribute [local go_sem ↓] Go.wp_at_zero Go.wp_at_succ
def txNm (ac sq:Int) (L:List OpR):UInt64:=if vTx ac sq L=true then tagU 80 (encTx ac sq L) else 0
theorem txName_any (ac sq:Int) (A:Option Addr) (n c:Nat) (L:List OpR) (w:World) (hS:SlO w A n c L) :
  Calls Tryz.prog 56 #[.agg (txA ac sq A n c)] w fun e w'=>e=.returned (.agg (nmc (txNm ac sq L)))∧Ext w w':=by
 have hE:=((Ext.refl w).alloc' (.cells (txA ac sq A n c) 24)).alloc' (.cells zcs.toArray 30)
 have HB1:=zh ((Blk.new w 24 (txA ac sq A n c)).alloc (.cells zcs.toArray 30))
 have HB2:=zh (show Blk ((w.alloc (.cells (txA ac sq A n c) 24)).alloc (.cells zcs.toArray 30)) (w.heap.size+1) 30 zcs.toArray from Blk.newAt _ _ _ _ (by simp))
 have HE:=zh hE
 have HS:=zh (hS.ext hE)
 have HV:=zh (validate_any ac sq A n c L _ HS.out)
 cases hv:vTx ac sq L with
 | false =>
  have HN:=zh (show txNm ac sq L=0 by unfold txNm;rw [if_neg (by rw [hv];decide)])
  rw [hv] at HV
  have HV:=zh (show Calls Tryz.prog 44 #[.agg (txA ac sq A n c)] _ (fun e w'=>e=.returned (.int .i64 1)∧Ext _ w') from HV.out)
  clear hS hE hv
  go_enter Tryz.func56,Tryz.ntmps56
  go_wp2_with fail
  refine HV.out.mono ?_
  rintro e w1 ⟨rfl,he1⟩
  have hb:=HB2.out.ext he1
  have hst:=run_storeN hb 0
  rw [show (nmc 0).toList=zcs from by rw [← zcs_nmc]] at hst
  have ht:=thereZ hb
  go_wp2_with (with_reducible refine wpList_storeN rfl (.tmp 2) (.tmp 6) rfl (w.heap.size+1) 0 0 rfl rfl ht ?_)
  exact bodyPost_ret (v:=.agg (nmc 0)) (retN rfl _ _ (w.heap.size+1) 0 rfl (by first | exact blkN hb 0 | exact blk_zero hb)) rfl ⟨by rw [HN.out],Below.setCells' (HE.out.trans he1) (by omega) _ _⟩
 | true =>
  have HN:=zh (show txNm ac sq L=tagU 80 (encTx ac sq L) by unfold txNm;rw [if_pos hv])
  have HEN:=zh (fun (W:World) (h:Ext ((w.alloc (.cells (txA ac sq A n c) 24)).alloc (.cells zcs.toArray 30)) W)=>encode_any ac sq A n c L W (HS.out.ext h) hv)
  rw [hv] at HV
  have HV:=zh (show Calls Tryz.prog 44 #[.agg (txA ac sq A n c)] _ (fun e w'=>e=.returned (.int .i64 0)∧Ext _ w') from HV.out)
  clear hS hE hv
  go_enter Tryz.func56,Tryz.ntmps56
  go_wp2_with fail
  refine HV.out.mono ?_
  rintro e w1 ⟨rfl,he1⟩
  have HX1:=zh he1
  obtain ⟨q0,q1,q2⟩:=tx_facts (HB1.out.ext he1)
  clear he1
  go_wp2_with fail
  refine (HEN.out _ HX1.out).mono ?_
  rintro e w2 ⟨A2,n2,c2,rfl,hO2,hn2,he2⟩
  have HX2:=zh (HX1.out.trans he2)
  have HS2:=zh hO2.sl
  clear hO2 he2 q0 q1 q2
  go_wp2_with fail
  refine (tagged_any 80 A2 n2 c2 _ _ HS2.out (by omega)).mono ?_
  rintro e w3 ⟨rfl,he3⟩
  have hb:=HB2.out.ext (HX2.out.trans he3)
  have hst:=run_storeN hb (tagU 80 (encTx ac sq L))
  go_wp2_with fail
  exact bodyPost_ret (v:=.agg (nmc (tagU 80 (encTx ac sq L)))) (retN rfl _ _ (w.heap.size+1) _ rfl (blkN hb _)) rfl ⟨by rw [HN.out],Below.setCells' (HE.out.trans (HX2.out.trans he3)) (by omega) _ _⟩
theorem refTxName_any (ac sq:Int) (A:Option Addr) (n c:Nat) (L:List OpR) (w:World) (hS:SlO w A n c L) :
  Calls Tryz.prog 35 #[.agg (txA ac sq A n c)] w fun e w'=>e=.returned (.agg (nmc (txNm ac sq L)))∧Ext w w':=by
 have hE:=((Ext.refl w).alloc' (.cells (txA ac sq A n c) 24)).alloc' (.cells zcs.toArray 30)
 have HB1:=zh ((Blk.new w 24 (txA ac sq A n c)).alloc (.cells zcs.toArray 30))
 have HB2:=zh (show Blk ((w.alloc (.cells (txA ac sq A n c) 24)).alloc (.cells zcs.toArray 30)) (w.heap.size+1) 30 zcs.toArray from Blk.newAt _ _ _ _ (by simp))
 have HE:=zh hE
 have HS:=zh (hS.ext hE)
 have HV:=zh (refValidTx_any ac sq A n c L _ HS.out)
 cases hv:vTx ac sq L with
 | false =>
  have HN:=zh (show txNm ac sq L=0 by unfold txNm;rw [if_neg (by rw [hv];decide)])
  rw [hv] at HV
  have HV:=zh (show Calls Tryz.prog 46 #[.agg (txA ac sq A n c)] _ (fun e w'=>e=.returned (.bool false)∧Ext _ w') from HV.out)
  clear hS hE hv
  go_enter Tryz.func35,Tryz.ntmps35
  go_wp2_with fail
  refine HV.out.mono ?_
  rintro e w1 ⟨rfl,he1⟩
  have hb:=HB2.out.ext he1
  have hst:=run_storeN hb 0
  rw [show (nmc 0).toList=zcs from by rw [← zcs_nmc]] at hst
  have ht:=thereZ hb
  go_wp2_with (with_reducible refine wpList_storeN rfl (.tmp 2) (.tmp 6) rfl (w.heap.size+1) 0 0 rfl rfl ht ?_)
  exact bodyPost_ret (v:=.agg (nmc 0)) (retN rfl _ _ (w.heap.size+1) 0 rfl (by first | exact blkN hb 0 | exact blk_zero hb)) rfl ⟨by rw [HN.out],Below.setCells' (HE.out.trans he1) (by omega) _ _⟩
 | true =>
  have HN:=zh (show txNm ac sq L=tagU 80 (encTx ac sq L) by unfold txNm;rw [if_pos hv])
  have HEN:=zh (fun (W:World) (h:Ext ((w.alloc (.cells (txA ac sq A n c) 24)).alloc (.cells zcs.toArray 30)) W)=>refTxBytes_any ac sq A n c L W (HS.out.ext h) hv)
  rw [hv] at HV
  have HV:=zh (show Calls Tryz.prog 46 #[.agg (txA ac sq A n c)] _ (fun e w'=>e=.returned (.bool true)∧Ext _ w') from HV.out)
  clear hS hE hv
  go_enter Tryz.func35,Tryz.ntmps35
  go_wp2_with fail
  refine HV.out.mono ?_
  rintro e w1 ⟨rfl,he1⟩
  have HX1:=zh he1
  obtain ⟨q0,q1,q2⟩:=tx_facts (HB1.out.ext he1)
  clear he1
  go_wp2_with fail
  refine (HEN.out _ HX1.out).mono ?_
  rintro e w2 ⟨A2,n2,c2,rfl,hO2,hn2,he2⟩
  have HX2:=zh (HX1.out.trans he2)
  have HS2:=zh hO2
  clear hO2 he2 q0 q1 q2
  go_wp2_with fail
  refine (refTagged_any 80 A2 n2 c2 _ _ HS2.out (by omega)).mono ?_
  rintro e w3 ⟨rfl,he3⟩
  have hb:=HB2.out.ext (HX2.out.trans he3)
  have hst:=run_storeN hb (tagU 80 (encTx ac sq L))
  go_wp2_with fail
  exact bodyPost_ret (v:=.agg (nmc (tagU 80 (encTx ac sq L)))) (retN rfl _ _ (w.heap.size+1) _ rfl (blkN hb _)) rfl ⟨by rw [HN.out],Below.setCells' (HE.out.trans (HX2.out.trans he3)) (by omega) _ _⟩
def lockNm (ac sq:Int) (L:List OpR) (op:Int):UInt64:=if vTx ac sq L=true∧0≤op∧op < (L.length:Int)∧(nthO L op.toNat).k=2 then tagU 81 (nmb (txNm ac sq L) ++ [toB op]) else 0
theorem lockName_any (ac sq:Int) (A:Option Addr) (n c:Nat) (L:List OpR) (op:Int) (w:World) (hS:SlO w A n c L) :
  Calls Tryz.prog 84 #[.agg (txA ac sq A n c),.int .i64 op] w fun e w'=>e=.returned (.agg (nmc (lockNm ac sq L op)))∧Ext w w':=by
 have hle:=hS.le
 have hcap:=hS.cap
 have hlen:=hS.len
 have hE:=((Ext.refl w).alloc' (.cells (txA ac sq A n c) 24)).alloc' (.cells zcs.toArray 30)
 have HB1:=zh ((Blk.new w 24 (txA ac sq A n c)).alloc (.cells zcs.toArray 30))
 have HB2:=zh (show Blk ((w.alloc (.cells (txA ac sq A n c) 24)).alloc (.cells zcs.toArray 30)) (w.heap.size+1) 30 zcs.toArray from Blk.newAt _ _ _ _ (by simp))
 have HE:=zh hE
 have HS:=zh (hS.ext hE)
 have HV:=zh (validate_any ac sq A n c L _ HS.out)
 by_cases hall:vTx ac sq L=true∧0≤op∧op < (L.length:Int)∧(nthO L op.toNat).k=2
 ·obtain ⟨hv, h0, h1, h2⟩ := hall
  have HN:=zh (show lockNm ac sq L op=tagU 81 (nmb (txNm ac sq L) ++ [toB op]) by unfold lockNm;rw [if_pos ⟨hv,h0,h1,h2⟩])
  rw [hlen] at h1
  rw [hv] at HV
  have HV:=zh (show Calls Tryz.prog 44 #[.agg (txA ac sq A n c)] _ (fun e w'=>e=.returned (.int .i64 0)∧Ext _ w') from HV.out)
  obtain ⟨b,o,rfl,hr0,hb0⟩:=HS.out.at (by omega)
  obtain ⟨j,rfl⟩:∃ j:Nat,op=(j:Int):=⟨op.toNat,by omega⟩
  rw [Int.toNat_natCast] at h2
  have HR:=zh (fun (W:World) (h:Ext ((w.alloc (.cells (txA ac sq (some ⟨b,o,none⟩) n c) 24)).alloc (.cells zcs.toArray 30)) W)=>show W.cell? ⟨b,o+j * 23,none⟩=some (.int .i64 2) from by
   have:=op_at (rangeAt_keep hr0 (h.block b hb0)) (k:=j) (by rw [hlen];omega) 0 _ rfl
   rw [h2] at this;exact this)
  have d1:decide ((j:Int) < 0)=false:=decide_eq_false (by omega)
  have d2:decide ((n:Int)≤(j:Int))=false:=decide_eq_false (by omega)
  have d3:(j:Int) < (n:Int):=by omega
  have HNM:=zh (fun (W:World) (h:Ext ((w.alloc (.cells (txA ac sq (some ⟨b,o,none⟩) n c) 24)).alloc (.cells zcs.toArray 30)) W)=>txName_any ac sq (some ⟨b,o,none⟩) n c L W (HS.out.ext h))
  clear hS hE hv h0 h1 h2 hr0 hb0 hlen
  go_enter Tryz.func84,Tryz.ntmps84
  go_wp2_with fail
  refine HV.out.mono ?_
  rintro e w1 ⟨rfl,he1⟩
  have HX1:=zh he1
  obtain ⟨q0,q1,q2⟩:=tx_facts (HB1.out.ext he1)
  have q3:=HR.out _ he1
  clear he1 HV
  go_wp2_with fail
  refine (HNM.out _ HX1.out).mono ?_
  rintro e w2 ⟨rfl,he2⟩
  obtain ⟨N,hN⟩:∃ N,txNm ac sq L=N:=⟨_,rfl⟩
  rw [hN] at HN ⊢
  have HX2:=zh (HX1.out.trans he2)
  clear he2 q0 q1 q2 q3 hN
  have e3:=((Ext.refl w2).alloc' (.cells (nmc N) 30)).alloc' (.cells #[.int .u8 ((j:Int) % 256)] 5)
  have HSA:=zh (SlB.blkN ((Blk.new w2 30 (nmc N)).alloc (.cells #[.int .u8 ((j:Int) % 256)] 5)))
  have HSB:=zh (SlB.new1 (w2.alloc (.cells (nmc N) 30)) 5 ((j:Int) % 256) (toB (j:Int)) (w2.heap.size+1) (by simp) (toB_eq _))
  go_wp2_with (first | (with_reducible refine wpList_storeNew rfl (.tmp 5) (.tmp 31) rfl w2.heap.size N rfl rfl rfl ?_) | (at_builtin;go_must (refine wpList_growB bytesE rfl (.tmp 32) (.tmp 35) rfl _ 8 8 (nmb N) rfl HSA.out (by omega) _ 1 1 [toB (j:Int)] rfl HSB.out (by omega) (by omega) (by omega) ?_;intro A5 c5 w5 hO5 he5)))
  have HX5:=zh (HX2.out.trans (e3.trans he5))
  have HS5:=zh hO5.sl
  clear hO5 he5 e3
  refine (tagged_any 81 A5 _ c5 _ _ HS5.out (by omega)).mono ?_
  rintro e w6 ⟨rfl,he6⟩
  have hb:=HB2.out.ext (HX5.out.trans he6)
  have hst:=run_storeN hb (tagU 81 (nmb N ++ [toB (j:Int)]))
  go_wp2_with fail
  exact bodyPost_ret (v:=.agg (nmc (tagU 81 (nmb N ++ [toB (j:Int)])))) (retN rfl _ _ (w.heap.size+1) _ rfl (blkN hb _)) rfl ⟨by rw [HN.out],Below.setCells' (HE.out.trans (HX5.out.trans he6)) (by omega) _ _⟩
 have HN:=zh (show lockNm ac sq L op=0 by unfold lockNm;rw [if_neg hall])
 cases hv:vTx ac sq L with
 | false =>
  rw [hv] at HV
  have HV:=zh (show Calls Tryz.prog 44 #[.agg (txA ac sq A n c)] _ (fun e w'=>e=.returned (.int .i64 1)∧Ext _ w') from HV.out)
  clear hS hE hv hall
  go_enter Tryz.func84,Tryz.ntmps84
  go_wp2_with fail
  refine HV.out.mono ?_
  rintro e w1 ⟨rfl,he1⟩
  have hb:=HB2.out.ext he1
  have ht:=thereZ hb
  go_wp2_with (with_reducible refine wpList_storeN rfl (.tmp 4) (.tmp 29) rfl (w.heap.size+1) 0 0 rfl rfl ht ?_)
  exact bodyPost_ret (v:=.agg (nmc 0)) (retN rfl _ _ (w.heap.size+1) 0 rfl (by first | exact blkN hb 0 | exact blk_zero hb)) rfl ⟨by rw [HN.out],Below.setCells' (HE.out.trans he1) (by omega) _ _⟩
 | true =>
  rw [hv] at HV
  have HV:=zh (show Calls Tryz.prog 44 #[.agg (txA ac sq A n c)] _ (fun e w'=>e=.returned (.int .i64 0)∧Ext _ w') from HV.out)
  have hc:op < 0 ∨ (decide (op < 0)=false∧(n:Int)≤op) ∨ (∃ j:Nat,op=(j:Int)∧j < n∧(nthO L j).k ≠ 2):=by
   by_cases h0:op < 0
   ·exact .inl h0
   by_cases h1:(n:Int)≤op
   ·exact .inr (.inl ⟨decide_eq_false h0,h1⟩)
   refine .inr (.inr ⟨op.toNat,by omega,by omega,fun h2=>hall ⟨hv,by omega,by rw [hlen];omega,h2⟩⟩)
  clear hall hv hE
  rcases hc with h0 | ⟨d1,h1⟩ | ⟨j,rfl,hj,h2⟩
  ·clear hS
   go_enter Tryz.func84,Tryz.ntmps84
   go_wp2_with fail
   refine HV.out.mono ?_
   rintro e w1 ⟨rfl,he1⟩
   have hb:=HB2.out.ext he1
   have ht:=thereZ hb
   go_wp2_with (with_reducible refine wpList_storeN rfl (.tmp 4) (.tmp 29) rfl (w.heap.size+1) 0 0 rfl rfl ht ?_)
   exact bodyPost_ret (v:=.agg (nmc 0)) (retN rfl _ _ (w.heap.size+1) 0 rfl (by first | exact blkN hb 0 | exact blk_zero hb)) rfl ⟨by rw [HN.out],Below.setCells' (HE.out.trans he1) (by omega) _ _⟩
  ·clear hS
   go_enter Tryz.func84,Tryz.ntmps84
   go_wp2_with fail
   refine HV.out.mono ?_
   rintro e w1 ⟨rfl,he1⟩
   obtain ⟨q0,q1,q2⟩:=tx_facts (HB1.out.ext he1)
   have hb:=HB2.out.ext he1
   have ht:=thereZ hb
   go_wp2_with (with_reducible refine wpList_storeN rfl (.tmp 4) (.tmp 29) rfl (w.heap.size+1) 0 0 rfl rfl ht ?_)
   exact bodyPost_ret (v:=.agg (nmc 0)) (retN rfl _ _ (w.heap.size+1) 0 rfl (by first | exact blkN hb 0 | exact blk_zero hb)) rfl ⟨by rw [HN.out],Below.setCells' (HE.out.trans he1) (by omega) _ _⟩
  obtain ⟨b,o,rfl,hr0,hb0⟩:=HS.out.at (by omega)
  have d1:decide ((j:Int) < 0)=false:=decide_eq_false (by omega)
  have d2:decide ((n:Int)≤(j:Int))=false:=decide_eq_false (by omega)
  have d3:(j:Int) < (n:Int):=by omega
  have j0:(0:Int)≤(j:Int):=by omega
  have HR:=zh (fun (W:World) (h:Ext ((w.alloc (.cells (txA ac sq (some ⟨b,o,none⟩) n c) 24)).alloc (.cells zcs.toArray 30)) W)=>show W.cell? ⟨b,o+j * 23,none⟩=some (.int .i64 (nthO L j).k) from op_at (rangeAt_keep hr0 (h.block b hb0)) (k:=j) (by rw [hlen];omega) 0 _ rfl)
  obtain ⟨x,hx⟩:∃ x,(nthO L j).k=x:=⟨_,rfl⟩
  rw [hx] at HR h2
  have y1:(x != 2)=true:=by simp;omega
  have y2:(x == 2)=false:=by simp;omega
  have y3:decide (x=2)=false:=by simp;omega
  clear hS hr0 hb0 hx h2 hj hlen
  go_enter Tryz.func84,Tryz.ntmps84
  go_wp2_with fail
  refine HV.out.mono ?_
  rintro e w1 ⟨rfl,he1⟩
  obtain ⟨q0,q1,q2⟩:=tx_facts (HB1.out.ext he1)
  have q3:=HR.out _ he1
  have hb:=HB2.out.ext he1
  have ht:=thereZ hb
  go_wp2_with (with_reducible refine wpList_storeN rfl (.tmp 4) (.tmp 29) rfl (w.heap.size+1) 0 0 rfl rfl ht ?_)
  exact bodyPost_ret (v:=.agg (nmc 0)) (retN rfl _ _ (w.heap.size+1) 0 rfl (by first | exact blkN hb 0 | exact blk_zero hb)) rfl ⟨by rw [HN.out],Below.setCells' (HE.out.trans he1) (by omega) _ _⟩
def zeroV:VtR:=⟨0,0,0,0,0,0,0,0⟩
abbrev vtZ (k sl ro ch si su:Int):Array Value:=#[.int .i64 k,.int .i64 sl,.int .i64 ro,.int .i64 ch,.int .i64 si,.int .i64 su,.int .u8 0,.int .u8 0,.int .u8 0,.int .u8 0,.int .u8 0,.int .u8 0,.int .u8 0,.int .u8 0,.int .u8 0,.int .u8 0,.int .u8 0,.int .u8 0,.int .u8 0,.int .u8 0,.int .u8 0,.int .u8 0]
theorem vtZ_eq (k sl ro ch si su:Int):vtZ k sl ro ch si su=vtA ⟨k,sl,ro,ch,si,su,0,0⟩:=by
 unfold vtA;simp only [nb8_nil 0 (by omega),nb8_nil 1 (by omega),nb8_nil 2 (by omega),nb8_nil 3 (by omega),nb8_nil 4 (by omega),nb8_nil 5 (by omega),nb8_nil 6 (by omega),nb8_nil 7 (by omega)]
theorem vtZ_all (k sl ro ch si su:Int):(vtZ k sl ro ch si su).all (·.oneCell')=true:=by rw [vtZ_eq];exact vtA_all _
theorem vt_splice6 (k sl ro ch si su:Int) (n:UInt64):splice (vtA ⟨k,sl,ro,ch,si,su,0,0⟩).toList 6 (bcs (nmb n))=(vtA ⟨k,sl,ro,ch,si,su,n,0⟩).toList:=by
 have e:bcs (nmb n)=(nmc n).toList:=by unfold nmc;rfl
 rw [e,← nmc_nb8 n];rfl
theorem vt_splice14 (k sl ro ch si su:Int) (p n:UInt64):splice (vtA ⟨k,sl,ro,ch,si,su,p,0⟩).toList 14 (bcs (nmb n))=(vtA ⟨k,sl,ro,ch,si,su,p,n⟩).toList:=by
 have e:bcs (nmb n)=(nmc n).toList:=by unfold nmc;rfl
 rw [e,← nmc_nb8 n];rfl
section
variable {o:Oper} {a:Act} {w:World} {ops:Array Oper} {rest:List Oper} {Q:Exit→Act→World→Prop}
theorem wpList_storeVt (hgd:o.guard=none) (x y:Operand) (ho:o.op=.store 134 x y) (g:Nat) (S:VtR) (hx:a.eval x=.pointer (some ⟨g,0,none⟩)) (hy:a.eval y=.agg (vtA S)) (ht:w.there g 0 22)
  (h:wpList Tryz.prog ops Q rest (a.put o.dst undef) (w.setCells g 0 (vtA S).toList)):wpList Tryz.prog ops Q (o :: rest) a w :=
 wpList_store_mid hgd 134 x y ho g 0 (vtA S) hx hy ht (by kernel_rfl) (vtA_all S) h
theorem wpList_storeVz (hgd:o.guard=none) (x y:Operand) (ho:o.op=.store 134 x y) (g:Nat) (hx:a.eval x=.pointer (some ⟨g,0,none⟩)) (hy:a.eval y=.agg (vtZ 0 0 0 0 0 0)) (ht:w.there g 0 22)
  (h:wpList Tryz.prog ops Q rest (a.put o.dst undef) (w.setCells g 0 (vtA zeroV).toList)):wpList Tryz.prog ops Q (o :: rest) a w:=by
 refine wpList_storeVt hgd x y ho g zeroV hx (by rw [hy,vtZ_eq];rfl) ht h
end
theorem byt_at {w:World} {b o:Nat} {l:List UInt8} (h:w.rangeAt b o (bcs l)) {i:Nat} (hi:i < l.length):w.cell? ⟨b,o+i,none⟩=some (.int .u8 ((byt l i).toNat:Int)):=by
 refine h i _ ?_
 unfold bcs byt
 rw [List.getElem?_map,List.getD_eq_getElem?_getD,List.getElem?_eq_getElem hi]
 rfl
abbrev b5 (W:World) (b o:Nat) (l:List UInt8):Prop:=W.cell? ⟨b,o,none⟩=some (.int .u8 ((byt l 0).toNat:Int))∧W.cell? ⟨b,o+1,none⟩=some (.int .u8 ((byt l 1).toNat:Int))∧W.cell? ⟨b,o+2,none⟩=some (.int .u8 ((byt l 2).toNat:Int))∧W.cell? ⟨b,o+3,none⟩=some (.int .u8 ((byt l 3).toNat:Int))∧W.cell? ⟨b,o+4,none⟩=some (.int .u8 ((byt l 4).toNat:Int))
theorem b5_of {w:World} {b o:Nat} {l:List UInt8} (h:w.rangeAt b o (bcs l)) (hl:l.length=23):b5 w b o l:=⟨byt_at h (i:=0) (by omega),byt_at h (i:=1) (by omega),byt_at h (i:=2) (by omega),byt_at h (i:=3) (by omega),byt_at h (i:=4) (by omega)⟩
def vdV (l:List UInt8):VtR:=if vldVt (decVt l)=true then decVt l else zeroV
def vdC (l:List UInt8):Int:=if vldVt (decVt l)=true then 0 else 11
theorem voteDec_yes (A:Option Addr) (c:Nat) (l:List UInt8) (w:World) (hS:SlB w A 23 c l):Calls Tryz.prog 242 #[.slice A 23 c] w fun e w'=>e=.returned (.tuple #[.agg (vtA (vdV l)),.int .i64 (vdC l)])∧Ext w w':=by
 have hl:=hS.len
 have hcap:=hS.cap
 have hle:=hS.le
 obtain ⟨b,o,rfl,hr,hb⟩:=hS.at (by omega)
 have HE:=zh ((Ext.refl w).alloc' (.cells (vtZ 0 0 0 0 0 0) 134))
 have HB:=zh (Blk.new w 134 (vtZ 0 0 0 0 0 0))
 have HS:=zh (hS.ext HE.out)
 have HR:=zh (fun (W:World) (h:Ext w W)=>rangeAt_keep hr (h.block b hb))
 have HU:=zh (fun (W:World) (h:SlB W (some ⟨b,o,none⟩) 23 c l)=>uint_yes _ 23 c l 5 2 W h (by omega) (by omega) (by omega))
 have HL:=zh hl
 have hwr:IntKind.i64.wrap ((numAt l 5 2:Nat):Int)=((numAt l 5 2:Nat):Int):=by
  have h1:=beNat_lt ((l.drop 5).take 2)
  have h2:((l.drop 5).take 2).length≤2:=List.length_take_le _ _
  have h3:256 ^ ((l.drop 5).take 2).length≤256 ^ 2:=Nat.pow_le_pow_right (by omega) h2
  have h4:numAt l 5 2=beNat ((l.drop 5).take 2):=rfl
  rw [IntKind.wrap_i64];omega
 have hck:¬ c=7:=by omega
 have hck2:¬ c=15:=by omega
 clear hS hr hl
 go_enter Tryz.func242,Tryz.ntmps242
 go_wp2_with fail
 refine (HU.out _ HS.out).mono ?_
 rintro e w1 ⟨rfl,rfl⟩
 obtain ⟨W1,hW1⟩:∃ W1,w.alloc (.cells (vtZ 0 0 0 0 0 0) 134)=W1:=⟨_,rfl⟩
 rw [hW1] at HE HB HS
 have HSS:=zh (fun (W:World) (h:Ext W1 W)=>b5_of (HR.out W (HE.out.trans h)) HL.out)
 have i0:(0:Int) < 23:=by omega
 go_wp2_with fail
 refine wp_region_held_drew (S:=fun W=>Ext W1 W) (by kernel_rfl) ((Ext.refl W1).drew') (fun jj=>?_)
 refine zz0 [0,1,2,3,4,5,6,7,8,9,10,11,12,13,14,15,16,17,18,19,20,21,22] ?_;repeat first | refine zz1 ?_ (hy:=by intro W jS;obtain ⟨s0,s1,s2,s3,s4⟩:=HSS.out W jS;go_simp <;> with_reducible rfl) | refine zz2 ?_ | refine zz9 ?_
 refine wpAnyH_ready (rs:=[23]) (by kernel_rfl) (by simp) ?_
 refine AllReadyH.cons (o:=⟨some 6,.alloc 134,0,"vote.go:60",#[],none⟩) rfl (fun K hK=>?_) AllReadyH.nil
 refine Eq.mpr (if_pos (by rfl)) ?_
 go_simp
 refine hK.out _ _ (by first | exact (Ext.refl W1).drew'.alloc' _ | exact ((Ext.refl W1).alloc' _).drew') (fun jj=>?_)
 clear hK K
 try simp only [lays]
 refine wpAnyH_ready (rs:=[24]) (by kernel_rfl) (by simp) ?_
 refine AllReadyH.cons (o:=⟨none,.store 134 (.tmp 6) (.tmp 44),0,"vote.go:60",#[⟨23,.data⟩,⟨22,.data⟩,⟨0,.phase⟩,⟨1,.phase⟩,⟨2,.phase⟩,⟨3,.phase⟩,⟨4,.phase⟩,⟨5,.phase⟩,⟨6,.phase⟩,⟨7,.phase⟩,⟨8,.phase⟩,⟨9,.phase⟩,⟨10,.phase⟩,⟨11,.phase⟩,⟨12,.phase⟩,⟨13,.phase⟩,⟨14,.phase⟩,⟨15,.phase⟩,⟨16,.phase⟩,⟨17,.phase⟩,⟨18,.phase⟩,⟨19,.phase⟩,⟨20,.phase⟩,⟨21,.phase⟩,⟨22,.phase⟩,⟨23,.phase⟩],none⟩) rfl (fun K hK=>?_) AllReadyH.nil
 refine Eq.mpr (if_pos (by rfl)) ?_
 refine wp_store_mid 134 (.tmp 6) (.tmp 44) rfl W1.heap.size 0 (vtZ ((byt l 0).toNat:Int) ((byt l 1).toNat:Int) ((byt l 2).toNat:Int) ((byt l 3).toNat:Int) ((byt l 4).toNat:Int) ((numAt l 5 2:Nat):Int)) rfl ?hy (show ((W1.alloc (.cells (vtZ 0 0 0 0 0 0) 134)).drew).there W1.heap.size 0 22 from tB (Blk.drew (Blk.new W1 134 (vtZ 0 0 0 0 0 0)))) (by kernel_rfl) (vtZ_all _ _ _ _ _ _) ?_
 case hy=>rfl
 refine hK.out _ _ (Below.setCells' (((Ext.refl W1).alloc' (.cells (vtZ 0 0 0 0 0 0) 134)).drew') (Nat.le_refl _) _ _) (fun jj=>?_)
 clear hK K
 try simp only [lays]
 refine wpAnyH_done (by kernel_rfl) ?_ _
 have HE2:=zh (show Ext W1 (((W1.alloc (.cells (vtZ 0 0 0 0 0 0) 134)).drew).setCells W1.heap.size 0 (vtZ ((byt l 0).toNat:Int) ((byt l 1).toNat:Int) ((byt l 2).toNat:Int) ((byt l 3).toNat:Int) ((byt l 4).toNat:Int) ((numAt l 5 2:Nat):Int)).toList) from Below.setCells' (((Ext.refl W1).alloc' (.cells (vtZ 0 0 0 0 0 0) 134)).drew') (Nat.le_refl _) _ _)
 have HB2:=zh (show Blk (((W1.alloc (.cells (vtZ 0 0 0 0 0 0) 134)).drew).setCells W1.heap.size 0 (vtZ ((byt l 0).toNat:Int) ((byt l 1).toNat:Int) ((byt l 2).toNat:Int) ((byt l 3).toNat:Int) ((byt l 4).toNat:Int) ((numAt l 5 2:Nat):Int)).toList) W1.heap.size 134 (vtZ ((byt l 0).toNat:Int) ((byt l 1).toNat:Int) ((byt l 2).toNat:Int) ((byt l 3).toNat:Int) ((byt l 4).toNat:Int) ((numAt l 5 2:Nat):Int)) from bW (Blk.drew (Blk.new W1 134 (vtZ 0 0 0 0 0 0))) rfl)
 generalize (((W1.alloc (.cells (vtZ 0 0 0 0 0 0) 134)).drew).setCells W1.heap.size 0 (vtZ ((byt l 0).toNat:Int) ((byt l 1).toNat:Int) ((byt l 2).toNat:Int) ((byt l 3).toNat:Int) ((byt l 4).toNat:Int) ((numAt l 5 2:Nat):Int)).toList)=W2 at HE2 HB2 ⊢
 rw [vtZ_eq] at HB2
 have HSRC:=zh (fun (W:World) (hW:Below W1.heap.size W1 W) (k m:Nat)=>show ∀ j v,(bcs ((l.drop k).take m))[j]?=some v→W.cell? ((⟨b,o+k,none⟩:Addr).add j)=some v from by
  intro j v hv
  have hy:=rT (k:=m) (rangeAt_drop (k:=k) (HR.out W (HE.out.trans hW)))
  rw [Addr.add_mid]
  refine hy j v ?_
  rw [← hv]
  simp [bcs])
 obtain ⟨n1,hn1⟩:∃ n1,ofNm ((l.drop 7).take 8)=n1:=⟨_,rfl⟩
 obtain ⟨n2,hn2⟩:∃ n2,ofNm ((l.drop 15).take 8)=n2:=⟨_,rfl⟩
 have N1:=zh (show bcs ((l.drop 7).take 8)=bcs (nmb n1) by rw [← hn1,nmb_ofNm _ (by rw [List.length_take,List.length_drop,HL.out];omega)])
 have N2:=zh (show bcs ((l.drop 15).take 8)=bcs (nmb n2) by rw [← hn2,nmb_ofNm _ (by rw [List.length_take,List.length_drop,HL.out];omega)])
 have HD:=zh (show decVt l=⟨((byt l 0).toNat:Int),((byt l 1).toNat:Int),((byt l 2).toNat:Int),((byt l 3).toNat:Int),((byt l 4).toNat:Int),((numAt l 5 2:Nat):Int),n1,n2⟩ by unfold decVt;rw [hn1,hn2])
 clear hn1 hn2 HSS
 have HL8:=zh (fun (n:UInt64)=>show (bcs (nmb n)).length=8 by rw [bL,nL])
 go_wp2_with fail
 have HZ:=zh (show Below W1.heap.size W1 W2.drew from HE2.out.drew')
 refine wp_region_held_drew (S:=fun W=>Below W1.heap.size W1 W) (by kernel_rfl) (HE2.out.drew') (fun jj=>?_)
 refine zzr [0,1,2,3] ?_
 refine wpAnyH_ready (rs:=[4]) (by kernel_rfl) (by simp) ?_
 refine AllReadyH.cons (o:=⟨some 49,.call { callee:=.builtin .copy,args:=#[.tmp 46,.tmp 48],argTypes:=#[45,45] },3,"vote.go:61",#[⟨1,.data⟩,⟨3,.data⟩],none⟩) rfl (fun K hK=>?_) AllReadyH.nil
 refine step_copy_splice rfl (.tmp 46) (.tmp 48) 45 45 rfl 5 Tryz.underlying45 (by kernel_rfl) (some ⟨W1.heap.size,6,none⟩) (some ⟨b,o+7,none⟩) 8 8 16 (c - 7) rfl rfl W1.heap.size 6 _ 134 HB2.out.drew (bcs (nmb n1)) (HL8.out _) (fun _=>⟨rfl,_,rfl,by rw [← N1.out];exact HSRC.out _ HZ.out _ _⟩) (by rw [HL8.out];exact Nat.le_of_ble_eq_true rfl) (bcs_one _) W1.heap.size W1 HZ.out (Nat.le_refl _) ?_
 intro w1 hb1 he1
 refine hK.out _ _ (he1) (fun jj=>?_)
 clear hK K
 try simp only [lays]
 refine wpAnyH_done (by kernel_rfl) ?_ _
 have HB3:=zh (show Blk w1 W1.heap.size 134 (vtA ⟨_,_,_,_,_,_,n1,0⟩) from by have:=hb1.out;rwa [vt_splice6] at this)
 have HE3:=zh he1
 clear hb1 he1 HB2 HE2 HZ
 go_wp2_with fail
 have HZ:=zh (show Below W1.heap.size W1 w1.drew from HE3.out.drew)
 refine wp_region_held_drew (S:=fun W=>Below W1.heap.size W1 W) (by kernel_rfl) (HE3.out.drew) (fun jj=>?_)
 refine zzr [0,1,2,3] ?_
 refine wpAnyH_ready (rs:=[4]) (by kernel_rfl) (by simp) ?_
 refine AllReadyH.cons (o:=⟨some 54,.call { callee:=.builtin .copy,args:=#[.tmp 51,.tmp 53],argTypes:=#[45,45] },3,"vote.go:62",#[⟨1,.data⟩,⟨3,.data⟩],none⟩) rfl (fun K hK=>?_) AllReadyH.nil
 refine step_copy_splice rfl (.tmp 51) (.tmp 53) 45 45 rfl 5 Tryz.underlying45 (by kernel_rfl) (some ⟨W1.heap.size,14,none⟩) (some ⟨b,o+15,none⟩) 8 8 8 (c - 15) rfl rfl W1.heap.size 14 _ 134 HB3.out.drew (bcs (nmb n2)) (HL8.out _) (fun _=>⟨rfl,_,rfl,by rw [← N2.out];exact HSRC.out _ HZ.out _ _⟩) (by rw [HL8.out];exact Nat.le_of_ble_eq_true rfl) (bcs_one _) W1.heap.size W1 HZ.out (Nat.le_refl _) ?_
 intro w4 hb1 he1
 refine hK.out _ _ (he1) (fun jj=>?_)
 clear hK K
 try simp only [lays]
 refine wpAnyH_done (by kernel_rfl) ?_ _
 have HB4:=zh (show Blk w4 W1.heap.size 134 (vtA (decVt l)) from by have:=hb1.out;rw [vt_splice14] at this;rw [HD.out];exact this)
 have HE4:=zh he1
 clear hb1 he1 HB3 HE3 HZ
 have hr4:w4.rangeAt W1.heap.size 0 (vtL (decVt l)):=rB HB4.out
 have HE0:=zh (Below.trans HE.out (Below.mono HE4.out HE.out.size):Ext w w4)
 have hlt:w.heap.size < W1.heap.size:=by rw [← hW1];simp
 have HB0:=zh (show Blk w4 w.heap.size 134 (vtZ 0 0 0 0 0 0) from HB.out.below HE4.out hlt)
 clear HB
 go_wp2_with (first | (with_reducible refine wpList_loadVt rfl (.tmp 6) rfl W1.heap.size 0 rfl (decVt l) hr4 ?_))
 refine (voteValid_any (decVt l) w4).mono ?_
 rintro e w5 ⟨rfl,he5⟩
 have HX:=zh (Ext.trans HE0.out he5)
 have HB5:=zh (HB0.out.ext he5)
 have hr5:w5.rangeAt W1.heap.size 0 (vtL (decVt l)):=rB (HB4.out.ext he5)
 have ht:w5.there w.heap.size 0 22:=tB HB5.out
 clear he5 hr4
 cases hv:vldVt (decVt l) with
 | false =>
  have HC:=zh (show vdV l=zeroV∧vdC l=11 from by unfold vdV vdC;rw [hv];exact ⟨rfl,rfl⟩)
  have hst:=bW (ds:=vtA zeroV) HB5.out rfl
  clear hv
  go_wp2_with (first | (with_reducible refine wpList_storeVz rfl (.tmp 2) (.tmp 58) rfl w.heap.size rfl rfl ht ?_))
  rw [HC.out.1,HC.out.2]
  exact bodyPost_ret (v:=.tuple #[.agg (vtA zeroV),.int .i64 11]) (retCV rfl _ _ w.heap.size _ _ rfl rfl (run_loadVar_row _ _ _ _ _ (0,0) _ hst Tryz.underlying134 rfl (by kernel_rfl))) rfl ⟨rfl,Below.setCells' HX.out (Nat.le_refl _) _ _⟩
 | true =>
  have HC:=zh (show vdV l=decVt l∧vdC l=0 from by unfold vdV vdC;rw [hv];exact ⟨rfl,rfl⟩)
  have hst:=bW (ds:=vtA (decVt l)) HB5.out rfl
  clear hv
  go_wp2_with (first | (with_reducible refine wpList_loadVt rfl (.tmp 6) rfl W1.heap.size 0 rfl (decVt l) hr5 ?_) | (with_reducible refine wpList_storeVt rfl (.tmp 2) (.tmp 59) rfl w.heap.size (decVt l) rfl rfl ht ?_))
  rw [HC.out.1,HC.out.2]
  exact bodyPost_ret (v:=.tuple #[.agg (vtA (decVt l)),.int .i64 0]) (retCV rfl _ _ w.heap.size _ _ rfl rfl (run_loadVar_row _ _ _ _ _ (0,0) _ hst Tryz.underlying134 rfl (by kernel_rfl))) rfl ⟨rfl,Below.setCells' HX.out (Nat.le_refl _) _ _⟩
end
end Go.Proofs.YtohmmcahpakokaaGreat
