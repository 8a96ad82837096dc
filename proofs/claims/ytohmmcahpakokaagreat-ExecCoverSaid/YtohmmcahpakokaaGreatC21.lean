/- EqualFunc over equalOp, Equal (the program's); large, code (the law's). -/
import Derived.Lib.Overlaps
import Derived.Lib.AppendZerosOnto
import Derived.Lib.SliceRun
import Derived.Test.YtohmmcahpakokaaGreatC19
import Derived.Test.YtohmmcahpakokaaGreatC20
set_option maxRecDepth 100000
set_option maxHeartbeats 8000000
set_option linter.unusedVariables false
set_option linter.unusedSimpArgs false
namespace Go.Proofs.YtohmmcahpakokaaGreat
open Go.RowKit
attribute [local go_sem ↓] Go.wp_at_zero Go.wp_at_succ
end Go.Proofs.YtohmmcahpakokaaGreat
namespace Go.Proofs.YtohmmcahpakokaaGreat
open Go.RowKit
attribute [local go_sem ↓] Go.wp_at_zero Go.wp_at_succ
def txNm (ac sq:Int) (L:List OpR):UInt64:=if vTx ac sq L=true then tagU 80 (encTx ac sq L) else 0
theorem txName_any (ac sq:Int) (A:Option Addr) (n c:Nat) (L:List OpR) (w:World) (hS:SlO w A n c L) :
  Calls Tryz.prog 56 #[.agg (txA ac sq A n c)] w fun e w'=>e=.returned (.agg (nmc (txNm ac sq L)))∧Ext w w':=by
 have hE:=((Ext.refl w).alloc' (.cells (txA ac sq A n c) 24)).alloc' (.cells zcs.toArray 30)
 have HB1:=zh ((Blk.new w 24 (txA ac sq A n c)).alloc (.cells zcs.toArray 30))
 have HB2:=zh (show Blk ((w.alloc (.cells (txA ac sq A n c) 24)).alloc (.cells zcs.toArray 30)) (w.heap.size+1) 30 zcs.toArray from Blk.newAt _ _ _ _ (by simp))
 have HE:=zh hE
 have HS:=zh (hS.ext hE)
 have HV:=zh (validate_any ac sq A n c L _ HS.out)
 cases hv:vTx ac sq L with
 | false =>
  have HN:=zh (show txNm ac sq L=0 by unfold txNm;rw [if_neg (by rw [hv];decide)])
  rw [hv] at HV
  have HV:=zh (show Calls Tryz.prog 44 #[.agg (txA ac sq A n c)] _ (fun e w'=>e=.returned (.int .i64 1)∧Ext _ w') from HV.out)
  clear hS hE hv
  go_enter Tryz.func56,Tryz.ntmps56
  go_wp2_with fail
  refine HV.out.mono ?_
  rintro e w1 ⟨rfl,he1⟩
  have hb:=HB2.out.ext he1
  have hst:=run_storeN hb 0
  rw [show (nmc 0).toList=zcs from by rw [← zcs_nmc]] at hst
  have ht:=thereZ hb
  go_wp2_with (with_reducible refine wpList_storeN rfl (.tmp 2) (.tmp 6) rfl (w.heap.size+1) 0 0 rfl rfl ht ?_)
  exact bodyPost_ret (v:=.agg (nmc 0)) (retN rfl _ _ (w.heap.size+1) 0 rfl (by first | exact blkN hb 0 | exact blk_zero hb)) rfl ⟨by rw [HN.out],Below.setCells' (HE.out.trans he1) (by omega) _ _⟩
 | true =>
  have HN:=zh (show txNm ac sq L=tagU 80 (encTx ac sq L) by unfold txNm;rw [if_pos hv])
  have HEN:=zh (fun (W:World) (h:Ext ((w.alloc (.cells (txA ac sq A n c) 24)).alloc (.cells zcs.toArray 30)) W)=>encode_any ac sq A n c L W (HS.out.ext h) hv)
  rw [hv] at HV
  have HV:=zh (show Calls Tryz.prog 44 #[.agg (txA ac sq A n c)] _ (fun e w'=>e=.returned (.int .i64 0)∧Ext _ w') from HV.out)
  clear hS hE hv
  go_enter Tryz.func56,Tryz.ntmps56
  go_wp2_with fail
  refine HV.out.mono ?_
  rintro e w1 ⟨rfl,he1⟩
  have HX1:=zh he1
  obtain ⟨q0,q1,q2⟩:=tx_facts (HB1.out.ext he1)
  clear he1
  go_wp2_with fail
  refine (HEN.out _ HX1.out).mono ?_
  rintro e w2 ⟨A2,n2,c2,rfl,hO2,hn2,he2⟩
  have HX2:=zh (HX1.out.trans he2)
  have HS2:=zh hO2.sl
  clear hO2 he2 q0 q1 q2
  go_wp2_with fail
  refine (tagged_any 80 A2 n2 c2 _ _ HS2.out (by omega)).mono ?_
  rintro e w3 ⟨rfl,he3⟩
  have hb:=HB2.out.ext (HX2.out.trans he3)
  have hst:=run_storeN hb (tagU 80 (encTx ac sq L))
  go_wp2_with fail
  exact bodyPost_ret (v:=.agg (nmc (tagU 80 (encTx ac sq L)))) (retN rfl _ _ (w.heap.size+1) _ rfl (blkN hb _)) rfl ⟨by rw [HN.out],Below.setCells' (HE.out.trans (HX2.out.trans he3)) (by omega) _ _⟩
end Go.Proofs.YtohmmcahpakokaaGreat
namespace Go.Proofs.YtohmmcahpakokaaGreat
open Go.RowKit
attribute [local go_sem ↓] Go.wp_at_zero Go.wp_at_succ
theorem refTxName_any (ac sq:Int) (A:Option Addr) (n c:Nat) (L:List OpR) (w:World) (hS:SlO w A n c L) :
  Calls Tryz.prog 35 #[.agg (txA ac sq A n c)] w fun e w'=>e=.returned (.agg (nmc (txNm ac sq L)))∧Ext w w':=by
 have hE:=((Ext.refl w).alloc' (.cells (txA ac sq A n c) 24)).alloc' (.cells zcs.toArray 30)
 have HB1:=zh ((Blk.new w 24 (txA ac sq A n c)).alloc (.cells zcs.toArray 30))
 have HB2:=zh (show Blk ((w.alloc (.cells (txA ac sq A n c) 24)).alloc (.cells zcs.toArray 30)) (w.heap.size+1) 30 zcs.toArray from Blk.newAt _ _ _ _ (by simp))
 have HE:=zh hE
 have HS:=zh (hS.ext hE)
 have HV:=zh (refValidTx_any ac sq A n c L _ HS.out)
 cases hv:vTx ac sq L with
 | false =>
  have HN:=zh (show txNm ac sq L=0 by unfold txNm;rw [if_neg (by rw [hv];decide)])
  rw [hv] at HV
  have HV:=zh (show Calls Tryz.prog 46 #[.agg (txA ac sq A n c)] _ (fun e w'=>e=.returned (.bool false)∧Ext _ w') from HV.out)
  clear hS hE hv
  go_enter Tryz.func35,Tryz.ntmps35
  go_wp2_with fail
  refine HV.out.mono ?_
  rintro e w1 ⟨rfl,he1⟩
  have hb:=HB2.out.ext he1
  have hst:=run_storeN hb 0
  rw [show (nmc 0).toList=zcs from by rw [← zcs_nmc]] at hst
  have ht:=thereZ hb
  go_wp2_with (with_reducible refine wpList_storeN rfl (.tmp 2) (.tmp 6) rfl (w.heap.size+1) 0 0 rfl rfl ht ?_)
  exact bodyPost_ret (v:=.agg (nmc 0)) (retN rfl _ _ (w.heap.size+1) 0 rfl (by first | exact blkN hb 0 | exact blk_zero hb)) rfl ⟨by rw [HN.out],Below.setCells' (HE.out.trans he1) (by omega) _ _⟩
 | true =>
  have HN:=zh (show txNm ac sq L=tagU 80 (encTx ac sq L) by unfold txNm;rw [if_pos hv])
  have HEN:=zh (fun (W:World) (h:Ext ((w.alloc (.cells (txA ac sq A n c) 24)).alloc (.cells zcs.toArray 30)) W)=>refTxBytes_any ac sq A n c L W (HS.out.ext h) hv)
  rw [hv] at HV
  have HV:=zh (show Calls Tryz.prog 46 #[.agg (txA ac sq A n c)] _ (fun e w'=>e=.returned (.bool true)∧Ext _ w') from HV.out)
  clear hS hE hv
  go_enter Tryz.func35,Tryz.ntmps35
  go_wp2_with fail
  refine HV.out.mono ?_
  rintro e w1 ⟨rfl,he1⟩
  have HX1:=zh he1
  obtain ⟨q0,q1,q2⟩:=tx_facts (HB1.out.ext he1)
  clear he1
  go_wp2_with fail
  refine (HEN.out _ HX1.out).mono ?_
  rintro e w2 ⟨A2,n2,c2,rfl,hO2,hn2,he2⟩
  have HX2:=zh (HX1.out.trans he2)
  have HS2:=zh hO2
  clear hO2 he2 q0 q1 q2
  go_wp2_with fail
  refine (refTagged_any 80 A2 n2 c2 _ _ HS2.out (by omega)).mono ?_
  rintro e w3 ⟨rfl,he3⟩
  have hb:=HB2.out.ext (HX2.out.trans he3)
  have hst:=run_storeN hb (tagU 80 (encTx ac sq L))
  go_wp2_with fail
  exact bodyPost_ret (v:=.agg (nmc (tagU 80 (encTx ac sq L)))) (retN rfl _ _ (w.heap.size+1) _ rfl (blkN hb _)) rfl ⟨by rw [HN.out],Below.setCells' (HE.out.trans (HX2.out.trans he3)) (by omega) _ _⟩
def lockNm (ac sq:Int) (L:List OpR) (op:Int):UInt64:=if vTx ac sq L=true∧0≤op∧op < (L.length:Int)∧(nthO L op.toNat).k=2 then tagU 81 (nmb (txNm ac sq L) ++ [toB op]) else 0
theorem lockName_any (ac sq:Int) (A:Option Addr) (n c:Nat) (L:List OpR) (op:Int) (w:World) (hS:SlO w A n c L) :
  Calls Tryz.prog 84 #[.agg (txA ac sq A n c),.int .i64 op] w fun e w'=>e=.returned (.agg (nmc (lockNm ac sq L op)))∧Ext w w':=by
 have hle:=hS.le
 have hcap:=hS.cap
 have hlen:=hS.len
 have hE:=((Ext.refl w).alloc' (.cells (txA ac sq A n c) 24)).alloc' (.cells zcs.toArray 30)
 have HB1:=zh ((Blk.new w 24 (txA ac sq A n c)).alloc (.cells zcs.toArray 30))
 have HB2:=zh (show Blk ((w.alloc (.cells (txA ac sq A n c) 24)).alloc (.cells zcs.toArray 30)) (w.heap.size+1) 30 zcs.toArray from Blk.newAt _ _ _ _ (by simp))
 have HE:=zh hE
 have HS:=zh (hS.ext hE)
 have HV:=zh (validate_any ac sq A n c L _ HS.out)
 by_cases hall:vTx ac sq L=true∧0≤op∧op < (L.length:Int)∧(nthO L op.toNat).k=2
 ·obtain ⟨hv, h0, h1, h2⟩ := hall
  have HN:=zh (show lockNm ac sq L op=tagU 81 (nmb (txNm ac sq L) ++ [toB op]) by unfold lockNm;rw [if_pos ⟨hv,h0,h1,h2⟩])
  rw [hlen] at h1
  rw [hv] at HV
  have HV:=zh (show Calls Tryz.prog 44 #[.agg (txA ac sq A n c)] _ (fun e w'=>e=.returned (.int .i64 0)∧Ext _ w') from HV.out)
  obtain ⟨b,o,rfl,hr0,hb0⟩:=HS.out.at (by omega)
  obtain ⟨j,rfl⟩:∃ j:Nat,op=(j:Int):=⟨op.toNat,by omega⟩
  rw [Int.toNat_natCast] at h2
  have HR:=zh (fun (W:World) (h:Ext ((w.alloc (.cells (txA ac sq (some ⟨b,o,none⟩) n c) 24)).alloc (.cells zcs.toArray 30)) W)=>show W.cell? ⟨b,o+j * 23,none⟩=some (.int .i64 2) from by
   have:=op_at (rangeAt_keep hr0 (h.block b hb0)) (k:=j) (by rw [hlen];omega) 0 _ rfl
   rw [h2] at this;exact this)
  have d1:decide ((j:Int) < 0)=false:=decide_eq_false (by omega)
  have d2:decide ((n:Int)≤(j:Int))=false:=decide_eq_false (by omega)
  have d3:(j:Int) < (n:Int):=by omega
  have HNM:=zh (fun (W:World) (h:Ext ((w.alloc (.cells (txA ac sq (some ⟨b,o,none⟩) n c) 24)).alloc (.cells zcs.toArray 30)) W)=>txName_any ac sq (some ⟨b,o,none⟩) n c L W (HS.out.ext h))
  clear hS hE hv h0 h1 h2 hr0 hb0 hlen
  go_enter Tryz.func84,Tryz.ntmps84
  go_wp2_with fail
  refine HV.out.mono ?_
  rintro e w1 ⟨rfl,he1⟩
  have HX1:=zh he1
  obtain ⟨q0,q1,q2⟩:=tx_facts (HB1.out.ext he1)
  have q3:=HR.out _ he1
  clear he1 HV
  go_wp2_with fail
  refine (HNM.out _ HX1.out).mono ?_
  rintro e w2 ⟨rfl,he2⟩
  obtain ⟨N,hN⟩:∃ N,txNm ac sq L=N:=⟨_,rfl⟩
  rw [hN] at HN ⊢
  have HX2:=zh (HX1.out.trans he2)
  clear he2 q0 q1 q2 q3 hN
  have e3:=((Ext.refl w2).alloc' (.cells (nmc N) 30)).alloc' (.cells #[.int .u8 ((j:Int) % 256)] 5)
  have HSA:=zh (SlB.blkN ((Blk.new w2 30 (nmc N)).alloc (.cells #[.int .u8 ((j:Int) % 256)] 5)))
  have HSB:=zh (SlB.new1 (w2.alloc (.cells (nmc N) 30)) 5 ((j:Int) % 256) (toB (j:Int)) (w2.heap.size+1) (by simp) (toB_eq _))
  go_wp2_with (first | (with_reducible refine wpList_storeNew rfl (.tmp 5) (.tmp 31) rfl w2.heap.size N rfl rfl rfl ?_) | (at_builtin;go_must (refine wpList_growB bytesE rfl (.tmp 32) (.tmp 35) rfl _ 8 8 (nmb N) rfl HSA.out (by omega) _ 1 1 [toB (j:Int)] rfl HSB.out (by omega) (by omega) (by omega) ?_;intro A5 c5 w5 hO5 he5)))
  have HX5:=zh (HX2.out.trans (e3.trans he5))
  have HS5:=zh hO5.sl
  clear hO5 he5 e3
  refine (tagged_any 81 A5 _ c5 _ _ HS5.out (by omega)).mono ?_
  rintro e w6 ⟨rfl,he6⟩
  have hb:=HB2.out.ext (HX5.out.trans he6)
  have hst:=run_storeN hb (tagU 81 (nmb N ++ [toB (j:Int)]))
  go_wp2_with fail
  exact bodyPost_ret (v:=.agg (nmc (tagU 81 (nmb N ++ [toB (j:Int)])))) (retN rfl _ _ (w.heap.size+1) _ rfl (blkN hb _)) rfl ⟨by rw [HN.out],Below.setCells' (HE.out.trans (HX5.out.trans he6)) (by omega) _ _⟩
 ·have HN := zh (show lockNm ac sq L op = 0 by unfold lockNm; rw [if_neg hall])
  cases hv:vTx ac sq L with
  | false =>
   rw [hv] at HV
   have HV:=zh (show Calls Tryz.prog 44 #[.agg (txA ac sq A n c)] _ (fun e w'=>e=.returned (.int .i64 1)∧Ext _ w') from HV.out)
   clear hS hE hv hall
   go_enter Tryz.func84,Tryz.ntmps84
   go_wp2_with fail
   refine HV.out.mono ?_
   rintro e w1 ⟨rfl,he1⟩
   have hb:=HB2.out.ext he1
   have ht:=thereZ hb
   go_wp2_with (with_reducible refine wpList_storeN rfl (.tmp 4) (.tmp 29) rfl (w.heap.size+1) 0 0 rfl rfl ht ?_)
   exact bodyPost_ret (v:=.agg (nmc 0)) (retN rfl _ _ (w.heap.size+1) 0 rfl (by first | exact blkN hb 0 | exact blk_zero hb)) rfl ⟨by rw [HN.out],Below.setCells' (HE.out.trans he1) (by omega) _ _⟩
  | true =>
   rw [hv] at HV
   have HV:=zh (show Calls Tryz.prog 44 #[.agg (txA ac sq A n c)] _ (fun e w'=>e=.returned (.int .i64 0)∧Ext _ w') from HV.out)
   have hc:op < 0 ∨ (decide (op < 0)=false∧(n:Int)≤op) ∨ (∃ j:Nat,op=(j:Int)∧j < n∧(nthO L j).k ≠ 2):=by
    by_cases h0:op < 0
    ·exact .inl h0
    ·by_cases h1 : (n : Int) ≤ op
     ·exact .inr (.inl ⟨decide_eq_false h0,h1⟩)
     ·refine .inr (.inr ⟨op.toNat,by omega,by omega,fun h2=>hall ⟨hv,by omega,by rw [hlen];omega,h2⟩⟩)
   clear hall hv hE
   rcases hc with h0 | ⟨d1,h1⟩ | ⟨j,rfl,hj,h2⟩
   ·clear hS
    go_enter Tryz.func84,Tryz.ntmps84
    go_wp2_with fail
    refine HV.out.mono ?_
    rintro e w1 ⟨rfl,he1⟩
    have hb:=HB2.out.ext he1
    have ht:=thereZ hb
    go_wp2_with (with_reducible refine wpList_storeN rfl (.tmp 4) (.tmp 29) rfl (w.heap.size+1) 0 0 rfl rfl ht ?_)
    exact bodyPost_ret (v:=.agg (nmc 0)) (retN rfl _ _ (w.heap.size+1) 0 rfl (by first | exact blkN hb 0 | exact blk_zero hb)) rfl ⟨by rw [HN.out],Below.setCells' (HE.out.trans he1) (by omega) _ _⟩
   ·clear hS
    go_enter Tryz.func84,Tryz.ntmps84
    go_wp2_with fail
    refine HV.out.mono ?_
    rintro e w1 ⟨rfl,he1⟩
    obtain ⟨q0,q1,q2⟩:=tx_facts (HB1.out.ext he1)
    have hb:=HB2.out.ext he1
    have ht:=thereZ hb
    go_wp2_with (with_reducible refine wpList_storeN rfl (.tmp 4) (.tmp 29) rfl (w.heap.size+1) 0 0 rfl rfl ht ?_)
    exact bodyPost_ret (v:=.agg (nmc 0)) (retN rfl _ _ (w.heap.size+1) 0 rfl (by first | exact blkN hb 0 | exact blk_zero hb)) rfl ⟨by rw [HN.out],Below.setCells' (HE.out.trans he1) (by omega) _ _⟩
   ·obtain ⟨b, o, rfl, hr0, hb0⟩ := HS.out.at (by omega)
    have d1:decide ((j:Int) < 0)=false:=decide_eq_false (by omega)
    have d2:decide ((n:Int)≤(j:Int))=false:=decide_eq_false (by omega)
    have d3:(j:Int) < (n:Int):=by omega
    have j0:(0:Int)≤(j:Int):=by omega
    have HR:=zh (fun (W:World) (h:Ext ((w.alloc (.cells (txA ac sq (some ⟨b,o,none⟩) n c) 24)).alloc (.cells zcs.toArray 30)) W)=>show W.cell? ⟨b,o+j * 23,none⟩=some (.int .i64 (nthO L j).k) from op_at (rangeAt_keep hr0 (h.block b hb0)) (k:=j) (by rw [hlen];omega) 0 _ rfl)
    obtain ⟨x,hx⟩:∃ x,(nthO L j).k=x:=⟨_,rfl⟩
    rw [hx] at HR h2
    have y1:(x != 2)=true:=by simp;omega
    have y2:(x == 2)=false:=by simp;omega
    have y3:decide (x=2)=false:=by simp;omega
    clear hS hr0 hb0 hx h2 hj hlen
    go_enter Tryz.func84,Tryz.ntmps84
    go_wp2_with fail
    refine HV.out.mono ?_
    rintro e w1 ⟨rfl,he1⟩
    obtain ⟨q0,q1,q2⟩:=tx_facts (HB1.out.ext he1)
    have q3:=HR.out _ he1
    have hb:=HB2.out.ext he1
    have ht:=thereZ hb
    go_wp2_with (with_reducible refine wpList_storeN rfl (.tmp 4) (.tmp 29) rfl (w.heap.size+1) 0 0 rfl rfl ht ?_)
    exact bodyPost_ret (v:=.agg (nmc 0)) (retN rfl _ _ (w.heap.size+1) 0 rfl (by first | exact blkN hb 0 | exact blk_zero hb)) rfl ⟨by rw [HN.out],Below.setCells' (HE.out.trans he1) (by omega) _ _⟩
end Go.Proofs.YtohmmcahpakokaaGreat
namespace Go.Proofs.YtohmmcahpakokaaGreat
open Go.RowKit
attribute [local go_sem ↓] Go.wp_at_zero Go.wp_at_succ
end Go.Proofs.YtohmmcahpakokaaGreat
namespace Go.Proofs.YtohmmcahpakokaaGreat
open Go.RowKit
theorem run_cpy {P:Program} {t e:TypeId} {z:Value} {size bytes:Nat} (E:Elem P t e z size bytes) (w:World) (ty:TypeId) (g o dLen dCap:Nat) (a:Addr) (sLen sCap:Nat) (cs:List Value)
  (hn:cs.length=Nat.min sLen dLen * size)
  (hsrc:∀ j v,cs[j]?=some v→w.cell? (a.add j)=some v) (hc:∀ j,j < cs.length→(w.cell? ⟨g,o+j,none⟩).isSome=true) (hf:∀ j,j < cs.length→w.frozen? ⟨g,o+j,none⟩=false) (h1:∀ v ∈ cs,v.oneCell'=true) :
  (Builtin.copy_ #[t,t] ty #[.slice (some ⟨g,o,none⟩) dLen dCap,.slice (some a) sLen sCap]).run P w=.ok (goInt (Nat.min sLen dLen)) (w.setCells g o cs):=by
 obtain ⟨i,hi,_,hs,_⟩:=E.get
 have hl:=run_loadCells_list (P:=P) w a cs hsrc
 have hst:=run_storeCells_cells (P:=P) g o cs 0 w (by simpa using hc) (by simpa using hf) h1
 simp [Builtin.copy_,run_underlying E.ut,Builtin.lenOf,Builtin.firstCells,sizeOf,typeInfo,hi,hs,← hn,hl,hst]
section
variable {P:Program} {t e:TypeId} {z:Value} {size bytes:Nat} {ops:Array Oper} {rest:List Oper} {o:Oper} {a:Act} {w:World} {K:Act→World→Prop} {Q:Exit→Act→World→Prop} {X:Prop}
theorem wp_cpy (E:Elem P t e z size bytes) (d s:Operand)
  (ho:o.op=.call { callee:=.builtin .copy,args:=#[d,s],argTypes:=#[t,t] })
  (base g off n c:Nat) (xs:List Value) (hown:w.ownsRow base e size (.slice (some ⟨g,0,none⟩) n c) n xs)
  (ad:Addr) (dLen dCap sLen sCap:Nat) (hd:a.eval d=.slice (some ⟨g,off,none⟩) dLen dCap) (hs:a.eval s=.slice (some ad) sLen sCap)
  (cs:List Value) (hn:cs.length=Nat.min sLen dLen * size)
  (hsrc:∀ j v,cs[j]?=some v→w.cell? (ad.add j)=some v)
  (hfit:off+cs.length≤n * size) (h1:∀ v ∈ cs,v.oneCell'=true)
  (h:∀ w',w'.ownsRow base e size (.slice (some ⟨g,0,none⟩) n c) n (splice xs off cs)→w.grownBy w' (some g)→K (a.put o.dst (goInt (Nat.min sLen dLen))) w'):o.wp P a w K Q:=by
 have hxl:=hown.1
 have hrun:=run_cpy E w o.type g off dLen dCap ad sLen sCap cs hn hsrc (fun j hj=>by rw [hown.cellAt (off+j) (by omega),List.getElem?_eq_getElem (by omega)];rfl) (fun j hj=>hown.frozenAt _) h1
 obtain ⟨k1,k2⟩:=own_splice cs off w xs (by omega) hown
 unfold Oper.wp execOp
 simp only [ho,resolve,invoke,builtin,Sem.run_bind,Sem.run_pure,Result.andThen_ok,List.map_toArray,List.map_cons,List.map_nil,hd,hs,hrun]
 exact h _ k1 k2
theorem step_cpy (E:Elem P t e z size bytes) (hgd:o.guard=none) (d s:Operand)
  (ho:o.op=.call { callee:=.builtin .copy,args:=#[d,s],argTypes:=#[t,t] })
  (base g off n c:Nat) (xs:List Value) (hown:w.ownsRow base e size (.slice (some ⟨g,0,none⟩) n c) n xs)
  (ad:Addr) (dLen dCap sLen sCap:Nat) (hd:a.eval d=.slice (some ⟨g,off,none⟩) dLen dCap) (hs:a.eval s=.slice (some ad) sLen sCap)
  (cs:List Value) (hn:cs.length=Nat.min sLen dLen * size)
  (hsrc:∀ j v,cs[j]?=some v→w.cell? (ad.add j)=some v)
  (hfit:off+cs.length≤n * size) (h1:∀ v ∈ cs,v.oneCell'=true)
  (h:∀ w',w'.ownsRow base e size (.slice (some ⟨g,0,none⟩) n c) n (splice xs off cs)→w.grownBy w' (some g)→K (a.put o.dst (goInt (Nat.min sLen dLen))) w'):if Region.wanted o (yielded ops a.tmps)=true then Oper.wp P o a w K Q else X:=by
 have hw:Region.wanted o (yielded ops a.tmps)=true:=by simp [Region.wanted,hgd]
 rw [if_pos hw]
 exact wp_cpy E d s ho base g off n c xs hown ad dLen dCap sLen sCap hd hs cs hn hsrc hfit h1 h
theorem wpList_cpy (E:Elem P t e z size bytes) (hgd:o.guard=none) (d s:Operand)
  (ho:o.op=.call { callee:=.builtin .copy,args:=#[d,s],argTypes:=#[t,t] })
  (base g off n c:Nat) (xs:List Value) (hown:w.ownsRow base e size (.slice (some ⟨g,0,none⟩) n c) n xs)
  (ad:Addr) (dLen dCap sLen sCap:Nat) (hd:a.eval d=.slice (some ⟨g,off,none⟩) dLen dCap) (hs:a.eval s=.slice (some ad) sLen sCap)
  (cs:List Value) (hn:cs.length=Nat.min sLen dLen * size)
  (hsrc:∀ j v,cs[j]?=some v→w.cell? (ad.add j)=some v)
  (hfit:off+cs.length≤n * size) (h1:∀ v ∈ cs,v.oneCell'=true)
  (h:∀ w',w'.ownsRow base e size (.slice (some ⟨g,0,none⟩) n c) n (splice xs off cs)→w.grownBy w' (some g)→wpList P ops Q rest (a.put o.dst (goInt (Nat.min sLen dLen))) w'):wpList P ops Q (o :: rest) a w :=
 wpList_plain hgd fun K hK=>wp_cpy E d s ho base g off n c xs hown ad dLen dCap sLen sCap hd hs cs hn hsrc hfit h1 (fun w' h2 h3=>hK _ _ (h w' h2 h3))
end
theorem run_clr {P:Program} {t e:TypeId} {z:Value} {size bytes:Nat} (E:Elem P t e z size bytes) (hz1:∀ v ∈ z.cells,v.oneCell'=true) (w:World) (ty:TypeId) (g o n c:Nat) (hn:0 < n) (hc:∀ j,j < n * size→(w.cell? ⟨g,o+j,none⟩).isSome=true) (hf:∀ j,j < n * size→w.frozen? ⟨g,o+j,none⟩=false) :
  (Builtin.clear_ #[t] ty #[.slice (some ⟨g,o,none⟩) n c]).run P w=.ok (.tuple #[]) (w.setCells g o (Builtin.zeroCells z.cells n).toList):=by
 obtain ⟨i,hi,hz,hsz,hby⟩:=E.get
 have hlen:(Builtin.zeroCells z.cells n).toList.length=n * size:=by rw [Array.length_toList,size_zeroCells,E.zs]
 have h1:∀ v ∈ (Builtin.zeroCells z.cells n).toList,v.oneCell'=true:=by
  intro v hv
  simp only [Builtin.zeroCells,Array.toList_map,List.mem_map] at hv
  obtain ⟨q,_,rfl⟩:=hv
  have hp:0 < z.cells.size:=by rw [E.zs];exact E.pos
  have hq:q % z.cells.size < z.cells.size:=Nat.mod_lt _ hp
  rw [getElem!_pos z.cells _ hq]
  exact hz1 _ (Array.getElem_mem hq)
 have hst:=run_storeCells_cells (P:=P) g o (Builtin.zeroCells z.cells n).toList 0 w (fun j hj=>by rw [hlen] at hj;simpa using hc j hj) (fun j hj=>by rw [hlen] at hj;simpa using hf j hj) h1
 simp only [Nat.add_zero] at hst
 obtain ⟨m,rfl⟩:∃ m,n=m+1:=⟨n - 1,by omega⟩
 simp [Builtin.clear_,run_underlying E.ut,zeroValue,typeInfo,hi,hz,hst]
theorem own_more {w:World} {base:Nat} {e:TypeId} {size g n c:Nat} {xs:List Value} (h:w.ownsRow base e size (.slice (some ⟨g,0,none⟩) n c) n xs) {m:Nat} (hm:n≤m) (hc:m≤c):∃ js,js.length=(m - n) * size∧w.ownsRow base e size (.slice (some ⟨g,0,none⟩) m c) m (xs ++ js):=by
 have hl:=h.1
 rcases h.2 with ⟨hv,_⟩ | ⟨g',cap,cur,hv,hb,hh,hn,hmx,hs,ht⟩
 ·cases hv
 ·injection hv with h1 h2 h3
  injection h1 with h1
  injection h1 with h1 h4
  subst h1;subst h3
  have e1:n * size+(m - n) * size=m * size:=by rw [← Nat.add_mul];congr 1;omega
  have e2:m * size≤c * size:=Nat.mul_le_mul_right _ hc
  refine ⟨(cur.toList.drop (n * size)).take ((m - n) * size),by simp [hs];omega,by simp [hs,hl];omega,.inr ⟨g,c,cur,rfl,hb,hh,hc,hmx,hs,?_⟩⟩
  rw [← e1,List.take_add,ht]
theorem own_block {w:World} {base:Nat} {e:TypeId} {size g n c:Nat} {xs:List Value} {cur:Array Value} (hb:base≤g) (hh:Blk w g e cur) (hn:n≤c) (hc:c≤maxLen) (hs:cur.size=c * size) (hx:xs.length=n * size) (ht:cur.toList.take (n * size)=xs):w.ownsRow base e size (.slice (some ⟨g,0,none⟩) n c) n xs :=
 ⟨hx,.inr ⟨g,c,cur,rfl,hb,hh,hn,hc,hs,ht⟩⟩
theorem own_blk {w:World} {base:Nat} {e:TypeId} {size g n c:Nat} {xs:List Value} (h:w.ownsRow base e size (.slice (some ⟨g,0,none⟩) n c) n xs):∃ cur,Blk w g e cur∧cur.size=c * size:=by
 rcases h.2 with ⟨hv,_⟩ | ⟨g',cap,cur,hv,hb,hh,hn,hmx,hs,ht⟩
 ·cases hv
 ·injection hv with h1 h2 h3
  injection h1 with h1
  injection h1 with h1 h4
  subst h1;subst h3
  exact ⟨cur,hh,hs⟩
theorem shape_blk {w:World} {g:Nat} {t:TypeId} {cs:Array Value} (h:Blk w g t cs):w.shape? g=some (t,cs.size):=by
 unfold World.shape?;rw [h]
theorem run_ovl {P:Program} {f:FuncId} {fn:Func} {t e tR:TypeId} {z:Value} {size bytes:Nat} (E:Elem P t e z size bytes) (hf:P.funcs[f]?=some fn) (hname:(fn.name == "runtime.NumGoroutine")=false) (hb:fn.body.isNone=true) (hn:Extern.findNext fn=none) (he:Extern.find fn=some (Extern.SlicesOverlaps.overlaps #[t,t] #[tR]))
  {w:World} {g1 g2:Nat} {t1 t2:TypeId} {c1 c2:Array Value} (h1:Blk w g1 t1 c1) (h2:Blk w g2 t2 c2) (hne:g1 ≠ g2) (hc:c2.size ≠ 0) (o1 o2 la ca lb cb:Nat) :
  (callFunc f #[.slice (some ⟨g1,o1,none⟩) la ca,.slice (some ⟨g2,o2,none⟩) lb cb]).run P w=.ok (.value (.bool false)) w:=by
 obtain ⟨i,hi,_,hs,_⟩:=E.get
 rw [run_callFunc_extern hf hname hb hn he,Lib.run_overlaps_apart w t tR e E.ut size (fun w=>by simp [sizeOf,typeInfo,hi,hs]) ⟨g1,o1,none⟩ ⟨g2,o2,none⟩ la ca lb cb hne t1 t2 c1.size c2.size (shape_blk h1) (shape_blk h2) hc (h1.frozen _) (h1.frozen _)]
 rfl
section
variable {α:Type} [RowT α]
theorem ins_cells (L:List α) (x:α) {i:Nat} (hi:i≤L.length) (js:List Value) (hj:js.length=RowT.sz α) :
  splice (splice (gcs L ++ js) ((i+1) * RowT.sz α) (gcs (L.drop i))) (i * RowT.sz α) (RowT.enc x)=gcs (L.take i ++ x :: L.drop i):=by
 have hl:=gcs_length L
 have ht:((gcs L).take (i * RowT.sz α))=gcs (L.take i):=gcs_take L i
 have htl:(gcs (L.take i)).length=i * RowT.sz α:=by rw [gcs_length,List.length_take,Nat.min_eq_left hi]
 have hdl:(gcs (L.drop i)).length=(L.length - i) * RowT.sz α:=by rw [gcs_length,List.length_drop]
 have e1:i * RowT.sz α+RowT.sz α=(i+1) * RowT.sz α:=by rw [Nat.add_mul,Nat.one_mul]
 have e2:i * RowT.sz α+(L.length - i) * RowT.sz α=L.length * RowT.sz α:=by rw [← Nat.add_mul];congr 1;omega
 have hle:i * RowT.sz α≤(gcs L).length:=by rw [hl];omega
 unfold splice
 rw [RowT.len,gcs_append,gcs_cons,hdl]
 have a1:((gcs L ++ js).take ((i+1) * RowT.sz α) ++ (gcs (L.drop i) ++ (gcs L ++ js).drop ((i+1) * RowT.sz α+(L.length - i) * RowT.sz α))).take (i * RowT.sz α)=gcs (L.take i):=by
  rw [List.take_append_of_le_length (by rw [List.length_take,List.length_append,hl,hj];omega),List.take_take,Nat.min_eq_left (by omega),List.take_append_of_le_length hle,ht]
 have a2:((gcs L ++ js).take ((i+1) * RowT.sz α) ++ (gcs (L.drop i) ++ (gcs L ++ js).drop ((i+1) * RowT.sz α+(L.length - i) * RowT.sz α))).drop (i * RowT.sz α+RowT.sz α)=gcs (L.drop i):=by
  have h0:(gcs L ++ js).drop ((i+1) * RowT.sz α+(L.length - i) * RowT.sz α)=[]:=List.drop_of_length_le (by rw [List.length_append,hl,hj];omega)
  rw [h0,List.append_nil,e1,List.drop_append,List.drop_of_length_le (by rw [List.length_take];omega),List.length_take,List.length_append,hl,hj,Nat.min_eq_left (by omega),Nat.sub_self,List.drop_zero,List.nil_append]
 rw [a1,a2]
theorem ins_cells2 (L:List α) (x:α) {i:Nat} (hi:i≤L.length) (js:List Value) (hj:js.length=(L.length+1 - i) * RowT.sz α) :
  splice (splice (gcs (L.take i) ++ js) (i * RowT.sz α) (RowT.enc x)) ((i+1) * RowT.sz α) (gcs (L.drop i))=gcs (L.take i ++ x :: L.drop i):=by
 have htl:(gcs (L.take i)).length=i * RowT.sz α:=by rw [gcs_length,List.length_take,Nat.min_eq_left hi]
 have hdl:(gcs (L.drop i)).length=(L.length - i) * RowT.sz α:=by rw [gcs_length,List.length_drop]
 have e1:i * RowT.sz α+RowT.sz α=(i+1) * RowT.sz α:=by rw [Nat.add_mul,Nat.one_mul]
 have e2:RowT.sz α+(L.length - i) * RowT.sz α=(L.length+1 - i) * RowT.sz α:=by rw [show L.length+1 - i=1+(L.length - i) by omega,Nat.add_mul,Nat.one_mul]
 unfold splice
 rw [RowT.len,gcs_append,gcs_cons,hdl]
 have a0:(gcs (L.take i) ++ js).take (i * RowT.sz α)=gcs (L.take i):=by rw [List.take_append_of_le_length (by omega),List.take_of_length_le (by omega)]
 rw [a0]
 have a1:(gcs (L.take i) ++ (RowT.enc x ++ (gcs (L.take i) ++ js).drop (i * RowT.sz α+RowT.sz α))).take ((i+1) * RowT.sz α)=gcs (L.take i) ++ RowT.enc x:=by
  rw [← List.append_assoc,List.take_append_of_le_length (by rw [List.length_append,htl,RowT.len];omega),List.take_of_length_le (by rw [List.length_append,htl,RowT.len];omega)]
 have a2:(gcs (L.take i) ++ (RowT.enc x ++ (gcs (L.take i) ++ js).drop (i * RowT.sz α+RowT.sz α))).drop ((i+1) * RowT.sz α+(L.length - i) * RowT.sz α)=[]:=by
  apply List.drop_of_length_le
  rw [List.length_append,List.length_append,List.length_drop,List.length_append,htl,RowT.len,hj];omega
 rw [a1,a2,List.append_nil,List.append_assoc]
theorem del_cells (L:List α) {i:Nat} (hi:i < L.length) :
  (splice (gcs L) (i * RowT.sz α) (gcs (L.drop (i+1)))).take ((L.length - 1) * RowT.sz α)=gcs (L.take i ++ L.drop (i+1)):=by
 have ht:((gcs L).take (i * RowT.sz α))=gcs (L.take i):=gcs_take L i
 have htl:(gcs (L.take i)).length=i * RowT.sz α:=by rw [gcs_length,List.length_take,Nat.min_eq_left (by omega)]
 have hdl:(gcs (L.drop (i+1))).length=(L.length - (i+1)) * RowT.sz α:=by rw [gcs_length,List.length_drop]
 have e2:i * RowT.sz α+(L.length - (i+1)) * RowT.sz α=(L.length - 1) * RowT.sz α:=by rw [← Nat.add_mul];congr 1;omega
 unfold splice
 rw [ht,gcs_append,← List.append_assoc,List.take_append_of_le_length (by rw [List.length_append,htl,hdl];omega),List.take_of_length_le (by rw [List.length_append,htl,hdl];omega)]
end
end Go.Proofs.YtohmmcahpakokaaGreat
