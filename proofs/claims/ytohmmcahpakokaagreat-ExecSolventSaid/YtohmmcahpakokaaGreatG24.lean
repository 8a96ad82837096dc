/- SignTx (the reference's), Verify of a transaction, both sides. -/
import Derived.Test.YtohmmcahpakokaaGreatG23
set_option maxRecDepth 100000
set_option maxHeartbeats 8000000
set_option linter.unusedVariables false
set_option linter.unusedSimpArgs false
namespace Go.Proofs.YtohmmcahpakokaaGreat
section
open Go.RowKit
attribute [local go_sem ↓] Go.wp_at_zero Go.wp_at_succ
theorem xE (seed:UInt64) (ac sq:Int) (A:Option Addr) (n c:Nat) (L:List OpR) (w:World) (hS:SlO w A n c L) :
  Calls Tryz.prog 41 #[.agg (nmc seed),.agg (txA ac sq A n c)] w (aNb w seed ac sq L):=by
 have hE:=(((Ext.refl w).alloc' (.cells (nmc seed) 30)).alloc' (.cells (txA ac sq A n c) 24)).alloc' (.cells lV 47)
 obtain ⟨W0,hW0⟩:∃ W0,((w.alloc (.cells (nmc seed) 30)).alloc (.cells (txA ac sq A n c) 24)).alloc (.cells lV 47)=W0:=⟨_,rfl⟩
 have HB0:=zh (((Blk.new w 30 (nmc seed)).alloc (.cells (txA ac sq A n c) 24)).alloc (.cells lV 47))
 have HB1:=zh (show Blk (((w.alloc (.cells (nmc seed) 30)).alloc (.cells (txA ac sq A n c) 24)).alloc (.cells lV 47)) (w.heap.size+1) 24 (txA ac sq A n c) from (Blk.newAt _ _ _ _ (by simp)).alloc _)
 have HB2:=zh (show Blk (((w.alloc (.cells (nmc seed) 30)).alloc (.cells (txA ac sq A n c) 24)).alloc (.cells lV 47)) (w.heap.size+2) 47 lV from Blk.newAt _ _ _ _ (by simp))
 have HE:=zh hE
 have HS:=zh (hS.ext hE)
 rw [hW0] at HB0 HB1 HB2 HE HS
 have q0:W0.cell? ⟨w.heap.size+1,0,none⟩=some (.int .i64 ac):=HB1.out.cell 0
 have q1:W0.cell? ⟨w.heap.size+1,1,none⟩=some (.int .i64 sq):=HB1.out.cell 1
 have q2:W0.cell? ⟨w.heap.size+1,2,none⟩=some (.slice A n c):=HB1.out.cell 2
 have HV:=zh (mP ac sq A n c L _ HS.out)
 have hS0:=zh hS.len
 have HSW:=zh hS
 clear hS hE
 cases hv:vTx ac sq L with
 | false =>
  rw [hv] at HV
  have HV:=zh (show Calls Tryz.prog 46 #[.agg (txA ac sq A n c)] W0 (fun e w'=>e=.returned (.bool false)∧Ext W0 w') from HV.out)
  have HVV:=zh hv
  clear hv
  go_enter Tryz.func41,Tryz.ntmps41
  go_wp2_with fail
  refine HV.out.mono ?_
  rintro e w1 ⟨rfl,he1⟩
  have HB3:=zh (HB2.out.ext he1)
  have HE3:=zh (HE.out.trans he1)
  have htz:=aBJ HB3.out
  clear he1 hW0 q0 q1 q2
  go_wp2_with (first | (with_reducible refine mI rfl (.tmp 4) (.tmp 11) rfl (w.heap.size+2) lV rfl rfl htz rfl (aEK _ _ _ _ _ _ _ _) ?_))
  exact bodyPost_ret (v:=.tuple #[.agg lV,.int .i64 1]) (kV rfl _ _ (w.heap.size+2) _ _ rfl rfl (run_loadVar_row _ _ _ _ _ (0,0) _ (aBK HB3.out lV rfl) Tryz.underlying47 rfl (by kernel_rfl))) rfl ⟨Below.setCells' HE3.out (by omega) _ _,.inl ⟨HVV.out,rfl⟩⟩
 | true =>
  rw [hv] at HV
  have HV:=zh (show Calls Tryz.prog 46 #[.agg (txA ac sq A n c)] W0 (fun e w'=>e=.returned (.bool true)∧Ext W0 w') from HV.out)
  have HVV:=zh hv
  clear hv
  go_enter Tryz.func41,Tryz.ntmps41
  go_wp2_with fail
  refine HV.out.mono ?_
  rintro e w1 ⟨rfl,he1⟩
  have HB0:=zh (HB0.out.ext he1)
  have HB1:=zh (HB1.out.ext he1)
  have HB2:=zh (HB2.out.ext he1)
  have HE:=zh (HE.out.trans he1)
  have HS:=zh (HS.out.ext he1)
  clear he1 hW0 q0 q1 q2 HV
  go_wp2_with fail
  have HSS:=zh (fun (W:World) (h:Ext w1 W)=>(⟨eY (HB0.out.ext h),(HB1.out.ext h).cell 0,(HB1.out.ext h).cell 1,(HB1.out.ext h).cell 2⟩:(∀ i,i < 8→W.cell? ⟨w.heap.size,i,none⟩=some (.int .u8 (nb8 seed i)))∧W.cell? ⟨w.heap.size+1,0,none⟩=some (.int .i64 ac)∧W.cell? ⟨w.heap.size+1,1,none⟩=some (.int .i64 sq)∧W.cell? ⟨w.heap.size+1,2,none⟩=some (.slice A n c)))
  have hX:=(Ext.refl w1).drew'
  have HNM:=zh (fun (W:World) (h:Ext w1 W)=>nT ac sq A n c L W (HS.out.ext h))
  obtain ⟨hh,hops⟩:=eW HVV.out
  have HSG:=zh (fun (W:World)=>show Calls Tryz.prog 79 #[.agg (nmc seed),.int .i64 1,.int .i64 sq,.agg (nmc (cB ac sq L))] W (SigOut W (some (wY seed sq.toNat (cB ac sq L)))) from by rw [← aEL seed _ hh.2.2.1 hh.2.2.2.1];exact aCa seed _ 1 sq W)
  have HN4:=zh (show n≤4 by have:=hS0.out;omega)
  clear hh hops
  obtain ⟨sg,hsg⟩:∃ sg,wY seed sq.toNat (cB ac sq L)=sg:=⟨_,rfl⟩
  rw [hsg] at HSG
  have HSGE:=zh hsg
  clear hsg
  obtain ⟨nm,hnm⟩:∃ nm,cB ac sq L=nm:=⟨_,rfl⟩
  rw [hnm] at HNM HSG HSGE
  have HNE:=zh hnm
  clear hnm
  go_region_held3 (fun w'=>(∀ i,i < 8→w'.cell? ⟨w.heap.size,i,none⟩=some (.int .u8 (nb8 seed i)))∧w'.cell? ⟨w.heap.size+1,0,none⟩=some (.int .i64 ac)∧w'.cell? ⟨w.heap.size+1,1,none⟩=some (.int .i64 sq)∧w'.cell? ⟨w.heap.size+1,2,none⟩=some (.slice A n c)) (first | (with_reducible exact HSS.out _ hX) | fail "KEEP") (first | (go_at_call 35;(with_reducible refine (HNM.out _ hX).mono ?_);rintro e w2 ⟨rfl,he2⟩;have hX:=hX.trans he2) | (go_at_call 79;(with_reducible refine (HSG.out _).mono ?_);rintro e w3 ⟨A3,n3,c3,rfl,hs3,he3⟩;have hX:=hX.trans he3) | fail "ARM")
  have HX3:=zh hX
  have HS3:=zh (show SlB w3 A3 n3 c3 sg from hs3)
  obtain ⟨q0,q1,q2⟩:w3.cell? ⟨w.heap.size+1,0,none⟩=some (.int .i64 ac)∧w3.cell? ⟨w.heap.size+1,1,none⟩=some (.int .i64 sq)∧w3.cell? ⟨w.heap.size+1,2,none⟩=some (.slice A n c):=(HSS.out w3 hX).2
  have HB4:=zh (HB2.out.ext HX3.out)
  have htz:=aBJ HB4.out
  clear hX hs3 he2 he3
  go_wp2_with (first | (with_reducible refine mI rfl (.tmp 4) (.tmp 23) rfl (w.heap.size+2) (stA ac sq A n c A3 n3 c3) rfl rfl htz rfl (aEK _ _ _ _ _ _ _ _) ?_))
  have HFIN:=zh (show (⟨ac,sq,A,n,c,A3,n3,c3,L,sg⟩:TxR).ok (w3.setCells (w.heap.size+2) 0 (stA ac sq A n c A3 n3 c3).toList) from by
   have g:=aD w3 (w.heap.size+2) (stA ac sq A n c A3 n3 c3).toList 0
   have hE:=Below.setCells' (HE.out.trans HX3.out) (show w.heap.size≤w.heap.size+2 by omega) (stA ac sq A n c A3 n3 c3).toList 0
   exact ⟨HSW.out.ext hE,HS3.out.grown g HB4.out⟩)
  have HVA:=zh (show (⟨ac,sq,A,n,c,A3,n3,c3,L,sg⟩:TxR).v=(ac,sq,L.map OpR.v,wY seed sq.toNat (cB ac sq L)) from by unfold TxR.v;rw [HNE.out,HSGE.out])
  exact bodyPost_ret (v:=.tuple #[.agg (stA ac sq A n c A3 n3 c3),.int .i64 0]) (kV rfl _ _ (w.heap.size+2) _ _ rfl rfl (run_loadVar_row _ _ _ _ _ (0,0) _ (aBK HB4.out (stA ac sq A n c A3 n3 c3) rfl) Tryz.underlying47 rfl (by kernel_rfl))) rfl ⟨Below.setCells' (HE.out.trans HX3.out) (by omega) _ _,.inr ⟨HVV.out,⟨ac,sq,A,n,c,A3,n3,c3,L,sg⟩,rfl,HFIN.out,HVA.out⟩⟩
def vSg (pub:UInt64) (T:TxR):Bool:=vTx T.ac T.sq T.L && (kQ pub 1 (cB T.ac T.sq T.L) T.sig && decide ((bM T.sig 0 2:Int)=T.sq))
theorem aGS {pub m:UInt64} {l:List UInt8} (h:kQ pub 1 m l=true):l.length=186:=by
 unfold kQ at h
 rw [if_pos rfl] at h
 simp only [Bool.and_eq_true,decide_eq_true_eq] at h
 exact h.1
theorem zS (pub:UInt64) (T:TxR) (w:World) (hT:T.ok w):Calls Tryz.prog 89 #[.agg (nmc pub),.agg (tA T)] w fun e w'=>e=.returned (.bool (vSg pub T))∧Ext w w':=by
 have hE:=((Ext.refl w).alloc' (.cells (nmc pub) 30)).alloc' (.cells (tA T) 47)
 obtain ⟨W0,hW0⟩:∃ W0,(w.alloc (.cells (nmc pub) 30)).alloc (.cells (tA T) 47)=W0:=⟨_,rfl⟩
 have HB0:=zh ((Blk.new w 30 (nmc pub)).alloc (.cells (tA T) 47))
 have HB1:=zh (show Blk ((w.alloc (.cells (nmc pub) 30)).alloc (.cells (tA T) 47)) (w.heap.size+1) 47 (tA T) from Blk.newAt _ _ _ _ (by simp))
 have HE:=zh hE
 have HT:=zh (hT.ext hE)
 rw [hW0] at HB0 HB1 HE HT
 have HSS:=zh (fun (W:World) (h:Ext W0 W)=>(⟨eY (HB0.out.ext h),kT (HB1.out.ext h)⟩:(∀ i,i < 8→W.cell? ⟨w.heap.size,i,none⟩=some (.int .u8 (nb8 pub i)))∧W.cell? ⟨w.heap.size+1,0,none⟩=some (.int .i64 T.ac)∧W.cell? ⟨w.heap.size+1,1,none⟩=some (.int .i64 T.sq)∧W.cell? ⟨w.heap.size+1,2,none⟩=some (.slice T.A T.n T.c)∧W.cell? ⟨w.heap.size+1,3,none⟩=some (.slice T.S T.m T.d)))
 have HV:=zh (fun (W:World) (h:Ext W0 W)=>eM T.ac T.sq T.A T.n T.c T.L W (HT.out.ext h).ops)
 obtain ⟨nm,hnm⟩:∃ nm,cB T.ac T.sq T.L=nm:=⟨_,rfl⟩
 have HNM:=zh (fun (W:World) (h:Ext W0 W)=>show Calls Tryz.prog 56 #[.agg (txA T.ac T.sq T.A T.n T.c)] W (fun e w'=>e=.returned (.agg (nmc nm))∧Ext W w') from by rw [← hnm];exact fB T.ac T.sq T.A T.n T.c T.L W (HT.out.ext h).ops)
 have HVF:=zh (fun (W:World) (h:Ext W0 W)=>tW pub nm 1 T.S T.m T.d T.sig W (HT.out.ext h).sig)
 have HVS:=zh (show vSg pub T=(vTx T.ac T.sq T.L && (kQ pub 1 nm T.sig && decide ((bM T.sig 0 2:Int)=T.sq))) from by unfold vSg;rw [hnm])
 have hX:=(Ext.refl W0).drew'
 have HRF:=zh (Ext.refl W0)
 clear hE hT hnm
 cases hv:vTx T.ac T.sq T.L with
 | false =>
  rw [hv] at HV HVS
  have HV:=zh (show ∀ (W:World) (h:Ext W0 W),Calls Tryz.prog 44 #[.agg (txA T.ac T.sq T.A T.n T.c)] W (fun e w'=>e=.returned (.int .i64 1)∧Ext W w') from HV.out)
  have HVS:=zh (show vSg pub T=false from HVS.out)
  obtain ⟨q,q0,q1,q2,q3⟩:=HSS.out W0.drew hX
  clear hv q
  go_enter Tryz.func89,Tryz.ntmps89
  go_wp2_with fail
  clear hW0
  first | go_region_with (first | (go_at_call 44;(with_reducible refine (HV.out _ hX).mono ?_);rintro e w7 ⟨rfl,he7⟩;have hX7:=hX.trans he7) | fail "ARM") | fail "REGION"
  all_goals (
   have HXF:=zh (HE.out.trans hX7)
   clear q0 q1 q2 q3 hX7 he7 hX
   go_wp2_with fail
   go_ret
   exact ⟨by rw [HVS.out];rfl,HXF.out⟩)
 | true =>
  rw [hv] at HV HVS
  have HV:=zh (show ∀ (W:World) (h:Ext W0 W),Calls Tryz.prog 44 #[.agg (txA T.ac T.sq T.A T.n T.c)] W (fun e w'=>e=.returned (.int .i64 0)∧Ext W w') from HV.out)
  have HLN:=zh (@aGS pub nm T.sig)
  obtain ⟨vr,hvr⟩:∃ vr,kQ pub 1 nm T.sig=vr:=⟨_,rfl⟩
  rw [hvr] at HVF HVS HLN
  clear hv hvr
  go_enter Tryz.func89,Tryz.ntmps89
  go_wp2_with fail
  clear hW0
  go_region_held3 (fun w'=>(∀ i,i < 8→w'.cell? ⟨w.heap.size,i,none⟩=some (.int .u8 (nb8 pub i)))∧w'.cell? ⟨w.heap.size+1,0,none⟩=some (.int .i64 T.ac)∧w'.cell? ⟨w.heap.size+1,1,none⟩=some (.int .i64 T.sq)∧w'.cell? ⟨w.heap.size+1,2,none⟩=some (.slice T.A T.n T.c)∧w'.cell? ⟨w.heap.size+1,3,none⟩=some (.slice T.S T.m T.d)) (first | (with_reducible exact HSS.out _ hX) | fail "KEEP") (first | (go_at_call 44;(with_reducible refine (HV.out _ hX).mono ?_);rintro e wa ⟨rfl,he⟩;have hX:=hX.trans he;clear he) | (go_at_call 56;(with_reducible refine (HNM.out _ hX).mono ?_);rintro e wb ⟨rfl,he⟩;have hX:=hX.trans he;clear he) | (go_at_call 145;(with_reducible refine (HVF.out _ hX).mono ?_);rintro e wc ⟨rfl,he⟩;have hX:=hX.trans he;clear he) | fail "ARM")
  have HXW:=zh hX
  obtain ⟨q,q0,q1,q2,q3⟩:=HSS.out _ hX
  have hsg:=(HT.out.ext hX).sig
  have HXF:=zh (HE.out.trans hX)
  clear q hX
  cases vr with
  | false =>
   clear hsg
   go_wp2_with fail
   go_ret
   exact ⟨by rw [HVS.out];rfl,HXF.out⟩
  | true =>
   have hl:=HLN.out rfl
   have HLF:=zh (qD T.S T.m T.d T.sig _ hsg (by have:=hsg.len;omega))
   obtain ⟨x,hx⟩:∃ x,bM T.sig 0 2=x:=⟨_,rfl⟩
   rw [hx] at HLF HVS
   clear hsg hl hx HLN
   go_wp2_with fail
   refine HLF.out.mono ?_
   rintro e wd ⟨rfl,rfl⟩
   go_wp2_with fail
   go_ret
   exact ⟨by rw [HVS.out];simp;rw [Bool.eq_iff_iff,beq_iff_eq,decide_eq_true_eq],HXF.out⟩
theorem lB (ac sq:Int) (L:List OpR) (i:Nat):(cQ ac sq L i).length≤2:=by
 unfold cQ
 split
 ·exact Nat.le_refl _
 split
 ·exact Nat.le_refl _
 split
 ·exact Nat.le_refl _
 split
 ·exact Nat.le_refl _
 exact Nat.zero_le _
theorem aIm (ac sq:Int) (L:List OpR) (k:Nat):(wH ac sq L k).length≤2 * k:=by
 induction k with
 | zero=>exact Nat.le_refl _
 | succ k ih=>rw [rM,List.length_append];have:=lB ac sq L k;omega
theorem aFT {ac sq:Int} {L:List OpR} (hv:vTx ac sq L=true):∀ k,k≤L.length→(0≤aAz L k∧aAz L k≤10000000000000 * k)∧∀ (h:k < L.length),aAz L (k+1)=aAz L k+(bI L k).am:=by
 obtain ⟨⟨q1,q2,q3,q4,q5,q6⟩,hop⟩:=eW hv
 have hs:∀ k,k≤L.length→0≤((L.take k).map OpR.am).sum∧((L.take k).map OpR.am).sum≤10000000000000 * k:=by
  intro k
  induction k with
  | zero=>intro _;simp
  | succ k ih =>
   intro hk
   have h1:=ih (by omega)
   obtain ⟨-,-,-,-,-,-,-,ham,-⟩:=oH (hop k (by omega))
   rw [nE (by omega),List.map_append,List.sum_append]
   simp only [List.map_cons,List.map_nil,List.sum_cons,List.sum_nil]
   omega
 have he:∀ k,k≤L.length→aAz L k=((L.take k).map OpR.am).sum:=fun k hk=>by
  have:=hs k hk
  exact fR ⟨by omega,by omega⟩
 intro k hk
 refine ⟨by rw [he k hk];exact hs k hk,fun h=>?_⟩
 rw [he k hk,he (k+1) h,nE h,List.map_append,List.sum_append]
 simp
def aLQ (w:World) (l:List DeR) (e:Ending) (w':World):Prop:=∃ A n c,e=.returned (.slice A n c)∧w'.ownsRow w.heap.size 34 11 (.slice A n c) n (gcs l)∧(∀ d ∈ l,deW d)∧Ext w w'
theorem aJL {ac sq:Int} {L:List OpR} (hv:vTx ac sq L=true) {i:Nat} (hi:i < L.length):∀ d ∈ cQ ac sq L i,deW d:=by
 obtain ⟨⟨q1,q2,q3,q4,q5,q6⟩,hop⟩:=eW hv
 obtain ⟨hkk,hto,ham,hva,-,-,-,-,-⟩:=oH (hop i hi)
 have hac:wfI ac:=wfS ⟨by omega,by omega⟩
 have h0:wfI 0:=wfS (by decide)
 have h1:wfI 1:=wfS (by decide)
 have h2:wfI 2:=wfS (by decide)
 have h3:wfI 3:=wfS (by decide)
 unfold cQ
 split
 ·exact aCn ⟨h1,hac⟩ ⟨h1,hto⟩ ham
 split
 ·exact aCn ⟨h1,hac⟩ ⟨h2,h0⟩ ham
 split
 ·exact aCn ⟨h2,h0⟩ ⟨h1,hto⟩ ham
 split
 ·exact aCn ⟨h1,hac⟩ ⟨h3,hva⟩ ham
 intro d hd;cases hd
theorem aJM {ac sq:Int} {L:List OpR} (hv:vTx ac sq L=true):∀ k,k≤L.length→∀ d ∈ wH ac sq L k,deW d:=by
 intro k
 induction k with
 | zero=>intro _ d hd;cases hd
 | succ k ih =>
  intro hk d hd
  rw [rM] at hd
  rcases List.mem_append.1 hd with hd | hd
  ·exact ih (by omega) d hd
  exact aJL hv (by omega) d hd
theorem qJ (ac sq:Int) (A:Option Addr) (n c:Nat) (L:List OpR) (w:World) (hS:SlO w A n c L) :
  Calls Tryz.prog 13 #[.agg (txA ac sq A n c)] w (aLQ w (oW ac sq L)):=by
 obtain ⟨W,hW⟩:∃ W,w.alloc (.cells (txA ac sq A n c) 24)=W:=⟨_,rfl⟩
 have HB:=zh (show Blk W w.heap.size 24 (txA ac sq A n c) from by rw [← hW];exact Blk.new w 24 (txA ac sq A n c))
 have HE:=zh (show Ext w W from by rw [← hW];exact (Ext.refl w).alloc' _)
 have HS:=zh (hS.ext HE.out)
 have HV:=zh (eM ac sq A n c L W HS.out)
 have hle:=hS.le
 have hcap:=hS.cap
 have HLEN:=zh hS.len
 have t0:=HB.out.cell 0
 have t1:=HB.out.cell 1
 have t2:=HB.out.cell 2
 clear hS
 cases hv:vTx ac sq L with
 | false =>
  have HT:=zh (show oW ac sq L=[] from by unfold oW;rw [hv];rfl)
  rw [hv] at HV
  have HV:=zh (show Calls Tryz.prog 44 #[.agg (txA ac sq A n c)] W (fun e w'=>e=.returned (.int .i64 1)∧Ext W w') from HV.out)
  clear hv
  go_enter Tryz.func13,Tryz.ntmps13
  go_wp2_with fail
  refine HV.out.mono ?_
  rintro e w1 ⟨rfl,he1⟩
  have HX:=zh (HE.out.trans he1)
  clear he1 t0 t1 t2 hW
  go_wp2_with fail
  go_ret
  exact ⟨none,0,0,rfl,by rw [HT.out];exact World.ownsRow_nil _ _ _ _,by rw [HT.out];exact (fun d hd=>by cases hd),HX.out⟩
 | true =>
  have HT:=zh (show oW ac sq L=wH ac sq L L.length from by unfold oW;rw [if_pos hv])
  have HVT:=zh hv
  rw [hv] at HV
  have HV:=zh (show Calls Tryz.prog 44 #[.agg (txA ac sq A n c)] W (fun e w'=>e=.returned (.int .i64 0)∧Ext W w') from HV.out)
  clear hv
  have hn4:n≤4:=by have:=(eW HVT.out).1.2.2.2.2.2;have:=HLEN.out;omega
  go_enter Tryz.func13,Tryz.ntmps13
  go_wp2_with fail
  refine HV.out.mono ?_
  rintro e w1 ⟨rfl,he1⟩
  have HX1:=zh (HE.out.trans he1)
  have HB1:=zh (HB.out.ext he1)
  have HS1:=zh (HS.out.ext he1)
  clear he1 t0 t1 t2 hW
  have t2:=HB1.out.cell 2
  go_wp2_with fail
  go_loopw [3,11] (fun vl vi wr=>∃ (k:Nat) (A':Option Addr) (m d:Nat),vi=.int .i64 (k:Int)∧k≤n∧vl=.slice A' m d∧Hid (wr.ownsRow w1.heap.size 34 11 (.slice A' m d) m (gcs (wH ac sq L k)))∧Hid (Ext w1 wr)) (fun _ i _=>n - (intOf i).toNat)
  case atStart=>exact ⟨0,none,0,0,rfl,Nat.zero_le _,rfl,zh (World.ownsRow_nil _ _ _ _),zh (Ext.refl w1)⟩
  case round =>
   obtain ⟨k,A',m,d,rfl,hk,rfl,HO,HX⟩:=hrel
   by_cases hlt:k < n
   ·have i0 : (k : Int) < (n : Int) := by omega
    have HB2:=zh (HB1.out.ext HX.out)
    have t0:=HB2.out.cell 0
    have t1:=HB2.out.cell 1
    have t2:=HB2.out.cell 2
    have HC:=zh (oV ac sq A n c L k wr (HS1.out.ext HX.out) hlt HVT.out)
    have hm8:m≤8:=by
     have h1:(wH ac sq L k).length=m:=OwnG.len (e:=34) HO.out
     have:=aIm ac sq L k
     omega
    go_wp2_with (first | (go_at_call 45;refine HC.out.mono ?_;rintro e w3 ⟨A9,n9,c9,rfl,hs9,he9⟩;have HS9:=zh hs9;have HE9:=zh he9;have HO9:=zh (bF HO.out he9);have h9:n9≤2:=(by have:=lB ac sq L k;have:=hs9.len;omega);have HL9:=zh (show (gcs (cQ ac sq L k)).length=n9 * 11 from by rw [aI,hs9.len];rfl);clear hs9 he9) | (at_builtin;go_must (refine bU deE rfl (.tmp 14) (.tmp 17) rfl w1.heap.size A' m d _ rfl HO9.out A9 n9 c9 (gcs (cQ ac sq L k)) rfl HS9.out.rd HL9.out (cG _) (by omega) (by omega) (Nat.le_trans HX.out.size HE9.out.size) ?_;intro A3 c3 w4 hO4 hg4)))
    have HO5:=zh (show w4.ownsRow w1.heap.size 34 11 (.slice A3 (m+n9) c3) (m+n9) (gcs (wH ac sq L (k+1))) from by rw [rM,cH];exact hO4)
    have HX5:=zh (show Ext w1 w4 from Below.grown (HX.out.trans HE9.out) hg4 (Nat.le_trans HX.out.size HE9.out.size) (fun k hk=>(World.ownsRow.lt HO9.out k hk).1))
    clear hO4 hg4 HS9 HE9 HO9 HL9 HC t0 t1 t2 HB2
    go_roundw
    case rel=>exact ⟨k+1,A3,m+n9,c3,by go_num,hlt,rfl,HO5,HX5⟩
    case measure=>simp [intOf];omega
   obtain rfl:k=n:=by omega
   have i0:¬ (k:Int) < (k:Int):=by omega
   have HF:=zh (show oW ac sq L=wH ac sq L k from by rw [HT.out,HLEN.out])
   go_wp2_with fail
   go_ret
   exact ⟨A',m,d,rfl,by rw [HF.out];exact bB HO.out HX1.out.size,by rw [HF.out];exact aJM HVT.out k (by rw [HLEN.out];exact Nat.le_refl _),HX1.out.trans HX.out⟩
theorem nZ (ac sq:Int) (A:Option Addr) (n c:Nat) (L:List OpR) (w:World) (hS:SlO w A n c L) :
  Calls Tryz.prog 16 #[.agg (txA ac sq A n c)] w fun e w'=>e=.returned (.int .i64 (kX ac sq L))∧Ext w w':=by
 obtain ⟨W,hW⟩:∃ W,w.alloc (.cells (txA ac sq A n c) 24)=W:=⟨_,rfl⟩
 have HB:=zh (show Blk W w.heap.size 24 (txA ac sq A n c) from by rw [← hW];exact Blk.new w 24 (txA ac sq A n c))
 have HE:=zh (show Ext w W from by rw [← hW];exact (Ext.refl w).alloc' _)
 have HS:=zh (hS.ext HE.out)
 have HV:=zh (eM ac sq A n c L W HS.out)
 have hle:=hS.le
 have hcap:=hS.cap
 have HLEN:=zh hS.len
 have t0:=HB.out.cell 0
 have t1:=HB.out.cell 1
 have t2:=HB.out.cell 2
 clear hS
 cases hv:vTx ac sq L with
 | false =>
  have HT:=zh (show kX ac sq L=0 from by unfold kX;rw [hv];rfl)
  rw [hv] at HV
  have HV:=zh (show Calls Tryz.prog 44 #[.agg (txA ac sq A n c)] W (fun e w'=>e=.returned (.int .i64 1)∧Ext W w') from HV.out)
  clear hv
  go_enter Tryz.func16,Tryz.ntmps16
  go_wp2_with fail
  refine HV.out.mono ?_
  rintro e w1 ⟨rfl,he1⟩
  have HX:=zh (HE.out.trans he1)
  clear he1 t0 t1 t2 hW
  go_wp2_with fail
  go_ret
  exact ⟨by rw [HT.out];rfl,HX.out⟩
 | true =>
  have HT:=zh (show kX ac sq L=aAz L L.length from by unfold kX;rw [if_pos hv])
  have HVT:=zh hv
  rw [hv] at HV
  have HV:=zh (show Calls Tryz.prog 44 #[.agg (txA ac sq A n c)] W (fun e w'=>e=.returned (.int .i64 0)∧Ext W w') from HV.out)
  clear hv
  have hn4:n≤4:=by have:=(eW HVT.out).1.2.2.2.2.2;have:=HLEN.out;omega
  go_enter Tryz.func16,Tryz.ntmps16
  go_wp2_with fail
  refine HV.out.mono ?_
  rintro e w1 ⟨rfl,he1⟩
  have HX1:=zh (HE.out.trans he1)
  have HB1:=zh (HB.out.ext he1)
  have HS1:=zh (HS.out.ext he1)
  clear he1 t0 t1 t2 hW
  have t2:=HB1.out.cell 2
  go_wp2_with fail
  go_loopw [3,12] (fun vl vi wr=>∃ (k:Nat),vi=.int .i64 (k:Int)∧k≤n∧vl=.int .i64 (aAz L k)∧Hid (Ext w1 wr)) (fun _ i _=>n - (intOf i).toNat)
  case atStart=>exact ⟨0,rfl,Nat.zero_le _,rfl,zh (Ext.refl w1)⟩
  case round =>
   obtain ⟨k,rfl,hk,rfl,HX⟩:=hrel
   by_cases hlt:k < n
   ·have i0 : (0 : Int) ≤ (k : Int) := by omega
    have i1:(k:Int) < (n:Int):=by omega
    obtain ⟨b,o,rfl,hrow,-⟩:=(HS1.out.ext HX.out).g.at (by omega)
    obtain ⟨R,hR⟩:∃ R,bI L k=R:=⟨_,rfl⟩
    have hr:wr.rangeAt b (o+k * 23) (RowT.enc R):=by rw [← hR,vH];exact cO hrow (by rw [HLEN.out];exact hlt)
    obtain ⟨⟨n1,n2⟩,n3⟩:=aFT HVT.out k (by rw [HLEN.out];omega)
    have n4:=n3 (by rw [HLEN.out];exact hlt)
    have ham:=(oH ((eW HVT.out).2 k (by rw [HLEN.out];exact hlt))).2.2.2.2.2.2.2.1
    rw [hR] at n4 ham
    have HN4:=zh n4
    obtain ⟨z,hz⟩:∃ z,aAz L k=z:=⟨_,rfl⟩
    rw [hz] at HN4 n1 n2 ⊢
    obtain ⟨v,hv⟩:∃ v,Value.agg (opA R)=v:=⟨_,rfl⟩
    have HVV:=zh hv
    have hm1:=ham.1
    have hm2:=ham.2
    have hz2:z≤10000000000000 * 4:=by omega
    clear hrow hR hv n3 n4 hz ham n2
    obtain ⟨X,hX⟩:∃ X,wr.heap.size=X:=⟨_,rfl⟩
    have HXS:=zh hX
    clear hX
    go_upto_region 7 with (first | (with_reducible refine aB opP rfl (.tmp 14) rfl b (o+k * 23) rfl R v HVV.out hr ?_) | ((with_reducible refine aS opP rfl (.tmp 5) (.tmp 15) rfl jW rfl R v HVV.out rfl rfl ?_);intro W4 h4))
    have HD:=zh (show Blk W4 X 69 (opA R) from by rw [← h4.out,← HXS.out];exact Blk.new wr 69 (opA R))
    have HX4:=zh (show Ext w1 W4 from by rw [← h4.out];exact HX.out.alloc' _)
    have k2:W4.cell? ⟨X,2,none⟩=some (.int .i64 R.am):=HD.out.cell 2
    clear h4 hr
    rw [HXS.out]
    go_wp2_with fail
    go_roundw
    case rel=>exact ⟨k+1,by go_num,hlt,by rw [HN4.out],HX4⟩
    case measure=>simp [intOf];omega
   obtain rfl:k=n:=by omega
   have i0:¬ (k:Int) < (k:Int):=by omega
   go_wp2_with fail
   go_ret
   exact ⟨by rw [HT.out,HLEN.out];rfl,HX1.out.trans HX.out⟩
section
variable {o:Oper} {a:Act} {w:World} {K:Act→World→Prop} {Q:Exit→Act→World→Prop}
theorem aFp {ty:TypeId} {i1 i2 i3 i4 i5:Nat} (x1 x2 x3 x4 x5:Operand) (ho:o.op=.build ty #[(i1,x1),(i2,x2),(i3,x3),(i4,x4),(i5,x5)]) {v1 v2 v3 v4 v5 v:Value} (h1:a.eval x1=v1) (h2:a.eval x2=v2) (h3:a.eval x3=v3) (h4:a.eval x4=v4) (h5:a.eval x5=v5)
  (hr:(Instr.build ty #[(i1,v1),(i2,v2),(i3,v3),(i4,v4),(i5,v5)]).run Tryz.prog w=.ok v w) (h:K (a.put o.dst v) w):o.wp Tryz.prog a w K Q:=by
 unfold Oper.wp execOp
 simp only [ho,List.map_toArray,List.map_cons,List.map_nil,h1,h2,h3,h4,h5,Sem.run_bind,hr,Result.andThen_ok,Sem.run_pure]
 exact h
end
theorem aFJ (d:LkR) (w:World):(Instr.build 94 #[(0,.agg (nmc d.nm)),(1,.agg (nmc d.hs)),(2,.int .i64 d.ow),(3,.int .i64 d.tO),(4,.int .i64 d.ul)]).run Tryz.prog w=.ok (.agg (lkA d)) w:=by
 rw [← fJ d.nm,← fJ d.hs];kernel_rfl
def aNg (w:World) (base:Nat) (V:StV) (e:Ending) (w':World):Prop:=∃ s,e=.returned (.agg (ssA s))∧OwnS w' base s∧s.V=V∧Ext w w'
theorem wO (s0:StR) (ac sq:Int) (A:Option Addr) (n c:Nat) (L:List OpR) (i:Nat) (base:Nat) (w:World) (h:OwnS w base s0) (hbs:base≤w.heap.size) (hS:SlO w A n c L) (hi:i < n) (hv:vTx ac sq L=true) (hn:s0.n1≤900000∧s0.n2≤1000000∧s0.n3≤1000000∧s0.n4≤1000000) :
  Calls Tryz.prog 53 #[.agg (ssA s0),.agg (txA ac sq A n c),.int .i64 (i:Int)] w (aNg w base (kN ac sq L s0.V i)):=by
 have HOW:=zh h
 have HBS:=zh hbs
 have HN9:=zh hn
 have HN:=zh (show s0.n1≤1000000∧s0.n2≤1000000∧s0.n3≤1000000∧s0.n4≤1000000 from ⟨by omega,hn.2⟩)
 obtain ⟨⟨q1,q2,q3,q4,q5,q6⟩,hop⟩:=eW hv
 have hLEN:=hS.len
 have hle:=hS.le
 have hcap:=hS.cap
 obtain ⟨hkk,hto,ham,hva,hul,-,hvb,-,-⟩:=oH (hop i (by omega))
 have hac:wfI ac:=wfS ⟨by omega,by omega⟩
 have HS:=zh hS
 obtain ⟨W,hW⟩:∃ W,((w.alloc (.cells (ssA s0) 44)).alloc (.cells (txA ac sq A n c) 24)).alloc (.cells #[.slice none 0 0,.slice none 0 0,.slice none 0 0,.slice none 0 0,.int .i64 0] 44)=W:=⟨_,rfl⟩
 have HB0:=zh (show Blk W w.heap.size 44 (ssA s0) from by rw [← hW];exact ((Blk.new w 44 (ssA s0)).alloc _).alloc _)
 have HT0:=zh (show Blk W (w.heap.size+1) 24 (txA ac sq A n c) from by rw [← hW];exact Blk.alloc (Blk.newAt _ _ _ _ (by simp)) _)
 have HR0:=zh (show Blk W (w.heap.size+2) 44 (ssA ss0) from by rw [← hW];exact Blk.newAt _ _ _ _ (by simp))
 have HE:=zh (show Ext w W from by rw [← hW];exact (((Ext.refl w).alloc' _).alloc' _).alloc' _)
 have HX9:W.heap.size=w.heap.size+3:=by rw [← hW];simp
 obtain ⟨b,o,hA,hrow,-⟩:=(HS.out.ext HE.out).g.at (by omega)
 subst hA
 have t0:=HT0.out.cell 0
 have t1:=HT0.out.cell 1
 have t2:=HT0.out.cell 2
 obtain ⟨R,hR⟩:∃ R,bI L i=R:=⟨_,rfl⟩
 rw [hR] at hkk hto ham hva hul hvb
 have HK:=zh hR
 have hr:W.rangeAt b (o+i * 23) (RowT.enc R):=by rw [← hR,vH];exact cO hrow (by omega)
 have HLW:=zh (show lkW (⟨dG ac sq L (i:Int),R.hs,ac,R.tO,R.ul⟩:LkR) from ⟨hac,hto,hul⟩)
 obtain ⟨B,hB⟩:∃ B:Int,IntKind.i64.wrap (2 ^ R.va.toNat)=B:=⟨_,rfl⟩
 have HBB:=zh hB
 have HW2:=zh (show B=(2:Int) ^ R.va.toNat from by rw [← hB];exact fR (aAw (by omega)))
 have HVW:=zh (show wfI B from by rw [HW2.out];exact fY.2 (aAw (by omega)))
 clear hB
 have i0:(0:Int)≤(i:Int):=by omega
 have i1:(i:Int) < (n:Int):=by omega
 have v0:(0:Int)≤R.va:=hvb.1
 have v1:R.va≤64:=by omega
 obtain ⟨v,hv⟩:∃ v,Value.agg (opA R)=v:=⟨_,rfl⟩
 have HV:=zh hv
 obtain ⟨X,hX⟩:∃ X,W.heap.size=X:=⟨_,rfl⟩
 have HXS:=zh hX
 have HX0:=zh (show X=w.heap.size+3 from by omega)
 clear hrow hR hv hX hop hLEN hS ham hul hva hto hac hvb q1 q2 q3 q4 q5 q6 HX9 h hn hbs
 rcases (by omega:R.k=1 ∨ R.k=2 ∨ R.k=3 ∨ R.k=4 ∨ R.k=5 ∨ R.k=6) with hk | hk | hk | hk | hk | hk
 ·have HSP := zh (show kN ac sq L s0.V i = s0.V from by unfold kN; rw [HK.out, hk]; rfl)
  have b1:(R.k == 1)=true:=by rw [hk];rfl
  have d1:decide (R.k=1)=true:=by rw [hk];rfl
  have b2:(R.k == 2)=false:=by rw [hk];rfl
  have d2:decide (R.k=2)=false:=by rw [hk];rfl
  have b3:(R.k == 3)=false:=by rw [hk];rfl
  have d3:decide (R.k=3)=false:=by rw [hk];rfl
  have b4:(R.k == 4)=false:=by rw [hk];rfl
  have d4:decide (R.k=4)=false:=by rw [hk];rfl
  have b5:(R.k == 5)=false:=by rw [hk];rfl
  have d5:decide (R.k=5)=false:=by rw [hk];rfl
  have b6:(R.k == 6)=false:=by rw [hk];rfl
  have d6:decide (R.k=6)=false:=by rw [hk];rfl
  clear hk
  go_enter Tryz.func53,Tryz.ntmps53
  go_upto_region 2 with (first | (with_reducible refine aB opP rfl (.tmp 11) rfl b (o+i * 23) rfl R v HV.out hr ?_) | ((with_reducible refine aS opP rfl (.tmp 7) (.tmp 12) rfl jW rfl R v HV.out rfl rfl ?_);intro W4 h4))
  have HX4:=zh (show Ext W W4 from by rw [← h4.out];exact (Ext.refl W).alloc' _)
  have HD:=zh (show Blk W4 X 69 (opA R) from by rw [← h4.out,← HXS.out];exact Blk.new W 69 (opA R))
  have HB:=zh (HB0.out.ext HX4.out)
  have HTX:=zh (HT0.out.ext HX4.out)
  have HR:=zh (HR0.out.ext HX4.out)
  have HEX:=zh (HE.out.trans HX4.out)
  have k0:W4.cell? ⟨X,0,none⟩=some (.int .i64 R.k):=HD.out.cell 0
  clear h4 hr t0 t1 t2 hW
  rw [HXS.out]
  obtain ⟨q0,q1,q2,q3,q4⟩:=aE HB.out
  go_wp2_with (first | ((with_reducible refine aN rfl (.tmp 6) (.tmp 45) rfl (w.heap.size+2) s0 rfl rfl HR.out ?_);intro W9 h9))
  have hst:Blk W9 (w.heap.size+2) 44 (ssA s0):=by rw [← h9.out];exact aQ (ds:=ssA s0) HR.out rfl
  have HXE:=zh (show Ext w W9 from by rw [← h9.out];exact Below.setCells' HEX.out (by omega) _ _)
  clear h9
  exact bodyPost_ret (v:=.agg (ssA s0)) (gM rfl _ _ (w.heap.size+2) _ rfl (run_loadVar_row _ _ _ _ _ (0,0) _ hst Tryz.underlying44 rfl (by kernel_rfl))) rfl ⟨s0,rfl,HOW.out.ext HXE.out,by rw [HSP.out],HXE.out⟩
 ·have HSP := zh (show kN ac sq L s0.V i = ⟨s0.C, s0.Q, lZ s0.K (⟨(dG ac sq L (i : Int)), R.hs, ac, R.tO, R.ul⟩ : LkR), s0.P, s0.G⟩ from by unfold kN; rw [HK.out, hk]; rfl)
  have b1:(R.k == 1)=false:=by rw [hk];rfl
  have d1:decide (R.k=1)=false:=by rw [hk];rfl
  have b2:(R.k == 2)=true:=by rw [hk];rfl
  have d2:decide (R.k=2)=true:=by rw [hk];rfl
  have b3:(R.k == 3)=false:=by rw [hk];rfl
  have d3:decide (R.k=3)=false:=by rw [hk];rfl
  have b4:(R.k == 4)=false:=by rw [hk];rfl
  have d4:decide (R.k=4)=false:=by rw [hk];rfl
  have b5:(R.k == 5)=false:=by rw [hk];rfl
  have d5:decide (R.k=5)=false:=by rw [hk];rfl
  have b6:(R.k == 6)=false:=by rw [hk];rfl
  have d6:decide (R.k=6)=false:=by rw [hk];rfl
  clear hk
  go_enter Tryz.func53,Tryz.ntmps53
  go_upto_region 2 with (first | (with_reducible refine aB opP rfl (.tmp 11) rfl b (o+i * 23) rfl R v HV.out hr ?_) | ((with_reducible refine aS opP rfl (.tmp 7) (.tmp 12) rfl jW rfl R v HV.out rfl rfl ?_);intro W4 h4))
  have HX4:=zh (show Ext W W4 from by rw [← h4.out];exact (Ext.refl W).alloc' _)
  have HD:=zh (show Blk W4 X 69 (opA R) from by rw [← h4.out,← HXS.out];exact Blk.new W 69 (opA R))
  have HB:=zh (HB0.out.ext HX4.out)
  have HTX:=zh (HT0.out.ext HX4.out)
  have HR:=zh (HR0.out.ext HX4.out)
  have HEX:=zh (HE.out.trans HX4.out)
  have k0:W4.cell? ⟨X,0,none⟩=some (.int .i64 R.k):=HD.out.cell 0
  clear h4 hr t0 t1 t2 hW
  rw [HXS.out]
  go_upto_region 4 with (fail)
  refine wp_region_held_drew (S:=fun V=>Blk V w.heap.size 44 (ssA s0)∧Blk V (w.heap.size+1) 24 (txA ac sq (some ⟨b,o,none⟩) n c)∧Blk V X 69 (opA R)∧(∃ z,Blk V (w.heap.size+2) 44 (ssA z))∧Ext w V) (by kernel_rfl) (⟨HB.out.drew,HTX.out.drew,HD.out.drew,⟨_,HR.out.drew⟩,HEX.out.trans ((Ext.refl _).drew')⟩) (fun aA=>?_)
  refine zz0 [0,1,2,4] ?_;repeat first | refine zz1 ?_ (hy:=by intro W aL;obtain ⟨q0,q1,q2,q3,q4⟩:=aE aL.1;have t0:=aL.2.1.cell 0;have t1:=aL.2.1.cell 1;have t2:=aL.2.1.cell 2;have p0:=aL.2.2.1.cell 0;have p1:=aL.2.2.1.cell 1;have p2:=aL.2.2.1.cell 2;have p3:=aL.2.2.1.cell 3;have p4:=aL.2.2.1.cell 4;go_simp <;> with_reducible rfl) | refine zz2 ?_ | refine zz9 ?_
  refine zu 5 (v:=.agg (nmc R.hs)) aA ?_ (hy:=by exact aF nmP (by rfl) (.tmp 21) rfl X 13 rfl R.hs _ rfl (fun V h=>aLd h.2.2.1))
  refine zz0 [6,7,8,9,10,11] ?_;repeat first | refine zz1 ?_ (hy:=by intro W aL;obtain ⟨q0,q1,q2,q3,q4⟩:=aE aL.1;have t0:=aL.2.1.cell 0;have t1:=aL.2.1.cell 1;have t2:=aL.2.1.cell 2;have p0:=aL.2.2.1.cell 0;have p1:=aL.2.2.1.cell 1;have p2:=aL.2.2.1.cell 2;have p3:=aL.2.2.1.cell 3;have p4:=aL.2.2.1.cell 4;go_simp <;> with_reducible rfl) | refine zz2 ?_ | refine zz9 ?_
  refine zzj (VE 3 (.agg (nmc (dG ac sq L (i:Int)))) (VE 12 (.agg (lkA (⟨(dG ac sq L (i:Int)),R.hs,ac,R.tO,R.ul⟩:LkR))) (VV 13 (fun v V=>∃ s2,v=.agg (ssA s2)∧OwnS V w.heap.size s2∧s2.V=⟨s0.C,s0.Q,lZ s0.K (⟨(dG ac sq L (i:Int)),R.hs,ac,R.tO,R.ul⟩:LkR),s0.P,s0.G⟩) VN))) [(3,some 20),(12,some 29),(13,some 30)] 1 (fun V V' h e=>⟨h.1.ext e,h.2.1.ext e,h.2.2.1.ext e,(by obtain ⟨z,hz⟩:=h.2.2.2.1;exact ⟨z,hz.ext e⟩),h.2.2.2.2.trans e⟩) (ve (ve (VV.ext (fun v w w' ⟨s2,h1,h2,h3⟩ e=>⟨s2,h1,h2.ext e,h3⟩) VN.ext))) (zzc ?_ (zzc ?_ (zzc ?_ zzn))) ?_
  ·refine zzp fun W hE hS K hK => ?_
   go_simp
   go_at_call 84
   refine (qC ac sq (some ⟨b,o,none⟩) n c L (i:Int) _ (HS.out.ext hS.2.2.2.2)).mono ?_
   rintro e w5 ⟨rfl,he5⟩
   exact zzK (hK.out (.agg (nmc (dG ac sq L (i:Int)))) _ (he5) (rfl))
  ·refine zm [(3, some 20)] fun env W hE hS hD K hK => ?_
   obtain ⟨h3,-⟩:=zzV hD
   clear hD
   simp only [aV,h3] at hK ⊢
   clear h3
   refine aFp (.tmp 20) (.tmp 22) (.tmp 24) (.tmp 26) (.tmp 28) rfl (v1:=.agg (nmc (dG ac sq L (i:Int)))) (v2:=.agg (nmc R.hs)) (v3:=.int .i64 ac) (v4:=.int .i64 R.tO) (v5:=.int .i64 R.ul) rfl rfl rfl rfl rfl (aFJ (⟨(dG ac sq L (i:Int)),R.hs,ac,R.tO,R.ul⟩:LkR) _) ?_
   exact zzF hK (.agg (lkA (⟨(dG ac sq L (i:Int)),R.hs,ac,R.tO,R.ul⟩:LkR)))
  ·refine zm [(12, some 29)] fun env W hE hS hD K hK => ?_
   obtain ⟨h12,-⟩:=zzV hD
   clear hD
   simp only [aV,h12] at hK ⊢
   clear h12
   go_simp
   go_at_call 99
   refine (aDA s0 (⟨(dG ac sq L (i:Int)),R.hs,ac,R.tO,R.ul⟩:LkR) _ (HOW.out.ok.ext hS.2.2.2.2) HLW.out HN.out).mono ?_
   rintro e w5 ⟨s2,rfl,ho2,hv2,he5⟩
   exact zzK (hK.out (.agg (ssA s2)) _ (he5) (⟨s2,rfl,bS ho2 hS.2.2.2.2.size,hv2⟩))
  intro env W hE hS hV
  obtain ⟨h3,h12,h13,-⟩:=zzV hV
  clear hV
  simp only [aV,h3,h12]
  clear h3
  clear h12
  generalize env 13=x13 at h13 ⊢
  obtain ⟨s2,rfl,ho2,hv2⟩:=h13
  have aA:=hS
  refine za 14 (fun K hK=>?_)
  (obtain ⟨z6,hz6⟩:=aA.2.2.2.1;refine bY rfl (.tmp 6) (.tmp 30) (by rfl) (w.heap.size+2) (.agg (ssA s2)) s2 rfl (by rfl) (by rfl) hz6 ?_;intro W6 h6)
  refine hK.out _ _ (⟨aA.1.grown (by rw [← h6.out.1];exact aD _ _ _ _) (fun e=>by injection e;omega),aA.2.1.grown (by rw [← h6.out.1];exact aD _ _ _ _) (fun e=>by injection e;omega),aA.2.2.1.grown (by rw [← h6.out.1];exact aD _ _ _ _) (fun e=>by injection e;have:=HX0.out;omega),⟨_,h6.out.2⟩,by rw [← h6.out.1];exact Below.setCells' aA.2.2.2.2 (by omega) _ _⟩) (fun aA=>?_)
  clear hK K
  try simp only [aX]
  refine wpAnyH_done (by kernel_rfl) ?_ _
  have HOW2:=zh (show OwnS W6 base s2 from by
   rw [← h6.out.1]
   exact (ho2.kept (aD _ _ _ _) hz6 (by decide) (by decide) (by decide) (by decide)).mono HBS.out)
  have HV2:=zh hv2
  have HXE:=zh aA.2.2.2.2
  have hst:=h6.out.2
  clear h6 ho2 hv2 hE hS aA hz6
  go_wp2_with fail
  exact bodyPost_ret (v:=.agg (ssA s2)) (gM rfl _ _ (w.heap.size+2) _ rfl (run_loadVar_row _ _ _ _ _ (0,0) _ hst Tryz.underlying44 rfl (by kernel_rfl))) rfl ⟨s2,rfl,HOW2.out,by rw [HSP.out,HV2.out],HXE.out⟩
 ·have HSP := zh (show kN ac sq L s0.V i = ⟨s0.C, s0.Q, gF R.lk s0.K, s0.P, s0.G⟩ from by unfold kN; rw [HK.out, hk]; rfl)
  have b1:(R.k == 1)=false:=by rw [hk];rfl
  have d1:decide (R.k=1)=false:=by rw [hk];rfl
  have b2:(R.k == 2)=false:=by rw [hk];rfl
  have d2:decide (R.k=2)=false:=by rw [hk];rfl
  have b3:(R.k == 3)=true:=by rw [hk];rfl
  have d3:decide (R.k=3)=true:=by rw [hk];rfl
  have b4:(R.k == 4)=false:=by rw [hk];rfl
  have d4:decide (R.k=4)=false:=by rw [hk];rfl
  have b5:(R.k == 5)=false:=by rw [hk];rfl
  have d5:decide (R.k=5)=false:=by rw [hk];rfl
  have b6:(R.k == 6)=false:=by rw [hk];rfl
  have d6:decide (R.k=6)=false:=by rw [hk];rfl
  clear hk
  go_enter Tryz.func53,Tryz.ntmps53
  go_upto_region 2 with (first | (with_reducible refine aB opP rfl (.tmp 11) rfl b (o+i * 23) rfl R v HV.out hr ?_) | ((with_reducible refine aS opP rfl (.tmp 7) (.tmp 12) rfl jW rfl R v HV.out rfl rfl ?_);intro W4 h4))
  have HX4:=zh (show Ext W W4 from by rw [← h4.out];exact (Ext.refl W).alloc' _)
  have HD:=zh (show Blk W4 X 69 (opA R) from by rw [← h4.out,← HXS.out];exact Blk.new W 69 (opA R))
  have HB:=zh (HB0.out.ext HX4.out)
  have HTX:=zh (HT0.out.ext HX4.out)
  have HR:=zh (HR0.out.ext HX4.out)
  have HEX:=zh (HE.out.trans HX4.out)
  have k0:W4.cell? ⟨X,0,none⟩=some (.int .i64 R.k):=HD.out.cell 0
  clear h4 hr t0 t1 t2 hW
  rw [HXS.out]
  obtain ⟨q0,q1,q2,q3,q4⟩:=aE HB.out
  have r5:W4.rangeAt X 5 (RowT.enc R.lk):=rF HD.out
  go_wp2_with (first | (with_reducible refine aB nmP rfl (.tmp 35) rfl X 5 rfl R.lk _ rfl r5 ?_) | fail "A")
  refine (rX s0 R.lk W4 (HOW.out.ok.ext HEX.out) HN.out).mono ?_
  rintro e w5 ⟨s2,rfl,ho2,hv2,he5⟩
  have HO2:=zh ho2
  have HV2:=zh hv2
  have HX5:=zh he5
  have HR5:=zh (HR.out.ext he5)
  clear ho2 hv2 he5 r5
  go_wp2_with ((with_reducible refine aN rfl (.tmp 6) (.tmp 37) rfl (w.heap.size+2) s2 rfl rfl HR5.out ?_);intro W9 h9)
  have hst:Blk W9 (w.heap.size+2) 44 (ssA s2):=by rw [← h9.out];exact aQ (ds:=ssA s2) HR5.out rfl
  have HOW2:=zh (show OwnS W9 base s2 from by
   rw [← h9.out]
   exact (HO2.out.kept (aD _ _ _ _) HR5.out (by decide) (by decide) (by decide) (by decide)).mono (Nat.le_trans HBS.out HEX.out.size))
  have HXE:=zh (show Ext w W9 from by rw [← h9.out];exact Below.setCells' (HEX.out.trans HX5.out) (by omega) _ _)
  clear h9
  exact bodyPost_ret (v:=.agg (ssA s2)) (gM rfl _ _ (w.heap.size+2) _ rfl (run_loadVar_row _ _ _ _ _ (0,0) _ hst Tryz.underlying44 rfl (by kernel_rfl))) rfl ⟨s2,rfl,HOW2.out,by rw [HSP.out,HV2.out],HXE.out⟩
 ·have HSP := zh (show kN ac sq L s0.V i = ⟨s0.C, s0.Q, gF R.lk s0.K, s0.P, s0.G⟩ from by unfold kN; rw [HK.out, hk]; rfl)
  have b1:(R.k == 1)=false:=by rw [hk];rfl
  have d1:decide (R.k=1)=false:=by rw [hk];rfl
  have b2:(R.k == 2)=false:=by rw [hk];rfl
  have d2:decide (R.k=2)=false:=by rw [hk];rfl
  have b3:(R.k == 3)=false:=by rw [hk];rfl
  have d3:decide (R.k=3)=false:=by rw [hk];rfl
  have b4:(R.k == 4)=true:=by rw [hk];rfl
  have d4:decide (R.k=4)=true:=by rw [hk];rfl
  have b5:(R.k == 5)=false:=by rw [hk];rfl
  have d5:decide (R.k=5)=false:=by rw [hk];rfl
  have b6:(R.k == 6)=false:=by rw [hk];rfl
  have d6:decide (R.k=6)=false:=by rw [hk];rfl
  clear hk
  go_enter Tryz.func53,Tryz.ntmps53
  go_upto_region 2 with (first | (with_reducible refine aB opP rfl (.tmp 11) rfl b (o+i * 23) rfl R v HV.out hr ?_) | ((with_reducible refine aS opP rfl (.tmp 7) (.tmp 12) rfl jW rfl R v HV.out rfl rfl ?_);intro W4 h4))
  have HX4:=zh (show Ext W W4 from by rw [← h4.out];exact (Ext.refl W).alloc' _)
  have HD:=zh (show Blk W4 X 69 (opA R) from by rw [← h4.out,← HXS.out];exact Blk.new W 69 (opA R))
  have HB:=zh (HB0.out.ext HX4.out)
  have HTX:=zh (HT0.out.ext HX4.out)
  have HR:=zh (HR0.out.ext HX4.out)
  have HEX:=zh (HE.out.trans HX4.out)
  have k0:W4.cell? ⟨X,0,none⟩=some (.int .i64 R.k):=HD.out.cell 0
  clear h4 hr t0 t1 t2 hW
  rw [HXS.out]
  obtain ⟨q0,q1,q2,q3,q4⟩:=aE HB.out
  have r5:W4.rangeAt X 5 (RowT.enc R.lk):=rF HD.out
  go_wp2_with (first | (with_reducible refine aB nmP rfl (.tmp 35) rfl X 5 rfl R.lk _ rfl r5 ?_) | fail "A")
  refine (rX s0 R.lk W4 (HOW.out.ok.ext HEX.out) HN.out).mono ?_
  rintro e w5 ⟨s2,rfl,ho2,hv2,he5⟩
  have HO2:=zh ho2
  have HV2:=zh hv2
  have HX5:=zh he5
  have HR5:=zh (HR.out.ext he5)
  clear ho2 hv2 he5 r5
  go_wp2_with ((with_reducible refine aN rfl (.tmp 6) (.tmp 37) rfl (w.heap.size+2) s2 rfl rfl HR5.out ?_);intro W9 h9)
  have hst:Blk W9 (w.heap.size+2) 44 (ssA s2):=by rw [← h9.out];exact aQ (ds:=ssA s2) HR5.out rfl
  have HOW2:=zh (show OwnS W9 base s2 from by
   rw [← h9.out]
   exact (HO2.out.kept (aD _ _ _ _) HR5.out (by decide) (by decide) (by decide) (by decide)).mono (Nat.le_trans HBS.out HEX.out.size))
  have HXE:=zh (show Ext w W9 from by rw [← h9.out];exact Below.setCells' (HEX.out.trans HX5.out) (by omega) _ _)
  clear h9
  exact bodyPost_ret (v:=.agg (ssA s2)) (gM rfl _ _ (w.heap.size+2) _ rfl (run_loadVar_row _ _ _ _ _ (0,0) _ hst Tryz.underlying44 rfl (by kernel_rfl))) rfl ⟨s2,rfl,HOW2.out,by rw [HSP.out,HV2.out],HXE.out⟩
 ·have HSP := zh (show kN ac sq L s0.V i = s0.V from by unfold kN; rw [HK.out, hk]; rfl)
  have b1:(R.k == 1)=false:=by rw [hk];rfl
  have d1:decide (R.k=1)=false:=by rw [hk];rfl
  have b2:(R.k == 2)=false:=by rw [hk];rfl
  have d2:decide (R.k=2)=false:=by rw [hk];rfl
  have b3:(R.k == 3)=false:=by rw [hk];rfl
  have d3:decide (R.k=3)=false:=by rw [hk];rfl
  have b4:(R.k == 4)=false:=by rw [hk];rfl
  have d4:decide (R.k=4)=false:=by rw [hk];rfl
  have b5:(R.k == 5)=true:=by rw [hk];rfl
  have d5:decide (R.k=5)=true:=by rw [hk];rfl
  have b6:(R.k == 6)=false:=by rw [hk];rfl
  have d6:decide (R.k=6)=false:=by rw [hk];rfl
  clear hk
  go_enter Tryz.func53,Tryz.ntmps53
  go_upto_region 2 with (first | (with_reducible refine aB opP rfl (.tmp 11) rfl b (o+i * 23) rfl R v HV.out hr ?_) | ((with_reducible refine aS opP rfl (.tmp 7) (.tmp 12) rfl jW rfl R v HV.out rfl rfl ?_);intro W4 h4))
  have HX4:=zh (show Ext W W4 from by rw [← h4.out];exact (Ext.refl W).alloc' _)
  have HD:=zh (show Blk W4 X 69 (opA R) from by rw [← h4.out,← HXS.out];exact Blk.new W 69 (opA R))
  have HB:=zh (HB0.out.ext HX4.out)
  have HTX:=zh (HT0.out.ext HX4.out)
  have HR:=zh (HR0.out.ext HX4.out)
  have HEX:=zh (HE.out.trans HX4.out)
  have k0:W4.cell? ⟨X,0,none⟩=some (.int .i64 R.k):=HD.out.cell 0
  clear h4 hr t0 t1 t2 hW
  rw [HXS.out]
  obtain ⟨q0,q1,q2,q3,q4⟩:=aE HB.out
  go_wp2_with (first | ((with_reducible refine aN rfl (.tmp 6) (.tmp 45) rfl (w.heap.size+2) s0 rfl rfl HR.out ?_);intro W9 h9))
  have hst:Blk W9 (w.heap.size+2) 44 (ssA s0):=by rw [← h9.out];exact aQ (ds:=ssA s0) HR.out rfl
  have HXE:=zh (show Ext w W9 from by rw [← h9.out];exact Below.setCells' HEX.out (by omega) _ _)
  clear h9
  exact bodyPost_ret (v:=.agg (ssA s0)) (gM rfl _ _ (w.heap.size+2) _ rfl (run_loadVar_row _ _ _ _ _ (0,0) _ hst Tryz.underlying44 rfl (by kernel_rfl))) rfl ⟨s0,rfl,HOW.out.ext HXE.out,by rw [HSP.out],HXE.out⟩
 have HSP:=zh (show kN ac sq L s0.V i=xV (2 ^ R.va.toNat) s0.V from by unfold kN;rw [HK.out,hk];rfl)
 have b1:(R.k == 1)=false:=by rw [hk];rfl
 have d1:decide (R.k=1)=false:=by rw [hk];rfl
 have b2:(R.k == 2)=false:=by rw [hk];rfl
 have d2:decide (R.k=2)=false:=by rw [hk];rfl
 have b3:(R.k == 3)=false:=by rw [hk];rfl
 have d3:decide (R.k=3)=false:=by rw [hk];rfl
 have b4:(R.k == 4)=false:=by rw [hk];rfl
 have d4:decide (R.k=4)=false:=by rw [hk];rfl
 have b5:(R.k == 5)=false:=by rw [hk];rfl
 have d5:decide (R.k=5)=false:=by rw [hk];rfl
 have b6:(R.k == 6)=true:=by rw [hk];rfl
 have d6:decide (R.k=6)=true:=by rw [hk];rfl
 clear hk
 go_enter Tryz.func53,Tryz.ntmps53
 go_upto_region 2 with (first | (with_reducible refine aB opP rfl (.tmp 11) rfl b (o+i * 23) rfl R v HV.out hr ?_) | ((with_reducible refine aS opP rfl (.tmp 7) (.tmp 12) rfl jW rfl R v HV.out rfl rfl ?_);intro W4 h4))
 have HX4:=zh (show Ext W W4 from by rw [← h4.out];exact (Ext.refl W).alloc' _)
 have HD:=zh (show Blk W4 X 69 (opA R) from by rw [← h4.out,← HXS.out];exact Blk.new W 69 (opA R))
 have HB:=zh (HB0.out.ext HX4.out)
 have HTX:=zh (HT0.out.ext HX4.out)
 have HR:=zh (HR0.out.ext HX4.out)
 have HEX:=zh (HE.out.trans HX4.out)
 have k0:W4.cell? ⟨X,0,none⟩=some (.int .i64 R.k):=HD.out.cell 0
 clear h4 hr t0 t1 t2 hW
 rw [HXS.out]
 go_upto_region 9 with (fail)
 refine wp_region_held_drew (S:=fun V=>Blk V w.heap.size 44 (ssA s0)∧Blk V (w.heap.size+1) 24 (txA ac sq (some ⟨b,o,none⟩) n c)∧Blk V X 69 (opA R)∧(∃ z,Blk V (w.heap.size+2) 44 (ssA z))∧Ext w V) (by kernel_rfl) (⟨HB.out.drew,HTX.out.drew,HD.out.drew,⟨_,HR.out.drew⟩,HEX.out.trans ((Ext.refl _).drew')⟩) (fun aA=>?_)
 refine zz0 [0,1,2] ?_;repeat first | refine zz1 ?_ (hy:=by intro W aL;obtain ⟨q0,q1,q2,q3,q4⟩:=aE aL.1;have t0:=aL.2.1.cell 0;have t1:=aL.2.1.cell 1;have t2:=aL.2.1.cell 2;have p0:=aL.2.2.1.cell 0;have p1:=aL.2.2.1.cell 1;have p2:=aL.2.2.1.cell 2;have p3:=aL.2.2.1.cell 3;have p4:=aL.2.2.1.cell 4;go_simp <;> with_reducible rfl) | refine zz2 ?_ | refine zz9 ?_
 refine zu 3 (v:=.int .i64 B) aA ?_ (hy:=by refine .inl ⟨by rfl,fun V _=>?_⟩;rw [← HBB.out];go_simp;try rfl)
 refine zzj (VV 4 (fun v V=>∃ s2,v=.agg (ssA s2)∧OwnS V w.heap.size s2∧s2.V=xV B s0.V) VN) [(4,some 44)] 1 (fun V V' h e=>⟨h.1.ext e,h.2.1.ext e,h.2.2.1.ext e,(by obtain ⟨z,hz⟩:=h.2.2.2.1;exact ⟨z,hz.ext e⟩),h.2.2.2.2.trans e⟩) (VV.ext (fun v w w' ⟨s2,h1,h2,h3⟩ e=>⟨s2,h1,h2.ext e,h3⟩) VN.ext) (zzc ?_ zzn) ?_
 ·refine zzp fun W hE hS K hK => ?_
  go_simp
  go_at_call 43
  refine (yY s0 B _ (HOW.out.ok.ext hS.2.2.2.2) HVW.out HN9.out).mono ?_
  rintro e w5 ⟨s2,rfl,ho2,hv2,he5⟩
  exact zzK (hK.out (.agg (ssA s2)) _ (he5) (⟨s2,rfl,bS ho2 hS.2.2.2.2.size,hv2⟩))
 intro env W hE hS hV
 obtain ⟨h4,-⟩:=zzV hV
 clear hV
 simp only [aV]
 generalize env 4=x4 at h4 ⊢
 obtain ⟨s2,rfl,ho2,hv2⟩:=h4
 have aA:=hS
 refine za 5 (fun K hK=>?_)
 (obtain ⟨z6,hz6⟩:=aA.2.2.2.1;refine bY rfl (.tmp 6) (.tmp 44) (by rfl) (w.heap.size+2) (.agg (ssA s2)) s2 rfl (by rfl) (by rfl) hz6 ?_;intro W6 h6)
 refine hK.out _ _ (⟨aA.1.grown (by rw [← h6.out.1];exact aD _ _ _ _) (fun e=>by injection e;omega),aA.2.1.grown (by rw [← h6.out.1];exact aD _ _ _ _) (fun e=>by injection e;omega),aA.2.2.1.grown (by rw [← h6.out.1];exact aD _ _ _ _) (fun e=>by injection e;have:=HX0.out;omega),⟨_,h6.out.2⟩,by rw [← h6.out.1];exact Below.setCells' aA.2.2.2.2 (by omega) _ _⟩) (fun aA=>?_)
 clear hK K
 try simp only [aX]
 refine wpAnyH_done (by kernel_rfl) ?_ _
 have HOW2:=zh (show OwnS W6 base s2 from by
  rw [← h6.out.1]
  exact (ho2.kept (aD _ _ _ _) hz6 (by decide) (by decide) (by decide) (by decide)).mono HBS.out)
 have HV2:=zh hv2
 have HXE:=zh aA.2.2.2.2
 have hst:=h6.out.2
 clear h6 ho2 hv2 hE hS aA hz6
 go_wp2_with fail
 exact bodyPost_ret (v:=.agg (ssA s2)) (gM rfl _ _ (w.heap.size+2) _ rfl (run_loadVar_row _ _ _ _ _ (0,0) _ hst Tryz.underlying44 rfl (by kernel_rfl))) rfl ⟨s2,rfl,HOW2.out,by rw [HSP.out,HV2.out,HW2.out],HXE.out⟩
end
end Go.Proofs.YtohmmcahpakokaaGreat
