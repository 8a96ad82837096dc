/- SignTx (the reference's), Verify of a transaction, both sides. -/
import Derived.Test.YtohmmcahpakokaaGreatJ28
import Derived.Test.YtohmmcahpakokaaGreatJ31
set_option maxRecDepth 100000
set_option maxHeartbeats 8000000
set_option linter.unusedVariables false
set_option linter.unusedSimpArgs false
namespace Go.Proofs.YtohmmcahpakokaaGreat
section
open Go.RowKit
attribute [local go_sem ↓] Go.wp_at_zero Go.wp_at_succ
theorem wL (seed:UInt64) (ac sq:Int) (A:Option Addr) (n c:Nat) (L:List OpR) (w:World) (hS:SlO w A n c L) :
  Calls Tryz.prog 41 #[.agg (nmc seed),.agg (txA ac sq A n c)] w (aLQ w seed ac sq L):=by
 have hE:=(((Ext.refl w).alloc' (.cells (nmc seed) 30)).alloc' (.cells (txA ac sq A n c) 24)).alloc' (.cells lR 47)
 obtain ⟨W0,hW0⟩:∃ W0,((w.alloc (.cells (nmc seed) 30)).alloc (.cells (txA ac sq A n c) 24)).alloc (.cells lR 47)=W0:=⟨_,rfl⟩
 have HB0:=zh (((Blk.new w 30 (nmc seed)).alloc (.cells (txA ac sq A n c) 24)).alloc (.cells lR 47))
 have HB1:=zh (show Blk (((w.alloc (.cells (nmc seed) 30)).alloc (.cells (txA ac sq A n c) 24)).alloc (.cells lR 47)) (w.heap.size+1) 24 (txA ac sq A n c) from (Blk.newAt _ _ _ _ (by simp)).alloc _)
 have HB2:=zh (show Blk (((w.alloc (.cells (nmc seed) 30)).alloc (.cells (txA ac sq A n c) 24)).alloc (.cells lR 47)) (w.heap.size+2) 47 lR from Blk.newAt _ _ _ _ (by simp))
 have HE:=zh hE
 have HS:=zh (hS.ext hE)
 rw [hW0] at HB0 HB1 HB2 HE HS
 have q0:W0.cell? ⟨w.heap.size+1,0,none⟩=some (.int .i64 ac):=HB1.out.cell 0
 have q1:W0.cell? ⟨w.heap.size+1,1,none⟩=some (.int .i64 sq):=HB1.out.cell 1
 have q2:W0.cell? ⟨w.heap.size+1,2,none⟩=some (.slice A n c):=HB1.out.cell 2
 have HV:=zh (gD ac sq A n c L _ HS.out)
 have hS0:=zh hS.len
 have HSW:=zh hS
 clear hS hE
 cases hv:vTx ac sq L with
 | false =>
  rw [hv] at HV
  have HV:=zh (show Calls Tryz.prog 46 #[.agg (txA ac sq A n c)] W0 (fun e w'=>e=.returned (.bool false)∧Ext W0 w') from HV.out)
  have HVV:=zh hv
  clear hv
  go_enter Tryz.func41,Tryz.ntmps41
  go_wp2_with fail
  refine HV.out.mono ?_
  rintro e w1 ⟨rfl,he1⟩
  have HB3:=zh (HB2.out.ext he1)
  have HE3:=zh (HE.out.trans he1)
  have htz:=aBe HB3.out
  clear he1 hW0 q0 q1 q2
  go_wp2_with (first | (with_reducible refine mD rfl (.tmp 4) (.tmp 11) rfl (w.heap.size+2) lR rfl rfl htz rfl (aEa _ _ _ _ _ _ _ _) ?_))
  exact bodyPost_ret (v:=.tuple #[.agg lR,.int .i64 1]) (xS rfl _ _ (w.heap.size+2) _ _ rfl rfl (run_loadVar_row _ _ _ _ _ (0,0) _ (aBf HB3.out lR rfl) Tryz.underlying47 rfl (by kernel_rfl))) rfl ⟨Below.setCells' HE3.out (by omega) _ _,.inl ⟨HVV.out,rfl⟩⟩
 | true =>
  rw [hv] at HV
  have HV:=zh (show Calls Tryz.prog 46 #[.agg (txA ac sq A n c)] W0 (fun e w'=>e=.returned (.bool true)∧Ext W0 w') from HV.out)
  have HVV:=zh hv
  clear hv
  go_enter Tryz.func41,Tryz.ntmps41
  go_wp2_with fail
  refine HV.out.mono ?_
  rintro e w1 ⟨rfl,he1⟩
  have HB0:=zh (HB0.out.ext he1)
  have HB1:=zh (HB1.out.ext he1)
  have HB2:=zh (HB2.out.ext he1)
  have HE:=zh (HE.out.trans he1)
  have HS:=zh (HS.out.ext he1)
  clear he1 hW0 q0 q1 q2 HV
  go_wp2_with fail
  have HSS:=zh (fun (W:World) (h:Ext w1 W)=>(⟨fK (HB0.out.ext h),(HB1.out.ext h).cell 0,(HB1.out.ext h).cell 1,(HB1.out.ext h).cell 2⟩:(∀ i,i < 8→W.cell? ⟨w.heap.size,i,none⟩=some (.int .u8 (nb8 seed i)))∧W.cell? ⟨w.heap.size+1,0,none⟩=some (.int .i64 ac)∧W.cell? ⟨w.heap.size+1,1,none⟩=some (.int .i64 sq)∧W.cell? ⟨w.heap.size+1,2,none⟩=some (.slice A n c)))
  have hX:=(Ext.refl w1).drew'
  have HNM:=zh (fun (W:World) (h:Ext w1 W)=>kJ ac sq A n c L W (HS.out.ext h))
  obtain ⟨hh,hops⟩:=eO HVV.out
  have HSG:=zh (fun (W:World)=>show Calls Tryz.prog 79 #[.agg (nmc seed),.int .i64 1,.int .i64 sq,.agg (nmc (bQ ac sq L))] W (SigOut W (some (wF seed sq.toNat (bQ ac sq L)))) from by rw [← aEb seed _ hh.2.2.1 hh.2.2.2.1];exact aBq seed _ 1 sq W)
  have HN4:=zh (show n≤4 by have:=hS0.out;omega)
  clear hh hops
  obtain ⟨sg,hsg⟩:∃ sg,wF seed sq.toNat (bQ ac sq L)=sg:=⟨_,rfl⟩
  rw [hsg] at HSG
  have HSGE:=zh hsg
  clear hsg
  obtain ⟨nm,hnm⟩:∃ nm,bQ ac sq L=nm:=⟨_,rfl⟩
  rw [hnm] at HNM HSG HSGE
  have HNE:=zh hnm
  clear hnm
  go_region_held3 (fun w'=>(∀ i,i < 8→w'.cell? ⟨w.heap.size,i,none⟩=some (.int .u8 (nb8 seed i)))∧w'.cell? ⟨w.heap.size+1,0,none⟩=some (.int .i64 ac)∧w'.cell? ⟨w.heap.size+1,1,none⟩=some (.int .i64 sq)∧w'.cell? ⟨w.heap.size+1,2,none⟩=some (.slice A n c)) (first | (with_reducible exact HSS.out _ hX) | fail "KEEP") (first | (go_at_call 35;(with_reducible refine (HNM.out _ hX).mono ?_);rintro e w2 ⟨rfl,he2⟩;have hX:=hX.trans he2) | (go_at_call 79;(with_reducible refine (HSG.out _).mono ?_);rintro e w3 ⟨A3,n3,c3,rfl,hs3,he3⟩;have hX:=hX.trans he3) | fail "ARM")
  have HX3:=zh hX
  have HS3:=zh (show SlB w3 A3 n3 c3 sg from hs3)
  obtain ⟨q0,q1,q2⟩:w3.cell? ⟨w.heap.size+1,0,none⟩=some (.int .i64 ac)∧w3.cell? ⟨w.heap.size+1,1,none⟩=some (.int .i64 sq)∧w3.cell? ⟨w.heap.size+1,2,none⟩=some (.slice A n c):=(HSS.out w3 hX).2
  have HB4:=zh (HB2.out.ext HX3.out)
  have htz:=aBe HB4.out
  clear hX hs3 he2 he3
  go_wp2_with (first | (with_reducible refine mD rfl (.tmp 4) (.tmp 23) rfl (w.heap.size+2) (stA ac sq A n c A3 n3 c3) rfl rfl htz rfl (aEa _ _ _ _ _ _ _ _) ?_))
  have HFIN:=zh (show (⟨ac,sq,A,n,c,A3,n3,c3,L,sg⟩:TxR).ok (w3.setCells (w.heap.size+2) 0 (stA ac sq A n c A3 n3 c3).toList) from by
   have g:=aC w3 (w.heap.size+2) (stA ac sq A n c A3 n3 c3).toList 0
   have hE:=Below.setCells' (HE.out.trans HX3.out) (show w.heap.size≤w.heap.size+2 by omega) (stA ac sq A n c A3 n3 c3).toList 0
   exact ⟨HSW.out.ext hE,HS3.out.grown g HB4.out⟩)
  have HVA:=zh (show (⟨ac,sq,A,n,c,A3,n3,c3,L,sg⟩:TxR).v=(ac,sq,L.map OpR.v,wF seed sq.toNat (bQ ac sq L)) from by unfold TxR.v;rw [HNE.out,HSGE.out])
  exact bodyPost_ret (v:=.tuple #[.agg (stA ac sq A n c A3 n3 c3),.int .i64 0]) (xS rfl _ _ (w.heap.size+2) _ _ rfl rfl (run_loadVar_row _ _ _ _ _ (0,0) _ (aBf HB4.out (stA ac sq A n c A3 n3 c3) rfl) Tryz.underlying47 rfl (by kernel_rfl))) rfl ⟨Below.setCells' (HE.out.trans HX3.out) (by omega) _ _,.inr ⟨HVV.out,⟨ac,sq,A,n,c,A3,n3,c3,L,sg⟩,rfl,HFIN.out,HVA.out⟩⟩
def vSg (pub:UInt64) (T:TxR):Bool:=vTx T.ac T.sq T.L && (mA pub 1 (bQ T.ac T.sq T.L) T.sig && decide ((bX T.sig 0 2:Int)=T.sq))
theorem aGg {pub m:UInt64} {l:List UInt8} (h:mA pub 1 m l=true):l.length=186:=by
 unfold mA at h
 rw [if_pos rfl] at h
 simp only [Bool.and_eq_true,decide_eq_true_eq] at h
 exact h.1
theorem yX (pub:UInt64) (T:TxR) (w:World) (hT:T.ok w):Calls Tryz.prog 89 #[.agg (nmc pub),.agg (tA T)] w fun e w'=>e=.returned (.bool (vSg pub T))∧Ext w w':=by
 have hE:=((Ext.refl w).alloc' (.cells (nmc pub) 30)).alloc' (.cells (tA T) 47)
 obtain ⟨W0,hW0⟩:∃ W0,(w.alloc (.cells (nmc pub) 30)).alloc (.cells (tA T) 47)=W0:=⟨_,rfl⟩
 have HB0:=zh ((Blk.new w 30 (nmc pub)).alloc (.cells (tA T) 47))
 have HB1:=zh (show Blk ((w.alloc (.cells (nmc pub) 30)).alloc (.cells (tA T) 47)) (w.heap.size+1) 47 (tA T) from Blk.newAt _ _ _ _ (by simp))
 have HE:=zh hE
 have HT:=zh (hT.ext hE)
 rw [hW0] at HB0 HB1 HE HT
 have HSS:=zh (fun (W:World) (h:Ext W0 W)=>(⟨fK (HB0.out.ext h),kR (HB1.out.ext h)⟩:(∀ i,i < 8→W.cell? ⟨w.heap.size,i,none⟩=some (.int .u8 (nb8 pub i)))∧W.cell? ⟨w.heap.size+1,0,none⟩=some (.int .i64 T.ac)∧W.cell? ⟨w.heap.size+1,1,none⟩=some (.int .i64 T.sq)∧W.cell? ⟨w.heap.size+1,2,none⟩=some (.slice T.A T.n T.c)∧W.cell? ⟨w.heap.size+1,3,none⟩=some (.slice T.S T.m T.d)))
 have HV:=zh (fun (W:World) (h:Ext W0 W)=>eH T.ac T.sq T.A T.n T.c T.L W (HT.out.ext h).ops)
 obtain ⟨nm,hnm⟩:∃ nm,bQ T.ac T.sq T.L=nm:=⟨_,rfl⟩
 have HNM:=zh (fun (W:World) (h:Ext W0 W)=>show Calls Tryz.prog 56 #[.agg (txA T.ac T.sq T.A T.n T.c)] W (fun e w'=>e=.returned (.agg (nmc nm))∧Ext W w') from by rw [← hnm];exact eS T.ac T.sq T.A T.n T.c T.L W (HT.out.ext h).ops)
 have HVF:=zh (fun (W:World) (h:Ext W0 W)=>aCL pub nm 1 T.S T.m T.d T.sig W (HT.out.ext h).sig)
 have HVS:=zh (show vSg pub T=(vTx T.ac T.sq T.L && (mA pub 1 nm T.sig && decide ((bX T.sig 0 2:Int)=T.sq))) from by unfold vSg;rw [hnm])
 have hX:=(Ext.refl W0).drew'
 have HRF:=zh (Ext.refl W0)
 clear hE hT hnm
 cases hv:vTx T.ac T.sq T.L with
 | false =>
  rw [hv] at HV HVS
  have HV:=zh (show ∀ (W:World) (h:Ext W0 W),Calls Tryz.prog 44 #[.agg (txA T.ac T.sq T.A T.n T.c)] W (fun e w'=>e=.returned (.int .i64 1)∧Ext W w') from HV.out)
  have HVS:=zh (show vSg pub T=false from HVS.out)
  obtain ⟨q,q0,q1,q2,q3⟩:=HSS.out W0.drew hX
  clear hv q
  go_enter Tryz.func89,Tryz.ntmps89
  go_wp2_with fail
  clear hW0
  first | go_region_with (first | (go_at_call 44;(with_reducible refine (HV.out _ hX).mono ?_);rintro e w7 ⟨rfl,he7⟩;have hX7:=hX.trans he7) | fail "ARM") | fail "REGION"
  all_goals (
   have HXF:=zh (HE.out.trans hX7)
   clear q0 q1 q2 q3 hX7 he7 hX
   go_wp2_with fail
   go_ret
   exact ⟨by rw [HVS.out];rfl,HXF.out⟩)
 | true =>
  rw [hv] at HV HVS
  have HV:=zh (show ∀ (W:World) (h:Ext W0 W),Calls Tryz.prog 44 #[.agg (txA T.ac T.sq T.A T.n T.c)] W (fun e w'=>e=.returned (.int .i64 0)∧Ext W w') from HV.out)
  have HLN:=zh (@aGg pub nm T.sig)
  obtain ⟨vr,hvr⟩:∃ vr,mA pub 1 nm T.sig=vr:=⟨_,rfl⟩
  rw [hvr] at HVF HVS HLN
  clear hv hvr
  go_enter Tryz.func89,Tryz.ntmps89
  go_wp2_with fail
  clear hW0
  go_region_held3 (fun w'=>(∀ i,i < 8→w'.cell? ⟨w.heap.size,i,none⟩=some (.int .u8 (nb8 pub i)))∧w'.cell? ⟨w.heap.size+1,0,none⟩=some (.int .i64 T.ac)∧w'.cell? ⟨w.heap.size+1,1,none⟩=some (.int .i64 T.sq)∧w'.cell? ⟨w.heap.size+1,2,none⟩=some (.slice T.A T.n T.c)∧w'.cell? ⟨w.heap.size+1,3,none⟩=some (.slice T.S T.m T.d)) (first | (with_reducible exact HSS.out _ hX) | fail "KEEP") (first | (go_at_call 44;(with_reducible refine (HV.out _ hX).mono ?_);rintro e wa ⟨rfl,he⟩;have hX:=hX.trans he;clear he) | (go_at_call 56;(with_reducible refine (HNM.out _ hX).mono ?_);rintro e wb ⟨rfl,he⟩;have hX:=hX.trans he;clear he) | (go_at_call 145;(with_reducible refine (HVF.out _ hX).mono ?_);rintro e wc ⟨rfl,he⟩;have hX:=hX.trans he;clear he) | fail "ARM")
  have HXW:=zh hX
  obtain ⟨q,q0,q1,q2,q3⟩:=HSS.out _ hX
  have hsg:=(HT.out.ext hX).sig
  have HXF:=zh (HE.out.trans hX)
  clear q hX
  cases vr with
  | false =>
   clear hsg
   go_wp2_with fail
   go_ret
   exact ⟨by rw [HVS.out];rfl,HXF.out⟩
  | true =>
   have hl:=HLN.out rfl
   have HLF:=zh (qA T.S T.m T.d T.sig _ hsg (by have:=hsg.len;omega))
   obtain ⟨x,hx⟩:∃ x,bX T.sig 0 2=x:=⟨_,rfl⟩
   rw [hx] at HLF HVS
   clear hsg hl hx HLN
   go_wp2_with fail
   refine HLF.out.mono ?_
   rintro e wd ⟨rfl,rfl⟩
   go_wp2_with fail
   go_ret
   exact ⟨by rw [HVS.out];simp;rw [Bool.eq_iff_iff,beq_iff_eq,decide_eq_true_eq],HXF.out⟩
theorem lA (ac sq:Int) (L:List OpR) (i:Nat):(dL ac sq L i).length≤2:=by
 unfold dL
 split
 ·exact Nat.le_refl _
 split
 ·exact Nat.le_refl _
 split
 ·exact Nat.le_refl _
 split
 ·exact Nat.le_refl _
 exact Nat.zero_le _
theorem aHt (ac sq:Int) (L:List OpR) (k:Nat):(qI ac sq L k).length≤2 * k:=by
 induction k with
 | zero=>exact Nat.le_refl _
 | succ k ih=>rw [nH,List.length_append];have:=lA ac sq L k;omega
theorem aFj {ac sq:Int} {L:List OpR} (hv:vTx ac sq L=true):∀ k,k≤L.length→(0≤aAb L k∧aAb L k≤10000000000000 * k)∧∀ (h:k < L.length),aAb L (k+1)=aAb L k+(aY L k).am:=by
 obtain ⟨⟨q1,q2,q3,q4,q5,q6⟩,hop⟩:=eO hv
 have hs:∀ k,k≤L.length→0≤((L.take k).map OpR.am).sum∧((L.take k).map OpR.am).sum≤10000000000000 * k:=by
  intro k
  induction k with
  | zero=>intro _;simp
  | succ k ih =>
   intro hk
   have h1:=ih (by omega)
   obtain ⟨-,-,-,-,-,-,-,ham,-⟩:=qR (hop k (by omega))
   rw [mZ (by omega),List.map_append,List.sum_append]
   simp only [List.map_cons,List.map_nil,List.sum_cons,List.sum_nil]
   omega
 have he:∀ k,k≤L.length→aAb L k=((L.take k).map OpR.am).sum:=fun k hk=>by
  have:=hs k hk
  exact gT ⟨by omega,by omega⟩
 intro k hk
 refine ⟨by rw [he k hk];exact hs k hk,fun h=>?_⟩
 rw [he k hk,he (k+1) h,mZ h,List.map_append,List.sum_append]
 simp
def aKI (w:World) (l:List DeR) (e:Ending) (w':World):Prop:=∃ A n c,e=.returned (.slice A n c)∧w'.ownsRow w.heap.size 34 11 (.slice A n c) n (gcs l)∧(∀ d ∈ l,deW d)∧Ext w w'
theorem aIF {ac sq:Int} {L:List OpR} (hv:vTx ac sq L=true) {i:Nat} (hi:i < L.length):∀ d ∈ dL ac sq L i,deW d:=by
 obtain ⟨⟨q1,q2,q3,q4,q5,q6⟩,hop⟩:=eO hv
 obtain ⟨hkk,hto,ham,hva,-,-,-,-,-⟩:=qR (hop i hi)
 have hac:wfI ac:=wfS ⟨by omega,by omega⟩
 have h0:wfI 0:=wfS (by decide)
 have h1:wfI 1:=wfS (by decide)
 have h2:wfI 2:=wfS (by decide)
 have h3:wfI 3:=wfS (by decide)
 unfold dL
 split
 ·exact aBD ⟨h1,hac⟩ ⟨h1,hto⟩ ham
 split
 ·exact aBD ⟨h1,hac⟩ ⟨h2,h0⟩ ham
 split
 ·exact aBD ⟨h2,h0⟩ ⟨h1,hto⟩ ham
 split
 ·exact aBD ⟨h1,hac⟩ ⟨h3,hva⟩ ham
 intro d hd;cases hd
theorem aIG {ac sq:Int} {L:List OpR} (hv:vTx ac sq L=true):∀ k,k≤L.length→∀ d ∈ qI ac sq L k,deW d:=by
 intro k
 induction k with
 | zero=>intro _ d hd;cases hd
 | succ k ih =>
  intro hk d hd
  rw [nH] at hd
  rcases List.mem_append.1 hd with hd | hd
  ·exact ih (by omega) d hd
  exact aIF hv (by omega) d hd
theorem qG (ac sq:Int) (A:Option Addr) (n c:Nat) (L:List OpR) (w:World) (hS:SlO w A n c L) :
  Calls Tryz.prog 13 #[.agg (txA ac sq A n c)] w (aKI w (oR ac sq L)):=by
 obtain ⟨W,hW⟩:∃ W,w.alloc (.cells (txA ac sq A n c) 24)=W:=⟨_,rfl⟩
 have HB:=zh (show Blk W w.heap.size 24 (txA ac sq A n c) from by rw [← hW];exact Blk.new w 24 (txA ac sq A n c))
 have HE:=zh (show Ext w W from by rw [← hW];exact (Ext.refl w).alloc' _)
 have HS:=zh (hS.ext HE.out)
 have HV:=zh (eH ac sq A n c L W HS.out)
 have hle:=hS.le
 have hcap:=hS.cap
 have HLEN:=zh hS.len
 have t0:=HB.out.cell 0
 have t1:=HB.out.cell 1
 have t2:=HB.out.cell 2
 clear hS
 cases hv:vTx ac sq L with
 | false =>
  have HT:=zh (show oR ac sq L=[] from by unfold oR;rw [hv];rfl)
  rw [hv] at HV
  have HV:=zh (show Calls Tryz.prog 44 #[.agg (txA ac sq A n c)] W (fun e w'=>e=.returned (.int .i64 1)∧Ext W w') from HV.out)
  clear hv
  go_enter Tryz.func13,Tryz.ntmps13
  go_wp2_with fail
  refine HV.out.mono ?_
  rintro e w1 ⟨rfl,he1⟩
  have HX:=zh (HE.out.trans he1)
  clear he1 t0 t1 t2 hW
  go_wp2_with fail
  go_ret
  exact ⟨none,0,0,rfl,by rw [HT.out];exact World.ownsRow_nil _ _ _ _,by rw [HT.out];exact (fun d hd=>by cases hd),HX.out⟩
 | true =>
  have HT:=zh (show oR ac sq L=qI ac sq L L.length from by unfold oR;rw [if_pos hv])
  have HVT:=zh hv
  rw [hv] at HV
  have HV:=zh (show Calls Tryz.prog 44 #[.agg (txA ac sq A n c)] W (fun e w'=>e=.returned (.int .i64 0)∧Ext W w') from HV.out)
  clear hv
  have hn4:n≤4:=by have:=(eO HVT.out).1.2.2.2.2.2;have:=HLEN.out;omega
  go_enter Tryz.func13,Tryz.ntmps13
  go_wp2_with fail
  refine HV.out.mono ?_
  rintro e w1 ⟨rfl,he1⟩
  have HX1:=zh (HE.out.trans he1)
  have HB1:=zh (HB.out.ext he1)
  have HS1:=zh (HS.out.ext he1)
  clear he1 t0 t1 t2 hW
  have t2:=HB1.out.cell 2
  go_wp2_with fail
  go_loopw [3,11] (fun vl vi wr=>∃ (k:Nat) (A':Option Addr) (m d:Nat),vi=.int .i64 (k:Int)∧k≤n∧vl=.slice A' m d∧Hid (wr.ownsRow w1.heap.size 34 11 (.slice A' m d) m (gcs (qI ac sq L k)))∧Hid (Ext w1 wr)) (fun _ i _=>n - (intOf i).toNat)
  case atStart=>exact ⟨0,none,0,0,rfl,Nat.zero_le _,rfl,zh (World.ownsRow_nil _ _ _ _),zh (Ext.refl w1)⟩
  case round =>
   obtain ⟨k,A',m,d,rfl,hk,rfl,HO,HX⟩:=hrel
   by_cases hlt:k < n
   ·have i0 : (k : Int) < (n : Int) := by omega
    have HB2:=zh (HB1.out.ext HX.out)
    have t0:=HB2.out.cell 0
    have t1:=HB2.out.cell 1
    have t2:=HB2.out.cell 2
    have HC:=zh (oQ ac sq A n c L k wr (HS1.out.ext HX.out) hlt HVT.out)
    have hm8:m≤8:=by
     have h1:(qI ac sq L k).length=m:=OwnG.len (e:=34) HO.out
     have:=aHt ac sq L k
     omega
    go_wp2_with (first | (go_at_call 45;refine HC.out.mono ?_;rintro e w3 ⟨A9,n9,c9,rfl,hs9,he9⟩;have HS9:=zh hs9;have HE9:=zh he9;have HO9:=zh (bA HO.out he9);have h9:n9≤2:=(by have:=lA ac sq L k;have:=hs9.len;omega);have HL9:=zh (show (gcs (dL ac sq L k)).length=n9 * 11 from by rw [aH,hs9.len];rfl);clear hs9 he9) | (at_builtin;go_must (refine bO deE rfl (.tmp 14) (.tmp 17) rfl w1.heap.size A' m d _ rfl HO9.out A9 n9 c9 (gcs (dL ac sq L k)) rfl HS9.out.rd HL9.out (cD _) (by omega) (by omega) (Nat.le_trans HX.out.size HE9.out.size) ?_;intro A3 c3 w4 hO4 hg4)))
    have HO5:=zh (show w4.ownsRow w1.heap.size 34 11 (.slice A3 (m+n9) c3) (m+n9) (gcs (qI ac sq L (k+1))) from by rw [nH,bS];exact hO4)
    have HX5:=zh (show Ext w1 w4 from Below.grown (HX.out.trans HE9.out) hg4 (Nat.le_trans HX.out.size HE9.out.size) (fun k hk=>(World.ownsRow.lt HO9.out k hk).1))
    clear hO4 hg4 HS9 HE9 HO9 HL9 HC t0 t1 t2 HB2
    go_roundw
    case rel=>exact ⟨k+1,A3,m+n9,c3,by go_num,hlt,rfl,HO5,HX5⟩
    case measure=>simp [intOf];omega
   obtain rfl:k=n:=by omega
   have i0:¬ (k:Int) < (k:Int):=by omega
   have HF:=zh (show oR ac sq L=qI ac sq L k from by rw [HT.out,HLEN.out])
   go_wp2_with fail
   go_ret
   exact ⟨A',m,d,rfl,by rw [HF.out];exact bB HO.out HX1.out.size,by rw [HF.out];exact aIG HVT.out k (by rw [HLEN.out];exact Nat.le_refl _),HX1.out.trans HX.out⟩
theorem nV (ac sq:Int) (A:Option Addr) (n c:Nat) (L:List OpR) (w:World) (hS:SlO w A n c L) :
  Calls Tryz.prog 16 #[.agg (txA ac sq A n c)] w fun e w'=>e=.returned (.int .i64 (kU ac sq L))∧Ext w w':=by
 obtain ⟨W,hW⟩:∃ W,w.alloc (.cells (txA ac sq A n c) 24)=W:=⟨_,rfl⟩
 have HB:=zh (show Blk W w.heap.size 24 (txA ac sq A n c) from by rw [← hW];exact Blk.new w 24 (txA ac sq A n c))
 have HE:=zh (show Ext w W from by rw [← hW];exact (Ext.refl w).alloc' _)
 have HS:=zh (hS.ext HE.out)
 have HV:=zh (eH ac sq A n c L W HS.out)
 have hle:=hS.le
 have hcap:=hS.cap
 have HLEN:=zh hS.len
 have t0:=HB.out.cell 0
 have t1:=HB.out.cell 1
 have t2:=HB.out.cell 2
 clear hS
 cases hv:vTx ac sq L with
 | false =>
  have HT:=zh (show kU ac sq L=0 from by unfold kU;rw [hv];rfl)
  rw [hv] at HV
  have HV:=zh (show Calls Tryz.prog 44 #[.agg (txA ac sq A n c)] W (fun e w'=>e=.returned (.int .i64 1)∧Ext W w') from HV.out)
  clear hv
  go_enter Tryz.func16,Tryz.ntmps16
  go_wp2_with fail
  refine HV.out.mono ?_
  rintro e w1 ⟨rfl,he1⟩
  have HX:=zh (HE.out.trans he1)
  clear he1 t0 t1 t2 hW
  go_wp2_with fail
  go_ret
  exact ⟨by rw [HT.out];rfl,HX.out⟩
 | true =>
  have HT:=zh (show kU ac sq L=aAb L L.length from by unfold kU;rw [if_pos hv])
  have HVT:=zh hv
  rw [hv] at HV
  have HV:=zh (show Calls Tryz.prog 44 #[.agg (txA ac sq A n c)] W (fun e w'=>e=.returned (.int .i64 0)∧Ext W w') from HV.out)
  clear hv
  have hn4:n≤4:=by have:=(eO HVT.out).1.2.2.2.2.2;have:=HLEN.out;omega
  go_enter Tryz.func16,Tryz.ntmps16
  go_wp2_with fail
  refine HV.out.mono ?_
  rintro e w1 ⟨rfl,he1⟩
  have HX1:=zh (HE.out.trans he1)
  have HB1:=zh (HB.out.ext he1)
  have HS1:=zh (HS.out.ext he1)
  clear he1 t0 t1 t2 hW
  have t2:=HB1.out.cell 2
  go_wp2_with fail
  go_loopw [3,12] (fun vl vi wr=>∃ (k:Nat),vi=.int .i64 (k:Int)∧k≤n∧vl=.int .i64 (aAb L k)∧Hid (Ext w1 wr)) (fun _ i _=>n - (intOf i).toNat)
  case atStart=>exact ⟨0,rfl,Nat.zero_le _,rfl,zh (Ext.refl w1)⟩
  case round =>
   obtain ⟨k,rfl,hk,rfl,HX⟩:=hrel
   by_cases hlt:k < n
   ·have i0 : (0 : Int) ≤ (k : Int) := by omega
    have i1:(k:Int) < (n:Int):=by omega
    obtain ⟨b,o,rfl,hrow,-⟩:=(HS1.out.ext HX.out).g.at (by omega)
    obtain ⟨R,hR⟩:∃ R,aY L k=R:=⟨_,rfl⟩
    have hr:wr.rangeAt b (o+k * 23) (RowT.enc R):=by rw [← hR,uN];exact cG hrow (by rw [HLEN.out];exact hlt)
    obtain ⟨⟨n1,n2⟩,n3⟩:=aFj HVT.out k (by rw [HLEN.out];omega)
    have n4:=n3 (by rw [HLEN.out];exact hlt)
    have ham:=(qR ((eO HVT.out).2 k (by rw [HLEN.out];exact hlt))).2.2.2.2.2.2.2.1
    rw [hR] at n4 ham
    have HN4:=zh n4
    obtain ⟨z,hz⟩:∃ z,aAb L k=z:=⟨_,rfl⟩
    rw [hz] at HN4 n1 n2 ⊢
    obtain ⟨v,hv⟩:∃ v,Value.agg (opA R)=v:=⟨_,rfl⟩
    have HVV:=zh hv
    have hm1:=ham.1
    have hm2:=ham.2
    have hz2:z≤10000000000000 * 4:=by omega
    clear hrow hR hv n3 n4 hz ham n2
    obtain ⟨X,hX⟩:∃ X,wr.heap.size=X:=⟨_,rfl⟩
    have HXS:=zh hX
    clear hX
    go_upto_region 7 with (first | (with_reducible refine aB opP rfl (.tmp 14) rfl b (o+k * 23) rfl R v HVV.out hr ?_) | ((with_reducible refine aP opP rfl (.tmp 5) (.tmp 15) rfl jU rfl R v HVV.out rfl rfl ?_);intro W4 h4))
    have HD:=zh (show Blk W4 X 69 (opA R) from by rw [← h4.out,← HXS.out];exact Blk.new wr 69 (opA R))
    have HX4:=zh (show Ext w1 W4 from by rw [← h4.out];exact HX.out.alloc' _)
    have k2:W4.cell? ⟨X,2,none⟩=some (.int .i64 R.am):=HD.out.cell 2
    clear h4 hr
    rw [HXS.out]
    go_wp2_with fail
    go_roundw
    case rel=>exact ⟨k+1,by go_num,hlt,by rw [HN4.out],HX4⟩
    case measure=>simp [intOf];omega
   obtain rfl:k=n:=by omega
   have i0:¬ (k:Int) < (k:Int):=by omega
   go_wp2_with fail
   go_ret
   exact ⟨by rw [HT.out,HLEN.out];rfl,HX1.out.trans HX.out⟩
end
end Go.Proofs.YtohmmcahpakokaaGreat
