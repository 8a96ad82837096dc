/- SignTx (the reference's), Verify of a transaction, both sides. -/
import Derived.Test.YtohmmcahpakokaaGreatC23
set_option maxRecDepth 100000
set_option maxHeartbeats 8000000
set_option linter.unusedVariables false
set_option linter.unusedSimpArgs false
namespace Go.Proofs.YtohmmcahpakokaaGreat
open Go.RowKit
attribute [local go_sem ↓] Go.wp_at_zero Go.wp_at_succ
theorem refSignTx_any (seed:UInt64) (ac sq:Int) (A:Option Addr) (n c:Nat) (L:List OpR) (w:World) (hS:SlO w A n c L) :
  Calls Tryz.prog 41 #[.agg (nmc seed),.agg (txA ac sq A n c)] w (SgOut w seed ac sq L):=by
 have hE:=(((Ext.refl w).alloc' (.cells (nmc seed) 30)).alloc' (.cells (txA ac sq A n c) 24)).alloc' (.cells zero4 47)
 obtain ⟨W0,hW0⟩:∃ W0,((w.alloc (.cells (nmc seed) 30)).alloc (.cells (txA ac sq A n c) 24)).alloc (.cells zero4 47)=W0:=⟨_,rfl⟩
 have HB0:=zh (((Blk.new w 30 (nmc seed)).alloc (.cells (txA ac sq A n c) 24)).alloc (.cells zero4 47))
 have HB1:=zh (show Blk (((w.alloc (.cells (nmc seed) 30)).alloc (.cells (txA ac sq A n c) 24)).alloc (.cells zero4 47)) (w.heap.size+1) 24 (txA ac sq A n c) from (Blk.newAt _ _ _ _ (by simp)).alloc _)
 have HB2:=zh (show Blk (((w.alloc (.cells (nmc seed) 30)).alloc (.cells (txA ac sq A n c) 24)).alloc (.cells zero4 47)) (w.heap.size+2) 47 zero4 from Blk.newAt _ _ _ _ (by simp))
 have HE:=zh hE
 have HS:=zh (hS.ext hE)
 rw [hW0] at HB0 HB1 HB2 HE HS
 have q0:W0.cell? ⟨w.heap.size+1,0,none⟩=some (.int .i64 ac):=HB1.out.cell 0
 have q1:W0.cell? ⟨w.heap.size+1,1,none⟩=some (.int .i64 sq):=HB1.out.cell 1
 have q2:W0.cell? ⟨w.heap.size+1,2,none⟩=some (.slice A n c):=HB1.out.cell 2
 have HV:=zh (refValidTx_any ac sq A n c L _ HS.out)
 have hS0:=zh hS.len
 have HSW:=zh hS
 clear hS hE
 cases hv:vTx ac sq L with
 | false =>
  rw [hv] at HV
  have HV:=zh (show Calls Tryz.prog 46 #[.agg (txA ac sq A n c)] W0 (fun e w'=>e=.returned (.bool false)∧Ext W0 w') from HV.out)
  have HVV:=zh hv
  clear hv
  go_enter Tryz.func41,Tryz.ntmps41
  go_wp2_with fail
  refine HV.out.mono ?_
  rintro e w1 ⟨rfl,he1⟩
  have HB3:=zh (HB2.out.ext he1)
  have HE3:=zh (HE.out.trans he1)
  have htz:=st_there HB3.out
  clear he1 hW0 q0 q1 q2
  go_wp2_with (first | (with_reducible refine wpList_storeSt rfl (.tmp 4) (.tmp 11) rfl (w.heap.size+2) zero4 rfl rfl htz rfl (stA_all _ _ _ _ _ _ _ _) ?_))
  exact bodyPost_ret (v:=.tuple #[.agg zero4,.int .i64 1]) (retCV rfl _ _ (w.heap.size+2) _ _ rfl rfl (run_loadVar_row _ _ _ _ _ (0,0) _ (st_store HB3.out zero4 rfl) Tryz.underlying47 rfl (by kernel_rfl))) rfl ⟨Below.setCells' HE3.out (by omega) _ _,.inl ⟨HVV.out,rfl⟩⟩
 | true =>
  rw [hv] at HV
  have HV:=zh (show Calls Tryz.prog 46 #[.agg (txA ac sq A n c)] W0 (fun e w'=>e=.returned (.bool true)∧Ext W0 w') from HV.out)
  have HVV:=zh hv
  clear hv
  go_enter Tryz.func41,Tryz.ntmps41
  go_wp2_with fail
  refine HV.out.mono ?_
  rintro e w1 ⟨rfl,he1⟩
  have HB0:=zh (HB0.out.ext he1)
  have HB1:=zh (HB1.out.ext he1)
  have HB2:=zh (HB2.out.ext he1)
  have HE:=zh (HE.out.trans he1)
  have HS:=zh (HS.out.ext he1)
  clear he1 hW0 q0 q1 q2 HV
  go_wp2_with fail
  have HSS:=zh (fun (W:World) (h:Ext w1 W)=>(⟨cells8 (HB0.out.ext h),(HB1.out.ext h).cell 0,(HB1.out.ext h).cell 1,(HB1.out.ext h).cell 2⟩:(∀ i,i < 8→W.cell? ⟨w.heap.size,i,none⟩=some (.int .u8 (nb8 seed i)))∧W.cell? ⟨w.heap.size+1,0,none⟩=some (.int .i64 ac)∧W.cell? ⟨w.heap.size+1,1,none⟩=some (.int .i64 sq)∧W.cell? ⟨w.heap.size+1,2,none⟩=some (.slice A n c)))
  have hX:=(Ext.refl w1).drew'
  have HNM:=zh (fun (W:World) (h:Ext w1 W)=>refTxName_any ac sq A n c L W (HS.out.ext h))
  obtain ⟨hh,hops⟩:=vTx_of HVV.out
  have HSG:=zh (fun (W:World)=>show Calls Tryz.prog 79 #[.agg (nmc seed),.int .i64 1,.int .i64 sq,.agg (nmc (txNm ac sq L))] W (SigOut W (some (sig1 seed sq.toNat (txNm ac sq L)))) from by rw [← sigU_in seed _ hh.2.2.1 hh.2.2.2.1];exact refSign_any seed _ 1 sq W)
  have HN4:=zh (show n≤4 by have:=hS0.out;omega)
  clear hh hops
  obtain ⟨sg,hsg⟩:∃ sg,sig1 seed sq.toNat (txNm ac sq L)=sg:=⟨_,rfl⟩
  rw [hsg] at HSG
  have HSGE:=zh hsg
  clear hsg
  obtain ⟨nm,hnm⟩:∃ nm,txNm ac sq L=nm:=⟨_,rfl⟩
  rw [hnm] at HNM HSG HSGE
  have HNE:=zh hnm
  clear hnm
  go_region_held3 (fun w'=>(∀ i,i < 8→w'.cell? ⟨w.heap.size,i,none⟩=some (.int .u8 (nb8 seed i)))∧w'.cell? ⟨w.heap.size+1,0,none⟩=some (.int .i64 ac)∧w'.cell? ⟨w.heap.size+1,1,none⟩=some (.int .i64 sq)∧w'.cell? ⟨w.heap.size+1,2,none⟩=some (.slice A n c)) (first | (with_reducible exact HSS.out _ hX) | fail "KEEP") (first | (go_at_call 35;(with_reducible refine (HNM.out _ hX).mono ?_);rintro e w2 ⟨rfl,he2⟩;have hX:=hX.trans he2) | (go_at_call 79;(with_reducible refine (HSG.out _).mono ?_);rintro e w3 ⟨A3,n3,c3,rfl,hs3,he3⟩;have hX:=hX.trans he3) | fail "ARM")
  have HX3:=zh hX
  have HS3:=zh (show SlB w3 A3 n3 c3 sg from hs3)
  obtain ⟨q0,q1,q2⟩:w3.cell? ⟨w.heap.size+1,0,none⟩=some (.int .i64 ac)∧w3.cell? ⟨w.heap.size+1,1,none⟩=some (.int .i64 sq)∧w3.cell? ⟨w.heap.size+1,2,none⟩=some (.slice A n c):=(HSS.out w3 hX).2
  have HB4:=zh (HB2.out.ext HX3.out)
  have htz:=st_there HB4.out
  clear hX hs3 he2 he3
  go_wp2_with (first | (with_reducible refine wpList_storeSt rfl (.tmp 4) (.tmp 23) rfl (w.heap.size+2) (stA ac sq A n c A3 n3 c3) rfl rfl htz rfl (stA_all _ _ _ _ _ _ _ _) ?_))
  have HFIN:=zh (show (⟨ac,sq,A,n,c,A3,n3,c3,L,sg⟩:TxR).ok (w3.setCells (w.heap.size+2) 0 (stA ac sq A n c A3 n3 c3).toList) from by
   have g:=grown_setCells' w3 (w.heap.size+2) (stA ac sq A n c A3 n3 c3).toList 0
   have hE:=Below.setCells' (HE.out.trans HX3.out) (show w.heap.size≤w.heap.size+2 by omega) (stA ac sq A n c A3 n3 c3).toList 0
   exact ⟨HSW.out.ext hE,HS3.out.grown g HB4.out⟩)
  have HVA:=zh (show (⟨ac,sq,A,n,c,A3,n3,c3,L,sg⟩:TxR).v=(ac,sq,L.map OpR.v,sig1 seed sq.toNat (txNm ac sq L)) from by unfold TxR.v;rw [HNE.out,HSGE.out])
  exact bodyPost_ret (v:=.tuple #[.agg (stA ac sq A n c A3 n3 c3),.int .i64 0]) (retCV rfl _ _ (w.heap.size+2) _ _ rfl rfl (run_loadVar_row _ _ _ _ _ (0,0) _ (st_store HB4.out (stA ac sq A n c A3 n3 c3) rfl) Tryz.underlying47 rfl (by kernel_rfl))) rfl ⟨Below.setCells' (HE.out.trans HX3.out) (by omega) _ _,.inr ⟨HVV.out,⟨ac,sq,A,n,c,A3,n3,c3,L,sg⟩,rfl,HFIN.out,HVA.out⟩⟩
def vSg (pub:UInt64) (T:TxR):Bool:=vTx T.ac T.sq T.L && (verU pub 1 (txNm T.ac T.sq T.L) T.sig && decide ((numAt T.sig 0 2:Int)=T.sq))
theorem verU_len {pub m:UInt64} {l:List UInt8} (h:verU pub 1 m l=true):l.length=186:=by
 unfold verU at h
 rw [if_pos rfl] at h
 simp only [Bool.and_eq_true,decide_eq_true_eq] at h
 exact h.1
theorem txVerify_any (pub:UInt64) (T:TxR) (w:World) (hT:T.ok w):Calls Tryz.prog 89 #[.agg (nmc pub),.agg (tA T)] w fun e w'=>e=.returned (.bool (vSg pub T))∧Ext w w':=by
 have hE:=((Ext.refl w).alloc' (.cells (nmc pub) 30)).alloc' (.cells (tA T) 47)
 obtain ⟨W0,hW0⟩:∃ W0,(w.alloc (.cells (nmc pub) 30)).alloc (.cells (tA T) 47)=W0:=⟨_,rfl⟩
 have HB0:=zh ((Blk.new w 30 (nmc pub)).alloc (.cells (tA T) 47))
 have HB1:=zh (show Blk ((w.alloc (.cells (nmc pub) 30)).alloc (.cells (tA T) 47)) (w.heap.size+1) 47 (tA T) from Blk.newAt _ _ _ _ (by simp))
 have HE:=zh hE
 have HT:=zh (hT.ext hE)
 rw [hW0] at HB0 HB1 HE HT
 have HSS:=zh (fun (W:World) (h:Ext W0 W)=>(⟨cells8 (HB0.out.ext h),st_facts (HB1.out.ext h)⟩:(∀ i,i < 8→W.cell? ⟨w.heap.size,i,none⟩=some (.int .u8 (nb8 pub i)))∧W.cell? ⟨w.heap.size+1,0,none⟩=some (.int .i64 T.ac)∧W.cell? ⟨w.heap.size+1,1,none⟩=some (.int .i64 T.sq)∧W.cell? ⟨w.heap.size+1,2,none⟩=some (.slice T.A T.n T.c)∧W.cell? ⟨w.heap.size+1,3,none⟩=some (.slice T.S T.m T.d)))
 have HV:=zh (fun (W:World) (h:Ext W0 W)=>validate_any T.ac T.sq T.A T.n T.c T.L W (HT.out.ext h).ops)
 obtain ⟨nm,hnm⟩:∃ nm,txNm T.ac T.sq T.L=nm:=⟨_,rfl⟩
 have HNM:=zh (fun (W:World) (h:Ext W0 W)=>show Calls Tryz.prog 56 #[.agg (txA T.ac T.sq T.A T.n T.c)] W (fun e w'=>e=.returned (.agg (nmc nm))∧Ext W w') from by rw [← hnm];exact txName_any T.ac T.sq T.A T.n T.c T.L W (HT.out.ext h).ops)
 have HVF:=zh (fun (W:World) (h:Ext W0 W)=>verify_any pub nm 1 T.S T.m T.d T.sig W (HT.out.ext h).sig)
 have HVS:=zh (show vSg pub T=(vTx T.ac T.sq T.L && (verU pub 1 nm T.sig && decide ((numAt T.sig 0 2:Int)=T.sq))) from by unfold vSg;rw [hnm])
 have hX:=(Ext.refl W0).drew'
 have HRF:=zh (Ext.refl W0)
 clear hE hT hnm
 cases hv:vTx T.ac T.sq T.L with
 | false =>
  rw [hv] at HV HVS
  have HV:=zh (show ∀ (W:World) (h:Ext W0 W),Calls Tryz.prog 44 #[.agg (txA T.ac T.sq T.A T.n T.c)] W (fun e w'=>e=.returned (.int .i64 1)∧Ext W w') from HV.out)
  have HVS:=zh (show vSg pub T=false from HVS.out)
  obtain ⟨q,q0,q1,q2,q3⟩:=HSS.out W0.drew hX
  clear hv q
  go_enter Tryz.func89,Tryz.ntmps89
  go_wp2_with fail
  clear hW0
  first | go_region_with (first | (go_at_call 44;(with_reducible refine (HV.out _ hX).mono ?_);rintro e w7 ⟨rfl,he7⟩;have hX7:=hX.trans he7) | fail "ARM") | fail "REGION"
  all_goals (
   have HXF:=zh (HE.out.trans hX7)
   clear q0 q1 q2 q3 hX7 he7 hX
   go_wp2_with fail
   go_ret
   exact ⟨by rw [HVS.out];rfl,HXF.out⟩)
 | true =>
  rw [hv] at HV HVS
  have HV:=zh (show ∀ (W:World) (h:Ext W0 W),Calls Tryz.prog 44 #[.agg (txA T.ac T.sq T.A T.n T.c)] W (fun e w'=>e=.returned (.int .i64 0)∧Ext W w') from HV.out)
  have HLN:=zh (@verU_len pub nm T.sig)
  obtain ⟨vr,hvr⟩:∃ vr,verU pub 1 nm T.sig=vr:=⟨_,rfl⟩
  rw [hvr] at HVF HVS HLN
  clear hv hvr
  go_enter Tryz.func89,Tryz.ntmps89
  go_wp2_with fail
  clear hW0
  go_region_held3 (fun w'=>(∀ i,i < 8→w'.cell? ⟨w.heap.size,i,none⟩=some (.int .u8 (nb8 pub i)))∧w'.cell? ⟨w.heap.size+1,0,none⟩=some (.int .i64 T.ac)∧w'.cell? ⟨w.heap.size+1,1,none⟩=some (.int .i64 T.sq)∧w'.cell? ⟨w.heap.size+1,2,none⟩=some (.slice T.A T.n T.c)∧w'.cell? ⟨w.heap.size+1,3,none⟩=some (.slice T.S T.m T.d)) (first | (with_reducible exact HSS.out _ hX) | fail "KEEP") (first | (go_at_call 44;(with_reducible refine (HV.out _ hX).mono ?_);rintro e wa ⟨rfl,he⟩;have hX:=hX.trans he;clear he) | (go_at_call 56;(with_reducible refine (HNM.out _ hX).mono ?_);rintro e wb ⟨rfl,he⟩;have hX:=hX.trans he;clear he) | (go_at_call 145;(with_reducible refine (HVF.out _ hX).mono ?_);rintro e wc ⟨rfl,he⟩;have hX:=hX.trans he;clear he) | fail "ARM")
  have HXW:=zh hX
  obtain ⟨q,q0,q1,q2,q3⟩:=HSS.out _ hX
  have hsg:=(HT.out.ext hX).sig
  have HXF:=zh (HE.out.trans hX)
  clear q hX
  cases vr with
  | false =>
   clear hsg
   go_wp2_with fail
   go_ret
   exact ⟨by rw [HVS.out];rfl,HXF.out⟩
  | true =>
   have hl:=HLN.out rfl
   have HLF:=zh (leaf_yes T.S T.m T.d T.sig _ hsg (by have:=hsg.len;omega))
   obtain ⟨x,hx⟩:∃ x,numAt T.sig 0 2=x:=⟨_,rfl⟩
   rw [hx] at HLF HVS
   clear hsg hl hx HLN
   go_wp2_with fail
   refine HLF.out.mono ?_
   rintro e wd ⟨rfl,rfl⟩
   go_wp2_with fail
   go_ret
   exact ⟨by rw [HVS.out];simp;rw [Bool.eq_iff_iff,beq_iff_eq,decide_eq_true_eq],HXF.out⟩
end Go.Proofs.YtohmmcahpakokaaGreat
namespace Go.Proofs.YtohmmcahpakokaaGreat
open Go.ChangeShapes Go.WideShapes Go.ChangeAt Go.RowKit Go.Deep
theorem cellsD0:Tryz.prog.cellsOf 32=10:=by kernel_rfl
theorem cellsD1:Tryz.prog.cellsOf 34=11:=by kernel_rfl
theorem cellsD2:Tryz.prog.cellsOf 94=19:=by kernel_rfl
theorem cellsD3:Tryz.prog.cellsOf 42=1:=by kernel_rfl
theorem cellsD4:Tryz.prog.cellsOf 44=5:=by kernel_rfl
theorem cellsD5:Tryz.prog.cellsOf 27=1:=by kernel_rfl
theorem cellsD6:Tryz.prog.cellsOf 38=1:=by kernel_rfl
theorem cellsD7:Tryz.prog.cellsOf 41=1:=by kernel_rfl
theorem cellsD8:Tryz.prog.cellsOf 37=1:=by kernel_rfl
theorem listOf5D {α:Type} {l:List α} (h:l.length=5):∃ x0 x1 x2 x3 x4,l=[x0,x1,x2,x3,x4]:=by
 match l,h with
 | [x0,x1,x2,x3,x4],_=>exact ⟨x0,x1,x2,x3,x4,rfl⟩
theorem listOf3D {α:Type} {l:List α} (h:l.length=3):∃ x0 x1 x2,l=[x0,x1,x2]:=by
 match l,h with
 | [x0,x1,x2],_=>exact ⟨x0,x1,x2,rfl⟩
section
variable {H:Type} {enc:TypeId × Value→H} {w:World} {base fuel:Nat} {held:Bool} {cs:List Value} {x:DataW H × List MemPlace}
theorem open_rowsD {α:Type} [RowT α] {t e:TypeId} (ht:Tryz.prog.underlying t=some (.slice e)) (hsz:Tryz.prog.cellsOf e=RowT.sz α)
  (hel:∀ {fuel:Nat} {cs:List Value} {x:DataW H × List MemPlace},DataW.trod enc Tryz.prog w base (fun _=>true) held fuel e cs=some x→∃ y:α,cs=RowT.enc y∧RowT.ok y w)
  (hone:∀ (y:α) (a:Addr) (v:Value),(RowT.enc y)[0]?=some v→w.cell? a=some v→a.spot=none)
  (h:DataW.trod enc Tryz.prog w base (fun _=>true) held fuel t cs=some x):∃ A n c,∃ L:List α,cs=[.slice A n c]∧SlG w A n c L:=by
 rcases open_slice ht h with ⟨hcs,_⟩ | ⟨x,l,c',m,n,D,Pl,hcs,_,hl,hm,hmm,_,hi⟩
 ·exact ⟨none,0,0,[],hcs,SlG.nil w⟩
 ·rw [if_pos rfl] at hmm
  subst hmm
  have hcell:∀ j,j < l→∃ y:α,(∀ q v,(RowT.enc y)[q]?=some v→w.cell? ((x.add (j * RowT.sz α)).add q)=some v)∧RowT.ok y w:=by
   intro j hj
   obtain ⟨cs',hc,ht⟩:=hi j (by omega)
   obtain ⟨y,rfl,hyo⟩:=hel ht
   rw [hsz] at hc
   obtain ⟨_,hln,hat⟩:=World.cells?_some hc
   refine ⟨y,fun q v hv=>?_,hyo⟩
   have hq:=(List.getElem?_eq_some_iff.1 hv).1
   have:=hat q (by rw [RowT.len] at hq;omega)
   rw [this,hv]
  rcases Nat.eq_zero_or_pos l with rfl | h0
  ·exact ⟨_,0,_,[],hcs,rfl,Nat.zero_le _,by unfold maxLen at hm;omega,.nil,fun R hR=>by cases hR⟩
  ·have hx:x.spot=none:=by
    obtain ⟨y,hy,_⟩:=hcell 0 h0
    have hp:0 < (RowT.enc y).length:=by rw [RowT.len];exact RowT.pos
    have:=hy 0 _ (List.getElem?_eq_getElem hp)
    have e0:((x.add (0 * RowT.sz α)).add 0)=x:=by simp [Addr.add]
    rw [e0] at this
    exact hone y x _ (List.getElem?_eq_getElem hp) this
   obtain ⟨bl,ol,sp⟩:=x
   simp only at hx
   subst hx
   obtain ⟨L,hL,hr,hok⟩:=rows_G (α:=α) (w:=w) (b:=bl) (o:=ol) rfl l (fun j hj=>by
    obtain ⟨y,hy,hyo⟩:=hcell j hj
    refine ⟨y,fun q v hv=>?_,hyo⟩
    have:=hy q v hv
    rwa [Addr.add_mid,Addr.add_mid] at this)
   exact ⟨_,l,_,L,hcs,hL,hl,by unfold maxLen at hm;omega,.inr ⟨bl,ol,rfl,hr⟩,hok⟩
theorem open_cec (h:DataW.trod enc Tryz.prog w base (fun _=>true) held fuel 32 cs=some x):∃ C:CeR,cs=ceL C∧ceW C:=by
 obtain ⟨xs,m,_,_,hl,hxl,hg⟩:=DataW.trod_struct Tryz.underlying32 h
 rw [cellsD0] at hl
 obtain ⟨x0,x1,x2,rfl⟩:=listOf3D (show xs.length=3 from hxl)
 have h0:DataW.trod enc Tryz.prog w base (fun _=>true) held m 3 ((cs.drop 0).take (Tryz.prog.cellsOf 3))=some x0:=hg 0 _ rfl
 rw [cellsI1] at h0
 have h1:DataW.trod enc Tryz.prog w base (fun _=>true) held m 3 ((cs.drop 1).take (Tryz.prog.cellsOf 3))=some x1:=hg 1 _ rfl
 rw [cellsI1] at h1
 have h2:DataW.trod enc Tryz.prog w base (fun _=>true) held m 30 ((cs.drop 2).take (Tryz.prog.cellsOf 30))=some x2:=hg 2 _ rfl
 rw [cellsNm] at h2
 obtain ⟨k,e0,_,w0⟩:=DataW.trod_int Tryz.underlying3 h0
 obtain ⟨i,e1,_,w1⟩:=DataW.trod_int Tryz.underlying3 h1
 obtain ⟨l,e2⟩:=open_nmc h2
 rw [nmc_toList,bcs_nb8] at e2
 refine ⟨⟨k,i,l⟩,?_,⟨w0,w1⟩⟩
 have e:cs=cs.drop 0:=rfl
 rw [e,cut_at cs (0) 1,e0,cut_at cs (0+1) 1,e1,cut_at cs (0+1+1) 8,e2,List.drop_of_length_le (by omega)]
 rfl
theorem open_dec (h:DataW.trod enc Tryz.prog w base (fun _=>true) held fuel 34 cs=some x):∃ C:DeR,cs=deL C∧deW C:=by
 obtain ⟨xs,m,_,_,hl,hxl,hg⟩:=DataW.trod_struct Tryz.underlying34 h
 rw [cellsD1] at hl
 obtain ⟨x0,x1,rfl⟩:=list2 (show xs.length=2 from hxl)
 have h0:DataW.trod enc Tryz.prog w base (fun _=>true) held m 32 ((cs.drop 0).take (Tryz.prog.cellsOf 32))=some x0:=hg 0 _ rfl
 rw [cellsD0] at h0
 have h1:DataW.trod enc Tryz.prog w base (fun _=>true) held m 3 ((cs.drop 10).take (Tryz.prog.cellsOf 3))=some x1:=hg 1 _ rfl
 rw [cellsI1] at h1
 obtain ⟨c,e0,w0⟩:=open_cec h0
 obtain ⟨a,e1,_,w1⟩:=DataW.trod_int Tryz.underlying3 h1
 refine ⟨⟨c,a⟩,?_,⟨w0,w1⟩⟩
 have e:cs=cs.drop 0:=rfl
 rw [e,cut_at cs (0) 10,e0,cut_at cs (0+10) 1,e1,List.drop_of_length_le (by omega)]
 rfl
theorem open_lkc (h:DataW.trod enc Tryz.prog w base (fun _=>true) held fuel 94 cs=some x):∃ C:LkR,cs=lkL C∧lkW C:=by
 obtain ⟨xs,m,_,_,hl,hxl,hg⟩:=DataW.trod_struct Tryz.underlying94 h
 rw [cellsD2] at hl
 obtain ⟨x0,x1,x2,x3,x4,rfl⟩:=listOf5D (show xs.length=5 from hxl)
 have h0:DataW.trod enc Tryz.prog w base (fun _=>true) held m 30 ((cs.drop 0).take (Tryz.prog.cellsOf 30))=some x0:=hg 0 _ rfl
 rw [cellsNm] at h0
 have h1:DataW.trod enc Tryz.prog w base (fun _=>true) held m 30 ((cs.drop 8).take (Tryz.prog.cellsOf 30))=some x1:=hg 1 _ rfl
 rw [cellsNm] at h1
 have h2:DataW.trod enc Tryz.prog w base (fun _=>true) held m 3 ((cs.drop 16).take (Tryz.prog.cellsOf 3))=some x2:=hg 2 _ rfl
 rw [cellsI1] at h2
 have h3:DataW.trod enc Tryz.prog w base (fun _=>true) held m 3 ((cs.drop 17).take (Tryz.prog.cellsOf 3))=some x3:=hg 3 _ rfl
 rw [cellsI1] at h3
 have h4:DataW.trod enc Tryz.prog w base (fun _=>true) held m 3 ((cs.drop 18).take (Tryz.prog.cellsOf 3))=some x4:=hg 4 _ rfl
 rw [cellsI1] at h4
 obtain ⟨n1,e0⟩:=open_nmc h0
 rw [nmc_toList,bcs_nb8] at e0
 obtain ⟨n2,e1⟩:=open_nmc h1
 rw [nmc_toList,bcs_nb8] at e1
 obtain ⟨a,e2,_,w2⟩:=DataW.trod_int Tryz.underlying3 h2
 obtain ⟨b,e3,_,w3⟩:=DataW.trod_int Tryz.underlying3 h3
 obtain ⟨c,e4,_,w4⟩:=DataW.trod_int Tryz.underlying3 h4
 refine ⟨⟨n1,n2,a,b,c⟩,?_,⟨w2,w3,w4⟩⟩
 have e:cs=cs.drop 0:=rfl
 rw [e,cut_at cs (0) 8,e0,cut_at cs (0+8) 8,e1,cut_at cs (0+8+8) 1,e2,cut_at cs (0+8+8+1) 1,e3,cut_at cs (0+8+8+1+1) 1,e4,List.drop_of_length_le (by omega)]
 rfl
theorem open_nmr (h:DataW.trod enc Tryz.prog w base (fun _=>true) held fuel 30 cs=some x):∃ y:UInt64,cs=nmL y∧True:=by
 obtain ⟨y,e⟩:=open_nmc h
 rw [nmc_toList] at e
 exact ⟨y,e,trivial⟩
theorem open_inr (h:DataW.trod enc Tryz.prog w base (fun _=>true) held fuel 3 cs=some x):∃ y:Int,cs=inL y∧wfI y:=by
 obtain ⟨y,e,_,w0⟩:=DataW.trod_int Tryz.underlying3 h
 exact ⟨y,e,w0⟩
theorem open_des (h:DataW.trod enc Tryz.prog w base (fun _=>true) held fuel 27 cs=some x):∃ A n c,∃ L:List DeR,cs=[.slice A n c]∧SlG w A n c L :=
 open_rowsD Tryz.underlying27 cellsD1 (fun h=>open_dec h) (fun y a v hv hc=>by have e:=Option.some.inj hv;subst e;exact spot_none' hc) h
theorem open_lks (h:DataW.trod enc Tryz.prog w base (fun _=>true) held fuel 41 cs=some x):∃ A n c,∃ L:List LkR,cs=[.slice A n c]∧SlG w A n c L :=
 open_rowsD Tryz.underlying41 cellsD2 (fun h=>open_lkc h) (fun y a v hv hc=>by have e:=Option.some.inj hv;subst e;exact spot_none' hc) h
theorem open_nms (h:DataW.trod enc Tryz.prog w base (fun _=>true) held fuel 37 cs=some x):∃ A n c,∃ L:List UInt64,cs=[.slice A n c]∧SlG w A n c L :=
 open_rowsD Tryz.underlying37 cellsNm (fun h=>open_nmr h) (fun y a v hv hc=>by have hv:(nmL y)[0]?=some v:=hv;rw [nmL,bcs_nb8] at hv;have e:=Option.some.inj hv;subst e;exact spot_none' hc) h
theorem open_iss (h:DataW.trod enc Tryz.prog w base (fun _=>true) held fuel 38 cs=some x):∃ A n c,∃ L:List Int,cs=[.slice A n c]∧SlG w A n c L :=
 open_rowsD Tryz.underlying38 cellsI1 (fun h=>open_inr h) (fun y a v hv hc=>by have e:=Option.some.inj hv;subst e;exact spot_none' hc) h
theorem open_stateC (h:DataW.trod enc Tryz.prog w base (fun _=>true) held fuel 44 cs=some x):∃ s:StR,cs=(ssA s).toList∧s.ok w:=by
 obtain ⟨xs,m,_,_,hl,hxl,hg⟩:=DataW.trod_struct Tryz.underlying44 h
 rw [cellsD4] at hl
 obtain ⟨x0,x1,x2,x3,x4,rfl⟩:=listOf5D (show xs.length=5 from hxl)
 have h0:DataW.trod enc Tryz.prog w base (fun _=>true) held m 27 ((cs.drop 0).take (Tryz.prog.cellsOf 27))=some x0:=hg 0 _ rfl
 rw [cellsD5] at h0
 have h1:DataW.trod enc Tryz.prog w base (fun _=>true) held m 38 ((cs.drop 1).take (Tryz.prog.cellsOf 38))=some x1:=hg 1 _ rfl
 rw [cellsD6] at h1
 have h2:DataW.trod enc Tryz.prog w base (fun _=>true) held m 41 ((cs.drop 2).take (Tryz.prog.cellsOf 41))=some x2:=hg 2 _ rfl
 rw [cellsD7] at h2
 have h3:DataW.trod enc Tryz.prog w base (fun _=>true) held m 37 ((cs.drop 3).take (Tryz.prog.cellsOf 37))=some x3:=hg 3 _ rfl
 rw [cellsD8] at h3
 have h4:DataW.trod enc Tryz.prog w base (fun _=>true) held m 42 ((cs.drop 4).take (Tryz.prog.cellsOf 42))=some x4:=hg 4 _ rfl
 rw [cellsD3] at h4
 obtain ⟨A1,n1,c1,L1,e0,w0⟩:=open_des h0
 obtain ⟨A2,n2,c2,L2,e1,w1⟩:=open_iss h1
 obtain ⟨A3,n3,c3,L3,e2,w2⟩:=open_lks h2
 obtain ⟨A4,n4,c4,L4,e3,w3⟩:=open_nms h3
 obtain ⟨g,e4,_,w4⟩:=DataW.trod_int Tryz.underlying42 h4
 refine ⟨⟨A1,n1,c1,L1,A2,n2,c2,L2,A3,n3,c3,L3,A4,n4,c4,L4,g⟩,?_,⟨w0,w1,w2,w3,w4⟩⟩
 have e:cs=cs.drop 0:=rfl
 rw [e,cut_at cs (0) 1,e0,cut_at cs (0+1) 1,e1,cut_at cs (0+1+1) 1,e2,cut_at cs (0+1+1+1) 1,e3,cut_at cs (0+1+1+1+1) 1,e4,List.drop_of_length_le (by omega)]
 rfl
end
theorem open_state {H:Type} {enc:TypeId × Value→H} {W:World} {base b0:Nat} {held:Bool} {v:Value} {d:DataW H} {q:List MemPlace} (hv:Value.okWide Tryz.prog W .any b0 44 v)
  (h:DataW.Trod enc Tryz.prog W base (fun _=>true) held 44 v d q):∃ s:StR,v=.agg (ssA s)∧s.ok W:=by
 obtain ⟨fuel,hf⟩:=h
 simp only [Value.okWide,Tryz.underlying44] at hv
 obtain ⟨cs,rfl,_,_⟩:=hv
 obtain ⟨s,e,h1⟩:=open_stateC hf
 refine ⟨s,?_,h1⟩
 congr 1
 apply Array.toList_inj.1
 exact e
end Go.Proofs.YtohmmcahpakokaaGreat
