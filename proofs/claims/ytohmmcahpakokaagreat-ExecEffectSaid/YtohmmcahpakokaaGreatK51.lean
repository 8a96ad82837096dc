/- What a law is told of its arguments: names and bytes that came in. -/
import Derived.ShutString
import Derived.ChangeOld
import Derived.Below
import Derived.SizedLaws
import Derived.Test.YtohmmcahpakokaaGreatK47
import Derived.Test.YtohmmcahpakokaaGreatK50
set_option maxRecDepth 100000
set_option maxHeartbeats 8000000
set_option linter.unusedVariables false
set_option linter.unusedSimpArgs false
namespace Go.Proofs.YtohmmcahpakokaaGreat
open Go.ChangeShapes Go.WideShapes Go.ChangeAt Go.RowKit
theorem cellsNm:Tryz.prog.cellsOf 30=8:=by kernel_rfl
theorem cellsB1:Tryz.prog.cellsOf 5=1:=by kernel_rfl
theorem open_nmc {H:Type} {enc:TypeId × Value→H} {W:World} {base fuel:Nat} {held:Bool} {cs:List Value} {x:DataW H × List MemPlace}
  (h:DataW.trod enc Tryz.prog W base (fun _=>true) held fuel 30 cs=some x):∃ n:UInt64,cs=(nmc n).toList:=by
 obtain ⟨xs,m,_,_,hl,hxl,hf⟩:=DataW.trod_array Tryz.underlying30 h
 rw [cellsNm] at hl
 rw [cellsB1] at hf
 have hb:∀ i,i < 8→∃ b:UInt8,cs[i]?=some (.int .u8 (b.toNat:Int)):=by
  intro i hi
  have h1:=hf i hi
  rw [List.getElem?_eq_getElem (by omega)] at h1
  obtain ⟨z,e,_,wz⟩:=DataW.trod_int Tryz.underlying5 h1
  have h2:=wf_u8 wz
  refine ⟨toB z,?_⟩
  rw [← toB_eq,Int.emod_eq_of_lt h2.1 h2.2]
  have h3:((cs.drop (i * 1)).take 1)[0]?=some (.int .u8 z):=by rw [e];rfl
  rw [List.getElem?_take_of_lt (by omega),List.getElem?_drop] at h3
  simpa using h3
 have hc:∃ l:List UInt8,l.length=8∧cs=bcs l:=by
  match cs,hl,hb with
  | [c0,c1,c2,c3,c4,c5,c6,c7],_,hb =>
   obtain ⟨b0,e0⟩:=hb 0 (by omega)
   have e0:c0=.int .u8 (b0.toNat:Int):=Option.some.inj e0
   obtain ⟨b1,e1⟩:=hb 1 (by omega)
   have e1:c1=.int .u8 (b1.toNat:Int):=Option.some.inj e1
   obtain ⟨b2,e2⟩:=hb 2 (by omega)
   have e2:c2=.int .u8 (b2.toNat:Int):=Option.some.inj e2
   obtain ⟨b3,e3⟩:=hb 3 (by omega)
   have e3:c3=.int .u8 (b3.toNat:Int):=Option.some.inj e3
   obtain ⟨b4,e4⟩:=hb 4 (by omega)
   have e4:c4=.int .u8 (b4.toNat:Int):=Option.some.inj e4
   obtain ⟨b5,e5⟩:=hb 5 (by omega)
   have e5:c5=.int .u8 (b5.toNat:Int):=Option.some.inj e5
   obtain ⟨b6,e6⟩:=hb 6 (by omega)
   have e6:c6=.int .u8 (b6.toNat:Int):=Option.some.inj e6
   obtain ⟨b7,e7⟩:=hb 7 (by omega)
   have e7:c7=.int .u8 (b7.toNat:Int):=Option.some.inj e7
   exact ⟨[b0,b1,b2,b3,b4,b5,b6,b7],rfl,by rw [e0,e1,e2,e3,e4,e5,e6,e7];rfl⟩
 obtain ⟨l,hl8,rfl⟩:=hc
 exact ⟨ofNm l,by rw [nmc_toList,nmb_ofNm l hl8]⟩
end Go.Proofs.YtohmmcahpakokaaGreat
namespace Go.Proofs.YtohmmcahpakokaaGreat
open Go.ChangeShapes Go.WideShapes Go.ChangeAt Go.RowKit Go.Deep
theorem cellsI1:Tryz.prog.cellsOf 3=1:=by kernel_rfl
theorem spot_none' {w:World} {x:Addr} {k:IntKind} {n:Int} (h:w.cell? x=some (.int k n)):x.spot=none:=by
 unfold World.cell? at h
 cases hs:x.spot with
 | none=>rfl
 | some p=>rw [hs] at h;split at h <;> simp at h
end Go.Proofs.YtohmmcahpakokaaGreat
namespace Go.Proofs.YtohmmcahpakokaaGreat
open Go.ChangeShapes Go.WideShapes Go.ChangeAt Go.RowKit Go.Deep
theorem cellsO23:Tryz.prog.cellsOf 69=23:=by kernel_rfl
theorem cellsT3:Tryz.prog.cellsOf 24=3:=by kernel_rfl
theorem cellsSB:Tryz.prog.cellsOf 45=1:=by kernel_rfl
theorem cellsSO:Tryz.prog.cellsOf 22=1:=by kernel_rfl
section
variable {H:Type} {enc:TypeId × Value→H} {w:World} {base fuel:Nat} {held:Bool} {cs:List Value} {x:DataW H × List MemPlace}
theorem open_rowB (h:DataW.trod enc Tryz.prog w base (fun _=>true) held fuel 45 cs=some x):∃ a n c l,cs=[.slice a n c]∧SlB w a n c l:=by
 rcases open_ints Tryz.underlying45 Tryz.underlying5 cellsB1 h with ⟨hcs,_⟩ | ⟨x,l,c,zs,hcs,_,hl,hm,hz,_,hcell,hwz⟩
 ·exact ⟨_,_,_,[],hcs,SlB.nil w⟩
 ·obtain ⟨l', hs⟩ := slb_of_row (.inr ⟨_, rfl, hl, hm, by simpa using hz, hcell, hwz⟩)
  exact ⟨_,_,_,l',hcs,hs⟩
theorem cut_at {α:Type} (cs:List α) (a n:Nat):cs.drop a=(cs.drop a).take n ++ cs.drop (a+n):=by
 rw [← List.drop_drop,List.take_append_drop]
theorem list9 {α:Type} {l:List α} (h:l.length=9):∃ a b c d e f g i j,l=[a,b,c,d,e,f,g,i,j]:=by
 match l,h with
 | [a,b,c,d,e,f,g,i,j],_=>exact ⟨a,b,c,d,e,f,g,i,j,rfl⟩
theorem open_op (h:DataW.trod enc Tryz.prog w base (fun _=>true) held fuel 69 cs=some x):∃ R:OpR,cs=opL R∧R.ok w:=by
 obtain ⟨xs,m,_,_,hl,hxl,hg⟩:=DataW.trod_struct Tryz.underlying69 h
 rw [cellsO23] at hl
 obtain ⟨x0,x1,x2,x3,x4,x5,x6,x7,x8,rfl⟩:=list9 (show xs.length=9 from hxl)
 have h0:DataW.trod enc Tryz.prog w base (fun _=>true) held m 3 ((cs.drop 0).take (Tryz.prog.cellsOf 3))=some x0:=hg 0 _ rfl
 have h1:DataW.trod enc Tryz.prog w base (fun _=>true) held m 3 ((cs.drop 1).take (Tryz.prog.cellsOf 3))=some x1:=hg 1 _ rfl
 have h2:DataW.trod enc Tryz.prog w base (fun _=>true) held m 3 ((cs.drop 2).take (Tryz.prog.cellsOf 3))=some x2:=hg 2 _ rfl
 have h3:DataW.trod enc Tryz.prog w base (fun _=>true) held m 3 ((cs.drop 3).take (Tryz.prog.cellsOf 3))=some x3:=hg 3 _ rfl
 have h4:DataW.trod enc Tryz.prog w base (fun _=>true) held m 3 ((cs.drop 4).take (Tryz.prog.cellsOf 3))=some x4:=hg 4 _ rfl
 have h5:DataW.trod enc Tryz.prog w base (fun _=>true) held m 30 ((cs.drop 5).take (Tryz.prog.cellsOf 30))=some x5:=hg 5 _ rfl
 have h6:DataW.trod enc Tryz.prog w base (fun _=>true) held m 30 ((cs.drop 13).take (Tryz.prog.cellsOf 30))=some x6:=hg 6 _ rfl
 have h7:DataW.trod enc Tryz.prog w base (fun _=>true) held m 45 ((cs.drop 21).take (Tryz.prog.cellsOf 45))=some x7:=hg 7 _ rfl
 have h8:DataW.trod enc Tryz.prog w base (fun _=>true) held m 45 ((cs.drop 22).take (Tryz.prog.cellsOf 45))=some x8:=hg 8 _ rfl
 rw [cellsI1] at h0 h1 h2 h3 h4
 rw [cellsNm] at h5 h6
 rw [cellsSB] at h7 h8
 obtain ⟨k,e0,_,_⟩:=DataW.trod_int Tryz.underlying3 h0
 obtain ⟨tO,e1,_,_⟩:=DataW.trod_int Tryz.underlying3 h1
 obtain ⟨am,e2,_,_⟩:=DataW.trod_int Tryz.underlying3 h2
 obtain ⟨ul,e3,_,_⟩:=DataW.trod_int Tryz.underlying3 h3
 obtain ⟨va,e4,_,_⟩:=DataW.trod_int Tryz.underlying3 h4
 obtain ⟨lk,e5⟩:=open_nmc h5
 obtain ⟨hs,e6⟩:=open_nmc h6
 obtain ⟨A1,n1,c1,pre,e7,s1⟩:=open_rowB h7
 obtain ⟨A2,n2,c2,prf,e8,s2⟩:=open_rowB h8
 rw [nmc_toList,bcs_nb8] at e5 e6
 refine ⟨⟨k,tO,am,ul,va,lk,hs,A1,n1,c1,pre,A2,n2,c2,prf⟩,?_,⟨s1,s2⟩⟩
 have e:cs=cs.drop 0:=rfl
 rw [e,cut_at cs 0 1,e0,cut_at cs (0+1) 1,e1,cut_at cs (0+1+1) 1,e2,cut_at cs (0+1+1+1) 1,e3,cut_at cs (0+1+1+1+1) 1,e4,cut_at cs (0+1+1+1+1+1) 8,e5,cut_at cs (0+1+1+1+1+1+8) 8,e6,cut_at cs (0+1+1+1+1+1+8+8) 1,e7,cut_at cs (0+1+1+1+1+1+8+8+1) 1,e8,List.drop_of_length_le (by omega)]
 rfl
theorem rows_ops {b o:Nat}:∀ (n:Nat),(∀ j,j < n→∃ y:OpR,w.rangeAt b (o+j * 23) (opL y)∧y.ok w)→∃ L:List OpR,L.length=n∧w.rangeAt b o (ocs L)∧∀ R,R ∈ L→R.ok w:=by
 intro n
 induction n with
 | zero=>intro _;exact ⟨[],rfl,fun j v hv=>by simp [ocs] at hv,fun R hR=>by cases hR⟩
 | succ n ih =>
  intro h
  obtain ⟨L,hL,hr,hok⟩:=ih (fun j hj=>h j (by omega))
  obtain ⟨y,hy,hyo⟩:=h n (by omega)
  refine ⟨L ++ [y],by simp [hL],?_,?_⟩
  ·rw [ocs_append, ocs_cons, ocs_nil, List.append_nil]
   refine rangeAt_append hr ?_
   rw [ocs_length,hL];exact hy
  ·intro R hR
   rcases List.mem_append.1 hR with hR | hR
   ·exact hok R hR
   ·rw [List.mem_singleton.1 hR];exact hyo
theorem open_ops (h:DataW.trod enc Tryz.prog w base (fun _=>true) held fuel 22 cs=some x):∃ A n c L,cs=[.slice A n c]∧SlO w A n c L:=by
 rcases open_slice Tryz.underlying22 h with ⟨hcs,_⟩ | ⟨x,l,c',m,n,D,Pl,hcs,_,hl,hm,hmm,_,hi⟩
 ·exact ⟨none,0,0,[],hcs,SlO.nil w⟩
 ·rw [if_pos rfl] at hmm
  subst hmm
  have hcell:∀ j,j < l→∃ y:OpR,(∀ q v,(opL y)[q]?=some v→w.cell? ((x.add (j * 23)).add q)=some v)∧y.ok w:=by
   intro j hj
   obtain ⟨cs',hc,ht⟩:=hi j (by omega)
   obtain ⟨y,rfl,hyo⟩:=open_op ht
   rw [cellsO23] at hc
   obtain ⟨_,hln,hat⟩:=World.cells?_some hc
   refine ⟨y,fun q v hv=>?_,hyo⟩
   have hq:=(List.getElem?_eq_some_iff.1 hv).1
   have:=hat q (by rw [opL_length] at hq;omega)
   rw [this,hv]
  rcases Nat.eq_zero_or_pos l with rfl | h0
  ·exact ⟨_,0,_,[],hcs,rfl,Nat.zero_le _,by unfold maxLen at hm;omega,.nil,fun R hR=>by cases hR⟩
  ·have hx:x.spot=none:=by
    obtain ⟨y,hy,_⟩:=hcell 0 h0
    have:=hy 0 (.int .i64 y.k) rfl
    have e0:((x.add (0 * 23)).add 0)=x:=by simp [Addr.add]
    rw [e0] at this
    exact spot_none' this
   obtain ⟨bl,ol,sp⟩:=x
   simp only at hx
   subst hx
   obtain ⟨L,hL,hr,hok⟩:=rows_ops (w:=w) (b:=bl) (o:=ol) l (fun j hj=>by
    obtain ⟨y,hy,hyo⟩:=hcell j hj
    refine ⟨y,fun q v hv=>?_,hyo⟩
    have:=hy q v hv
    rwa [Addr.add_mid,Addr.add_mid] at this)
   exact ⟨_,l,_,L,hcs,hL,hl,by unfold maxLen at hm;omega,.inr ⟨bl,ol,rfl,hr⟩,hok⟩
theorem list3' {α:Type} {l:List α} (h:l.length=3):∃ a b c,l=[a,b,c]:=by
 match l,h with
 | [a,b,c],_=>exact ⟨a,b,c,rfl⟩
theorem open_txc (h:DataW.trod enc Tryz.prog w base (fun _=>true) held fuel 24 cs=some x):∃ ac sq A n c L,cs=[.int .i64 ac,.int .i64 sq,.slice A n c]∧SlO w A n c L:=by
 obtain ⟨xs,m,_,_,hl,hxl,hf⟩:=DataW.trod_struct Tryz.underlying24 h
 rw [cellsT3] at hl
 obtain ⟨c0,c1,c2,rfl⟩:=list3' hl
 obtain ⟨x0,x1,x2,rfl⟩:=list3' (show xs.length=3 from hxl)
 have h0:DataW.trod enc Tryz.prog w base (fun _=>true) held m 3 (([c0,c1,c2].drop 0).take (Tryz.prog.cellsOf 3))=some x0:=hf 0 _ rfl
 have h1:DataW.trod enc Tryz.prog w base (fun _=>true) held m 3 (([c0,c1,c2].drop 1).take (Tryz.prog.cellsOf 3))=some x1:=hf 1 _ rfl
 have h2:DataW.trod enc Tryz.prog w base (fun _=>true) held m 22 (([c0,c1,c2].drop 2).take (Tryz.prog.cellsOf 22))=some x2:=hf 2 _ rfl
 rw [cellsI1] at h0 h1
 rw [cellsSO] at h2
 obtain ⟨ac,e0,_,_⟩:=DataW.trod_int Tryz.underlying3 h0
 obtain ⟨sq,e1,_,_⟩:=DataW.trod_int Tryz.underlying3 h1
 obtain ⟨A,n,c,L,e2,hs⟩:=open_ops h2
 simp only [List.drop_zero,List.drop_succ_cons,List.take_succ_cons,List.take_zero,List.cons.injEq,and_true] at e0 e1 e2
 exact ⟨ac,sq,A,n,c,L,by rw [e0,e1,e2],hs⟩
end
theorem open_tx {H:Type} {enc:TypeId × Value→H} {W:World} {base b0:Nat} {held:Bool} {v:Value} {d:DataW H} {q:List MemPlace} (hv:Value.okWide Tryz.prog W .any b0 24 v)
  (h:DataW.Trod enc Tryz.prog W base (fun _=>true) held 24 v d q):∃ ac sq A n c L,v=.agg (txA ac sq A n c)∧SlO W A n c L:=by
 obtain ⟨fuel,hf⟩:=h
 simp only [Value.okWide,Tryz.underlying24] at hv
 obtain ⟨cs,rfl,_,_⟩:=hv
 obtain ⟨ac,sq,A,n,c,L,e,hT⟩:=open_txc hf
 refine ⟨ac,sq,A,n,c,L,?_,hT⟩
 congr 1
 apply Array.toList_inj.1
 exact e
end Go.Proofs.YtohmmcahpakokaaGreat
namespace Go.Proofs.YtohmmcahpakokaaGreat
open Go.RowKit
attribute [local go_sem ↓] Go.wp_at_zero Go.wp_at_succ
theorem execEffect_any (ac sq:Int) (A:Option Addr) (n c:Nat) (L:List OpR) (w:World) (hS:SlO w A n c L) :
  Calls Tryz.prog 3 #[.agg (txA ac sq A n c)] w fun e w'=>e=.returned (.bool true)∧Ext w w':=by
 obtain ⟨W,hW⟩:∃ W,w.alloc (.cells (txA ac sq A n c) 24)=W:=⟨_,rfl⟩
 have HB:=zh (show Blk W w.heap.size 24 (txA ac sq A n c) from by rw [← hW];exact Blk.new w 24 (txA ac sq A n c))
 have HE:=zh (show Ext w W from by rw [← hW];exact (Ext.refl w).alloc' _)
 have HS:=zh (hS.ext HE.out)
 clear hS
 have q0:=HB.out.cell 0
 have q1:=HB.out.cell 1
 have q2:=HB.out.cell 2
 go_enter Tryz.func3,Tryz.ntmps3
 go_wp2_with fail
 refine (long22_any ac sq A n c L W HS.out).mono ?_
 rintro e w1 ⟨⟨b,rfl⟩,he1⟩
 have HB1:=zh (HB.out.ext he1)
 have HE1:=zh (HE.out.trans he1)
 have HS1:=zh (HS.out.ext he1)
 clear q0 q1 q2 he1 HB HE HS hW
 cases b with
 | true =>
  go_wp2_with fail
  refine (awake22_any w1).mono ?_
  rintro e w2 ⟨rfl,he2⟩
  have HE2:=zh (HE1.out.trans he2)
  clear he2
  go_wp2_with fail
  go_ret
  exact ⟨rfl,HE2.out⟩
 | false =>
  have q0:=HB1.out.cell 0
  have q1:=HB1.out.cell 1
  have q2:=HB1.out.cell 2
  go_wp2_with fail
  refine (exEffect_any ac sq A n c L w1 HS1.out).mono ?_
  rintro e w2 ⟨A2,m,c2,rfl,ho,hw,he2⟩
  obtain ⟨l,hl⟩:∃ l,effT ac sq L=l:=⟨_,rfl⟩
  have HT0:=zh (show totC l=0 from by rw [← hl];exact sum_effT ac sq L)
  have HEF:=zh hl
  rw [hl] at ho hw
  have HD:=zh (OwnG.sl (e:=34) ho hw)
  have HLEN:=zh HD.out.len
  have hle:=HD.out.le
  have hcap:=HD.out.cap
  have HB2:=zh (HB1.out.ext he2)
  have HE2:=zh (HE1.out.trans he2)
  have HS2:=zh (HS1.out.ext he2)
  clear q0 q1 q2 he2 HB1 HE1 HS1 ho hw hl
  go_wp2_with fail
  go_loopw [4,5] (fun vn vi wr=>∃ (k:Nat) (t:Int),vn=.int .i64 t∧vi=.int .i64 (k:Int)∧k≤m∧Hid (totC (l.take k)=t)∧wr=w2) (fun _ i _=>m - (intOf i).toNat)
  case atStart=>exact ⟨0,0,rfl,rfl,Nat.zero_le _,zh rfl,rfl⟩
  case round =>
   obtain ⟨k,t,rfl,rfl,hk,HT,rfl⟩:=hrel
   by_cases hlt:k < m
   ·have i0 : (0 : Int) ≤ (k : Int) := by omega
    have i1:(k:Int) < (m:Int):=by omega
    obtain ⟨b,o,hab,hcell⟩:=get_cell HD.out hlt
    subst hab
    have hs:=tot_take (C:=l) (k:=k) (by rw [HLEN.out];exact hlt)
    rw [HT.out] at hs
    obtain ⟨t',ht'⟩:∃ t',totC (l.take (k+1))=t':=⟨_,rfl⟩
    rw [ht'] at hs
    have HT':=zh ht'
    clear ht'
    go_wp2_with fail
    go_roundw
    case rel=>exact ⟨k+1,t',by first | rfl | go_num,by go_num,hlt,HT',trivial⟩
    case measure=>simp [intOf];omega
   ·obtain rfl : m = k := by omega
    have i1:¬ (m:Int) < (m:Int):=by omega
    have HF:=zh (show t=0 from by rw [← HT.out,← HLEN.out,List.take_length];exact HT0.out)
    rw [HF.out]
    go_upto_region 9 with fail
    have HB3:=zh (HB2.out.ext ((Ext.refl wr).drew'))
    have HS3:=zh (HS2.out.ext ((Ext.refl wr).drew'))
    have HD3:=zh (HD.out.ext ((Ext.refl wr).drew'))
    have HE3:=zh (HE2.out.trans ((Ext.refl wr).drew'))
    clear HB2 HS2 HD HE2
    refine wp_region_held_drew (S:=fun V=>Ext wr.drew V) (by kernel_rfl) (Ext.refl _) (fun hHeld=>?_)
    refine zt 0 hHeld ?_
    refine zu 1 (v:=.agg (txA ac sq A n c)) hHeld ?_ (hy:=by refine .inl ⟨by rfl,fun V hSW=>?_⟩;have q0:=(HB3.out.ext hSW).cell 0;have q1:=(HB3.out.ext hSW).cell 1;have q2:=(HB3.out.ext hSW).cell 2;go_simp;try rfl)
    refine za 2 (fun K hK=>?_)
    (go_simp;go_at_call 15;refine (rEffect_any ac sq A n c L _ (HS3.out.ext hHeld)).mono ?_;rintro e w5 ⟨A9,n9,c9,rfl,ho,hw,he5⟩;have HD9:=zh (OwnG.sl (e:=34) ho hw);rw [HEF.out] at HD9;clear ho hw)
    refine hK.out _ _ (hHeld.trans he5) (fun hHeld=>?_)
    clear hK K
    try simp only [lays]
    refine za 3 (fun K hK=>?_)
    (go_simp;go_at_call 14;refine (rSameDeltas_any A2 m c2 l A9 n9 c9 l _ (HD3.out.ext hHeld) HD9.out).mono ?_;rw [decide_eq_true rfl];rintro e w5 ⟨rfl,he5⟩)
    refine hK.out _ _ (hHeld.trans he5) (fun hHeld=>?_)
    clear hK K
    try simp only [lays]
    refine zt 4 hHeld ?_
    refine zu 5 (v:=.agg (txA ac sq A n c)) hHeld ?_ (hy:=by refine .inl ⟨by rfl,fun V hSW=>?_⟩;have q0:=(HB3.out.ext hSW).cell 0;have q1:=(HB3.out.ext hSW).cell 1;have q2:=(HB3.out.ext hSW).cell 2;go_simp;try rfl)
    refine zu 7 (v:=.agg (txA ac sq A n c)) hHeld ?_ (hy:=by refine .inl ⟨by rfl,fun V hSW=>?_⟩;have q0:=(HB3.out.ext hSW).cell 0;have q1:=(HB3.out.ext hSW).cell 1;have q2:=(HB3.out.ext hSW).cell 2;go_simp;try rfl)
    refine za 6 (fun K hK=>?_)
    (go_simp;go_at_call 16;refine (exOutflow_any ac sq A n c L _ (HS3.out.ext hHeld)).mono ?_;rintro e w5 ⟨rfl,he5⟩)
    refine hK.out _ _ (hHeld.trans he5) (fun hHeld=>?_)
    clear hK K
    try simp only [lays]
    refine za 8 (fun K hK=>?_)
    (go_simp;go_at_call 17;refine (rOutflow_any ac sq A n c L _ (HS3.out.ext hHeld)).mono ?_;rintro e w5 ⟨rfl,he5⟩)
    refine hK.out _ _ (hHeld.trans he5) (fun hHeld=>?_)
    clear hK K
    try simp only [lays]
    first | (refine zt 9 hHeld ?_) | (refine zs 9 hHeld ?_)
    refine zt 10 hHeld ?_
    refine zt 11 hHeld ?_
    first | (refine zt 12 hHeld ?_) | (refine zs 12 hHeld ?_)
    first | (refine zt 13 hHeld ?_) | (refine zs 13 hHeld ?_)
    refine zt 14 hHeld ?_
    refine zt 15 hHeld ?_
    refine za 16 (fun K hK=>?_)
    (go_simp;go_at_call 12;refine (awake22_any _).mono ?_;rintro e w5 ⟨rfl,he5⟩)
    refine hK.out _ _ (hHeld.trans he5) (fun hHeld=>?_)
    clear hK K
    try simp only [lays]
    refine zt 17 hHeld ?_
    refine zt 18 hHeld ?_
    refine wpAnyH_done (by kernel_rfl) ?_ _
    go_wp2_with fail
    go_ret
    exact ⟨rfl,HE3.out.trans hHeld⟩
end Go.Proofs.YtohmmcahpakokaaGreat
