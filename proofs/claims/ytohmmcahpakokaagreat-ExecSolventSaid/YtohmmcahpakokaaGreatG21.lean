/- What a law is told of its arguments: names and bytes that came in. -/
import Derived.ShutString
import Derived.ChangeOld
import Derived.Below
import Derived.SizedLaws
import Derived.Test.YtohmmcahpakokaaGreatG17
import Derived.Test.YtohmmcahpakokaaGreatG20
set_option maxRecDepth 100000
set_option maxHeartbeats 8000000
set_option linter.unusedVariables false
set_option linter.unusedSimpArgs false
namespace Go.Proofs.YtohmmcahpakokaaGreat
section
open Go.ChangeShapes Go.WideShapes Go.ChangeAt Go.RowKit
theorem lT:Tryz.prog.cellsOf 30=8:=by kernel_rfl
theorem aFk:Tryz.prog.cellsOf 5=1:=by kernel_rfl
theorem jR {H:Type} {enc:TypeId × Value→H} {W:World} {base fuel:Nat} {held:Bool} {cs:List Value} {x:DataW H × List MemPlace}
  (h:DataW.trod enc Tryz.prog W base (fun _=>true) held fuel 30 cs=some x):∃ n:UInt64,cs=(nmc n).toList:=by
 obtain ⟨xs,m,_,_,hl,hxl,hf⟩:=DataW.trod_array Tryz.underlying30 h
 rw [lT] at hl
 rw [aFk] at hf
 have hb:∀ i,i < 8→∃ b:UInt8,cs[i]?=some (.int .u8 (b.toNat:Int)):=by
  intro i hi
  have h1:=hf i hi
  rw [List.getElem?_eq_getElem (by omega)] at h1
  obtain ⟨z,e,_,wz⟩:=DataW.trod_int Tryz.underlying5 h1
  have h2:=aKo wz
  refine ⟨toB z,?_⟩
  rw [← bK,Int.emod_eq_of_lt h2.1 h2.2]
  have h3:((cs.drop (i * 1)).take 1)[0]?=some (.int .u8 z):=by rw [e];rfl
  rw [List.getElem?_take_of_lt (by omega),List.getElem?_drop] at h3
  simpa using h3
 have hc:∃ l:List UInt8,l.length=8∧cs=bcs l:=by
  match cs,hl,hb with
  | [c0,c1,c2,c3,c4,c5,c6,c7],_,hb =>
   obtain ⟨b0,e0⟩:=hb 0 (by omega)
   have e0:c0=.int .u8 (b0.toNat:Int):=Option.some.inj e0
   obtain ⟨b1,e1⟩:=hb 1 (by omega)
   have e1:c1=.int .u8 (b1.toNat:Int):=Option.some.inj e1
   obtain ⟨b2,e2⟩:=hb 2 (by omega)
   have e2:c2=.int .u8 (b2.toNat:Int):=Option.some.inj e2
   obtain ⟨b3,e3⟩:=hb 3 (by omega)
   have e3:c3=.int .u8 (b3.toNat:Int):=Option.some.inj e3
   obtain ⟨b4,e4⟩:=hb 4 (by omega)
   have e4:c4=.int .u8 (b4.toNat:Int):=Option.some.inj e4
   obtain ⟨b5,e5⟩:=hb 5 (by omega)
   have e5:c5=.int .u8 (b5.toNat:Int):=Option.some.inj e5
   obtain ⟨b6,e6⟩:=hb 6 (by omega)
   have e6:c6=.int .u8 (b6.toNat:Int):=Option.some.inj e6
   obtain ⟨b7,e7⟩:=hb 7 (by omega)
   have e7:c7=.int .u8 (b7.toNat:Int):=Option.some.inj e7
   exact ⟨[b0,b1,b2,b3,b4,b5,b6,b7],rfl,by rw [e0,e1,e2,e3,e4,e5,e6,e7];rfl⟩
 obtain ⟨l,hl8,rfl⟩:=hc
 exact ⟨rG l,by rw [bJ,mT l hl8]⟩
end
section
open Go.ChangeShapes Go.WideShapes Go.ChangeAt Go.RowKit Go.Deep
theorem gV:Tryz.prog.cellsOf 3=1:=by kernel_rfl
theorem gA {w:World} {x:Addr} {k:IntKind} {n:Int} (h:w.cell? x=some (.int k n)):x.spot=none:=by
 unfold World.cell? at h
 cases hs:x.spot with
 | none=>rfl
 | some p=>rw [hs] at h;split at h <;> simp at h
theorem aDa:Tryz.prog.cellsOf 69=23:=by kernel_rfl
theorem aFf:Tryz.prog.cellsOf 24=3:=by kernel_rfl
theorem aJU:Tryz.prog.cellsOf 47=4:=by kernel_rfl
theorem aFg:Tryz.prog.cellsOf 45=1:=by kernel_rfl
theorem aJV:Tryz.prog.cellsOf 22=1:=by kernel_rfl
section
variable {H:Type} {enc:TypeId × Value→H} {w:World} {base fuel:Nat} {held:Bool} {cs:List Value} {x:DataW H × List MemPlace}
theorem rD (h:DataW.trod enc Tryz.prog w base (fun _=>true) held fuel 45 cs=some x):∃ a n c l,cs=[.slice a n c]∧SlB w a n c l:=by
 rcases open_ints Tryz.underlying45 Tryz.underlying5 aFk h with ⟨hcs,_⟩ | ⟨x,l,c,zs,hcs,_,hl,hm,hz,_,hcell,hwz⟩
 ·exact ⟨_,_,_,[],hcs,SlB.nil w⟩
 obtain ⟨l',hs⟩:=aDE (.inr ⟨_,rfl,hl,hm,by simpa using hz,hcell,hwz⟩)
 exact ⟨_,_,_,l',hcs,hs⟩
theorem dL {α:Type} (cs:List α) (a n:Nat):cs.drop a=(cs.drop a).take n ++ cs.drop (a+n):=by
 rw [← List.drop_drop,List.take_append_drop]
theorem aMq {α:Type} {l:List α} (h:l.length=9):∃ a b c d e f g i j,l=[a,b,c,d,e,f,g,i,j]:=by
 match l,h with
 | [a,b,c,d,e,f,g,i,j],_=>exact ⟨a,b,c,d,e,f,g,i,j,rfl⟩
theorem aJc (h:DataW.trod enc Tryz.prog w base (fun _=>true) held fuel 69 cs=some x):∃ R:OpR,cs=opL R∧R.ok w:=by
 obtain ⟨xs,m,_,_,hl,hxl,hg⟩:=DataW.trod_struct Tryz.underlying69 h
 rw [aDa] at hl
 obtain ⟨x0,x1,x2,x3,x4,x5,x6,x7,x8,rfl⟩:=aMq (show xs.length=9 from hxl)
 have h0:DataW.trod enc Tryz.prog w base (fun _=>true) held m 3 ((cs.drop 0).take (Tryz.prog.cellsOf 3))=some x0:=hg 0 _ rfl
 have h1:DataW.trod enc Tryz.prog w base (fun _=>true) held m 3 ((cs.drop 1).take (Tryz.prog.cellsOf 3))=some x1:=hg 1 _ rfl
 have h2:DataW.trod enc Tryz.prog w base (fun _=>true) held m 3 ((cs.drop 2).take (Tryz.prog.cellsOf 3))=some x2:=hg 2 _ rfl
 have h3:DataW.trod enc Tryz.prog w base (fun _=>true) held m 3 ((cs.drop 3).take (Tryz.prog.cellsOf 3))=some x3:=hg 3 _ rfl
 have h4:DataW.trod enc Tryz.prog w base (fun _=>true) held m 3 ((cs.drop 4).take (Tryz.prog.cellsOf 3))=some x4:=hg 4 _ rfl
 have h5:DataW.trod enc Tryz.prog w base (fun _=>true) held m 30 ((cs.drop 5).take (Tryz.prog.cellsOf 30))=some x5:=hg 5 _ rfl
 have h6:DataW.trod enc Tryz.prog w base (fun _=>true) held m 30 ((cs.drop 13).take (Tryz.prog.cellsOf 30))=some x6:=hg 6 _ rfl
 have h7:DataW.trod enc Tryz.prog w base (fun _=>true) held m 45 ((cs.drop 21).take (Tryz.prog.cellsOf 45))=some x7:=hg 7 _ rfl
 have h8:DataW.trod enc Tryz.prog w base (fun _=>true) held m 45 ((cs.drop 22).take (Tryz.prog.cellsOf 45))=some x8:=hg 8 _ rfl
 rw [gV] at h0 h1 h2 h3 h4
 rw [lT] at h5 h6
 rw [aFg] at h7 h8
 obtain ⟨k,e0,_,_⟩:=DataW.trod_int Tryz.underlying3 h0
 obtain ⟨tO,e1,_,_⟩:=DataW.trod_int Tryz.underlying3 h1
 obtain ⟨am,e2,_,_⟩:=DataW.trod_int Tryz.underlying3 h2
 obtain ⟨ul,e3,_,_⟩:=DataW.trod_int Tryz.underlying3 h3
 obtain ⟨va,e4,_,_⟩:=DataW.trod_int Tryz.underlying3 h4
 obtain ⟨lk,e5⟩:=jR h5
 obtain ⟨hs,e6⟩:=jR h6
 obtain ⟨A1,n1,c1,pre,e7,s1⟩:=rD h7
 obtain ⟨A2,n2,c2,prf,e8,s2⟩:=rD h8
 rw [bJ,dU] at e5 e6
 refine ⟨⟨k,tO,am,ul,va,lk,hs,A1,n1,c1,pre,A2,n2,c2,prf⟩,?_,⟨s1,s2⟩⟩
 have e:cs=cs.drop 0:=rfl
 rw [e,dL cs 0 1,e0,dL cs (0+1) 1,e1,dL cs (0+1+1) 1,e2,dL cs (0+1+1+1) 1,e3,dL cs (0+1+1+1+1) 1,e4,dL cs (0+1+1+1+1+1) 8,e5,dL cs (0+1+1+1+1+1+8) 8,e6,dL cs (0+1+1+1+1+1+8+8) 1,e7,dL cs (0+1+1+1+1+1+8+8+1) 1,e8,List.drop_of_length_le (by omega)]
 rfl
theorem aHn {b o:Nat}:∀ (n:Nat),(∀ j,j < n→∃ y:OpR,w.rangeAt b (o+j * 23) (opL y)∧y.ok w)→∃ L:List OpR,L.length=n∧w.rangeAt b o (ocs L)∧∀ R,R ∈ L→R.ok w:=by
 intro n
 induction n with
 | zero=>intro _;exact ⟨[],rfl,fun j v hv=>by simp [ocs] at hv,fun R hR=>by cases hR⟩
 | succ n ih =>
  intro h
  obtain ⟨L,hL,hr,hok⟩:=ih (fun j hj=>h j (by omega))
  obtain ⟨y,hy,hyo⟩:=h n (by omega)
  refine ⟨L ++ [y],by simp [hL],?_,?_⟩
  ·rw [aDS, mS, aET, List.append_nil]
   refine jN hr ?_
   rw [vG,hL];exact hy
  intro R hR
  rcases List.mem_append.1 hR with hR | hR
  ·exact hok R hR
  rw [List.mem_singleton.1 hR];exact hyo
theorem aHz (h:DataW.trod enc Tryz.prog w base (fun _=>true) held fuel 22 cs=some x):∃ A n c L,cs=[.slice A n c]∧SlO w A n c L:=by
 rcases open_slice Tryz.underlying22 h with ⟨hcs,_⟩ | ⟨x,l,c',m,n,D,Pl,hcs,_,hl,hm,hmm,_,hi⟩
 ·exact ⟨none,0,0,[],hcs,SlO.nil w⟩
 rw [if_pos rfl] at hmm
 subst hmm
 have hcell:∀ j,j < l→∃ y:OpR,(∀ q v,(opL y)[q]?=some v→w.cell? ((x.add (j * 23)).add q)=some v)∧y.ok w:=by
  intro j hj
  obtain ⟨cs',hc,ht⟩:=hi j (by omega)
  obtain ⟨y,rfl,hyo⟩:=aJc ht
  rw [aDa] at hc
  obtain ⟨_,hln,hat⟩:=World.cells?_some hc
  refine ⟨y,fun q v hv=>?_,hyo⟩
  have hq:=(List.getElem?_eq_some_iff.1 hv).1
  have:=hat q (by rw [gC] at hq;omega)
  rw [this,hv]
 rcases Nat.eq_zero_or_pos l with rfl | h0
 ·exact ⟨_,0,_,[],hcs,rfl,Nat.zero_le _,by unfold maxLen at hm;omega,.nil,fun R hR=>by cases hR⟩
 have hx:x.spot=none:=by
  obtain ⟨y,hy,_⟩:=hcell 0 h0
  have:=hy 0 (.int .i64 y.k) rfl
  have e0:((x.add (0 * 23)).add 0)=x:=by simp [Addr.add]
  rw [e0] at this
  exact gA this
 obtain ⟨bl,ol,sp⟩:=x
 simp only at hx
 subst hx
 obtain ⟨L,hL,hr,hok⟩:=aHn (w:=w) (b:=bl) (o:=ol) l (fun j hj=>by
  obtain ⟨y,hy,hyo⟩:=hcell j hj
  refine ⟨y,fun q v hv=>?_,hyo⟩
  have:=hy q v hv
  rwa [Addr.add_mid,Addr.add_mid] at this)
 exact ⟨_,l,_,L,hcs,hL,hl,by unfold maxLen at hm;omega,.inr ⟨bl,ol,rfl,hr⟩,hok⟩
theorem aKv {α:Type} {l:List α} (h:l.length=2):∃ a b,l=[a,b]:=by
 match l,h with
 | [a,b],_=>exact ⟨a,b,rfl⟩
theorem aHV {α:Type} {l:List α} (h:l.length=3):∃ a b c,l=[a,b,c]:=by
 match l,h with
 | [a,b,c],_=>exact ⟨a,b,c,rfl⟩
theorem aMr {α:Type} {l:List α} (h:l.length=4):∃ a b c d,l=[a,b,c,d]:=by
 match l,h with
 | [a,b,c,d],_=>exact ⟨a,b,c,d,rfl⟩
theorem aHx (h:DataW.trod enc Tryz.prog w base (fun _=>true) held fuel 24 cs=some x):∃ ac sq A n c L,cs=[.int .i64 ac,.int .i64 sq,.slice A n c]∧SlO w A n c L:=by
 obtain ⟨xs,m,_,_,hl,hxl,hf⟩:=DataW.trod_struct Tryz.underlying24 h
 rw [aFf] at hl
 obtain ⟨c0,c1,c2,rfl⟩:=aHV hl
 obtain ⟨x0,x1,x2,rfl⟩:=aHV (show xs.length=3 from hxl)
 have h0:DataW.trod enc Tryz.prog w base (fun _=>true) held m 3 (([c0,c1,c2].drop 0).take (Tryz.prog.cellsOf 3))=some x0:=hf 0 _ rfl
 have h1:DataW.trod enc Tryz.prog w base (fun _=>true) held m 3 (([c0,c1,c2].drop 1).take (Tryz.prog.cellsOf 3))=some x1:=hf 1 _ rfl
 have h2:DataW.trod enc Tryz.prog w base (fun _=>true) held m 22 (([c0,c1,c2].drop 2).take (Tryz.prog.cellsOf 22))=some x2:=hf 2 _ rfl
 rw [gV] at h0 h1
 rw [aJV] at h2
 obtain ⟨ac,e0,_,_⟩:=DataW.trod_int Tryz.underlying3 h0
 obtain ⟨sq,e1,_,_⟩:=DataW.trod_int Tryz.underlying3 h1
 obtain ⟨A,n,c,L,e2,hs⟩:=aHz h2
 simp only [List.drop_zero,List.drop_succ_cons,List.take_succ_cons,List.take_zero,List.cons.injEq,and_true] at e0 e1 e2
 exact ⟨ac,sq,A,n,c,L,by rw [e0,e1,e2],hs⟩
theorem aHy (h:DataW.trod enc Tryz.prog w base (fun _=>true) held fuel 47 cs=some x):∃ T:TxR,cs=tL T∧T.ok w:=by
 obtain ⟨xs,m,_,_,hl,hxl,hf⟩:=DataW.trod_struct Tryz.underlying47 h
 rw [aJU] at hl
 obtain ⟨c0,c1,c2,c3,rfl⟩:=aMr hl
 obtain ⟨x0,x1,rfl⟩:=aKv (show xs.length=2 from hxl)
 have h0:DataW.trod enc Tryz.prog w base (fun _=>true) held m 24 (([c0,c1,c2,c3].drop 0).take (Tryz.prog.cellsOf 24))=some x0:=hf 0 _ rfl
 have h1:DataW.trod enc Tryz.prog w base (fun _=>true) held m 45 (([c0,c1,c2,c3].drop 3).take (Tryz.prog.cellsOf 45))=some x1:=hf 1 _ rfl
 rw [aFf] at h0
 rw [aFg] at h1
 obtain ⟨ac,sq,A,n,c,L,e0,hs⟩:=aHx h0
 obtain ⟨S,k,d,sig,e1,hg⟩:=rD h1
 simp only [List.drop_zero,List.drop_succ_cons,List.take_succ_cons,List.take_zero,List.cons.injEq,and_true] at e0 e1
 exact ⟨⟨ac,sq,A,n,c,S,k,d,L,sig⟩,by rw [e0.1,e0.2.1,e0.2.2,e1];rfl,⟨hs,hg⟩⟩
end
theorem sD {H:Type} {enc:TypeId × Value→H} {W:World} {base b0:Nat} {held:Bool} {v:Value} {d:DataW H} {q:List MemPlace} (hv:Value.okWide Tryz.prog W .any b0 47 v)
  (h:DataW.Trod enc Tryz.prog W base (fun _=>true) held 47 v d q):∃ T:TxR,v=.agg (tA T)∧T.ok W:=by
 obtain ⟨fuel,hf⟩:=h
 simp only [Value.okWide,Tryz.underlying47] at hv
 obtain ⟨cs,rfl,_,_⟩:=hv
 obtain ⟨T,e,hT⟩:=aHy hf
 refine ⟨T,?_,hT⟩
 congr 1
 apply Array.toList_inj.1
 exact e
end
section
open Go.RowKit
attribute [local go_sem ↓] Go.wp_at_zero Go.wp_at_succ
theorem mM {P:Program} {t:TypeId} {ops:Array Oper} {o:Oper} {a:Act} {w:World} {K:Act→World→Prop} {Q:Exit→Act→World→Prop} {X:Prop} (hgd:o.guard=none) (s x:Operand) (ho:o.op=.call { callee:=.builtin .append,args:=#[s,x],argTypes:=#[t,t] })
  (vs vx:Value) (hs:a.eval s=vs) (hx:a.eval x=vx) (v':Value) (w':World) (hr:(Builtin.append_ #[t,t] o.type #[vs,vx]).run P w=.ok v' w') (h:K (a.put o.dst v') w'):if Region.wanted o (yielded ops a.tmps)=true then Oper.wp P o a w K Q else X:=by
 have hw:Region.wanted o (yielded ops a.tmps)=true:=by simp [Region.wanted,hgd]
 rw [if_pos hw]
 unfold Oper.wp execOp
 simp only [ho,resolve,invoke,builtin,Sem.run_bind,Sem.run_pure,Result.andThen_ok,List.map_toArray,List.map_cons,List.map_nil,hs,hx,hr]
 exact h
theorem aGu (base g n c:Nat) (L:List DeR) (i:Nat) (w:World) (h:w.ownsRow base 34 11 (.slice (some ⟨g,0,none⟩) n c) n (gcs L)) (hn:n≤1000000000) (hi:i < n) :
  Calls Tryz.prog 102 #[.slice (some ⟨g,0,none⟩) n c,.int .i64 (i:Int),.int .i64 ((i+1:Nat):Int)] w (gW w base 34 11 (some ⟨g,0,none⟩) n c (n - 1) (gcs (L.take i ++ L.drop (i+1)))):=by
 obtain ⟨hle,hcap⟩:=dY h
 have HLEN:=zh (show L.length=n from OwnG.len (e:=34) h)
 have HO:=zh h.drew
 obtain ⟨ti,hti,htz,htsz,htby⟩:=Elem.get deE
 have hsrc0:∀ k v,(gcs L)[k]?=some v→w.cell? ⟨g,k,none⟩=some v:=fun k v hv=>by
  obtain ⟨g',hgg,_,hra⟩:=cY h (by omega)
  obtain rfl:g=g':=by injection hgg with h1;injection h1
  have:=hra k v hv;rwa [Nat.zero_add] at this
 have hdl:(gcs (L.drop (i+1))).length=(n - (i+1)) * 11:=by rw [aI,List.length_drop,HLEN.out];rfl
 have hfit:i * 11+(n - (i+1)) * 11≤n * 11:=by rw [← Nat.add_mul];exact Nat.mul_le_mul_right _ (by omega)
 have hxl:(gcs L).length=n * 11:=by rw [aI,HLEN.out];rfl
 obtain ⟨ad,had⟩:∃ ad:Addr,(if c=i+1 then ⟨g,0,none⟩ else (⟨g,(i+1) * 11,none⟩:Addr))=ad:=⟨_,rfl⟩
 have hnews:∀ j u,(gcs (L.drop (i+1)))[j]?=some u→w.drew.cell? (ad.add j)=some u:=fun j u hu=>by
  have hj:=(List.getElem?_eq_some_iff.1 hu).1
  rw [hdl] at hj
  by_cases hc:c=i+1
  ·have : n - (i + 1) = 0 := by omega
   rw [this] at hj;omega
  rw [← had,if_neg hc,Addr.add_mid]
  show w.cell? _=_
  refine hsrc0 _ u ?_
  rw [← eH,List.getElem?_drop] at hu
  exact hu
 have hrun:=fun ty=>run_append_room_cells (P:=Tryz.prog) (w:=w.drew) 27 ty 34 ti (Elem.ut deE) hti g 0 i c ad (n - (i+1)) (c - (i+1)) (gcs (L.drop (i+1))) (by rw [htsz];exact hdl) hnews (cG _) (by omega)
  (fun j hj=>by rw [htsz,Nat.zero_add,h.drew.cellAt (i * 11+j) (by omega),List.getElem?_eq_getElem (by omega)];rfl) (fun j hj=>by rw [htsz,Nat.zero_add];exact h.drew.frozenAt _)
 rw [htsz,Nat.zero_add,show i+(n - (i+1))=n - 1 by omega] at hrun
 have hsp:=jQ (gcs (L.drop (i+1))) (i * 11) w.drew (gcs L) (by omega) h.drew
 obtain ⟨W1,hW1⟩:∃ W1,w.drew.setCells g (i * 11) (gcs (L.drop (i+1)))=W1:=⟨_,rfl⟩
 rw [hW1] at hrun hsp
 have HRUN:=zh hrun
 have HG1:=zh (show w.grownBy W1 (some g) from Grown.trans (Ext.grown ((Ext.refl w).drew') _) hsp.2)
 have HO1:=zh hsp.1
 have HDC:=zh (show (splice (gcs L) (i * 11) (gcs (L.drop (i+1)))).take ((n - 1) * 11)=gcs (L.take i ++ L.drop (i+1)) from by
  have:=rN L (i:=i) (by rw [HLEN.out];exact hi);rw [HLEN.out] at this;exact this)
 have hcl:=fun ty=>aEO deE (by decide) W1 ty g ((n - 1) * 11) 1 (c - (n - 1)) (by omega) (fun j hj=>by
  have hh:=Nat.mul_le_mul_right 11 (show (n - 1)+1≤n by omega)
  rw [Nat.add_mul] at hh
  rw [HO1.out.cellAt ((n - 1) * 11+j) (by omega),List.getElem?_eq_getElem (by rw [HO1.out.1];omega)];rfl) (fun j hj=>HO1.out.frozenAt _)
 obtain ⟨xs',o1,o2,o3⟩:=uX (Builtin.zeroCells (Value.agg de0).cells 1).toList ((n - 1) * 11) W1 _ HO1.out
 have HEND:=zh (show (W1.setCells g ((n - 1) * 11) (Builtin.zeroCells (Value.agg de0).cells 1).toList).ownsRow base 34 11 (.slice (some ⟨g,0,none⟩) (n - 1) c) (n - 1) (gcs (L.take i ++ L.drop (i+1))) from by
  have:=tG o1 (i:=n - 1) (by omega) (by simp)
  rw [o2,HDC.out] at this;exact this)
 have HG2:=zh (Grown.trans HG1.out o3)
 obtain ⟨W2,hW2⟩:∃ W2,W1.setCells g ((n - 1) * 11) (Builtin.zeroCells (Value.agg de0).cells 1).toList=W2:=⟨_,rfl⟩
 rw [hW2] at hcl HEND HG2
 have HAD:=zh had
 have i0:(0:Int)≤(i:Int):=by omega
 have i1:(i:Int)+1≤(n:Int):=by omega
 have i2:(n:Int)≤(c:Int):=by omega
 have i3:(i:Int)≤(n:Int):=by omega
 have i4:¬ c=i:=by omega
 have i6:(i:Int)≤(c:Int):=by omega
 have i7:¬ n=i:=by omega
 have i8:¬ c=n - 1:=by omega
 have i9:((n - 1:Nat):Int)≤(n:Int):=by omega
 have i10:(0:Int)≤(i:Int)+1:=by omega
 have i11:((i:Int)+1).toNat=i+1:=by omega
 have i12:¬ (i:Int)+1 < 0:=by omega
 have i13:n - (n - 1)=1:=by omega
 have HI:=zh hi
 clear h hsrc0 hnews hrun hsp hW1 hW2 o1 o2 o3 hti htz htsz htby hdl hfit hxl had
 go_enter Tryz.func102,Tryz.ntmps102
 go_wp2_with fail
 refine wp_region_held_drew (S:=fun W=>True) (by kernel_rfl) (trivial) (fun aA=>?_)
 refine zzr [0,1,2,3,4] ?_
 refine zu 5 (v:=.slice (some ad) (n - (i+1)) (c - (i+1))) aA ?_ (hy:=by (rcases Classical.em (c=i+1) with hc | hc <;> (refine Or.inl ⟨by rfl,fun W _=>?_⟩;rw [← HAD.out];(first | rw [if_pos hc] | rw [if_neg hc]);go_simp <;> with_reducible rfl)))
 refine za 6 (fun K hK=>?_)
 (refine mM rfl (.tmp 22) (.tmp 25) rfl (.slice (some ⟨g,0,none⟩) i c) (.slice (some ad) (n - (i+1)) (c - (i+1))) (by rfl) (by rfl) _ _ (HRUN.out _) ?_)
 refine hK.out _ _ (trivial) (fun aA=>?_)
 clear hK K
 try simp only [aX]
 refine zt 7 aA ?_
 refine wpAnyH_done (by kernel_rfl) ?_ _
 clear HRUN
 go_wp2_with fail
 go_ret
 exact ⟨some ⟨g,0,none⟩,c,rfl,HEND.out,HG2.out⟩
theorem aGt (base g n c:Nat) (L:List LkR) (i:Nat) (w:World) (h:w.ownsRow base 94 19 (.slice (some ⟨g,0,none⟩) n c) n (gcs L)) (hn:n≤1000000000) (hi:i < n) :
  Calls Tryz.prog 156 #[.slice (some ⟨g,0,none⟩) n c,.int .i64 (i:Int),.int .i64 ((i+1:Nat):Int)] w (gW w base 94 19 (some ⟨g,0,none⟩) n c (n - 1) (gcs (L.take i ++ L.drop (i+1)))):=by
 obtain ⟨hle,hcap⟩:=dY h
 have HLEN:=zh (show L.length=n from OwnG.len (e:=94) h)
 have HO:=zh h.drew
 obtain ⟨ti,hti,htz,htsz,htby⟩:=Elem.get lkE
 have hsrc0:∀ k v,(gcs L)[k]?=some v→w.cell? ⟨g,k,none⟩=some v:=fun k v hv=>by
  obtain ⟨g',hgg,_,hra⟩:=cY h (by omega)
  obtain rfl:g=g':=by injection hgg with h1;injection h1
  have:=hra k v hv;rwa [Nat.zero_add] at this
 have hdl:(gcs (L.drop (i+1))).length=(n - (i+1)) * 19:=by rw [aI,List.length_drop,HLEN.out];rfl
 have hfit:i * 19+(n - (i+1)) * 19≤n * 19:=by rw [← Nat.add_mul];exact Nat.mul_le_mul_right _ (by omega)
 have hxl:(gcs L).length=n * 19:=by rw [aI,HLEN.out];rfl
 obtain ⟨ad,had⟩:∃ ad:Addr,(if c=i+1 then ⟨g,0,none⟩ else (⟨g,(i+1) * 19,none⟩:Addr))=ad:=⟨_,rfl⟩
 have hnews:∀ j u,(gcs (L.drop (i+1)))[j]?=some u→w.drew.cell? (ad.add j)=some u:=fun j u hu=>by
  have hj:=(List.getElem?_eq_some_iff.1 hu).1
  rw [hdl] at hj
  by_cases hc:c=i+1
  ·have : n - (i + 1) = 0 := by omega
   rw [this] at hj;omega
  rw [← had,if_neg hc,Addr.add_mid]
  show w.cell? _=_
  refine hsrc0 _ u ?_
  rw [← eH,List.getElem?_drop] at hu
  exact hu
 have hrun:=fun ty=>run_append_room_cells (P:=Tryz.prog) (w:=w.drew) 41 ty 94 ti (Elem.ut lkE) hti g 0 i c ad (n - (i+1)) (c - (i+1)) (gcs (L.drop (i+1))) (by rw [htsz];exact hdl) hnews (cG _) (by omega)
  (fun j hj=>by rw [htsz,Nat.zero_add,h.drew.cellAt (i * 19+j) (by omega),List.getElem?_eq_getElem (by omega)];rfl) (fun j hj=>by rw [htsz,Nat.zero_add];exact h.drew.frozenAt _)
 rw [htsz,Nat.zero_add,show i+(n - (i+1))=n - 1 by omega] at hrun
 have hsp:=jQ (gcs (L.drop (i+1))) (i * 19) w.drew (gcs L) (by omega) h.drew
 obtain ⟨W1,hW1⟩:∃ W1,w.drew.setCells g (i * 19) (gcs (L.drop (i+1)))=W1:=⟨_,rfl⟩
 rw [hW1] at hrun hsp
 have HRUN:=zh hrun
 have HG1:=zh (show w.grownBy W1 (some g) from Grown.trans (Ext.grown ((Ext.refl w).drew') _) hsp.2)
 have HO1:=zh hsp.1
 have HDC:=zh (show (splice (gcs L) (i * 19) (gcs (L.drop (i+1)))).take ((n - 1) * 19)=gcs (L.take i ++ L.drop (i+1)) from by
  have:=rN L (i:=i) (by rw [HLEN.out];exact hi);rw [HLEN.out] at this;exact this)
 have hcl:=fun ty=>aEO lkE (by decide) W1 ty g ((n - 1) * 19) 1 (c - (n - 1)) (by omega) (fun j hj=>by
  have hh:=Nat.mul_le_mul_right 19 (show (n - 1)+1≤n by omega)
  rw [Nat.add_mul] at hh
  rw [HO1.out.cellAt ((n - 1) * 19+j) (by omega),List.getElem?_eq_getElem (by rw [HO1.out.1];omega)];rfl) (fun j hj=>HO1.out.frozenAt _)
 obtain ⟨xs',o1,o2,o3⟩:=uX (Builtin.zeroCells (Value.agg lk0).cells 1).toList ((n - 1) * 19) W1 _ HO1.out
 have HEND:=zh (show (W1.setCells g ((n - 1) * 19) (Builtin.zeroCells (Value.agg lk0).cells 1).toList).ownsRow base 94 19 (.slice (some ⟨g,0,none⟩) (n - 1) c) (n - 1) (gcs (L.take i ++ L.drop (i+1))) from by
  have:=tG o1 (i:=n - 1) (by omega) (by simp)
  rw [o2,HDC.out] at this;exact this)
 have HG2:=zh (Grown.trans HG1.out o3)
 obtain ⟨W2,hW2⟩:∃ W2,W1.setCells g ((n - 1) * 19) (Builtin.zeroCells (Value.agg lk0).cells 1).toList=W2:=⟨_,rfl⟩
 rw [hW2] at hcl HEND HG2
 have HAD:=zh had
 have i0:(0:Int)≤(i:Int):=by omega
 have i1:(i:Int)+1≤(n:Int):=by omega
 have i2:(n:Int)≤(c:Int):=by omega
 have i3:(i:Int)≤(n:Int):=by omega
 have i4:¬ c=i:=by omega
 have i6:(i:Int)≤(c:Int):=by omega
 have i7:¬ n=i:=by omega
 have i8:¬ c=n - 1:=by omega
 have i9:((n - 1:Nat):Int)≤(n:Int):=by omega
 have i10:(0:Int)≤(i:Int)+1:=by omega
 have i11:((i:Int)+1).toNat=i+1:=by omega
 have i12:¬ (i:Int)+1 < 0:=by omega
 have i13:n - (n - 1)=1:=by omega
 have HI:=zh hi
 clear h hsrc0 hnews hrun hsp hW1 hW2 o1 o2 o3 hti htz htsz htby hdl hfit hxl had
 go_enter Tryz.func156,Tryz.ntmps156
 go_wp2_with fail
 refine wp_region_held_drew (S:=fun W=>True) (by kernel_rfl) (trivial) (fun aA=>?_)
 refine zzr [0,1,2,3,4] ?_
 refine zu 5 (v:=.slice (some ad) (n - (i+1)) (c - (i+1))) aA ?_ (hy:=by (rcases Classical.em (c=i+1) with hc | hc <;> (refine Or.inl ⟨by rfl,fun W _=>?_⟩;rw [← HAD.out];(first | rw [if_pos hc] | rw [if_neg hc]);go_simp <;> with_reducible rfl)))
 refine za 6 (fun K hK=>?_)
 (refine mM rfl (.tmp 22) (.tmp 25) rfl (.slice (some ⟨g,0,none⟩) i c) (.slice (some ad) (n - (i+1)) (c - (i+1))) (by rfl) (by rfl) _ _ (HRUN.out _) ?_)
 refine hK.out _ _ (trivial) (fun aA=>?_)
 clear hK K
 try simp only [aX]
 refine zt 7 aA ?_
 refine wpAnyH_done (by kernel_rfl) ?_ _
 clear HRUN
 go_wp2_with fail
 go_ret
 exact ⟨some ⟨g,0,none⟩,c,rfl,HEND.out,HG2.out⟩
instance:RowT OpR where
 sz:=23
 z:=aMo
 enc:=opL
 ok R w:=R.ok w
 pos:=by decide
 len:=gC
 one:=aER
 ext _ _ _ h e:=h.ext e
theorem opP:RowP OpR 69 opA:=⟨aES,by kernel_rfl,_,Tryz.underlying69,rfl⟩
theorem SlO.g {w:World} {A:Option Addr} {n c:Nat} {L:List OpR} (h:SlO w A n c L):SlG w A n c L:=⟨h.len,h.le,h.cap,h.rd,h.ok⟩
theorem vH (L:List OpR) (k:Nat):bI L k=aH L k:=rfl
theorem rF {w:World} {g:Nat} {t:TypeId} {R:OpR} (h:Blk w g t (opA R)):w.rangeAt g 5 (nmL R.lk):=by
 have:=aO (k:=8) (bD (k:=5) (aC h))
 rw [show nmL R.lk=bcs (nmb R.lk) from rfl,dU]
 rw [Nat.zero_add] at this
 exact this
theorem aLd {w:World} {g:Nat} {t:TypeId} {R:OpR} (h:Blk w g t (opA R)):w.rangeAt g 13 (nmL R.hs):=by
 have:=aO (k:=8) (bD (k:=13) (aC h))
 rw [show nmL R.hs=bcs (nmb R.hs) from rfl,dU]
 rw [Nat.zero_add] at this
 exact this
theorem fM {k i:Int} {l:UInt64} (h1:wfI k) (h2:wfI i):ceW ⟨k,i,l⟩:=⟨h1,h2⟩
theorem wfS {z:Int} (h:-1000000000000000≤z∧z≤1000000000000000):wfI z:=fY.2 ⟨by omega,by omega⟩
theorem oH {R:OpR} (h:vOp R=true):(1≤R.k∧R.k≤6)∧wfI R.tO∧wfI R.am∧wfI R.va∧wfI R.ul∧(0≤R.tO∧R.tO≤15)∧(0≤R.va∧R.va≤9)∧(0≤R.am∧R.am≤1099511627776)∧(0≤R.ul∧R.ul≤1000):=by
 unfold vOp aW at h
 simp only [Bool.and_eq_true,decide_eq_true_eq] at h
 obtain ⟨h1,h2,h3,h4,h5,_⟩:=h
 have a1:0≤R.tO∧R.tO≤15:=by split at h2 <;> simp only [decide_eq_true_eq] at h2 <;> omega
 have a2:0≤R.am∧R.am≤1099511627776:=by split at h3 <;> simp only [decide_eq_true_eq] at h3 <;> omega
 have a3:0≤R.ul∧R.ul≤1000:=by split at h4 <;> simp only [decide_eq_true_eq] at h4 <;> omega
 have a4:0≤R.va∧R.va≤9:=by split at h5 <;> simp only [decide_eq_true_eq] at h5 <;> omega
 exact ⟨h1,wfS ⟨by omega,by omega⟩,wfS ⟨by omega,by omega⟩,wfS ⟨by omega,by omega⟩,wfS ⟨by omega,by omega⟩,a1,a4,a2,a3⟩
theorem oV (ac sq:Int) (A:Option Addr) (n c:Nat) (L:List OpR) (i:Nat) (w:World) (hS:SlO w A n c L) (hi:i < n) (hv:vTx ac sq L=true) :
  Calls Tryz.prog 45 #[.agg (txA ac sq A n c),.int .i64 (i:Int)] w (aKO w (cQ ac sq L i)):=by
 obtain ⟨⟨q1,q2,q3,q4,q5,q6⟩,hop⟩:=eW hv
 have hLEN:=hS.len
 have hle:=hS.le
 have hcap:=hS.cap
 obtain ⟨hkk,hto,ham,hva,-,-,-,-,-⟩:=oH (hop i (by omega))
 have hac:wfI ac:=wfS ⟨by omega,by omega⟩
 obtain ⟨W,hW⟩:∃ W,w.alloc (.cells (txA ac sq A n c) 24)=W:=⟨_,rfl⟩
 have HB:=zh (show Blk W w.heap.size 24 (txA ac sq A n c) from by rw [← hW];exact Blk.new w 24 (txA ac sq A n c))
 have HE:=zh (show Ext w W from by rw [← hW];exact (Ext.refl w).alloc' _)
 have HS:=zh (hS.ext HE.out)
 obtain ⟨b,o,hA,hrow,-⟩:=HS.out.g.at (by omega)
 subst hA
 have t0:=HB.out.cell 0
 have t1:=HB.out.cell 1
 have t2:=HB.out.cell 2
 obtain ⟨R,hR⟩:∃ R,bI L i=R:=⟨_,rfl⟩
 rw [hR] at hkk hto ham hva
 have HK:=zh hR
 have hr:W.rangeAt b (o+i * 23) (RowT.enc R):=by rw [← hR,vH];exact cO hrow (by omega)
 have HAM:=zh ham
 have i0:(0:Int)≤(i:Int):=by omega
 have i1:(i:Int) < (n:Int):=by omega
 obtain ⟨v,hv⟩:∃ v,Value.agg (opA R)=v:=⟨_,rfl⟩
 have HV:=zh hv
 obtain ⟨X,hX⟩:∃ X,W.heap.size=X:=⟨_,rfl⟩
 have HXS:=zh hX
 clear hrow hR hv hX hop hLEN hS ham q1 q2 q3 q4 q5 q6
 rcases (by omega:R.k=1 ∨ R.k=2 ∨ R.k=3 ∨ R.k=4 ∨ R.k=5 ∨ R.k=6) with hk | hk | hk | hk | hk | hk
 ·have HSP := zh (show cQ ac sq L i = dF (aY ac) (aY R.tO) R.am from by unfold cQ; rw [HK.out, hk]; rfl)
  have b1:(R.k == 1)=true:=by rw [hk];rfl
  have d1:decide (R.k=1)=true:=by rw [hk];rfl
  have b2:(R.k == 2)=false:=by rw [hk];rfl
  have d2:decide (R.k=2)=false:=by rw [hk];rfl
  have b3:(R.k == 3)=false:=by rw [hk];rfl
  have d3:decide (R.k=3)=false:=by rw [hk];rfl
  have b4:(R.k == 4)=false:=by rw [hk];rfl
  have d4:decide (R.k=4)=false:=by rw [hk];rfl
  have b5:(R.k == 5)=false:=by rw [hk];rfl
  have d5:decide (R.k=5)=false:=by rw [hk];rfl
  have b6:(R.k == 6)=false:=by rw [hk];rfl
  have d6:decide (R.k=6)=false:=by rw [hk];rfl
  have HCX:=zh (show ceW (aY ac) from fM (wfS (by decide)) hac)
  have HCY:=zh (show ceW (aY R.tO) from fM (wfS (by decide)) hto)
  clear hk
  go_enter Tryz.func45,Tryz.ntmps45
  go_upto_region 2 with (first | (with_reducible refine aB opP rfl (.tmp 9) rfl b (o+i * 23) rfl R v HV.out hr ?_) | ((with_reducible refine aS opP rfl (.tmp 5) (.tmp 10) rfl jW rfl R v HV.out rfl rfl ?_);intro W4 h4))
  have HX4:=zh (show Ext W W4 from by rw [← h4.out];exact (Ext.refl W).alloc' _)
  have HD:=zh (show Blk W4 X 69 (opA R) from by rw [← h4.out,← HXS.out];exact Blk.new W 69 (opA R))
  have HB:=zh (HB.out.ext HX4.out)
  have HS:=zh (HS.out.ext HX4.out)
  have HEX:=zh (HE.out.trans HX4.out)
  have k0:W4.cell? ⟨X,0,none⟩=some (.int .i64 R.k):=HD.out.cell 0
  clear h4 hr t0 t1 t2 hW
  rw [HXS.out]
  go_upto_region 4 with (fail)
  refine wp_region_held_drew (S:=fun V=>Blk V w.heap.size 24 (txA ac sq (some ⟨b,o,none⟩) n c)∧Blk V X 69 (opA R)∧SlO V (some ⟨b,o,none⟩) n c L) (by kernel_rfl) (⟨HB.out.drew,HD.out.drew,HS.out.ext ((Ext.refl _).drew')⟩) (fun aA=>?_)
  refine zz0 [0,1,3,4,6,7] ?_;repeat first | refine zz1 ?_ (hy:=by intro W aL;have t0:=aL.1.cell 0;have t1:=aL.1.cell 1;have t2:=aL.1.cell 2;have p0:=aL.2.1.cell 0;have p1:=aL.2.1.cell 1;have p2:=aL.2.1.cell 2;have p3:=aL.2.1.cell 3;have p4:=aL.2.1.cell 4;go_simp <;> with_reducible rfl) | refine zz2 ?_ | refine zz9 ?_
  refine zzj (VE 2 (.agg (ceA (aY ac))) (VE 5 (.agg (ceA (aY R.tO))) (VV 8 (fun v V=>∃ A9 n9 c9,v=.slice A9 n9 c9∧SlG V A9 n9 c9 (dF (aY ac) (aY R.tO) R.am)) VN))) [(2,some 17),(5,some 20),(8,some 23)] 1 (fun V V' h e=>⟨h.1.ext e,h.2.1.ext e,h.2.2.ext e⟩) (ve (ve (VV.ext (fun v w w' ⟨A9,n9,c9,h1,h2⟩ e=>⟨A9,n9,c9,h1,h2.ext e⟩) VN.ext))) (zzc ?_ (zzc ?_ (zzc ?_ zzn))) ?_
  ·refine zzp fun W hE hS K hK => ?_
   go_simp
   go_at_call 82
   refine (eK ac _).mono ?_
   rintro e w5 ⟨rfl,he5⟩
   exact zzK (hK.out (.agg (ceA (aY ac))) _ (he5) (rfl))
  ·refine zzp fun W hE hS K hK => ?_
   go_simp
   go_at_call 82
   refine (eK R.tO _).mono ?_
   rintro e w5 ⟨rfl,he5⟩
   exact zzK (hK.out (.agg (ceA (aY R.tO))) _ (he5) (rfl))
  ·refine zm [(2, some 17), (5, some 20)] fun env W hE hS hD K hK => ?_
   obtain ⟨h2,h5,-⟩:=zzV hD
   clear hD
   simp only [aV,h2,h5] at hK ⊢
   clear h2
   clear h5
   go_simp
   go_at_call 69
   refine (iS (aY ac) (aY R.tO) R.am _ (HCX.out) (HCY.out) HAM.out).mono ?_
   rintro e w5 ⟨A9,n9,c9,rfl,hs9,he5⟩
   exact zzK (hK.out (.slice A9 n9 c9) _ (he5) (⟨A9,n9,c9,rfl,hs9⟩))
  intro env W hE hS hV
  obtain ⟨h2,h5,h8,-⟩:=zzV hV
  clear hV
  simp only [aV,h2,h5]
  clear h2
  clear h5
  generalize env 8=x8 at h8 ⊢
  obtain ⟨A9,n9,c9,rfl,hs9⟩:=h8
  have aA:=hS
  refine zt 9 aA ?_
  refine wpAnyH_done (by kernel_rfl) ?_ _
  have HSL:=zh hs9
  have HXX:=zh (HEX.out.trans ((Ext.refl _).drew'.trans hE))
  clear hs9 hE hS aA
  go_wp2_with fail
  go_ret
  exact ⟨A9,n9,c9,rfl,by rw [HSP.out];exact HSL.out,HXX.out⟩
 ·have HSP := zh (show cQ ac sq L i = dF (aY ac) (dQ (dG ac sq L (i : Int))) R.am from by unfold cQ; rw [HK.out, hk]; rfl)
  have b1:(R.k == 1)=false:=by rw [hk];rfl
  have d1:decide (R.k=1)=false:=by rw [hk];rfl
  have b2:(R.k == 2)=true:=by rw [hk];rfl
  have d2:decide (R.k=2)=true:=by rw [hk];rfl
  have b3:(R.k == 3)=false:=by rw [hk];rfl
  have d3:decide (R.k=3)=false:=by rw [hk];rfl
  have b4:(R.k == 4)=false:=by rw [hk];rfl
  have d4:decide (R.k=4)=false:=by rw [hk];rfl
  have b5:(R.k == 5)=false:=by rw [hk];rfl
  have d5:decide (R.k=5)=false:=by rw [hk];rfl
  have b6:(R.k == 6)=false:=by rw [hk];rfl
  have d6:decide (R.k=6)=false:=by rw [hk];rfl
  have HCX:=zh (show ceW (aY ac) from fM (wfS (by decide)) hac)
  have HCY:=zh (show ceW (dQ (dG ac sq L (i:Int))) from fM (wfS (by decide)) (wfS (by decide)))
  clear hk
  go_enter Tryz.func45,Tryz.ntmps45
  go_upto_region 2 with (first | (with_reducible refine aB opP rfl (.tmp 9) rfl b (o+i * 23) rfl R v HV.out hr ?_) | ((with_reducible refine aS opP rfl (.tmp 5) (.tmp 10) rfl jW rfl R v HV.out rfl rfl ?_);intro W4 h4))
  have HX4:=zh (show Ext W W4 from by rw [← h4.out];exact (Ext.refl W).alloc' _)
  have HD:=zh (show Blk W4 X 69 (opA R) from by rw [← h4.out,← HXS.out];exact Blk.new W 69 (opA R))
  have HB:=zh (HB.out.ext HX4.out)
  have HS:=zh (HS.out.ext HX4.out)
  have HEX:=zh (HE.out.trans HX4.out)
  have k0:W4.cell? ⟨X,0,none⟩=some (.int .i64 R.k):=HD.out.cell 0
  clear h4 hr t0 t1 t2 hW
  rw [HXS.out]
  go_upto_region 6 with (fail)
  refine wp_region_held_drew (S:=fun V=>Blk V w.heap.size 24 (txA ac sq (some ⟨b,o,none⟩) n c)∧Blk V X 69 (opA R)∧SlO V (some ⟨b,o,none⟩) n c L) (by kernel_rfl) (⟨HB.out.drew,HD.out.drew,HS.out.ext ((Ext.refl _).drew')⟩) (fun aA=>?_)
  refine zz0 [0,1,3,4,7,8] ?_;repeat first | refine zz1 ?_ (hy:=by intro W aL;have t0:=aL.1.cell 0;have t1:=aL.1.cell 1;have t2:=aL.1.cell 2;have p0:=aL.2.1.cell 0;have p1:=aL.2.1.cell 1;have p2:=aL.2.1.cell 2;have p3:=aL.2.1.cell 3;have p4:=aL.2.1.cell 4;go_simp <;> with_reducible rfl) | refine zz2 ?_ | refine zz9 ?_
  refine zzj (VE 2 (.agg (ceA (aY ac))) (VE 5 (.agg (nmc (dG ac sq L (i:Int)))) (VE 6 (.agg (ceA (dQ (dG ac sq L (i:Int))))) (VV 9 (fun v V=>∃ A9 n9 c9,v=.slice A9 n9 c9∧SlG V A9 n9 c9 (dF (aY ac) (dQ (dG ac sq L (i:Int))) R.am)) VN)))) [(2,some 28),(5,some 31),(6,some 32),(9,some 35)] 1 (fun V V' h e=>⟨h.1.ext e,h.2.1.ext e,h.2.2.ext e⟩) (ve (ve (ve (VV.ext (fun v w w' ⟨A9,n9,c9,h1,h2⟩ e=>⟨A9,n9,c9,h1,h2.ext e⟩) VN.ext)))) (zzc ?_ (zzc ?_ (zzc ?_ (zzc ?_ zzn)))) ?_
  ·refine zzp fun W hE hS K hK => ?_
   go_simp
   go_at_call 82
   refine (eK ac _).mono ?_
   rintro e w5 ⟨rfl,he5⟩
   exact zzK (hK.out (.agg (ceA (aY ac))) _ (he5) (rfl))
  ·refine zzp fun W hE hS K hK => ?_
   go_simp
   go_at_call 84
   refine (qC ac sq (some ⟨b,o,none⟩) n c L (i:Int) _ hS.2.2).mono ?_
   rintro e w5 ⟨rfl,he5⟩
   exact zzK (hK.out (.agg (nmc (dG ac sq L (i:Int)))) _ (he5) (rfl))
  ·refine zm [(5, some 31)] fun env W hE hS hD K hK => ?_
   obtain ⟨h5,-⟩:=zzV hD
   clear hD
   simp only [aV,h5] at hK ⊢
   clear h5
   go_simp
   go_at_call 83
   refine (lN (dG ac sq L (i:Int)) _).mono ?_
   rintro e w5 ⟨rfl,he5⟩
   exact zzK (hK.out (.agg (ceA (dQ (dG ac sq L (i:Int))))) _ (he5) (rfl))
  ·refine zm [(2, some 28), (6, some 32)] fun env W hE hS hD K hK => ?_
   obtain ⟨h2,h6,-⟩:=zzV hD
   clear hD
   simp only [aV,h2,h6] at hK ⊢
   clear h2
   clear h6
   go_simp
   go_at_call 69
   refine (iS (aY ac) (dQ (dG ac sq L (i:Int))) R.am _ (HCX.out) (HCY.out) HAM.out).mono ?_
   rintro e w5 ⟨A9,n9,c9,rfl,hs9,he5⟩
   exact zzK (hK.out (.slice A9 n9 c9) _ (he5) (⟨A9,n9,c9,rfl,hs9⟩))
  intro env W hE hS hV
  obtain ⟨h2,h5,h6,h9,-⟩:=zzV hV
  clear hV
  simp only [aV,h2,h5,h6]
  clear h2
  clear h5
  clear h6
  generalize env 9=x9 at h9 ⊢
  obtain ⟨A9,n9,c9,rfl,hs9⟩:=h9
  have aA:=hS
  refine zt 10 aA ?_
  refine wpAnyH_done (by kernel_rfl) ?_ _
  have HSL:=zh hs9
  have HXX:=zh (HEX.out.trans ((Ext.refl _).drew'.trans hE))
  clear hs9 hE hS aA
  go_wp2_with fail
  go_ret
  exact ⟨A9,n9,c9,rfl,by rw [HSP.out];exact HSL.out,HXX.out⟩
 ·have HSP := zh (show cQ ac sq L i = dF (dQ R.lk) (aY R.tO) R.am from by unfold cQ; rw [HK.out, hk]; rfl)
  have b1:(R.k == 1)=false:=by rw [hk];rfl
  have d1:decide (R.k=1)=false:=by rw [hk];rfl
  have b2:(R.k == 2)=false:=by rw [hk];rfl
  have d2:decide (R.k=2)=false:=by rw [hk];rfl
  have b3:(R.k == 3)=true:=by rw [hk];rfl
  have d3:decide (R.k=3)=true:=by rw [hk];rfl
  have b4:(R.k == 4)=false:=by rw [hk];rfl
  have d4:decide (R.k=4)=false:=by rw [hk];rfl
  have b5:(R.k == 5)=false:=by rw [hk];rfl
  have d5:decide (R.k=5)=false:=by rw [hk];rfl
  have b6:(R.k == 6)=false:=by rw [hk];rfl
  have d6:decide (R.k=6)=false:=by rw [hk];rfl
  have HCX:=zh (show ceW (dQ R.lk) from fM (wfS (by decide)) (wfS (by decide)))
  have HCY:=zh (show ceW (aY R.tO) from fM (wfS (by decide)) hto)
  clear hk
  go_enter Tryz.func45,Tryz.ntmps45
  go_upto_region 2 with (first | (with_reducible refine aB opP rfl (.tmp 9) rfl b (o+i * 23) rfl R v HV.out hr ?_) | ((with_reducible refine aS opP rfl (.tmp 5) (.tmp 10) rfl jW rfl R v HV.out rfl rfl ?_);intro W4 h4))
  have HX4:=zh (show Ext W W4 from by rw [← h4.out];exact (Ext.refl W).alloc' _)
  have HD:=zh (show Blk W4 X 69 (opA R) from by rw [← h4.out,← HXS.out];exact Blk.new W 69 (opA R))
  have HB:=zh (HB.out.ext HX4.out)
  have HS:=zh (HS.out.ext HX4.out)
  have HEX:=zh (HE.out.trans HX4.out)
  have k0:W4.cell? ⟨X,0,none⟩=some (.int .i64 R.k):=HD.out.cell 0
  clear h4 hr t0 t1 t2 hW
  rw [HXS.out]
  go_upto_region 9 with (fail)
  refine wp_region_held_drew (S:=fun V=>Blk V w.heap.size 24 (txA ac sq (some ⟨b,o,none⟩) n c)∧Blk V X 69 (opA R)∧SlO V (some ⟨b,o,none⟩) n c L) (by kernel_rfl) (⟨HB.out.drew,HD.out.drew,HS.out.ext ((Ext.refl _).drew')⟩) (fun aA=>?_)
  refine zt 0 aA ?_
  refine zu 1 (v:=.agg (nmc R.lk)) aA ?_ (hy:=by exact aF nmP (by rfl) (.tmp 39) rfl X 5 rfl R.lk _ rfl (fun V h=>rF h.2.1))
  refine zz0 [3,4,6,7] ?_;repeat first | refine zz1 ?_ (hy:=by intro W aL;have t0:=aL.1.cell 0;have t1:=aL.1.cell 1;have t2:=aL.1.cell 2;have p0:=aL.2.1.cell 0;have p1:=aL.2.1.cell 1;have p2:=aL.2.1.cell 2;have p3:=aL.2.1.cell 3;have p4:=aL.2.1.cell 4;go_simp <;> with_reducible rfl) | refine zz2 ?_ | refine zz9 ?_
  refine zzj (VE 2 (.agg (ceA (dQ R.lk))) (VE 5 (.agg (ceA (aY R.tO))) (VV 8 (fun v V=>∃ A9 n9 c9,v=.slice A9 n9 c9∧SlG V A9 n9 c9 (dF (dQ R.lk) (aY R.tO) R.am)) VN))) [(2,some 41),(5,some 44),(8,some 47)] 1 (fun V V' h e=>⟨h.1.ext e,h.2.1.ext e,h.2.2.ext e⟩) (ve (ve (VV.ext (fun v w w' ⟨A9,n9,c9,h1,h2⟩ e=>⟨A9,n9,c9,h1,h2.ext e⟩) VN.ext))) (zzc ?_ (zzc ?_ (zzc ?_ zzn))) ?_
  ·refine zzp fun W hE hS K hK => ?_
   go_simp
   go_at_call 83
   refine (lN R.lk _).mono ?_
   rintro e w5 ⟨rfl,he5⟩
   exact zzK (hK.out (.agg (ceA (dQ R.lk))) _ (he5) (rfl))
  ·refine zzp fun W hE hS K hK => ?_
   go_simp
   go_at_call 82
   refine (eK R.tO _).mono ?_
   rintro e w5 ⟨rfl,he5⟩
   exact zzK (hK.out (.agg (ceA (aY R.tO))) _ (he5) (rfl))
  ·refine zm [(2, some 41), (5, some 44)] fun env W hE hS hD K hK => ?_
   obtain ⟨h2,h5,-⟩:=zzV hD
   clear hD
   simp only [aV,h2,h5] at hK ⊢
   clear h2
   clear h5
   go_simp
   go_at_call 69
   refine (iS (dQ R.lk) (aY R.tO) R.am _ (HCX.out) (HCY.out) HAM.out).mono ?_
   rintro e w5 ⟨A9,n9,c9,rfl,hs9,he5⟩
   exact zzK (hK.out (.slice A9 n9 c9) _ (he5) (⟨A9,n9,c9,rfl,hs9⟩))
  intro env W hE hS hV
  obtain ⟨h2,h5,h8,-⟩:=zzV hV
  clear hV
  simp only [aV,h2,h5]
  clear h2
  clear h5
  generalize env 8=x8 at h8 ⊢
  obtain ⟨A9,n9,c9,rfl,hs9⟩:=h8
  have aA:=hS
  refine zt 9 aA ?_
  refine wpAnyH_done (by kernel_rfl) ?_ _
  have HSL:=zh hs9
  have HXX:=zh (HEX.out.trans ((Ext.refl _).drew'.trans hE))
  clear hs9 hE hS aA
  go_wp2_with fail
  go_ret
  exact ⟨A9,n9,c9,rfl,by rw [HSP.out];exact HSL.out,HXX.out⟩
 ·have HSP := zh (show cQ ac sq L i = dF (dQ R.lk) (aY R.tO) R.am from by unfold cQ; rw [HK.out, hk]; rfl)
  have b1:(R.k == 1)=false:=by rw [hk];rfl
  have d1:decide (R.k=1)=false:=by rw [hk];rfl
  have b2:(R.k == 2)=false:=by rw [hk];rfl
  have d2:decide (R.k=2)=false:=by rw [hk];rfl
  have b3:(R.k == 3)=false:=by rw [hk];rfl
  have d3:decide (R.k=3)=false:=by rw [hk];rfl
  have b4:(R.k == 4)=true:=by rw [hk];rfl
  have d4:decide (R.k=4)=true:=by rw [hk];rfl
  have b5:(R.k == 5)=false:=by rw [hk];rfl
  have d5:decide (R.k=5)=false:=by rw [hk];rfl
  have b6:(R.k == 6)=false:=by rw [hk];rfl
  have d6:decide (R.k=6)=false:=by rw [hk];rfl
  have HCX:=zh (show ceW (dQ R.lk) from fM (wfS (by decide)) (wfS (by decide)))
  have HCY:=zh (show ceW (aY R.tO) from fM (wfS (by decide)) hto)
  clear hk
  go_enter Tryz.func45,Tryz.ntmps45
  go_upto_region 2 with (first | (with_reducible refine aB opP rfl (.tmp 9) rfl b (o+i * 23) rfl R v HV.out hr ?_) | ((with_reducible refine aS opP rfl (.tmp 5) (.tmp 10) rfl jW rfl R v HV.out rfl rfl ?_);intro W4 h4))
  have HX4:=zh (show Ext W W4 from by rw [← h4.out];exact (Ext.refl W).alloc' _)
  have HD:=zh (show Blk W4 X 69 (opA R) from by rw [← h4.out,← HXS.out];exact Blk.new W 69 (opA R))
  have HB:=zh (HB.out.ext HX4.out)
  have HS:=zh (HS.out.ext HX4.out)
  have HEX:=zh (HE.out.trans HX4.out)
  have k0:W4.cell? ⟨X,0,none⟩=some (.int .i64 R.k):=HD.out.cell 0
  clear h4 hr t0 t1 t2 hW
  rw [HXS.out]
  go_upto_region 9 with (fail)
  refine wp_region_held_drew (S:=fun V=>Blk V w.heap.size 24 (txA ac sq (some ⟨b,o,none⟩) n c)∧Blk V X 69 (opA R)∧SlO V (some ⟨b,o,none⟩) n c L) (by kernel_rfl) (⟨HB.out.drew,HD.out.drew,HS.out.ext ((Ext.refl _).drew')⟩) (fun aA=>?_)
  refine zt 0 aA ?_
  refine zu 1 (v:=.agg (nmc R.lk)) aA ?_ (hy:=by exact aF nmP (by rfl) (.tmp 39) rfl X 5 rfl R.lk _ rfl (fun V h=>rF h.2.1))
  refine zz0 [3,4,6,7] ?_;repeat first | refine zz1 ?_ (hy:=by intro W aL;have t0:=aL.1.cell 0;have t1:=aL.1.cell 1;have t2:=aL.1.cell 2;have p0:=aL.2.1.cell 0;have p1:=aL.2.1.cell 1;have p2:=aL.2.1.cell 2;have p3:=aL.2.1.cell 3;have p4:=aL.2.1.cell 4;go_simp <;> with_reducible rfl) | refine zz2 ?_ | refine zz9 ?_
  refine zzj (VE 2 (.agg (ceA (dQ R.lk))) (VE 5 (.agg (ceA (aY R.tO))) (VV 8 (fun v V=>∃ A9 n9 c9,v=.slice A9 n9 c9∧SlG V A9 n9 c9 (dF (dQ R.lk) (aY R.tO) R.am)) VN))) [(2,some 41),(5,some 44),(8,some 47)] 1 (fun V V' h e=>⟨h.1.ext e,h.2.1.ext e,h.2.2.ext e⟩) (ve (ve (VV.ext (fun v w w' ⟨A9,n9,c9,h1,h2⟩ e=>⟨A9,n9,c9,h1,h2.ext e⟩) VN.ext))) (zzc ?_ (zzc ?_ (zzc ?_ zzn))) ?_
  ·refine zzp fun W hE hS K hK => ?_
   go_simp
   go_at_call 83
   refine (lN R.lk _).mono ?_
   rintro e w5 ⟨rfl,he5⟩
   exact zzK (hK.out (.agg (ceA (dQ R.lk))) _ (he5) (rfl))
  ·refine zzp fun W hE hS K hK => ?_
   go_simp
   go_at_call 82
   refine (eK R.tO _).mono ?_
   rintro e w5 ⟨rfl,he5⟩
   exact zzK (hK.out (.agg (ceA (aY R.tO))) _ (he5) (rfl))
  ·refine zm [(2, some 41), (5, some 44)] fun env W hE hS hD K hK => ?_
   obtain ⟨h2,h5,-⟩:=zzV hD
   clear hD
   simp only [aV,h2,h5] at hK ⊢
   clear h2
   clear h5
   go_simp
   go_at_call 69
   refine (iS (dQ R.lk) (aY R.tO) R.am _ (HCX.out) (HCY.out) HAM.out).mono ?_
   rintro e w5 ⟨A9,n9,c9,rfl,hs9,he5⟩
   exact zzK (hK.out (.slice A9 n9 c9) _ (he5) (⟨A9,n9,c9,rfl,hs9⟩))
  intro env W hE hS hV
  obtain ⟨h2,h5,h8,-⟩:=zzV hV
  clear hV
  simp only [aV,h2,h5]
  clear h2
  clear h5
  generalize env 8=x8 at h8 ⊢
  obtain ⟨A9,n9,c9,rfl,hs9⟩:=h8
  have aA:=hS
  refine zt 9 aA ?_
  refine wpAnyH_done (by kernel_rfl) ?_ _
  have HSL:=zh hs9
  have HXX:=zh (HEX.out.trans ((Ext.refl _).drew'.trans hE))
  clear hs9 hE hS aA
  go_wp2_with fail
  go_ret
  exact ⟨A9,n9,c9,rfl,by rw [HSP.out];exact HSL.out,HXX.out⟩
 ·have HSP := zh (show cQ ac sq L i = dF (aY ac) (cN R.va) R.am from by unfold cQ; rw [HK.out, hk]; rfl)
  have b1:(R.k == 1)=false:=by rw [hk];rfl
  have d1:decide (R.k=1)=false:=by rw [hk];rfl
  have b2:(R.k == 2)=false:=by rw [hk];rfl
  have d2:decide (R.k=2)=false:=by rw [hk];rfl
  have b3:(R.k == 3)=false:=by rw [hk];rfl
  have d3:decide (R.k=3)=false:=by rw [hk];rfl
  have b4:(R.k == 4)=false:=by rw [hk];rfl
  have d4:decide (R.k=4)=false:=by rw [hk];rfl
  have b5:(R.k == 5)=true:=by rw [hk];rfl
  have d5:decide (R.k=5)=true:=by rw [hk];rfl
  have b6:(R.k == 6)=false:=by rw [hk];rfl
  have d6:decide (R.k=6)=false:=by rw [hk];rfl
  have HCX:=zh (show ceW (aY ac) from fM (wfS (by decide)) hac)
  have HCY:=zh (show ceW (cN R.va) from fM (wfS (by decide)) hva)
  clear hk
  go_enter Tryz.func45,Tryz.ntmps45
  go_upto_region 2 with (first | (with_reducible refine aB opP rfl (.tmp 9) rfl b (o+i * 23) rfl R v HV.out hr ?_) | ((with_reducible refine aS opP rfl (.tmp 5) (.tmp 10) rfl jW rfl R v HV.out rfl rfl ?_);intro W4 h4))
  have HX4:=zh (show Ext W W4 from by rw [← h4.out];exact (Ext.refl W).alloc' _)
  have HD:=zh (show Blk W4 X 69 (opA R) from by rw [← h4.out,← HXS.out];exact Blk.new W 69 (opA R))
  have HB:=zh (HB.out.ext HX4.out)
  have HS:=zh (HS.out.ext HX4.out)
  have HEX:=zh (HE.out.trans HX4.out)
  have k0:W4.cell? ⟨X,0,none⟩=some (.int .i64 R.k):=HD.out.cell 0
  clear h4 hr t0 t1 t2 hW
  rw [HXS.out]
  go_upto_region 11 with (fail)
  refine wp_region_held_drew (S:=fun V=>Blk V w.heap.size 24 (txA ac sq (some ⟨b,o,none⟩) n c)∧Blk V X 69 (opA R)∧SlO V (some ⟨b,o,none⟩) n c L) (by kernel_rfl) (⟨HB.out.drew,HD.out.drew,HS.out.ext ((Ext.refl _).drew')⟩) (fun aA=>?_)
  refine zz0 [0,1,3,4,6,7] ?_;repeat first | refine zz1 ?_ (hy:=by intro W aL;have t0:=aL.1.cell 0;have t1:=aL.1.cell 1;have t2:=aL.1.cell 2;have p0:=aL.2.1.cell 0;have p1:=aL.2.1.cell 1;have p2:=aL.2.1.cell 2;have p3:=aL.2.1.cell 3;have p4:=aL.2.1.cell 4;go_simp <;> with_reducible rfl) | refine zz2 ?_ | refine zz9 ?_
  refine zzj (VE 2 (.agg (ceA (aY ac))) (VE 5 (.agg (ceA (cN R.va))) (VV 8 (fun v V=>∃ A9 n9 c9,v=.slice A9 n9 c9∧SlG V A9 n9 c9 (dF (aY ac) (cN R.va) R.am)) VN))) [(2,some 52),(5,some 55),(8,some 58)] 1 (fun V V' h e=>⟨h.1.ext e,h.2.1.ext e,h.2.2.ext e⟩) (ve (ve (VV.ext (fun v w w' ⟨A9,n9,c9,h1,h2⟩ e=>⟨A9,n9,c9,h1,h2.ext e⟩) VN.ext))) (zzc ?_ (zzc ?_ (zzc ?_ zzn))) ?_
  ·refine zzp fun W hE hS K hK => ?_
   go_simp
   go_at_call 82
   refine (eK ac _).mono ?_
   rintro e w5 ⟨rfl,he5⟩
   exact zzK (hK.out (.agg (ceA (aY ac))) _ (he5) (rfl))
  ·refine zzp fun W hE hS K hK => ?_
   go_simp
   go_at_call 80
   refine (qT R.va _).mono ?_
   rintro e w5 ⟨rfl,he5⟩
   exact zzK (hK.out (.agg (ceA (cN R.va))) _ (he5) (rfl))
  ·refine zm [(2, some 52), (5, some 55)] fun env W hE hS hD K hK => ?_
   obtain ⟨h2,h5,-⟩:=zzV hD
   clear hD
   simp only [aV,h2,h5] at hK ⊢
   clear h2
   clear h5
   go_simp
   go_at_call 69
   refine (iS (aY ac) (cN R.va) R.am _ (HCX.out) (HCY.out) HAM.out).mono ?_
   rintro e w5 ⟨A9,n9,c9,rfl,hs9,he5⟩
   exact zzK (hK.out (.slice A9 n9 c9) _ (he5) (⟨A9,n9,c9,rfl,hs9⟩))
  intro env W hE hS hV
  obtain ⟨h2,h5,h8,-⟩:=zzV hV
  clear hV
  simp only [aV,h2,h5]
  clear h2
  clear h5
  generalize env 8=x8 at h8 ⊢
  obtain ⟨A9,n9,c9,rfl,hs9⟩:=h8
  have aA:=hS
  refine zt 9 aA ?_
  refine wpAnyH_done (by kernel_rfl) ?_ _
  have HSL:=zh hs9
  have HXX:=zh (HEX.out.trans ((Ext.refl _).drew'.trans hE))
  clear hs9 hE hS aA
  go_wp2_with fail
  go_ret
  exact ⟨A9,n9,c9,rfl,by rw [HSP.out];exact HSL.out,HXX.out⟩
 have HSP:=zh (show cQ ac sq L i=[] from by unfold cQ;rw [HK.out,hk];rfl)
 have b1:(R.k == 1)=false:=by rw [hk];rfl
 have d1:decide (R.k=1)=false:=by rw [hk];rfl
 have b2:(R.k == 2)=false:=by rw [hk];rfl
 have d2:decide (R.k=2)=false:=by rw [hk];rfl
 have b3:(R.k == 3)=false:=by rw [hk];rfl
 have d3:decide (R.k=3)=false:=by rw [hk];rfl
 have b4:(R.k == 4)=false:=by rw [hk];rfl
 have d4:decide (R.k=4)=false:=by rw [hk];rfl
 have b5:(R.k == 5)=false:=by rw [hk];rfl
 have d5:decide (R.k=5)=false:=by rw [hk];rfl
 have b6:(R.k == 6)=true:=by rw [hk];rfl
 have d6:decide (R.k=6)=true:=by rw [hk];rfl
 clear hk
 go_enter Tryz.func45,Tryz.ntmps45
 go_upto_region 2 with (first | (with_reducible refine aB opP rfl (.tmp 9) rfl b (o+i * 23) rfl R v HV.out hr ?_) | ((with_reducible refine aS opP rfl (.tmp 5) (.tmp 10) rfl jW rfl R v HV.out rfl rfl ?_);intro W4 h4))
 have HX4:=zh (show Ext W W4 from by rw [← h4.out];exact (Ext.refl W).alloc' _)
 have HD:=zh (show Blk W4 X 69 (opA R) from by rw [← h4.out,← HXS.out];exact Blk.new W 69 (opA R))
 have HB:=zh (HB.out.ext HX4.out)
 have HS:=zh (HS.out.ext HX4.out)
 have HEX:=zh (HE.out.trans HX4.out)
 have k0:W4.cell? ⟨X,0,none⟩=some (.int .i64 R.k):=HD.out.cell 0
 clear h4 hr t0 t1 t2 hW
 rw [HXS.out]
 go_wp2_with fail
 go_ret
 exact ⟨_,_,_,rfl,by rw [HSP.out];exact SlG.nil _,HEX.out⟩
end
end Go.Proofs.YtohmmcahpakokaaGreat
