/- States that came in (printed by gen_opd.py). -/
import Derived.Test.YtohmmcahpakokaaGreatH37
set_option maxRecDepth 100000
set_option maxHeartbeats 8000000
set_option linter.unusedVariables false
set_option linter.unusedSimpArgs false
namespace Go.Proofs.YtohmmcahpakokaaGreat
section
open Go.ChangeShapes Go.WideShapes Go.ChangeAt Go.RowKit Go.Deep
theorem aDW:Tryz.prog.cellsOf 32=10:=by kernel_rfl
theorem aDV:Tryz.prog.cellsOf 34=11:=by kernel_rfl
theorem aDU:Tryz.prog.cellsOf 94=19:=by kernel_rfl
theorem aIe:Tryz.prog.cellsOf 42=1:=by kernel_rfl
theorem aId:Tryz.prog.cellsOf 44=5:=by kernel_rfl
theorem aIc:Tryz.prog.cellsOf 27=1:=by kernel_rfl
theorem aIb:Tryz.prog.cellsOf 38=1:=by kernel_rfl
theorem aIa:Tryz.prog.cellsOf 41=1:=by kernel_rfl
theorem aHZ:Tryz.prog.cellsOf 37=1:=by kernel_rfl
theorem aBm {α:Type} {l:List α} (h:l.length=5):∃ x0 x1 x2 x3 x4,l=[x0,x1,x2,x3,x4]:=by
 match l,h with
 | [x0,x1,x2,x3,x4],_=>exact ⟨x0,x1,x2,x3,x4,rfl⟩
theorem aGr {α:Type} {l:List α} (h:l.length=3):∃ x0 x1 x2,l=[x0,x1,x2]:=by
 match l,h with
 | [x0,x1,x2],_=>exact ⟨x0,x1,x2,rfl⟩
section
variable {H:Type} {enc:TypeId × Value→H} {w:World} {base fuel:Nat} {held:Bool} {cs:List Value} {x:DataW H × List MemPlace}
theorem lO {α:Type} [RowT α] {t e:TypeId} (ht:Tryz.prog.underlying t=some (.slice e)) (hsz:Tryz.prog.cellsOf e=RowT.sz α)
  (hel:∀ {fuel:Nat} {cs:List Value} {x:DataW H × List MemPlace},DataW.trod enc Tryz.prog w base (fun _=>true) held fuel e cs=some x→∃ y:α,cs=RowT.enc y∧RowT.ok y w)
  (hone:∀ (y:α) (a:Addr) (v:Value),(RowT.enc y)[0]?=some v→w.cell? a=some v→a.spot=none)
  (h:DataW.trod enc Tryz.prog w base (fun _=>true) held fuel t cs=some x):∃ A n c,∃ L:List α,cs=[.slice A n c]∧SlG w A n c L:=by
 rcases open_slice ht h with ⟨hcs,_⟩ | ⟨x,l,c',m,n,D,Pl,hcs,_,hl,hm,hmm,_,hi⟩
 ·exact ⟨none,0,0,[],hcs,SlG.nil w⟩
 rw [if_pos rfl] at hmm
 subst hmm
 have hcell:∀ j,j < l→∃ y:α,(∀ q v,(RowT.enc y)[q]?=some v→w.cell? ((x.add (j * RowT.sz α)).add q)=some v)∧RowT.ok y w:=by
  intro j hj
  obtain ⟨cs',hc,ht⟩:=hi j (by omega)
  obtain ⟨y,rfl,hyo⟩:=hel ht
  rw [hsz] at hc
  obtain ⟨_,hln,hat⟩:=World.cells?_some hc
  refine ⟨y,fun q v hv=>?_,hyo⟩
  have hq:=(List.getElem?_eq_some_iff.1 hv).1
  have:=hat q (by rw [RowT.len] at hq;omega)
  rw [this,hv]
 rcases Nat.eq_zero_or_pos l with rfl | h0
 ·exact ⟨_,0,_,[],hcs,rfl,Nat.zero_le _,by unfold maxLen at hm;omega,.nil,fun R hR=>by cases hR⟩
 have hx:x.spot=none:=by
  obtain ⟨y,hy,_⟩:=hcell 0 h0
  have hp:0 < (RowT.enc y).length:=by rw [RowT.len];exact RowT.pos
  have:=hy 0 _ (List.getElem?_eq_getElem hp)
  have e0:((x.add (0 * RowT.sz α)).add 0)=x:=by simp [Addr.add]
  rw [e0] at this
  exact hone y x _ (List.getElem?_eq_getElem hp) this
 obtain ⟨bl,ol,sp⟩:=x
 simp only at hx
 subst hx
 obtain ⟨L,hL,hr,hok⟩:=aIU (α:=α) (w:=w) (b:=bl) (o:=ol) rfl l (fun j hj=>by
  obtain ⟨y,hy,hyo⟩:=hcell j hj
  refine ⟨y,fun q v hv=>?_,hyo⟩
  have:=hy q v hv
  rwa [Addr.add_mid,Addr.add_mid] at this)
 exact ⟨_,l,_,L,hcs,hL,hl,by unfold maxLen at hm;omega,.inr ⟨bl,ol,rfl,hr⟩,hok⟩
theorem aGg (h:DataW.trod enc Tryz.prog w base (fun _=>true) held fuel 32 cs=some x):∃ C:CeR,cs=ceL C∧ceW C:=by
 obtain ⟨xs,m,_,_,hl,hxl,hg⟩:=DataW.trod_struct Tryz.underlying32 h
 rw [aDW] at hl
 obtain ⟨x0,x1,x2,rfl⟩:=aGr (show xs.length=3 from hxl)
 have h0:DataW.trod enc Tryz.prog w base (fun _=>true) held m 3 ((cs.drop 0).take (Tryz.prog.cellsOf 3))=some x0:=hg 0 _ rfl
 rw [jH] at h0
 have h1:DataW.trod enc Tryz.prog w base (fun _=>true) held m 3 ((cs.drop 1).take (Tryz.prog.cellsOf 3))=some x1:=hg 1 _ rfl
 rw [jH] at h1
 have h2:DataW.trod enc Tryz.prog w base (fun _=>true) held m 30 ((cs.drop 2).take (Tryz.prog.cellsOf 30))=some x2:=hg 2 _ rfl
 rw [nL] at h2
 obtain ⟨k,e0,_,w0⟩:=DataW.trod_int Tryz.underlying3 h0
 obtain ⟨i,e1,_,w1⟩:=DataW.trod_int Tryz.underlying3 h1
 obtain ⟨l,e2⟩:=kZ h2
 rw [bO,fR] at e2
 refine ⟨⟨k,i,l⟩,?_,⟨w0,w1⟩⟩
 have e:cs=cs.drop 0:=rfl
 rw [e,dK cs (0) 1,e0,dK cs (0+1) 1,e1,dK cs (0+1+1) 8,e2,List.drop_of_length_le (by omega)]
 rfl
theorem aGf (h:DataW.trod enc Tryz.prog w base (fun _=>true) held fuel 34 cs=some x):∃ C:DeR,cs=deL C∧deW C:=by
 obtain ⟨xs,m,_,_,hl,hxl,hg⟩:=DataW.trod_struct Tryz.underlying34 h
 rw [aDV] at hl
 obtain ⟨x0,x1,rfl⟩:=aKh (show xs.length=2 from hxl)
 have h0:DataW.trod enc Tryz.prog w base (fun _=>true) held m 32 ((cs.drop 0).take (Tryz.prog.cellsOf 32))=some x0:=hg 0 _ rfl
 rw [aDW] at h0
 have h1:DataW.trod enc Tryz.prog w base (fun _=>true) held m 3 ((cs.drop 10).take (Tryz.prog.cellsOf 3))=some x1:=hg 1 _ rfl
 rw [jH] at h1
 obtain ⟨c,e0,w0⟩:=aGg h0
 obtain ⟨a,e1,_,w1⟩:=DataW.trod_int Tryz.underlying3 h1
 refine ⟨⟨c,a⟩,?_,⟨w0,w1⟩⟩
 have e:cs=cs.drop 0:=rfl
 rw [e,dK cs (0) 10,e0,dK cs (0+10) 1,e1,List.drop_of_length_le (by omega)]
 rfl
theorem aGb (h:DataW.trod enc Tryz.prog w base (fun _=>true) held fuel 94 cs=some x):∃ C:LkR,cs=lkL C∧lkW C:=by
 obtain ⟨xs,m,_,_,hl,hxl,hg⟩:=DataW.trod_struct Tryz.underlying94 h
 rw [aDU] at hl
 obtain ⟨x0,x1,x2,x3,x4,rfl⟩:=aBm (show xs.length=5 from hxl)
 have h0:DataW.trod enc Tryz.prog w base (fun _=>true) held m 30 ((cs.drop 0).take (Tryz.prog.cellsOf 30))=some x0:=hg 0 _ rfl
 rw [nL] at h0
 have h1:DataW.trod enc Tryz.prog w base (fun _=>true) held m 30 ((cs.drop 8).take (Tryz.prog.cellsOf 30))=some x1:=hg 1 _ rfl
 rw [nL] at h1
 have h2:DataW.trod enc Tryz.prog w base (fun _=>true) held m 3 ((cs.drop 16).take (Tryz.prog.cellsOf 3))=some x2:=hg 2 _ rfl
 rw [jH] at h2
 have h3:DataW.trod enc Tryz.prog w base (fun _=>true) held m 3 ((cs.drop 17).take (Tryz.prog.cellsOf 3))=some x3:=hg 3 _ rfl
 rw [jH] at h3
 have h4:DataW.trod enc Tryz.prog w base (fun _=>true) held m 3 ((cs.drop 18).take (Tryz.prog.cellsOf 3))=some x4:=hg 4 _ rfl
 rw [jH] at h4
 obtain ⟨n1,e0⟩:=kZ h0
 rw [bO,fR] at e0
 obtain ⟨n2,e1⟩:=kZ h1
 rw [bO,fR] at e1
 obtain ⟨a,e2,_,w2⟩:=DataW.trod_int Tryz.underlying3 h2
 obtain ⟨b,e3,_,w3⟩:=DataW.trod_int Tryz.underlying3 h3
 obtain ⟨c,e4,_,w4⟩:=DataW.trod_int Tryz.underlying3 h4
 refine ⟨⟨n1,n2,a,b,c⟩,?_,⟨w2,w3,w4⟩⟩
 have e:cs=cs.drop 0:=rfl
 rw [e,dK cs (0) 8,e0,dK cs (0+8) 8,e1,dK cs (0+8+8) 1,e2,dK cs (0+8+8+1) 1,e3,dK cs (0+8+8+1+1) 1,e4,List.drop_of_length_le (by omega)]
 rfl
theorem aFZ (h:DataW.trod enc Tryz.prog w base (fun _=>true) held fuel 30 cs=some x):∃ y:UInt64,cs=nmL y∧True:=by
 obtain ⟨y,e⟩:=kZ h
 rw [bO] at e
 exact ⟨y,e,trivial⟩
theorem aGd (h:DataW.trod enc Tryz.prog w base (fun _=>true) held fuel 3 cs=some x):∃ y:Int,cs=inL y∧wfI y:=by
 obtain ⟨y,e,_,w0⟩:=DataW.trod_int Tryz.underlying3 h
 exact ⟨y,e,w0⟩
theorem aGe (h:DataW.trod enc Tryz.prog w base (fun _=>true) held fuel 27 cs=some x):∃ A n c,∃ L:List DeR,cs=[.slice A n c]∧SlG w A n c L :=
 lO Tryz.underlying27 aDV (fun h=>aGf h) (fun y a v hv hc=>by have e:=Option.some.inj hv;subst e;exact jN hc) h
theorem aGa (h:DataW.trod enc Tryz.prog w base (fun _=>true) held fuel 41 cs=some x):∃ A n c,∃ L:List LkR,cs=[.slice A n c]∧SlG w A n c L :=
 lO Tryz.underlying41 aDU (fun h=>aGb h) (fun y a v hv hc=>by have e:=Option.some.inj hv;subst e;exact jN hc) h
theorem aFY (h:DataW.trod enc Tryz.prog w base (fun _=>true) held fuel 37 cs=some x):∃ A n c,∃ L:List UInt64,cs=[.slice A n c]∧SlG w A n c L :=
 lO Tryz.underlying37 nL (fun h=>aFZ h) (fun y a v hv hc=>by have hv:(nmL y)[0]?=some v:=hv;rw [nmL,fR] at hv;have e:=Option.some.inj hv;subst e;exact jN hc) h
theorem aGc (h:DataW.trod enc Tryz.prog w base (fun _=>true) held fuel 38 cs=some x):∃ A n c,∃ L:List Int,cs=[.slice A n c]∧SlG w A n c L :=
 lO Tryz.underlying38 jH (fun h=>aGd h) (fun y a v hv hc=>by have e:=Option.some.inj hv;subst e;exact jN hc) h
theorem aBg (h:DataW.trod enc Tryz.prog w base (fun _=>true) held fuel 44 cs=some x):∃ s:StR,cs=(ssA s).toList∧s.ok w:=by
 obtain ⟨xs,m,_,_,hl,hxl,hg⟩:=DataW.trod_struct Tryz.underlying44 h
 rw [aId] at hl
 obtain ⟨x0,x1,x2,x3,x4,rfl⟩:=aBm (show xs.length=5 from hxl)
 have h0:DataW.trod enc Tryz.prog w base (fun _=>true) held m 27 ((cs.drop 0).take (Tryz.prog.cellsOf 27))=some x0:=hg 0 _ rfl
 rw [aIc] at h0
 have h1:DataW.trod enc Tryz.prog w base (fun _=>true) held m 38 ((cs.drop 1).take (Tryz.prog.cellsOf 38))=some x1:=hg 1 _ rfl
 rw [aIb] at h1
 have h2:DataW.trod enc Tryz.prog w base (fun _=>true) held m 41 ((cs.drop 2).take (Tryz.prog.cellsOf 41))=some x2:=hg 2 _ rfl
 rw [aIa] at h2
 have h3:DataW.trod enc Tryz.prog w base (fun _=>true) held m 37 ((cs.drop 3).take (Tryz.prog.cellsOf 37))=some x3:=hg 3 _ rfl
 rw [aHZ] at h3
 have h4:DataW.trod enc Tryz.prog w base (fun _=>true) held m 42 ((cs.drop 4).take (Tryz.prog.cellsOf 42))=some x4:=hg 4 _ rfl
 rw [aIe] at h4
 obtain ⟨A1,n1,c1,L1,e0,w0⟩:=aGe h0
 obtain ⟨A2,n2,c2,L2,e1,w1⟩:=aGc h1
 obtain ⟨A3,n3,c3,L3,e2,w2⟩:=aGa h2
 obtain ⟨A4,n4,c4,L4,e3,w3⟩:=aFY h3
 obtain ⟨g,e4,_,w4⟩:=DataW.trod_int Tryz.underlying42 h4
 refine ⟨⟨A1,n1,c1,L1,A2,n2,c2,L2,A3,n3,c3,L3,A4,n4,c4,L4,g⟩,?_,⟨w0,w1,w2,w3,w4⟩⟩
 have e:cs=cs.drop 0:=rfl
 rw [e,dK cs (0) 1,e0,dK cs (0+1) 1,e1,dK cs (0+1+1) 1,e2,dK cs (0+1+1+1) 1,e3,dK cs (0+1+1+1+1) 1,e4,List.drop_of_length_le (by omega)]
 rfl
end
theorem aCF {H:Type} {enc:TypeId × Value→H} {W:World} {base b0:Nat} {held:Bool} {v:Value} {d:DataW H} {q:List MemPlace} (hv:Value.okWide Tryz.prog W .any b0 44 v)
  (h:DataW.Trod enc Tryz.prog W base (fun _=>true) held 44 v d q):∃ s:StR,v=.agg (ssA s)∧s.ok W:=by
 obtain ⟨fuel,hf⟩:=h
 simp only [Value.okWide,Tryz.underlying44] at hv
 obtain ⟨cs,rfl,_,_⟩:=hv
 obtain ⟨s,e,h1⟩:=aBg hf
 refine ⟨s,?_,h1⟩
 congr 1
 apply Array.toList_inj.1
 exact e
end
section
open Go.RowKit
theorem aFf (v:UInt64) (c p:Int) (a b:Nat):cL (cL v c p a) c (p+a) b=cL v c p (a+b):=by
 induction b with
 | zero=>rfl
 | succ b ih =>
  show dR 33 (nmb (cL (cL v c p a) c (p+a) b) ++ [toB c,toB (p+a+b)])=dR 33 (nmb (cL v c p (a+b)) ++ [toB c,toB (p+((a+b:Nat):Int))])
  rw [ih,show p+(a:Int)+(b:Int)=p+((a+b:Nat):Int) from by omega]
theorem aGk (F:Nat→UInt64) (n c:Nat) (h:c < n):gM ((List.range n).map F) c=F c:=by
 unfold gM;simp [List.getD,h]
theorem aHo (seed m:UInt64):cW m (fT seed m)=uF seed:=by
 unfold cW uF
 have key:(List.range 18).map (zI m (fT seed m))=(List.range 18).map (zJ seed):=?_
 ·rw [key]
 refine List.map_congr_left fun c hc=>?_
 have hc:c < 18:=List.mem_range.1 hc
 have hd:=aDd m c hc
 unfold zI fT zJ
 rw [aGk _ _ _ hc]
 unfold oD
 have h:=aFf (oB seed c) (c:Int) 0 (dig m c).toNat (15 - dig m c).toNat
 rw [show (0:Int)+((dig m c).toNat:Int)=dig m c from by omega,show (dig m c).toNat+(15 - dig m c).toNat=15 from by omega] at h
 exact h
theorem vA (ns:List UInt64):(ns.flatMap nmb).length=8 * ns.length:=by
 induction ns with
 | nil=>rfl
 | cons x r ih=>rw [List.flatMap_cons,List.length_append,aL,ih,List.length_cons];omega
theorem aEG (pre rest:List UInt8) (ns:List UInt64) (k at_:Nat) (hp:pre.length=at_) (hk:k < ns.length):nP (pre ++ (ns.flatMap nmb ++ rest)) at_ k=gM ns k:=by
 have hs:ns=ns.take k ++ (gM ns k :: ns.drop (k+1)):=by
  conv=>lhs;rw [← List.take_append_drop k ns]
  rw [List.drop_eq_getElem_cons hk];simp [gM,List.getD,hk]
 have e:(pre ++ (ns.flatMap nmb ++ rest)).drop (at_+k * 8)=nmb (gM ns k) ++ ((ns.drop (k+1)).flatMap nmb ++ rest):=by
  conv=>lhs;rw [hs]
  rw [List.flatMap_append,List.flatMap_cons]
  have hl:(pre ++ (ns.take k).flatMap nmb).length=at_+k * 8:=by
   rw [List.length_append,vA,List.length_take,hp,Nat.min_eq_left (by omega)];omega
  rw [show pre ++ ((ns.take k).flatMap nmb ++ (nmb (gM ns k) ++ (ns.drop (k+1)).flatMap nmb) ++ rest)=(pre ++ (ns.take k).flatMap nmb) ++ (nmb (gM ns k) ++ ((ns.drop (k+1)).flatMap nmb ++ rest)) from by simp only [List.append_assoc]]
  rw [← hl,List.drop_left]
 unfold nP
 rw [e]
 have hl8:=aL (gM ns k)
 rw [show (8:Nat)=(nmb (gM ns k)).length from hl8.symm,List.take_left,uG]
theorem uM (pre rest:List UInt8) (ns:List UInt64) (at_ n:Nat) (hp:pre.length=at_) (hn:ns.length=n):bQ (pre ++ (ns.flatMap nmb ++ rest)) at_ n=ns:=by
 subst hn
 refine List.ext_getElem (by simp [bQ]) fun k h1 h2=>?_
 simp only [bQ,List.getElem_map,List.getElem_range]
 rw [aEG pre rest ns k at_ hp h2]
 simp [gM,List.getD,h2]
theorem oT (pre rest:List UInt8) (seed m:UInt64) (a t:Int) (j at_:Nat) (hp:pre.length=at_) (hj:j < 32):fH (pre ++ ((kD seed a t j m).flatMap nmb ++ rest)) at_ j m=dH (cF seed a t):=by
 have hl:=mS seed a t
 have h1:(fT (sL seed a t (j:Int)) m).length=18:=by simp [fT]
 have h2:(fS (cF seed a t) j).length=5:=by rw [pN,hl,yE j hj]
 unfold fH kD
 rw [List.flatMap_append,List.append_assoc,uM pre _ _ at_ 18 hp h1,aHo]
 rw [show pre ++ ((fT (sL seed a t (j:Int)) m).flatMap nmb ++ ((fS (cF seed a t) j).flatMap nmb ++ rest))=(pre ++ (fT (sL seed a t (j:Int)) m).flatMap nmb) ++ ((fS (cF seed a t) j).flatMap nmb ++ rest) from by simp only [List.append_assoc]]
 rw [uM _ _ _ (at_+144) 5 (by rw [List.length_append,vA,h1,hp]) h2]
 have h:=aBK (cF seed a t) j (by omega)
 rw [hl] at h
 rw [← h]
 congr 1
 simp [cF,kH,List.getD,hj]
theorem pQ (leaf:Nat) (h:leaf < 1024) (rest:List UInt8):cC ([toB ((leaf:Int) / 256),toB (leaf:Int)] ++ rest) 0 2=leaf:=by
 have e1:=bZ ((leaf:Int) / 256)
 have e2:=bZ (leaf:Int)
 simp only [cC,List.drop_zero,List.cons_append,List.nil_append,List.take_succ_cons,List.take_zero,bS,List.length_cons,List.length_nil]
 omega
theorem aEm (seed m:UInt64) (lv:Int) (leaf:Nat) (h:(lv=1∧leaf < 32) ∨ (lv=2∧leaf < 1024)):∃ s,mJ seed lv leaf m=some s∧(s.length:Int)=jZ lv∧cC s 0 2=leaf∧mB (kM seed lv) lv m s=true∧mB (kM seed lv) (3 - lv) m s=false:=by
 have hp1:∀ (a t:Int) (j:Nat) (m:UInt64),j < 32→((kD seed a t j m).flatMap nmb).length=184:=fun a t j m hj=>by rw [vA,zK _ _ _ _ _ hj]
 rcases h with ⟨rfl,hl⟩ | ⟨rfl,hl⟩
 ·have e := aFH seed m leaf 0 leaf (by omega) hl
  refine ⟨_,e,?_,?_,?_,?_⟩
  ·rw [List.length_append,hp1 _ _ _ _ hl];rfl
  ·exact pQ leaf (by omega) _
  ·unfold mB
   rw [if_pos rfl,pQ leaf (by omega) _,Nat.mod_eq_of_lt hl]
   have hc:=oT [toB ((leaf:Int) / 256),toB (leaf:Int)] [] seed m 1 ((0:Nat):Int) leaf 2 rfl hl
   rw [List.append_nil] at hc
   rw [hc,List.length_append,hp1 _ _ _ _ hl]
   have hpv:kM seed 1=dH (cF seed 1 ((0:Nat):Int)):=by unfold kM;rw [if_pos (by omega)];rfl
   rw [hpv]
   simp [hl]
  refine nZ _ _ _ _ ?_
  rw [List.length_append,hp1 _ _ _ _ hl,show [toB ((leaf:Int) / 256),toB (leaf:Int)].length=2 from rfl];decide
 have e:=aFG seed m leaf (leaf / 32) (leaf % 32) (by omega) (by omega) hl
 have hr:leaf % 32 < 32:=by omega
 have ht:leaf / 32 < 32:=by omega
 refine ⟨_,e,?_,?_,?_,?_⟩
 ·rw [List.length_append,List.length_append,hp1 _ _ _ _ hr,hp1 _ _ _ _ ht];rfl
 ·rw [List.append_assoc];exact pQ leaf (by omega) _
 ·unfold mB
  rw [if_neg (by omega),if_pos rfl]
  have hn:=pQ leaf hl ((kD seed 1 ((leaf / 32:Nat):Int) (leaf % 32) m).flatMap nmb ++ (kD seed 2 0 (leaf / 32) (dH (cF seed 1 ((leaf / 32:Nat):Int)))).flatMap nmb)
  rw [← List.append_assoc] at hn
  rw [hn]
  have hc:=oT [toB ((leaf:Int) / 256),toB (leaf:Int)] ((kD seed 2 0 (leaf / 32) (dH (cF seed 1 ((leaf / 32:Nat):Int)))).flatMap nmb) seed m 1 ((leaf / 32:Nat):Int) (leaf % 32) 2 rfl hr
  rw [← List.append_assoc] at hc
  have hc2:=oT ([toB ((leaf:Int) / 256),toB (leaf:Int)] ++ (kD seed 1 ((leaf / 32:Nat):Int) (leaf % 32) m).flatMap nmb) [] seed (dH (cF seed 1 ((leaf / 32:Nat):Int))) 2 0 (leaf / 32) 186 (by rw [List.length_append,hp1 _ _ _ _ hr];rfl) ht
  rw [List.append_nil] at hc2
  rw [hc,hc2,List.length_append,List.length_append,hp1 _ _ _ _ hr,hp1 _ _ _ _ ht]
  have hpv:kM seed 2=dH (cF seed 2 0):=by unfold kM;rw [if_pos (by omega)];rfl
  rw [hpv]
  simp [hl]
 refine nZ _ _ _ _ ?_
 rw [List.length_append,List.length_append,hp1 _ _ _ _ hr,hp1 _ _ _ _ ht,show [toB ((leaf:Int) / 256),toB (leaf:Int)].length=2 from rfl];decide
theorem en1 (w:World) (s:StR):∃ W,(w.alloc (.cells (ssA s) 44)).alloc (.cells #[.slice none 0 0,.slice none 0 0,.slice none 0 0,.slice none 0 0,.int .i64 0] 44)=W∧Hid (Blk W w.heap.size 44 (ssA s))∧Hid (Blk W (w.heap.size+1) 44 (ssA ss0))∧Hid (Ext w W) :=
 ⟨_,rfl,zh ((Blk.new w 44 (ssA s)).alloc _),zh (Blk.newAt _ _ _ _ (by simp)),zh (((Ext.refl w).alloc' _).alloc' _)⟩
theorem en2 (w:World) (s:StR) (c:Array Value) (t:TypeId):∃ W,((w.alloc (.cells (ssA s) 44)).alloc (.cells c t)).alloc (.cells #[.slice none 0 0,.slice none 0 0,.slice none 0 0,.slice none 0 0,.int .i64 0] 44)=W∧Hid (Blk W w.heap.size 44 (ssA s))∧Hid (Blk W (w.heap.size+1) t c)∧Hid (Blk W (w.heap.size+2) 44 (ssA ss0))∧Hid (Ext w W) :=
 ⟨_,rfl,zh (((Blk.new w 44 (ssA s)).alloc _).alloc _),zh (Blk.alloc (Blk.newAt _ _ _ _ (by simp)) _),zh (Blk.newAt _ _ _ _ (by simp)),zh ((((Ext.refl w).alloc' _).alloc' _).alloc' _)⟩
theorem bdE {w w1:World} {b X:Nat} {s0 s1:StR} (h0:s0.ok w) (ho:OwnS w1 b s1) (e:s1.V=s0.V) (hn:s0.n1≤X∧s0.n2≤X∧s0.n3≤X∧s0.n4≤X):s1.n1≤X∧s1.n2≤X∧s1.n3≤X∧s1.n4≤X:=by
 have e1:s1.C=s0.C:=congrArg StV.C e
 have e2:s1.Q=s0.Q:=congrArg StV.Q e
 have e3:s1.K=s0.K:=congrArg StV.K e
 have e4:s1.P=s0.P:=congrArg StV.P e
 have m1:=ho.l1;have m2:=ho.l2;have m3:=ho.l3;have m4:=ho.l4
 have l1:=h0.s1.len;have l2:=h0.s2.len;have l3:=h0.s3.len;have l4:=h0.s4.len
 rw [e1] at m1;rw [e2] at m2;rw [e3] at m3;rw [e4] at m4
 omega
theorem cpS {w W w5 W7:World} {s0 s1:StR} (HS0:Hid (s0.ok w)) (hn:s0.n1≤1000000∧s0.n2≤1000000∧s0.n3≤1000000∧s0.n4≤1000000) (HB:Hid (Blk W w.heap.size 44 (ssA s0))) (HE:Hid (Ext w W)) (ho1:OwnS w5 W.heap.size s1) (hv1:s1.V=s0.V) (he5:Ext W w5)
  (h7:Hid (w5.setCells w.heap.size 0 (ssA s1).toList=W7)) :
  Hid (StB w W7 w.heap.size s1)∧(∀ x t c,Blk W x t c→x ≠ w.heap.size→Blk W7 x t c)∧Hid (s1.n1≤1000000∧s1.n2≤1000000∧s1.n3≤1000000∧s1.n4≤1000000):=by
 have ho:=aX ho1 HE.out.size
 refine ⟨zh ?_,fun x t c hx hne=>?_,zh (bdE HS0.out ho hv1 hn)⟩
 ·rw [← h7.out];exact StB.start ho (HB.out.ext he5) (HE.out.trans he5) (Nat.le_refl _)
 rw [← h7.out];exact (hx.ext he5).grown (aB _ _ _ _) (fun e=>hne (by injection e))
theorem rtS {fn:Func} {p:Tmp} {a:Act} {w WF W9:World} {V:StV} {g:Nat} (r:Nat) (s:StR) (HF:StB w WF g s) (HRF:Blk WF r 44 (ssA ss0)) (hr:w.heap.size≤r) (h9:Hid (WF.setCells r 0 (ssA s).toList=W9)) (hV:s.V=V)
  (hres:fn.results=#[.cell p 44]:=by rfl) (hp:a.tmps.getD p undef=.pointer (some ⟨r,0,none⟩):=by rfl) (hd:a.defers=[]:=by rfl):bodyPost Tryz.prog fn (gW w V) .ret a W9:=by
 have hst:Blk W9 r 44 (ssA s):=by rw [← h9.out];exact aQ (ds:=ssA s) HRF rfl
 have how:OwnS W9 w.heap.size s:=by
  rw [← h9.out]
  exact HF.own.kept (aB _ _ _ _) HRF (by decide) (by decide) (by decide) (by decide)
 have hxe:Ext w W9:=by rw [← h9.out];exact Below.setCells' HF.low hr _ _
 exact bodyPost_ret (v:=.agg (ssA s)) (eI hres _ _ r _ hp (run_loadVar_row _ _ _ _ _ (0,0) _ hst Tryz.underlying44 rfl (by kernel_rfl))) hd ⟨s,rfl,how,hV,hxe⟩
end
end Go.Proofs.YtohmmcahpakokaaGreat
