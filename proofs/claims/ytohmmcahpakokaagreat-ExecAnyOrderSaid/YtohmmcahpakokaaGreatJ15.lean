/- list (the reference's); Verify (the program's). -/
import Derived.ShutString
import Derived.ChangeOld
import Derived.Below
import Derived.SizedLaws
import Derived.Test.YtohmmcahpakokaaGreatJ12
set_option maxRecDepth 100000
set_option maxHeartbeats 8000000
set_option linter.unusedVariables false
set_option linter.unusedSimpArgs false
namespace Go.Proofs.YtohmmcahpakokaaGreat
section
open Go.RowKit
def mA (pub:UInt64) (levels:Int) (m:UInt64) (l:List UInt8):Bool :=
 if levels=1 then decide (l.length=186) && (decide (bX l 0 2 < 32) && decide (fB l 2 (bX l 0 2 % 32) m=pub))
 else if levels=2 then decide (l.length=370) && (decide (bX l 0 2 < 1024) && decide (fB l 186 (bX l 0 2 / 32) (fB l 2 (bX l 0 2 % 32) m)=pub))
 else false
theorem oV (A:Option Addr) (len c:Nat) (l:List UInt8) (at_ j:Nat) (z q:Int) (hz:z=(at_:Int)) (hq:q=(j:Int)) (m:UInt64) (w:World) (h:SlB w A len c l) (hf:at_+184≤len) (hat:at_≤500) (hj:j < 32) :
  Calls Tryz.prog 202 #[.slice A len c,.int .i64 z,.int .i64 q,.agg (nmc m)] w fun e w'=>e=.returned (.agg (nmc (fB l at_ j m)))∧Ext w w':=by
 subst hz;subst hq;exact aCq A len c l at_ j m w h hf hat hj
theorem oB (pub:UInt64) (lv:Int) (m:UInt64) (l:List UInt8) (h:jX lv ≠ (l.length:Int)):mA pub lv m l=false:=by
 unfold mA
 by_cases h1:lv=1
 ·subst h1;rw [if_pos rfl,decide_eq_false (show ¬ l.length=186 from fun e=>h (by rw [e];rfl))];rfl
 rw [if_neg h1]
 by_cases h2:lv=2
 ·subst h2;rw [if_pos rfl,decide_eq_false (show ¬ l.length=370 from fun e=>h (by rw [e];rfl))];rfl
 rw [if_neg h2]
theorem aGh (pub:UInt64) (lv:Int) (m:UInt64) (l:List UInt8) (h:rI lv≤(bX l 0 2:Int)):mA pub lv m l=false:=by
 unfold mA
 by_cases h1:lv=1
 ·subst h1;rw [if_pos rfl,decide_eq_false (show ¬ bX l 0 2 < 32 from by have:(32:Int)≤(bX l 0 2:Int):=h;omega)];simp
 rw [if_neg h1]
 by_cases h2:lv=2
 ·subst h2;rw [if_pos rfl,decide_eq_false (show ¬ bX l 0 2 < 1024 from by have:(1024:Int)≤(bX l 0 2:Int):=h;omega)];simp
 rw [if_neg h2]
theorem xL (pub m:UInt64) (lv:Int) (A:Option Addr) (n c:Nat) (l:List UInt8) (w:World) (h:SlB w A n c l) (hno:n < 2 ∨ jX lv ≠ (n:Int) ∨ rI lv≤(bX l 0 2:Int)) :
  Calls Tryz.prog 145 #[.agg (nmc pub),.int .i64 lv,.agg (nmc m),.slice A n c] w fun e w'=>e=.returned (.bool false)∧Ext w w':=by
 have hE:=((Ext.refl w).alloc' (.cells (nmc pub) 30)).alloc' (.cells (nmc m) 30)
 have HE:=zh hE
 have hcap:=h.cap
 have hle:=h.le
 by_cases h2:n < 2
 ·clear hno
  go_enter Tryz.func145,Tryz.ntmps145
  go_wp2_with (go_at_call 146;refine (aIn A n c _ h2).mono ?_;rintro e w1 ⟨rfl,rfl⟩)
  go_ret
  exact ⟨rfl,HE.out⟩
 have HL:=zh (qA A n c l _ (h.ext HE.out) (by omega))
 have HH:=zh h
 clear h hE
 by_cases hs:jX lv=(n:Int)
 ·have hc:rI lv≤(bX l 0 2:Int):=by
   rcases hno with h | h | h
   ·omega
   ·exact absurd hs h
   exact h
  have b1:((n:Int) != jX lv)=false:=by rw [hs];simp
  clear hno hs
  generalize hx:bX l 0 2=x at *
  generalize hcz:rI lv=cz at *
  generalize hsz:jX lv=sz at *
  have HC:=zh hcz
  have HS:=zh hsz
  clear hx hcz hsz
  go_enter Tryz.func145,Tryz.ntmps145
  go_wp2_with fail
  refine HL.out.mono ?_
  rintro e w1 ⟨rfl,rfl⟩
  go_wp2_with (first | (go_at_call 200;refine (pG lv _).mono ?_;rintro e w1 ⟨rfl,rfl⟩;rw [HS.out]) | (go_at_call 201;refine (gM lv _).mono ?_;rintro e w1 ⟨rfl,rfl⟩;rw [HC.out]))
  go_ret
  exact ⟨rfl,HE.out⟩
 have b1:((n:Int) != jX lv)=true:=by rw [bne_iff_ne];exact fun e=>hs e.symm
 clear hno hs
 generalize hx:bX l 0 2=x at *
 generalize hsz:jX lv=sz at *
 have HS:=zh hsz
 clear hx hsz
 go_enter Tryz.func145,Tryz.ntmps145
 go_wp2_with fail
 refine HL.out.mono ?_
 rintro e w1 ⟨rfl,rfl⟩
 go_wp2_with (first | (go_at_call 200;refine (pG lv _).mono ?_;rintro e w1 ⟨rfl,rfl⟩;rw [HS.out]) | (go_at_call 201;refine (gM lv _).mono ?_;rintro e w1 ⟨rfl,rfl⟩))
 go_ret
 exact ⟨rfl,HE.out⟩
end
section
open Go.RowKit
attribute [local go_sem ↓] Go.wp_at_zero Go.wp_at_succ
def aHN (v:OpV):Bool :=
 decide (1≤v.k∧v.k≤6) && (aQ (fTo v.k) v.tO 0 15 && (aQ (fAm v.k) v.am 1 1099511627776 && (aQ (fUl v.k) v.ul 1 1000 && (aQ (fVa v.k) v.va 0 9 && (aQ (aAp v.k) (v.pre.length:Int) 0 32 && (aQ (aAo v.k) (v.prf.length:Int) 1 2000 && ((fUl v.k || decide (v.hs=0)) && (fLk v.k || decide (v.lk=0)))))))))
theorem aJm {R:OpR} (h1:R.pre.length=R.n1) (h2:R.prf.length=R.n2):vOp R=aHN R.v:=by
 unfold vOp aHN OpR.v;simp only [h1,h2]
def aLa (ac sq:Int) (V:List OpV):Bool:=tH ac sq V.length && V.all aHN
theorem aJl {ac sq:Int} {L:List OpR} (h:∀ R,R ∈ L→vOp R=aHN R.v):vTx ac sq L=aLa ac sq (L.map OpR.v):=by
 unfold vTx aLa
 rw [List.length_map]
 congr 1
 rw [Bool.eq_iff_iff]
 simp only [decide_eq_true_eq,List.all_eq_true,List.mem_map]
 constructor
 ·rintro hh _ ⟨R, hR, rfl⟩
  obtain ⟨k,hk,rfl⟩:=List.getElem_of_mem hR
  have:=hh k hk
  have e:L[k]=aY L k:=by simp [aY,hk]
  rw [← h _ hR,e];exact this
 intro hh k hk
 rw [h _ (pS hk)]
 exact hh _ ⟨_,pS hk,rfl⟩
theorem dB {w:World} {base base':Nat} {e e':TypeId} {size size':Nat} {A A':Option Addr} {n n' c c':Nat} {xs xs':List Value} (h:w.ownsRow base e size (.slice A n c) n xs) (h':w.ownsRow base' e' size' (.slice A' n' c') n' xs') (hne:e ≠ e'):(Value.slice A n c).ownBlock=none ∨ (Value.slice A n c).ownBlock ≠ (Value.slice A' n' c').ownBlock:=by
 rcases h.2 with ⟨hv,_⟩ | ⟨g,cap,cur,hv,_,hh,_⟩
 ·exact .inl (by rw [hv];simp [Value.ownBlock])
 refine .inr ?_
 have:=aI (t:=e) (cs:=cur) h' hh hne
 rw [hv];exact this
section
variable {P:Program} {t e:TypeId} {z:Value} {size bytes:Nat}
theorem bO {ops:Array Oper} {rest:List Oper} {o:Oper} {a:Act} {w:World} {Q:Exit→Act→World→Prop} (E:Elem P t e z size bytes) (hgd:o.guard=none) (s x:Operand)
  (ho:o.op=.call { callee:=.builtin .append,args:=#[s,x],argTypes:=#[t,t] })
  (base:Nat) (A:Option Addr) (n c:Nat) (xs:List Value) (hs:a.eval s=.slice A n c) (hown:w.ownsRow base e size (.slice A n c) n xs)
  (A2:Option Addr) (m c2:Nat) (ys:List Value) (hx:a.eval x=.slice A2 m c2) (hr:Rd w A2 ys) (hl:ys.length=m * size) (h1:∀ u ∈ ys,u.oneCell'=true)
  (hb:(n+m) * bytes≤140737488355328) (h63:n+m≤4611686018427387904) (hbase:base≤w.heap.size)
  (h:∀ A' c' w',w'.ownsRow base e size (.slice A' (n+m) c') (n+m) (xs ++ ys)→w.grownBy w' (Value.ownBlock (.slice A n c))→wpList P ops Q rest (a.put o.dst (.slice A' (n+m) c')) w'):wpList P ops Q (o :: rest) a w :=
 wpList_plain hgd fun K hK=>nZ E s x ho base A n c xs hs hown A2 m c2 ys hx hr hl h1 hb h63 hbase fun A' c' w' h2 h3=>hK _ _ (h A' c' w' h2 h3)
end
abbrev lR:Array Value:=#[.int .i64 0,.int .i64 0,.slice none 0 0,.slice none 0 0]
structure TxR where
 ac:Int
 sq:Int
 A:Option Addr
 n:Nat
 c:Nat
 S:Option Addr
 m:Nat
 d:Nat
 L:List OpR
 sig:List UInt8
abbrev tA (T:TxR):Array Value:=stA T.ac T.sq T.A T.n T.c T.S T.m T.d
def TxR.v (T:TxR):Int × Int × List OpV × List UInt8:=(T.ac,T.sq,T.L.map OpR.v,T.sig)
structure TxR.ok (T:TxR) (w:World):Prop where
 ops:SlO w T.A T.n T.c T.L
 sig:SlB w T.S T.m T.d T.sig
theorem TxR.ok.ext {T:TxR} {w w':World} (h:T.ok w) (e:Ext w w'):T.ok w':=⟨h.ops.ext e,h.sig.ext e⟩
section
variable {o:Oper} {a:Act} {w:World} {ops:Array Oper} {rest:List Oper} {Q:Exit→Act→World→Prop}
theorem mD (hgd:o.guard=none) (x y:Operand) (ho:o.op=.store 47 x y) (g:Nat) (cs:Array Value) (hx:a.eval x=.pointer (some ⟨g,0,none⟩)) (hy:a.eval y=.agg cs) (ht:w.there g 0 4) (hs:cs.size=4) (h1:cs.all (·.oneCell')=true)
  (h:wpList Tryz.prog ops Q rest (a.put o.dst undef) (w.setCells g 0 cs.toList)):wpList Tryz.prog ops Q (o :: rest) a w :=
 wpList_store_mid hgd 47 x y ho g 0 cs hx hy (by rw [hs];exact ht) (by rw [hs];kernel_rfl) h1 h
end
theorem aEa (ac sq:Int) (A:Option Addr) (n c:Nat) (S:Option Addr) (m d:Nat):(stA ac sq A n c S m d).all (·.oneCell')=true:=by simp [stA,Value.oneCell']
theorem aBe {w:World} {X:Nat} {t:TypeId} (h:Blk w X t lR):w.there X 0 4:=aT h
theorem aBf {w:World} {g:Nat} (h:Blk w g 47 lR) (cs:Array Value) (hs:cs.size=4):Blk (w.setCells g 0 cs.toList) g 47 cs:=aR h (by rw [hs];rfl)
end
section
open Go.ChangeShapes Go.WideShapes Go.ChangeAt Go.RowKit
theorem nJ:Tryz.prog.cellsOf 30=8:=by kernel_rfl
theorem aEA:Tryz.prog.cellsOf 5=1:=by kernel_rfl
theorem kV {H:Type} {enc:TypeId × Value→H} {W:World} {base fuel:Nat} {held:Bool} {cs:List Value} {x:DataW H × List MemPlace}
  (h:DataW.trod enc Tryz.prog W base (fun _=>true) held fuel 30 cs=some x):∃ n:UInt64,cs=(nmc n).toList:=by
 obtain ⟨xs,m,_,_,hl,hxl,hf⟩:=DataW.trod_array Tryz.underlying30 h
 rw [nJ] at hl
 rw [aEA] at hf
 have hb:∀ i,i < 8→∃ b:UInt8,cs[i]?=some (.int .u8 (b.toNat:Int)):=by
  intro i hi
  have h1:=hf i hi
  rw [List.getElem?_eq_getElem (by omega)] at h1
  obtain ⟨z,e,_,wz⟩:=DataW.trod_int Tryz.underlying5 h1
  have h2:=aJk wz
  refine ⟨toB z,?_⟩
  rw [← bT,Int.emod_eq_of_lt h2.1 h2.2]
  have h3:((cs.drop (i * 1)).take 1)[0]?=some (.int .u8 z):=by rw [e];rfl
  rw [List.getElem?_take_of_lt (by omega),List.getElem?_drop] at h3
  simpa using h3
 have hc:∃ l:List UInt8,l.length=8∧cs=bcs l:=by
  match cs,hl,hb with
  | [c0,c1,c2,c3,c4,c5,c6,c7],_,hb =>
   obtain ⟨b0,e0⟩:=hb 0 (by omega)
   have e0:c0=.int .u8 (b0.toNat:Int):=Option.some.inj e0
   obtain ⟨b1,e1⟩:=hb 1 (by omega)
   have e1:c1=.int .u8 (b1.toNat:Int):=Option.some.inj e1
   obtain ⟨b2,e2⟩:=hb 2 (by omega)
   have e2:c2=.int .u8 (b2.toNat:Int):=Option.some.inj e2
   obtain ⟨b3,e3⟩:=hb 3 (by omega)
   have e3:c3=.int .u8 (b3.toNat:Int):=Option.some.inj e3
   obtain ⟨b4,e4⟩:=hb 4 (by omega)
   have e4:c4=.int .u8 (b4.toNat:Int):=Option.some.inj e4
   obtain ⟨b5,e5⟩:=hb 5 (by omega)
   have e5:c5=.int .u8 (b5.toNat:Int):=Option.some.inj e5
   obtain ⟨b6,e6⟩:=hb 6 (by omega)
   have e6:c6=.int .u8 (b6.toNat:Int):=Option.some.inj e6
   obtain ⟨b7,e7⟩:=hb 7 (by omega)
   have e7:c7=.int .u8 (b7.toNat:Int):=Option.some.inj e7
   exact ⟨[b0,b1,b2,b3,b4,b5,b6,b7],rfl,by rw [e0,e1,e2,e3,e4,e5,e6,e7];rfl⟩
 obtain ⟨l,hl8,rfl⟩:=hc
 exact ⟨aAd l,by rw [bF,uO l hl8]⟩
end
section
open Go.ChangeShapes Go.WideShapes Go.ChangeAt Go.RowKit Go.Deep
theorem jD:Tryz.prog.cellsOf 3=1:=by kernel_rfl
theorem hI {w:World} {x:Addr} {k:IntKind} {n:Int} (h:w.cell? x=some (.int k n)):x.spot=none:=by
 unfold World.cell? at h
 cases hs:x.spot with
 | none=>rfl
 | some p=>rw [hs] at h;split at h <;> simp at h
theorem aCu:Tryz.prog.cellsOf 69=23:=by kernel_rfl
theorem aIO:Tryz.prog.cellsOf 24=3:=by kernel_rfl
theorem aIQ:Tryz.prog.cellsOf 45=1:=by kernel_rfl
theorem aIP:Tryz.prog.cellsOf 22=1:=by kernel_rfl
section
variable {H:Type} {enc:TypeId × Value→H} {w:World} {base fuel:Nat} {held:Bool} {cs:List Value} {x:DataW H × List MemPlace}
theorem xV (h:DataW.trod enc Tryz.prog w base (fun _=>true) held fuel 45 cs=some x):∃ a n c l,cs=[.slice a n c]∧SlB w a n c l:=by
 rcases open_ints Tryz.underlying45 Tryz.underlying5 aEA h with ⟨hcs,_⟩ | ⟨x,l,c,zs,hcs,_,hl,hm,hz,_,hcell,hwz⟩
 ·exact ⟨_,_,_,[],hcs,SlB.nil w⟩
 obtain ⟨l',hs⟩:=aCU (.inr ⟨_,rfl,hl,hm,by simpa using hz,hcell,hwz⟩)
 exact ⟨_,_,_,l',hcs,hs⟩
theorem dG {α:Type} (cs:List α) (a n:Nat):cs.drop a=(cs.drop a).take n ++ cs.drop (a+n):=by
 rw [← List.drop_drop,List.take_append_drop]
theorem aLi {α:Type} {l:List α} (h:l.length=9):∃ a b c d e f g i j,l=[a,b,c,d,e,f,g,i,j]:=by
 match l,h with
 | [a,b,c,d,e,f,g,i,j],_=>exact ⟨a,b,c,d,e,f,g,i,j,rfl⟩
theorem aHZ (h:DataW.trod enc Tryz.prog w base (fun _=>true) held fuel 69 cs=some x):∃ R:OpR,cs=opL R∧R.ok w:=by
 obtain ⟨xs,m,_,_,hl,hxl,hg⟩:=DataW.trod_struct Tryz.underlying69 h
 rw [aCu] at hl
 obtain ⟨x0,x1,x2,x3,x4,x5,x6,x7,x8,rfl⟩:=aLi (show xs.length=9 from hxl)
 have h0:DataW.trod enc Tryz.prog w base (fun _=>true) held m 3 ((cs.drop 0).take (Tryz.prog.cellsOf 3))=some x0:=hg 0 _ rfl
 have h1:DataW.trod enc Tryz.prog w base (fun _=>true) held m 3 ((cs.drop 1).take (Tryz.prog.cellsOf 3))=some x1:=hg 1 _ rfl
 have h2:DataW.trod enc Tryz.prog w base (fun _=>true) held m 3 ((cs.drop 2).take (Tryz.prog.cellsOf 3))=some x2:=hg 2 _ rfl
 have h3:DataW.trod enc Tryz.prog w base (fun _=>true) held m 3 ((cs.drop 3).take (Tryz.prog.cellsOf 3))=some x3:=hg 3 _ rfl
 have h4:DataW.trod enc Tryz.prog w base (fun _=>true) held m 3 ((cs.drop 4).take (Tryz.prog.cellsOf 3))=some x4:=hg 4 _ rfl
 have h5:DataW.trod enc Tryz.prog w base (fun _=>true) held m 30 ((cs.drop 5).take (Tryz.prog.cellsOf 30))=some x5:=hg 5 _ rfl
 have h6:DataW.trod enc Tryz.prog w base (fun _=>true) held m 30 ((cs.drop 13).take (Tryz.prog.cellsOf 30))=some x6:=hg 6 _ rfl
 have h7:DataW.trod enc Tryz.prog w base (fun _=>true) held m 45 ((cs.drop 21).take (Tryz.prog.cellsOf 45))=some x7:=hg 7 _ rfl
 have h8:DataW.trod enc Tryz.prog w base (fun _=>true) held m 45 ((cs.drop 22).take (Tryz.prog.cellsOf 45))=some x8:=hg 8 _ rfl
 rw [jD] at h0 h1 h2 h3 h4
 rw [nJ] at h5 h6
 rw [aIQ] at h7 h8
 obtain ⟨k,e0,_,_⟩:=DataW.trod_int Tryz.underlying3 h0
 obtain ⟨tO,e1,_,_⟩:=DataW.trod_int Tryz.underlying3 h1
 obtain ⟨am,e2,_,_⟩:=DataW.trod_int Tryz.underlying3 h2
 obtain ⟨ul,e3,_,_⟩:=DataW.trod_int Tryz.underlying3 h3
 obtain ⟨va,e4,_,_⟩:=DataW.trod_int Tryz.underlying3 h4
 obtain ⟨lk,e5⟩:=kV h5
 obtain ⟨hs,e6⟩:=kV h6
 obtain ⟨A1,n1,c1,pre,e7,s1⟩:=xV h7
 obtain ⟨A2,n2,c2,prf,e8,s2⟩:=xV h8
 rw [bF,fF] at e5 e6
 refine ⟨⟨k,tO,am,ul,va,lk,hs,A1,n1,c1,pre,A2,n2,c2,prf⟩,?_,⟨s1,s2⟩⟩
 have e:cs=cs.drop 0:=rfl
 rw [e,dG cs 0 1,e0,dG cs (0+1) 1,e1,dG cs (0+1+1) 1,e2,dG cs (0+1+1+1) 1,e3,dG cs (0+1+1+1+1) 1,e4,dG cs (0+1+1+1+1+1) 8,e5,dG cs (0+1+1+1+1+1+8) 8,e6,dG cs (0+1+1+1+1+1+8+8) 1,e7,dG cs (0+1+1+1+1+1+8+8+1) 1,e8,List.drop_of_length_le (by omega)]
 rfl
theorem aGB {b o:Nat}:∀ (n:Nat),(∀ j,j < n→∃ y:OpR,w.rangeAt b (o+j * 23) (opL y)∧y.ok w)→∃ L:List OpR,L.length=n∧w.rangeAt b o (ocs L)∧∀ R,R ∈ L→R.ok w:=by
 intro n
 induction n with
 | zero=>intro _;exact ⟨[],rfl,fun j v hv=>by simp [ocs] at hv,fun R hR=>by cases hR⟩
 | succ n ih =>
  intro h
  obtain ⟨L,hL,hr,hok⟩:=ih (fun j hj=>h j (by omega))
  obtain ⟨y,hy,hyo⟩:=h n (by omega)
  refine ⟨L ++ [y],by simp [hL],?_,?_⟩
  ·rw [aDj, mQ, aEk, List.append_nil]
   refine mN hr ?_
   rw [uL,hL];exact hy
  intro R hR
  rcases List.mem_append.1 hR with hR | hR
  ·exact hok R hR
  rw [List.mem_singleton.1 hR];exact hyo
theorem aGN (h:DataW.trod enc Tryz.prog w base (fun _=>true) held fuel 22 cs=some x):∃ A n c L,cs=[.slice A n c]∧SlO w A n c L:=by
 rcases open_slice Tryz.underlying22 h with ⟨hcs,_⟩ | ⟨x,l,c',m,n,D,Pl,hcs,_,hl,hm,hmm,_,hi⟩
 ·exact ⟨none,0,0,[],hcs,SlO.nil w⟩
 rw [if_pos rfl] at hmm
 subst hmm
 have hcell:∀ j,j < l→∃ y:OpR,(∀ q v,(opL y)[q]?=some v→w.cell? ((x.add (j * 23)).add q)=some v)∧y.ok w:=by
  intro j hj
  obtain ⟨cs',hc,ht⟩:=hi j (by omega)
  obtain ⟨y,rfl,hyo⟩:=aHZ ht
  rw [aCu] at hc
  obtain ⟨_,hln,hat⟩:=World.cells?_some hc
  refine ⟨y,fun q v hv=>?_,hyo⟩
  have hq:=(List.getElem?_eq_some_iff.1 hv).1
  have:=hat q (by rw [eX] at hq;omega)
  rw [this,hv]
 rcases Nat.eq_zero_or_pos l with rfl | h0
 ·exact ⟨_,0,_,[],hcs,rfl,Nat.zero_le _,by unfold maxLen at hm;omega,.nil,fun R hR=>by cases hR⟩
 have hx:x.spot=none:=by
  obtain ⟨y,hy,_⟩:=hcell 0 h0
  have:=hy 0 (.int .i64 y.k) rfl
  have e0:((x.add (0 * 23)).add 0)=x:=by simp [Addr.add]
  rw [e0] at this
  exact hI this
 obtain ⟨bl,ol,sp⟩:=x
 simp only at hx
 subst hx
 obtain ⟨L,hL,hr,hok⟩:=aGB (w:=w) (b:=bl) (o:=ol) l (fun j hj=>by
  obtain ⟨y,hy,hyo⟩:=hcell j hj
  refine ⟨y,fun q v hv=>?_,hyo⟩
  have:=hy q v hv
  rwa [Addr.add_mid,Addr.add_mid] at this)
 exact ⟨_,l,_,L,hcs,hL,hl,by unfold maxLen at hm;omega,.inr ⟨bl,ol,rfl,hr⟩,hok⟩
theorem aLj {α:Type} {l:List α} (h:l.length=2):∃ a b,l=[a,b]:=by
 match l,h with
 | [a,b],_=>exact ⟨a,b,rfl⟩
theorem aHi {α:Type} {l:List α} (h:l.length=3):∃ a b c,l=[a,b,c]:=by
 match l,h with
 | [a,b,c],_=>exact ⟨a,b,c,rfl⟩
theorem aGL (h:DataW.trod enc Tryz.prog w base (fun _=>true) held fuel 24 cs=some x):∃ ac sq A n c L,cs=[.int .i64 ac,.int .i64 sq,.slice A n c]∧SlO w A n c L:=by
 obtain ⟨xs,m,_,_,hl,hxl,hf⟩:=DataW.trod_struct Tryz.underlying24 h
 rw [aIO] at hl
 obtain ⟨c0,c1,c2,rfl⟩:=aHi hl
 obtain ⟨x0,x1,x2,rfl⟩:=aHi (show xs.length=3 from hxl)
 have h0:DataW.trod enc Tryz.prog w base (fun _=>true) held m 3 (([c0,c1,c2].drop 0).take (Tryz.prog.cellsOf 3))=some x0:=hf 0 _ rfl
 have h1:DataW.trod enc Tryz.prog w base (fun _=>true) held m 3 (([c0,c1,c2].drop 1).take (Tryz.prog.cellsOf 3))=some x1:=hf 1 _ rfl
 have h2:DataW.trod enc Tryz.prog w base (fun _=>true) held m 22 (([c0,c1,c2].drop 2).take (Tryz.prog.cellsOf 22))=some x2:=hf 2 _ rfl
 rw [jD] at h0 h1
 rw [aIP] at h2
 obtain ⟨ac,e0,_,_⟩:=DataW.trod_int Tryz.underlying3 h0
 obtain ⟨sq,e1,_,_⟩:=DataW.trod_int Tryz.underlying3 h1
 obtain ⟨A,n,c,L,e2,hs⟩:=aGN h2
 simp only [List.drop_zero,List.drop_succ_cons,List.take_succ_cons,List.take_zero,List.cons.injEq,and_true] at e0 e1 e2
 exact ⟨ac,sq,A,n,c,L,by rw [e0,e1,e2],hs⟩
end
end
end Go.Proofs.YtohmmcahpakokaaGreat
