/- What a law is told of its arguments: names and bytes that came in. -/
import Derived.ShutString
import Derived.ChangeOld
import Derived.Below
import Derived.SizedLaws
import Derived.Test.YtohmmcahpakokaaGreatD20
set_option maxRecDepth 100000
set_option maxHeartbeats 8000000
set_option linter.unusedVariables false
set_option linter.unusedSimpArgs false
namespace Go.Proofs.YtohmmcahpakokaaGreat
section
open Go.ChangeShapes Go.WideShapes Go.ChangeAt Go.RowKit
theorem cellsNm:Tryz.prog.cellsOf 30=8:=by kernel_rfl
theorem cellsB1:Tryz.prog.cellsOf 5=1:=by kernel_rfl
theorem open_nmc {H:Type} {enc:TypeId × Value→H} {W:World} {base fuel:Nat} {held:Bool} {cs:List Value} {x:DataW H × List MemPlace}
  (h:DataW.trod enc Tryz.prog W base (fun _=>true) held fuel 30 cs=some x):∃ n:UInt64,cs=(nmc n).toList:=by
 obtain ⟨xs,m,_,_,hl,hxl,hf⟩:=DataW.trod_array Tryz.underlying30 h
 rw [cellsNm] at hl
 rw [cellsB1] at hf
 have hb:∀ i,i < 8→∃ b:UInt8,cs[i]?=some (.int .u8 (b.toNat:Int)):=by
  intro i hi
  have h1:=hf i hi
  rw [List.getElem?_eq_getElem (by omega)] at h1
  obtain ⟨z,e,_,wz⟩:=DataW.trod_int Tryz.underlying5 h1
  have h2:=wf_u8 wz
  refine ⟨toB z,?_⟩
  rw [← toB_eq,Int.emod_eq_of_lt h2.1 h2.2]
  have h3:((cs.drop (i * 1)).take 1)[0]?=some (.int .u8 z):=by rw [e];rfl
  rw [List.getElem?_take_of_lt (by omega),List.getElem?_drop] at h3
  simpa using h3
 have hc:∃ l:List UInt8,l.length=8∧cs=bcs l:=by
  match cs,hl,hb with
  | [c0,c1,c2,c3,c4,c5,c6,c7],_,hb =>
   obtain ⟨b0,e0⟩:=hb 0 (by omega)
   have e0:c0=.int .u8 (b0.toNat:Int):=Option.some.inj e0
   obtain ⟨b1,e1⟩:=hb 1 (by omega)
   have e1:c1=.int .u8 (b1.toNat:Int):=Option.some.inj e1
   obtain ⟨b2,e2⟩:=hb 2 (by omega)
   have e2:c2=.int .u8 (b2.toNat:Int):=Option.some.inj e2
   obtain ⟨b3,e3⟩:=hb 3 (by omega)
   have e3:c3=.int .u8 (b3.toNat:Int):=Option.some.inj e3
   obtain ⟨b4,e4⟩:=hb 4 (by omega)
   have e4:c4=.int .u8 (b4.toNat:Int):=Option.some.inj e4
   obtain ⟨b5,e5⟩:=hb 5 (by omega)
   have e5:c5=.int .u8 (b5.toNat:Int):=Option.some.inj e5
   obtain ⟨b6,e6⟩:=hb 6 (by omega)
   have e6:c6=.int .u8 (b6.toNat:Int):=Option.some.inj e6
   obtain ⟨b7,e7⟩:=hb 7 (by omega)
   have e7:c7=.int .u8 (b7.toNat:Int):=Option.some.inj e7
   exact ⟨[b0,b1,b2,b3,b4,b5,b6,b7],rfl,by rw [e0,e1,e2,e3,e4,e5,e6,e7];rfl⟩
 obtain ⟨l,hl8,rfl⟩:=hc
 exact ⟨ofNm l,by rw [nmc_toList,nmb_ofNm l hl8]⟩
end
section
open Go.ChangeShapes Go.WideShapes Go.ChangeAt Go.RowKit Go.Deep
theorem cellsI1:Tryz.prog.cellsOf 3=1:=by kernel_rfl
theorem spot_none' {w:World} {x:Addr} {k:IntKind} {n:Int} (h:w.cell? x=some (.int k n)):x.spot=none:=by
 unfold World.cell? at h
 cases hs:x.spot with
 | none=>rfl
 | some p=>rw [hs] at h;split at h <;> simp at h
theorem cellsO23:Tryz.prog.cellsOf 69=23:=by kernel_rfl
theorem cellsT3:Tryz.prog.cellsOf 24=3:=by kernel_rfl
theorem cellsT4:Tryz.prog.cellsOf 47=4:=by kernel_rfl
theorem cellsSB:Tryz.prog.cellsOf 45=1:=by kernel_rfl
theorem cellsSO:Tryz.prog.cellsOf 22=1:=by kernel_rfl
section
variable {H:Type} {enc:TypeId × Value→H} {w:World} {base fuel:Nat} {held:Bool} {cs:List Value} {x:DataW H × List MemPlace}
theorem open_rowB (h:DataW.trod enc Tryz.prog w base (fun _=>true) held fuel 45 cs=some x):∃ a n c l,cs=[.slice a n c]∧SlB w a n c l:=by
 rcases open_ints Tryz.underlying45 Tryz.underlying5 cellsB1 h with ⟨hcs,_⟩ | ⟨x,l,c,zs,hcs,_,hl,hm,hz,_,hcell,hwz⟩
 ·exact ⟨_,_,_,[],hcs,SlB.nil w⟩
 obtain ⟨l',hs⟩:=slb_of_row (.inr ⟨_,rfl,hl,hm,by simpa using hz,hcell,hwz⟩)
 exact ⟨_,_,_,l',hcs,hs⟩
theorem cut_at {α:Type} (cs:List α) (a n:Nat):cs.drop a=(cs.drop a).take n ++ cs.drop (a+n):=by
 rw [← List.drop_drop,List.take_append_drop]
theorem list9 {α:Type} {l:List α} (h:l.length=9):∃ a b c d e f g i j,l=[a,b,c,d,e,f,g,i,j]:=by
 match l,h with
 | [a,b,c,d,e,f,g,i,j],_=>exact ⟨a,b,c,d,e,f,g,i,j,rfl⟩
theorem open_op (h:DataW.trod enc Tryz.prog w base (fun _=>true) held fuel 69 cs=some x):∃ R:OpR,cs=opL R∧R.ok w:=by
 obtain ⟨xs,m,_,_,hl,hxl,hg⟩:=DataW.trod_struct Tryz.underlying69 h
 rw [cellsO23] at hl
 obtain ⟨x0,x1,x2,x3,x4,x5,x6,x7,x8,rfl⟩:=list9 (show xs.length=9 from hxl)
 have h0:DataW.trod enc Tryz.prog w base (fun _=>true) held m 3 ((cs.drop 0).take (Tryz.prog.cellsOf 3))=some x0:=hg 0 _ rfl
 have h1:DataW.trod enc Tryz.prog w base (fun _=>true) held m 3 ((cs.drop 1).take (Tryz.prog.cellsOf 3))=some x1:=hg 1 _ rfl
 have h2:DataW.trod enc Tryz.prog w base (fun _=>true) held m 3 ((cs.drop 2).take (Tryz.prog.cellsOf 3))=some x2:=hg 2 _ rfl
 have h3:DataW.trod enc Tryz.prog w base (fun _=>true) held m 3 ((cs.drop 3).take (Tryz.prog.cellsOf 3))=some x3:=hg 3 _ rfl
 have h4:DataW.trod enc Tryz.prog w base (fun _=>true) held m 3 ((cs.drop 4).take (Tryz.prog.cellsOf 3))=some x4:=hg 4 _ rfl
 have h5:DataW.trod enc Tryz.prog w base (fun _=>true) held m 30 ((cs.drop 5).take (Tryz.prog.cellsOf 30))=some x5:=hg 5 _ rfl
 have h6:DataW.trod enc Tryz.prog w base (fun _=>true) held m 30 ((cs.drop 13).take (Tryz.prog.cellsOf 30))=some x6:=hg 6 _ rfl
 have h7:DataW.trod enc Tryz.prog w base (fun _=>true) held m 45 ((cs.drop 21).take (Tryz.prog.cellsOf 45))=some x7:=hg 7 _ rfl
 have h8:DataW.trod enc Tryz.prog w base (fun _=>true) held m 45 ((cs.drop 22).take (Tryz.prog.cellsOf 45))=some x8:=hg 8 _ rfl
 rw [cellsI1] at h0 h1 h2 h3 h4
 rw [cellsNm] at h5 h6
 rw [cellsSB] at h7 h8
 obtain ⟨k,e0,_,_⟩:=DataW.trod_int Tryz.underlying3 h0
 obtain ⟨tO,e1,_,_⟩:=DataW.trod_int Tryz.underlying3 h1
 obtain ⟨am,e2,_,_⟩:=DataW.trod_int Tryz.underlying3 h2
 obtain ⟨ul,e3,_,_⟩:=DataW.trod_int Tryz.underlying3 h3
 obtain ⟨va,e4,_,_⟩:=DataW.trod_int Tryz.underlying3 h4
 obtain ⟨lk,e5⟩:=open_nmc h5
 obtain ⟨hs,e6⟩:=open_nmc h6
 obtain ⟨A1,n1,c1,pre,e7,s1⟩:=open_rowB h7
 obtain ⟨A2,n2,c2,prf,e8,s2⟩:=open_rowB h8
 rw [nmc_toList,bcs_nb8] at e5 e6
 refine ⟨⟨k,tO,am,ul,va,lk,hs,A1,n1,c1,pre,A2,n2,c2,prf⟩,?_,⟨s1,s2⟩⟩
 have e:cs=cs.drop 0:=rfl
 rw [e,cut_at cs 0 1,e0,cut_at cs (0+1) 1,e1,cut_at cs (0+1+1) 1,e2,cut_at cs (0+1+1+1) 1,e3,cut_at cs (0+1+1+1+1) 1,e4,cut_at cs (0+1+1+1+1+1) 8,e5,cut_at cs (0+1+1+1+1+1+8) 8,e6,cut_at cs (0+1+1+1+1+1+8+8) 1,e7,cut_at cs (0+1+1+1+1+1+8+8+1) 1,e8,List.drop_of_length_le (by omega)]
 rfl
theorem rows_ops {b o:Nat}:∀ (n:Nat),(∀ j,j < n→∃ y:OpR,w.rangeAt b (o+j * 23) (opL y)∧y.ok w)→∃ L:List OpR,L.length=n∧w.rangeAt b o (ocs L)∧∀ R,R ∈ L→R.ok w:=by
 intro n
 induction n with
 | zero=>intro _;exact ⟨[],rfl,fun j v hv=>by simp [ocs] at hv,fun R hR=>by cases hR⟩
 | succ n ih =>
  intro h
  obtain ⟨L,hL,hr,hok⟩:=ih (fun j hj=>h j (by omega))
  obtain ⟨y,hy,hyo⟩:=h n (by omega)
  refine ⟨L ++ [y],by simp [hL],?_,?_⟩
  ·rw [ocs_append, ocs_cons, ocs_nil, List.append_nil]
   refine rangeAt_append hr ?_
   rw [ocs_length,hL];exact hy
  intro R hR
  rcases List.mem_append.1 hR with hR | hR
  ·exact hok R hR
  rw [List.mem_singleton.1 hR];exact hyo
theorem open_ops (h:DataW.trod enc Tryz.prog w base (fun _=>true) held fuel 22 cs=some x):∃ A n c L,cs=[.slice A n c]∧SlO w A n c L:=by
 rcases open_slice Tryz.underlying22 h with ⟨hcs,_⟩ | ⟨x,l,c',m,n,D,Pl,hcs,_,hl,hm,hmm,_,hi⟩
 ·exact ⟨none,0,0,[],hcs,SlO.nil w⟩
 rw [if_pos rfl] at hmm
 subst hmm
 have hcell:∀ j,j < l→∃ y:OpR,(∀ q v,(opL y)[q]?=some v→w.cell? ((x.add (j * 23)).add q)=some v)∧y.ok w:=by
  intro j hj
  obtain ⟨cs',hc,ht⟩:=hi j (by omega)
  obtain ⟨y,rfl,hyo⟩:=open_op ht
  rw [cellsO23] at hc
  obtain ⟨_,hln,hat⟩:=World.cells?_some hc
  refine ⟨y,fun q v hv=>?_,hyo⟩
  have hq:=(List.getElem?_eq_some_iff.1 hv).1
  have:=hat q (by rw [opL_length] at hq;omega)
  rw [this,hv]
 rcases Nat.eq_zero_or_pos l with rfl | h0
 ·exact ⟨_,0,_,[],hcs,rfl,Nat.zero_le _,by unfold maxLen at hm;omega,.nil,fun R hR=>by cases hR⟩
 have hx:x.spot=none:=by
  obtain ⟨y,hy,_⟩:=hcell 0 h0
  have:=hy 0 (.int .i64 y.k) rfl
  have e0:((x.add (0 * 23)).add 0)=x:=by simp [Addr.add]
  rw [e0] at this
  exact spot_none' this
 obtain ⟨bl,ol,sp⟩:=x
 simp only at hx
 subst hx
 obtain ⟨L,hL,hr,hok⟩:=rows_ops (w:=w) (b:=bl) (o:=ol) l (fun j hj=>by
  obtain ⟨y,hy,hyo⟩:=hcell j hj
  refine ⟨y,fun q v hv=>?_,hyo⟩
  have:=hy q v hv
  rwa [Addr.add_mid,Addr.add_mid] at this)
 exact ⟨_,l,_,L,hcs,hL,hl,by unfold maxLen at hm;omega,.inr ⟨bl,ol,rfl,hr⟩,hok⟩
theorem list2 {α:Type} {l:List α} (h:l.length=2):∃ a b,l=[a,b]:=by
 match l,h with
 | [a,b],_=>exact ⟨a,b,rfl⟩
theorem list3' {α:Type} {l:List α} (h:l.length=3):∃ a b c,l=[a,b,c]:=by
 match l,h with
 | [a,b,c],_=>exact ⟨a,b,c,rfl⟩
theorem list4 {α:Type} {l:List α} (h:l.length=4):∃ a b c d,l=[a,b,c,d]:=by
 match l,h with
 | [a,b,c,d],_=>exact ⟨a,b,c,d,rfl⟩
theorem open_txc (h:DataW.trod enc Tryz.prog w base (fun _=>true) held fuel 24 cs=some x):∃ ac sq A n c L,cs=[.int .i64 ac,.int .i64 sq,.slice A n c]∧SlO w A n c L:=by
 obtain ⟨xs,m,_,_,hl,hxl,hf⟩:=DataW.trod_struct Tryz.underlying24 h
 rw [cellsT3] at hl
 obtain ⟨c0,c1,c2,rfl⟩:=list3' hl
 obtain ⟨x0,x1,x2,rfl⟩:=list3' (show xs.length=3 from hxl)
 have h0:DataW.trod enc Tryz.prog w base (fun _=>true) held m 3 (([c0,c1,c2].drop 0).take (Tryz.prog.cellsOf 3))=some x0:=hf 0 _ rfl
 have h1:DataW.trod enc Tryz.prog w base (fun _=>true) held m 3 (([c0,c1,c2].drop 1).take (Tryz.prog.cellsOf 3))=some x1:=hf 1 _ rfl
 have h2:DataW.trod enc Tryz.prog w base (fun _=>true) held m 22 (([c0,c1,c2].drop 2).take (Tryz.prog.cellsOf 22))=some x2:=hf 2 _ rfl
 rw [cellsI1] at h0 h1
 rw [cellsSO] at h2
 obtain ⟨ac,e0,_,_⟩:=DataW.trod_int Tryz.underlying3 h0
 obtain ⟨sq,e1,_,_⟩:=DataW.trod_int Tryz.underlying3 h1
 obtain ⟨A,n,c,L,e2,hs⟩:=open_ops h2
 simp only [List.drop_zero,List.drop_succ_cons,List.take_succ_cons,List.take_zero,List.cons.injEq,and_true] at e0 e1 e2
 exact ⟨ac,sq,A,n,c,L,by rw [e0,e1,e2],hs⟩
theorem open_stc (h:DataW.trod enc Tryz.prog w base (fun _=>true) held fuel 47 cs=some x):∃ T:TxR,cs=tL T∧T.ok w:=by
 obtain ⟨xs,m,_,_,hl,hxl,hf⟩:=DataW.trod_struct Tryz.underlying47 h
 rw [cellsT4] at hl
 obtain ⟨c0,c1,c2,c3,rfl⟩:=list4 hl
 obtain ⟨x0,x1,rfl⟩:=list2 (show xs.length=2 from hxl)
 have h0:DataW.trod enc Tryz.prog w base (fun _=>true) held m 24 (([c0,c1,c2,c3].drop 0).take (Tryz.prog.cellsOf 24))=some x0:=hf 0 _ rfl
 have h1:DataW.trod enc Tryz.prog w base (fun _=>true) held m 45 (([c0,c1,c2,c3].drop 3).take (Tryz.prog.cellsOf 45))=some x1:=hf 1 _ rfl
 rw [cellsT3] at h0
 rw [cellsSB] at h1
 obtain ⟨ac,sq,A,n,c,L,e0,hs⟩:=open_txc h0
 obtain ⟨S,k,d,sig,e1,hg⟩:=open_rowB h1
 simp only [List.drop_zero,List.drop_succ_cons,List.take_succ_cons,List.take_zero,List.cons.injEq,and_true] at e0 e1
 exact ⟨⟨ac,sq,A,n,c,S,k,d,L,sig⟩,by rw [e0.1,e0.2.1,e0.2.2,e1];rfl,⟨hs,hg⟩⟩
end
theorem open_signed {H:Type} {enc:TypeId × Value→H} {W:World} {base b0:Nat} {held:Bool} {v:Value} {d:DataW H} {q:List MemPlace} (hv:Value.okWide Tryz.prog W .any b0 47 v)
  (h:DataW.Trod enc Tryz.prog W base (fun _=>true) held 47 v d q):∃ T:TxR,v=.agg (tA T)∧T.ok W:=by
 obtain ⟨fuel,hf⟩:=h
 simp only [Value.okWide,Tryz.underlying47] at hv
 obtain ⟨cs,rfl,_,_⟩:=hv
 obtain ⟨T,e,hT⟩:=open_stc hf
 refine ⟨T,?_,hT⟩
 congr 1
 apply Array.toList_inj.1
 exact e
end
section
open Go.RowKit
attribute [local go_sem ↓] Go.wp_at_zero Go.wp_at_succ
section
variable {α:Type} [RowT α] {q:α→Bool} {L:List α} {r:Int} {n:Nat}
def IxIs (q:α→Bool) (L:List α) (r:Int):Prop:=(r=-1∧∀ k,k < L.length→q (nthG L k)=false) ∨ ∃ k:Nat,r=(k:Int)∧k < L.length∧q (nthG L k)=true∧∀ j,j < k→q (nthG L j)=false
theorem ix_cases (q:α→Bool) (L:List α):(∀ k,k < L.length→q (nthG L k)=false) ∨ ∃ k:Nat,k < L.length∧q (nthG L k)=true∧∀ j,j < k→q (nthG L j)=false:=by
 suffices H:∀ n,n≤L.length→(∀ k,k < n→q (nthG L k)=false) ∨ ∃ k:Nat,k < n∧q (nthG L k)=true∧∀ j,j < k→q (nthG L j)=false from H _ (Nat.le_refl _)
 intro n
 induction n with
 | zero=>intro _;exact .inl (fun k hk=>absurd hk (Nat.not_lt_zero _))
 | succ n ih =>
  intro hn
  rcases ih (by omega) with h | ⟨k,h1,h2,h3⟩
  ·cases hq : q (nthG L n) with
   | false=>exact .inl (fun k hk=>by
     by_cases e:k=n
     ·rw [e];exact hq
     exact h k (by omega))
   | true=>exact .inr ⟨n,by omega,hq,h⟩
  exact .inr ⟨k,by omega,h2,h3⟩
theorem IxIs.hit (h:IxIs q L r) {k:Nat} (hk:k < L.length) (h1:q (nthG L k)=true) (h2:∀ j,j < k→q (nthG L j)=false):r=(k:Int):=by
 rcases h with ⟨rfl,h⟩ | ⟨m,rfl,hm,h3,h4⟩
 ·rw [h k hk] at h1;cases h1
 rcases Nat.lt_trichotomy k m with e | e | e
 ·rw [h4 k e] at h1;cases h1
 ·rw [e]
 rw [h2 m e] at h3;cases h3
theorem IxIs.none (h:IxIs q L r) (h2:∀ j,j < L.length→q (nthG L j)=false):r=-1:=by
 rcases h with ⟨rfl,h⟩ | ⟨m,rfl,hm,h3,h4⟩
 ·rfl
 rw [h2 m hm] at h3;cases h3
theorem all_next {k:Nat} (h:∀ j,j < k→q (nthG L j)=false) (hk:q (nthG L k)=false):∀ j,j < k+1→q (nthG L j)=false:=fun j hj=>by
 by_cases e:j=k
 ·rw [e];exact hk
 exact h j (by omega)
end
structure Says {α:Type} [RowT α] (arr:α→Array Value) (fn:Nat) (caps:Array Value) (q:α→Bool) (w0:World):Prop where
 eg:∀ args w,(callFunc fn args).run Tryz.prog w=.ok (.enter fn args) w
 says:∀ x W,Ext w0 W→RowT.ok x W→Calls Tryz.prog fn (#[.agg (arr x)] ++ caps) W fun e w'=>e=.returned (.bool (q x))∧Ext W w'
theorem Says.at {α:Type} [RowT α] {arr:α→Array Value} {fn:Nat} {caps:Array Value} {q:α→Bool} {w0:World} (h:Says arr fn caps q w0) {w:World} {A:Option Addr} {n c:Nat} {L:List α} (hS:SlG w A n c L) (hE:Ext w0 w) {k:Nat} (hk:k < n) (v:Value) (hv:Value.agg (arr (nthG L k))=v) (b:Bool) (hb:q (nthG L k)=b) :
  Hid (Calls Tryz.prog fn (#[v] ++ caps) w fun e w'=>e=.returned (.bool b)∧Ext w w'):=by
 subst hv;subst hb
 exact zh (h.says _ w hE (hS.nth hk))
theorem ixDe_any {fn:Nat} {caps:Array Value} {q:DeR→Bool} {w0:World} (ht:Says deA fn caps q w0) (w:World) (A:Option Addr) (n c:Nat) (L:List DeR) (h:SlG w A n c L) (hE:Ext w0 w) (r:Int) (hr:IxIs q L r) :
  Calls Tryz.prog 157 #[.slice A n c,.func (.func fn) #[] caps] w fun e w'=>e=.returned (.int .i64 r)∧Ext w w':=by
 have eg:=ht.eg
 have hcap:=h.cap
 have hle:=h.le
 have HT:=zh ht
 have HS:=zh h
 have HE0:=zh hE
 have HR:=zh hr
 have HLEN:=zh h.len
 clear ht h hE hr
 go_enter Tryz.func157,Tryz.ntmps157
 go_wp2_with fail
 go_loopw [8] (fun vi wr=>∃ k:Nat,vi=.int .i64 (k:Int)∧k≤n∧Hid (∀ j,j < k→q (nthG L j)=false)∧Hid (Ext w wr)) (fun i _=>n - (intOf i).toNat)
 case atStart=>exact ⟨0,rfl,Nat.zero_le _,zh (fun j hj=>absurd hj (Nat.not_lt_zero _)),zh (Ext.refl w)⟩
 case round =>
  obtain ⟨k,rfl,hk,HN,HE⟩:=hrel
  by_cases hlt:k < n
  ·have HS2 := zh (HS.out.ext HE.out)
   have HE3:=zh (HE0.out.trans HE.out)
   obtain ⟨b,o,rfl,hrow,-⟩:=HS2.out.at (by omega)
   have i1:(k:Int) < (n:Int):=by omega
   have i0:(0:Int)≤(k:Int):=by omega
   have hr:wr.rangeAt b (o+k * 11) (RowT.enc (nthG L k)):=el_at (k:=k) hrow (by rw [HLEN.out];exact hlt)
   clear hrow
   obtain ⟨vx,hvx⟩:∃ v,Value.agg (deA (nthG L k))=v:=⟨_,rfl⟩
   cases hb:q (nthG L k) with
   | false =>
    have HN2:=zh (all_next HN.out hb)
    have HC:=HT.out.at HS2.out HE3.out hlt vx hvx false hb
    obtain ⟨R,hR⟩:∃ R,nthG L k=R:=⟨_,rfl⟩
    rw [hR] at hr hvx
    have HVX:=zh hvx
    clear hvx hb hR
    go_wp2_with (first | (with_reducible refine wL deP rfl (.tmp 14) rfl b (o+k * 11) rfl R vx HVX.out hr ?_))
    refine HC.out.mono ?_
    rintro e w3 ⟨rfl,he3⟩
    have HE2:=zh (HE.out.trans he3)
    clear HC HVX he3 hr HS2 HE3
    go_wp2_with fail
    go_roundw
    case rel=>exact ⟨k+1,by go_num,hlt,HN2,HE2⟩
    case measure=>simp [intOf];omega
   | true =>
    have HQ:=zh (HR.out.hit (by rw [HLEN.out];exact hlt) hb HN.out)
    have HC:=HT.out.at HS2.out HE3.out hlt vx hvx true hb
    obtain ⟨R,hR⟩:∃ R,nthG L k=R:=⟨_,rfl⟩
    rw [hR] at hr hvx
    have HVX:=zh hvx
    clear hvx hb hR
    go_wp2_with (first | (with_reducible refine wL deP rfl (.tmp 14) rfl b (o+k * 11) rfl R vx HVX.out hr ?_))
    refine HC.out.mono ?_
    rintro e w3 ⟨rfl,he3⟩
    have HE2:=zh (HE.out.trans he3)
    clear HC HVX he3 hr HS2 HE3
    go_wp2_with fail
    go_ret
    exact ⟨by rw [HQ.out];rfl,HE2.out⟩
  have i1:¬ (k:Int) < (n:Int):=by omega
  have HQ:=zh (HR.out.none (fun j hj=>HN.out j (by rw [HLEN.out] at hj;omega)))
  go_wp2_with fail
  go_ret
  exact ⟨by rw [HQ.out];rfl,HE.out⟩
theorem ixLk_any {fn:Nat} {caps:Array Value} {q:LkR→Bool} {w0:World} (ht:Says lkA fn caps q w0) (w:World) (A:Option Addr) (n c:Nat) (L:List LkR) (h:SlG w A n c L) (hE:Ext w0 w) (r:Int) (hr:IxIs q L r) :
  Calls Tryz.prog 212 #[.slice A n c,.func (.func fn) #[] caps] w fun e w'=>e=.returned (.int .i64 r)∧Ext w w':=by
 have eg:=ht.eg
 have hcap:=h.cap
 have hle:=h.le
 have HT:=zh ht
 have HS:=zh h
 have HE0:=zh hE
 have HR:=zh hr
 have HLEN:=zh h.len
 clear ht h hE hr
 go_enter Tryz.func212,Tryz.ntmps212
 go_wp2_with fail
 go_loopw [8] (fun vi wr=>∃ k:Nat,vi=.int .i64 (k:Int)∧k≤n∧Hid (∀ j,j < k→q (nthG L j)=false)∧Hid (Ext w wr)) (fun i _=>n - (intOf i).toNat)
 case atStart=>exact ⟨0,rfl,Nat.zero_le _,zh (fun j hj=>absurd hj (Nat.not_lt_zero _)),zh (Ext.refl w)⟩
 case round =>
  obtain ⟨k,rfl,hk,HN,HE⟩:=hrel
  by_cases hlt:k < n
  ·have HS2 := zh (HS.out.ext HE.out)
   have HE3:=zh (HE0.out.trans HE.out)
   obtain ⟨b,o,rfl,hrow,-⟩:=HS2.out.at (by omega)
   have i1:(k:Int) < (n:Int):=by omega
   have i0:(0:Int)≤(k:Int):=by omega
   have hr:wr.rangeAt b (o+k * 19) (RowT.enc (nthG L k)):=el_at (k:=k) hrow (by rw [HLEN.out];exact hlt)
   clear hrow
   obtain ⟨vx,hvx⟩:∃ v,Value.agg (lkA (nthG L k))=v:=⟨_,rfl⟩
   cases hb:q (nthG L k) with
   | false =>
    have HN2:=zh (all_next HN.out hb)
    have HC:=HT.out.at HS2.out HE3.out hlt vx hvx false hb
    obtain ⟨R,hR⟩:∃ R,nthG L k=R:=⟨_,rfl⟩
    rw [hR] at hr hvx
    have HVX:=zh hvx
    clear hvx hb hR
    go_wp2_with (first | (with_reducible refine wL lkP rfl (.tmp 14) rfl b (o+k * 19) rfl R vx HVX.out hr ?_))
    refine HC.out.mono ?_
    rintro e w3 ⟨rfl,he3⟩
    have HE2:=zh (HE.out.trans he3)
    clear HC HVX he3 hr HS2 HE3
    go_wp2_with fail
    go_roundw
    case rel=>exact ⟨k+1,by go_num,hlt,HN2,HE2⟩
    case measure=>simp [intOf];omega
   | true =>
    have HQ:=zh (HR.out.hit (by rw [HLEN.out];exact hlt) hb HN.out)
    have HC:=HT.out.at HS2.out HE3.out hlt vx hvx true hb
    obtain ⟨R,hR⟩:∃ R,nthG L k=R:=⟨_,rfl⟩
    rw [hR] at hr hvx
    have HVX:=zh hvx
    clear hvx hb hR
    go_wp2_with (first | (with_reducible refine wL lkP rfl (.tmp 14) rfl b (o+k * 19) rfl R vx HVX.out hr ?_))
    refine HC.out.mono ?_
    rintro e w3 ⟨rfl,he3⟩
    have HE2:=zh (HE.out.trans he3)
    clear HC HVX he3 hr HS2 HE3
    go_wp2_with fail
    go_ret
    exact ⟨by rw [HQ.out];rfl,HE2.out⟩
  have i1:¬ (k:Int) < (n:Int):=by omega
  have HQ:=zh (HR.out.none (fun j hj=>HN.out j (by rw [HLEN.out] at hj;omega)))
  go_wp2_with fail
  go_ret
  exact ⟨by rw [HQ.out];rfl,HE.out⟩
theorem ixNm_any {fn:Nat} {caps:Array Value} {q:UInt64→Bool} {w0:World} (ht:Says nmc fn caps q w0) (w:World) (A:Option Addr) (n c:Nat) (L:List UInt64) (h:SlG w A n c L) (hE:Ext w0 w) (r:Int) (hr:IxIs q L r) :
  Calls Tryz.prog 164 #[.slice A n c,.func (.func fn) #[] caps] w fun e w'=>e=.returned (.int .i64 r)∧Ext w w':=by
 have eg:=ht.eg
 have hcap:=h.cap
 have hle:=h.le
 have HT:=zh ht
 have HS:=zh h
 have HE0:=zh hE
 have HR:=zh hr
 have HLEN:=zh h.len
 clear ht h hE hr
 go_enter Tryz.func164,Tryz.ntmps164
 go_wp2_with fail
 go_loopw [8] (fun vi wr=>∃ k:Nat,vi=.int .i64 (k:Int)∧k≤n∧Hid (∀ j,j < k→q (nthG L j)=false)∧Hid (Ext w wr)) (fun i _=>n - (intOf i).toNat)
 case atStart=>exact ⟨0,rfl,Nat.zero_le _,zh (fun j hj=>absurd hj (Nat.not_lt_zero _)),zh (Ext.refl w)⟩
 case round =>
  obtain ⟨k,rfl,hk,HN,HE⟩:=hrel
  by_cases hlt:k < n
  ·have HS2 := zh (HS.out.ext HE.out)
   have HE3:=zh (HE0.out.trans HE.out)
   obtain ⟨b,o,rfl,hrow,-⟩:=HS2.out.at (by omega)
   have i1:(k:Int) < (n:Int):=by omega
   have i0:(0:Int)≤(k:Int):=by omega
   have hr:wr.rangeAt b (o+k * 8) (RowT.enc (nthG L k)):=el_at (k:=k) hrow (by rw [HLEN.out];exact hlt)
   clear hrow
   obtain ⟨vx,hvx⟩:∃ v,Value.agg (nmc (nthG L k))=v:=⟨_,rfl⟩
   cases hb:q (nthG L k) with
   | false =>
    have HN2:=zh (all_next HN.out hb)
    have HC:=HT.out.at HS2.out HE3.out hlt vx hvx false hb
    obtain ⟨R,hR⟩:∃ R,nthG L k=R:=⟨_,rfl⟩
    rw [hR] at hr hvx
    have HVX:=zh hvx
    clear hvx hb hR
    go_wp2_with (first | (with_reducible refine wL nmP rfl (.tmp 14) rfl b (o+k * 8) rfl R vx HVX.out hr ?_))
    refine HC.out.mono ?_
    rintro e w3 ⟨rfl,he3⟩
    have HE2:=zh (HE.out.trans he3)
    clear HC HVX he3 hr HS2 HE3
    go_wp2_with fail
    go_roundw
    case rel=>exact ⟨k+1,by go_num,hlt,HN2,HE2⟩
    case measure=>simp [intOf];omega
   | true =>
    have HQ:=zh (HR.out.hit (by rw [HLEN.out];exact hlt) hb HN.out)
    have HC:=HT.out.at HS2.out HE3.out hlt vx hvx true hb
    obtain ⟨R,hR⟩:∃ R,nthG L k=R:=⟨_,rfl⟩
    rw [hR] at hr hvx
    have HVX:=zh hvx
    clear hvx hb hR
    go_wp2_with (first | (with_reducible refine wL nmP rfl (.tmp 14) rfl b (o+k * 8) rfl R vx HVX.out hr ?_))
    refine HC.out.mono ?_
    rintro e w3 ⟨rfl,he3⟩
    have HE2:=zh (HE.out.trans he3)
    clear HC HVX he3 hr HS2 HE3
    go_wp2_with fail
    go_ret
    exact ⟨by rw [HQ.out];rfl,HE2.out⟩
  have i1:¬ (k:Int) < (n:Int):=by omega
  have HQ:=zh (HR.out.none (fun j hj=>HN.out j (by rw [HLEN.out] at hj;omega)))
  go_wp2_with fail
  go_ret
  exact ⟨by rw [HQ.out];rfl,HE.out⟩
end
end Go.Proofs.YtohmmcahpakokaaGreat
