/- What a law is told of an argument of the type api.Genesis. -/
import Derived.Test.YtohmmcahpakokaaGreatD48
set_option maxRecDepth 100000
set_option maxHeartbeats 8000000
set_option linter.unusedVariables false
set_option linter.unusedSimpArgs false
namespace Go.Proofs.YtohmmcahpakokaaGreat
section
open Go.ChangeShapes Go.WideShapes Go.ChangeAt Go.RowKit Go.Deep
theorem cellsG5:Tryz.prog.cellsOf 40=5:=by kernel_rfl
theorem cellsSN:Tryz.prog.cellsOf 37=1:=by kernel_rfl
theorem cellsSI:Tryz.prog.cellsOf 38=1:=by kernel_rfl
theorem rows_names {w:World} {b o:Nat}:∀ (n:Nat),(∀ j,j < n→∃ y,w.rangeAt b (o+j * 8) (bcs (nmb y)))→∃ L,L.length=n∧w.rangeAt b o (ncs L):=by
 intro n
 induction n with
 | zero=>intro _;exact ⟨[],rfl,fun j v hv=>by simp [ncs] at hv⟩
 | succ n ih =>
  intro h
  obtain ⟨L,hL,hr⟩:=ih (fun j hj=>h j (by omega))
  obtain ⟨y,hy⟩:=h n (by omega)
  refine ⟨L ++ [y],by simp [hL],?_⟩
  rw [ncs_append,ncs_cons,ncs_nil,List.append_nil]
  refine rangeAt_append hr ?_
  rw [ncs_length,hL];exact hy
theorem open_names {H:Type} {enc:TypeId × Value→H} {W:World} {base fuel:Nat} {held:Bool} {cs:List Value} {x:DataW H × List MemPlace}
  (h:DataW.trod enc Tryz.prog W base (fun _=>true) held fuel 37 cs=some x):∃ A n c L,cs=[.slice A n c]∧SlN W A n c L:=by
 rcases open_slice Tryz.underlying37 h with ⟨hcs,_⟩ | ⟨x,l,c',m,n,D,Pl,hcs,_,hl,hm,hmm,_,hi⟩
 ·exact ⟨none,0,0,[],hcs,rfl,Nat.le_refl _,Nat.zero_le _,.nil⟩
 rw [if_pos rfl] at hmm
 subst hmm
 have hcell:∀ j,j < l→∃ y,∀ q v,(bcs (nmb y))[q]?=some v→W.cell? ((x.add (j * 8)).add q)=some v:=by
  intro j hj
  obtain ⟨cs',hc,ht⟩:=hi j (by omega)
  obtain ⟨y,hy⟩:=open_nmc ht
  rw [nmc_toList] at hy
  subst hy
  rw [cellsNm] at hc
  obtain ⟨_,hln,hat⟩:=World.cells?_some hc
  refine ⟨y,fun q v hv=>?_⟩
  have hq:=(List.getElem?_eq_some_iff.1 hv).1
  have:=hat q (by rw [bL,nL] at hq;omega)
  rw [this,hv]
 rcases Nat.eq_zero_or_pos l with rfl | h0
 ·exact ⟨_,0,_,[],hcs,rfl,Nat.zero_le _,by unfold maxLen at hm;omega,.nil⟩
 have hx:x.spot=none:=by
  obtain ⟨y,hy⟩:=hcell 0 h0
  have:=hy 0 (.int .u8 (nb8 y 0)) (by rw [bcs_nb8];rfl)
  have e0:((x.add (0 * 8)).add 0)=x:=by simp [Addr.add]
  rw [e0] at this
  exact spot_none' this
 obtain ⟨bl,ol,sp⟩:=x
 simp only at hx
 subst hx
 obtain ⟨L,hL,hr⟩:=rows_names (w:=W) (b:=bl) (o:=ol) l (fun j hj=>by
  obtain ⟨y,hy⟩:=hcell j hj
  refine ⟨y,fun q v hv=>?_⟩
  have:=hy q v hv
  rwa [Addr.add_mid,Addr.add_mid] at this)
 exact ⟨_,l,_,L,hcs,hL,hl,by unfold maxLen at hm;omega,.inr ⟨bl,ol,rfl,hr⟩⟩
theorem slz_of_row {w:World} {a:Option Addr} {len cap:Nat} {zs:List Int} (h:IsRow .i64 w a len cap zs):∃ l,SlZ w a len cap l:=by
 rcases h with ⟨rfl,rfl,rfl,rfl⟩ | ⟨x,rfl,hl,hm,hz,hc,hw⟩
 ·exact ⟨[],SlZ.nil w⟩
 refine ⟨zs.take len,by simp;omega,hl,by unfold maxLen at hm;omega,?_⟩
 by_cases h0:len=0
 ·subst h0;exact .inl (by simp [ics])
 have hcell:∀ j,j < len→w.cell? (x.add j)=some (.int .i64 (zs.getD j 0)):=fun j hj=>hc j (by omega)
 have hx:x.spot=none:=by
  have:=hcell 0 (by omega)
  simp only [Addr.add,if_pos] at this
  exact spot_none' this
 refine .inr ⟨x.block,x.off,by cases x;simp_all,fun j v hv=>?_⟩
 have hj:j < len:=by have:=(List.getElem?_eq_some_iff.1 hv).1;simp [ics] at this;omega
 have e:(⟨x.block,x.off+j,none⟩:Addr)=x.add j:=by
  cases x;simp only at hx;subst hx;rw [Addr.add_mid]
 rw [e,hcell j hj,← hv]
 simp [ics,iv,hj,show j < zs.length from by omega]
theorem open_zs {H:Type} {enc:TypeId × Value→H} {W:World} {base fuel:Nat} {held:Bool} {cs:List Value} {x:DataW H × List MemPlace}
  (h:DataW.trod enc Tryz.prog W base (fun _=>true) held fuel 38 cs=some x):∃ A n c l,cs=[.slice A n c]∧SlZ W A n c l:=by
 rcases open_ints Tryz.underlying38 Tryz.underlying3 cellsI1 h with ⟨hcs,_⟩ | ⟨x,l,c,zs,hcs,_,hl,hm,hz,_,hcell,hwz⟩
 ·exact ⟨_,_,_,[],hcs,SlZ.nil W⟩
 obtain ⟨l',hs⟩:=slz_of_row (.inr ⟨_,rfl,hl,hm,by simpa using hz,hcell,hwz⟩)
 exact ⟨_,_,_,l',hcs,hs⟩
theorem open_gen {H:Type} {enc:TypeId × Value→H} {W:World} {base b0:Nat} {held:Bool} {v:Value} {d:DataW H} {q:List MemPlace} (hv:Value.okWide Tryz.prog W .any b0 40 v)
  (h:DataW.Trod enc Tryz.prog W base (fun _=>true) held 40 v d q):∃ N Z A1 n1 c1 A2 n2 c2 A3 n3 c3 V Ac Bl,v=.agg (genC N Z A1 n1 c1 A2 n2 c2 A3 n3 c3)∧SlN W A1 n1 c1 V∧SlN W A2 n2 c2 Ac∧SlZ W A3 n3 c3 Bl:=by
 obtain ⟨fuel,hf⟩:=h
 simp only [Value.okWide,Tryz.underlying40] at hv
 obtain ⟨cs,rfl,_,_⟩:=hv
 obtain ⟨xs,m,_,_,hl,hxl,hg⟩:=DataW.trod_struct Tryz.underlying40 hf
 rw [cellsG5] at hl
 simp only [Value.cells] at hl hg
 have hx5:xs.length=5:=hxl
 obtain ⟨x0,x1,x2,x3,x4,rfl⟩:∃ a b c d e,xs=[a,b,c,d,e]:=by
  match xs,hx5 with
  | [a,b,c,d,e],_=>exact ⟨a,b,c,d,e,rfl⟩
 obtain ⟨cs⟩:=cs
 simp only at hl hg
 obtain ⟨c0,c1,c2,c3,c4,rfl⟩:∃ a b c d e,cs=[a,b,c,d,e]:=by
  match cs,hl with
  | [a,b,c,d,e],_=>exact ⟨a,b,c,d,e,rfl⟩
 have h0:DataW.trod enc Tryz.prog W base (fun _=>true) held m 3 (([c0,c1,c2,c3,c4].drop 0).take (Tryz.prog.cellsOf 3))=some x0:=hg 0 _ rfl
 have h1:DataW.trod enc Tryz.prog W base (fun _=>true) held m 3 (([c0,c1,c2,c3,c4].drop 1).take (Tryz.prog.cellsOf 3))=some x1:=hg 1 _ rfl
 have h2:DataW.trod enc Tryz.prog W base (fun _=>true) held m 37 (([c0,c1,c2,c3,c4].drop 2).take (Tryz.prog.cellsOf 37))=some x2:=hg 2 _ rfl
 have h3:DataW.trod enc Tryz.prog W base (fun _=>true) held m 37 (([c0,c1,c2,c3,c4].drop 3).take (Tryz.prog.cellsOf 37))=some x3:=hg 3 _ rfl
 have h4:DataW.trod enc Tryz.prog W base (fun _=>true) held m 38 (([c0,c1,c2,c3,c4].drop 4).take (Tryz.prog.cellsOf 38))=some x4:=hg 4 _ rfl
 rw [cellsI1] at h0 h1
 rw [cellsSN] at h2 h3
 rw [cellsSI] at h4
 obtain ⟨N,e0,_,_⟩:=DataW.trod_int Tryz.underlying3 h0
 obtain ⟨Z,e1,_,_⟩:=DataW.trod_int Tryz.underlying3 h1
 obtain ⟨A1,n1,d1,V,e2,s1⟩:=open_names h2
 obtain ⟨A2,n2,d2,Ac,e3,s2⟩:=open_names h3
 obtain ⟨A3,n3,d3,Bl,e4,s3⟩:=open_zs h4
 simp only [List.drop_zero,List.drop_succ_cons,List.take_succ_cons,List.take_zero,List.cons.injEq,and_true] at e0 e1 e2 e3 e4
 exact ⟨N,Z,A1,n1,d1,A2,n2,d2,A3,n3,d3,V,Ac,Bl,by rw [e0,e1,e2,e3,e4],s1,s2,s3⟩
end
section
open Go.RowKit
def opW (n:Int) (A1:Option Addr) (c1:Nat) (A2:Option Addr) (c2:Nat):OpR:=⟨1,1,n,0,0,0,0,A1,0,c1,[],A2,0,c2,[]⟩
def opWV (n:Int):OpV:=⟨1,1,n,0,0,0,0,[],[]⟩
theorem op_of {n:Int} {R:OpR} {w:World} (h:R.ok w) (hv:R.v=opWV n):∃ A1 c1 A2 c2,R=opW n A1 c1 A2 c2:=by
 obtain ⟨k,to',am,ul,va,lk,hs,A1,n1,c1,pre,A2,n2,c2,prf⟩:=R
 have h1:=h.pre.len
 have h2:=h.prf.len
 unfold OpR.v opWV at hv
 injection hv with e1 e2 e3 e4 e5 e6 e7 e8 e9
 simp only at h1 h2 e1 e2 e3 e4 e5 e6 e7 e8 e9
 subst e1;subst e2;subst e3;subst e4;subst e5;subst e6;subst e7;subst e8;subst e9
 simp only [List.length_nil] at h1 h2
 subst h1;subst h2
 exact ⟨A1,c1,A2,c2,rfl⟩
theorem ops_of {n:Int} {L:List OpR} {w:World} (h:∀ R,R ∈ L→R.ok w) (hv:L.map OpR.v=[opWV n]):∃ A1 c1 A2 c2,L=[opW n A1 c1 A2 c2]:=by
 cases L with
 | nil=>simp at hv
 | cons R r =>
  cases r with
  | nil =>
   obtain ⟨A1,c1,A2,c2,rfl⟩:=op_of (h R (by simp)) (by simpa using hv)
   exact ⟨A1,c1,A2,c2,rfl⟩
  | cons _ _=>simp at hv
def S22:StV:=genSt 2 [5,0] 3 1
section
variable (H:List UInt8→UInt64) (ev:OpR→Bool) (A1:Option Addr) (c1:Nat) (A2:Option Addr) (c2:Nat)
theorem vW6:vTx 0 0 [opW 6 A1 c1 A2 c2]=true:=by kernel_rfl
theorem vW4:vTx 0 0 [opW 4 A1 c1 A2 c2]=true:=by kernel_rfl
theorem vldW:vldG 1 3 1 2 2 [5,0]=true:=by decide
theorem S22_v:S22=⟨[⟨balC 0,5⟩,⟨stkC 0,3⟩],[0,0],[],[],0⟩:=by kernel_rfl
theorem aw_c6:exeC (chkO 2 1 1 H ev 0) true 2 true S22 0 0 [opW 6 A1 c1 A2 c2]=100:=by kernel_rfl
theorem aw_c4:exeC (chkO 2 1 1 H ev 0) true 2 true S22 0 0 [opW 4 A1 c1 A2 c2]=0:=by kernel_rfl
theorem aw_s4:(exeS (chkO 2 1 1 H ev 0) true 2 true S22 0 0 [opW 4 A1 c1 A2 c2]).C=[⟨balC 0,1⟩,⟨balC 1,4⟩,⟨stkC 0,3⟩]:=by kernel_rfl
theorem aw_o4:outT 0 0 [opW 4 A1 c1 A2 c2]=4:=by kernel_rfl
theorem aw_o6:outT 0 0 [opW 6 A1 c1 A2 c2]=6:=by kernel_rfl
theorem aw_e4:(effT 0 0 [opW 4 A1 c1 A2 c2]).length=2:=by kernel_rfl
theorem aw_e6:(effT 0 0 [opW 6 A1 c1 A2 c2]).length=2:=by kernel_rfl
theorem aw_r6:(repS S22 0 0 [opW 6 A1 c1 A2 c2]).C=[⟨balC 0,-1⟩,⟨balC 1,6⟩,⟨stkC 0,3⟩]:=by kernel_rfl
theorem aw_p:addC [⟨balC 0,-1⟩,⟨balC 1,6⟩,⟨stkC 0,3⟩] polC 4=[⟨balC 0,-1⟩,⟨balC 1,6⟩,⟨stkC 0,3⟩,⟨polC,4⟩]:=by kernel_rfl
theorem aw_y:covC [⟨balC 0,-1⟩,⟨balC 1,6⟩,⟨stkC 0,3⟩,⟨polC,4⟩]=[⟨balC 1,6⟩,⟨stkC 0,3⟩,⟨polC,3⟩]:=by kernel_rfl
theorem aw_z:expS 1 S22=⟨[⟨balC 0,5⟩,⟨polC,3⟩],[0,0],[],[],1⟩:=by kernel_rfl
theorem aw_g1:getC [⟨balC 0,1⟩,⟨balC 1,4⟩,⟨stkC 0,3⟩] (balC 1)=4:=by kernel_rfl
theorem aw_g2:getC [⟨balC 0,-1⟩,⟨balC 1,6⟩,⟨stkC 0,3⟩] (balC 0)=-1:=by kernel_rfl
theorem aw_g3:getC [⟨balC 1,6⟩,⟨stkC 0,3⟩,⟨polC,3⟩] (balC 0)=0:=by kernel_rfl
theorem aw_g4:getC [⟨balC 1,6⟩,⟨stkC 0,3⟩,⟨polC,3⟩] polC=3:=by kernel_rfl
theorem aw_g5:getC [⟨balC 0,5⟩,⟨polC,3⟩] polC=3:=by kernel_rfl
end
end
section
open Go.RowKit
attribute [local go_sem ↓] Go.wp_at_zero Go.wp_at_succ
section
variable {ops:Array Oper} {rest:List Oper} {o o2:Oper} {a:Act} {w:World} {K:Act→World→Prop} {Q:Exit→Act→World→Prop}
theorem wpList_newB (hgd:o.guard=none) (ty:TypeId) (x y:Operand) (ho:o.op=.store ty x y) (cs ds:Array Value) (v:Value) (hv:Value.agg ds=v) (hx:a.eval x=.pointer (some ⟨w.heap.size,0,none⟩)) (hy:a.eval y=v) (hcs:ds.size=cs.size) (hi:(Tryz.prog.info? ty).map (·.size)=some ds.size) (h1:ds.all (·.oneCell')=true)
  (h:∀ W2 g,Hid (Blk W2 g ty ds∧Ext w W2∧w.heap.size=g)→wpList Tryz.prog ops Q rest (a.put o.dst undef) W2):wpList Tryz.prog ops Q (o :: rest) a (w.alloc (.cells cs ty)):=by
 subst hv
 refine wpList_store_mid hgd ty x y ho w.heap.size 0 ds hx hy (by rw [hcs];exact tB (Blk.new w ty cs)) hi h1 ?_
 rw [setCells_whole w ty cs ds hcs]
 exact h _ _ (zh ⟨Blk.new w ty ds,(Ext.refl w).alloc' _,rfl⟩)
theorem wpList_storeB (hgd:o.guard=none) (ty:TypeId) (x y:Operand) (ho:o.op=.store ty x y) (g:Nat) (cs ds:Array Value) (v:Value) (hv:Value.agg ds=v) (hx:a.eval x=.pointer (some ⟨g,0,none⟩)) (hy:a.eval y=v) (hcs:ds.size=cs.size) (hi:(Tryz.prog.info? ty).map (·.size)=some ds.size) (h1:ds.all (·.oneCell')=true) (hb:Blk w g ty cs)
  (h:∀ W2,Hid (Blk W2 g ty ds∧w.setCells g 0 ds.toList=W2)→wpList Tryz.prog ops Q rest (a.put o.dst undef) W2):wpList Tryz.prog ops Q (o :: rest) a w:=by
 subst hv
 exact wpList_store_mid hgd ty x y ho g 0 ds hx hy (by rw [hcs];exact tB hb) hi h1 (h _ (zh ⟨bW hb hcs,rfl⟩))
end
theorem opW_cells (n:Int):opA (opW n none 0 none 0)=#[.int .i64 1,.int .i64 1,.int .i64 n,.int .i64 0,.int .i64 0,.int .u8 0,.int .u8 0,.int .u8 0,.int .u8 0,.int .u8 0,.int .u8 0,.int .u8 0,.int .u8 0,.int .u8 0,.int .u8 0,.int .u8 0,.int .u8 0,.int .u8 0,.int .u8 0,.int .u8 0,.int .u8 0,.slice none 0 0,.slice none 0 0]:=by
 unfold opA opW;simp only [nb8_nil 0 (by omega),nb8_nil 1 (by omega),nb8_nil 2 (by omega),nb8_nil 3 (by omega),nb8_nil 4 (by omega),nb8_nil 5 (by omega),nb8_nil 6 (by omega),nb8_nil 7 (by omega)]
theorem slO_W (n:Int) (w:World) (g:Nat) (t:TypeId) (h:Blk w g t (opA (opW n none 0 none 0))):SlO w (some ⟨g,0,none⟩) 1 1 [opW n none 0 none 0] :=
 ⟨rfl,Nat.le_refl _,by omega,by
  have e:ocs [opW n none 0 none 0]=(opA (opW n none 0 none 0)).toList:=by rw [ocs_cons,ocs_nil,List.append_nil];rfl
  rw [e];exact Rd.of_blk h,fun R hR=>by
  rw [List.mem_singleton] at hR
  subst hR
  exact ⟨SlB.nil w,SlB.nil w⟩⟩
def tS (n:Int) (A:Option Addr) (c:Nat) (S:Option Addr) (m d:Nat) (A1:Option Addr) (c1:Nat) (A2:Option Addr) (c2:Nat) (sg:List UInt8):TxR:=⟨0,0,A,1,c,S,m,d,[opW n A1 c1 A2 c2],sg⟩
def Sg22 (n:Int) (w:World) (e:Ending) (w':World):Prop:=∃ (A:Option Addr) (c:Nat) (S:Option Addr) (m d:Nat) (A1:Option Addr) (c1:Nat) (A2:Option Addr) (c2:Nat) (sg:List UInt8),e=.returned (.tuple #[.agg (stA 0 0 A 1 c S m d),.int .i64 0])∧(tS n A c S m d A1 c1 A2 c2 sg).ok w'∧vSg (pubV seedOne 1) (tS n A c S m d A1 c1 A2 c2 sg)=true∧Ext w w'
theorem sign22_any (n:Int) (hn:n=6 ∨ n=4) (w:World):Calls Tryz.prog 41 #[.agg #[.int .u8 1,.int .u8 0,.int .u8 0,.int .u8 0,.int .u8 0,.int .u8 0,.int .u8 0,.int .u8 0],.agg #[.int .i64 0,.int .i64 0,.slice (some ⟨w.heap.size,0,none⟩) 1 1]] (w.alloc (.cells #[.int .i64 1,.int .i64 1,.int .i64 n,.int .i64 0,.int .i64 0,.int .u8 0,.int .u8 0,.int .u8 0,.int .u8 0,.int .u8 0,.int .u8 0,.int .u8 0,.int .u8 0,.int .u8 0,.int .u8 0,.int .u8 0,.int .u8 0,.int .u8 0,.int .u8 0,.int .u8 0,.int .u8 0,.slice none 0 0,.slice none 0 0] 69)) (Sg22 n w):=by
 rw [← seedOne_cells,← opW_cells n]
 refine (refSignTx_any seedOne 0 0 (some ⟨w.heap.size,0,none⟩) 1 1 [opW n none 0 none 0] _ (slO_W n _ _ 69 (Blk.new w _ _))).mono ?_
 have hV:vTx 0 0 [opW n none 0 none 0]=true:=by rcases hn with rfl | rfl;exact vW6 none 0 none 0;exact vW4 none 0 none 0
 rintro e w' ⟨he,h⟩
 rcases h with ⟨h,-⟩ | ⟨-,T,rfl,hT,hv⟩
 ·rw [hV] at h;cases h
 have hl:OpLens [opW n none 0 none 0]:=by
  intro R hR
  rw [List.mem_singleton] at hR
  subst hR
  exact ⟨rfl,rfl⟩
 have h1:=vSg_right seedOne _ 0 0 _ rfl hl hV T (lens_of hT) hv
 obtain ⟨ac,sq,A,k,c,S,m,d,L,sg⟩:=T
 unfold TxR.v at hv
 simp only [Prod.mk.injEq] at hv
 obtain ⟨rfl,rfl,h3,h4⟩:=hv
 have hops:=hT.ops
 simp only at hops h3 h4
 obtain ⟨A1,c1,A2,c2,rfl⟩:=ops_of hops.ok h3
 have h5:1=k:=hops.len
 subst h5
 exact ⟨A,c,S,m,d,A1,c1,A2,c2,sg,rfl,hT,h1,((Ext.refl w).alloc' _).trans he⟩
theorem aw_s6 (H:List UInt8→UInt64) (ev:OpR→Bool) (A1:Option Addr) (c1:Nat) (A2:Option Addr) (c2:Nat):exeS (chkO 2 1 1 H ev 0) true 2 true S22 0 0 [opW 6 A1 c1 A2 c2]=S22:=by kernel_rfl
theorem slZ_of {w:World} {A:Option Addr} {n c:Nat} {l:List Int} (h:SlG w A n c l):SlZ w A n c l:=⟨h.len,h.le,h.cap,by
 have e:gcs l=ics l:=by
  induction l with
  | nil=>rfl
  | cons x r ih =>
   clear h ih
   generalize x :: r=L
   induction L with
   | nil=>rfl
   | cons y q iq=>rw [gcs_cons,iq];rfl
 rw [← e];exact h.rd⟩
theorem S22_bd {w:World} {s:StR} (h:s.ok w) (hv:s.V=S22):s.n1≤200000∧s.n2≤200000∧s.n3≤200000∧s.n4≤200000:=by
 rw [S22_v] at hv
 have e1:s.C=_:=congrArg StV.C hv
 have e2:s.Q=_:=congrArg StV.Q hv
 have e3:s.K=_:=congrArg StV.K hv
 have e4:s.P=_:=congrArg StV.P hv
 have l1:=h.s1.len
 have l2:=h.s2.len
 have l3:=h.s3.len
 have l4:=h.s4.len
 rw [e1] at l1;rw [e2] at l2;rw [e3] at l3;rw [e4] at l4
 simp only [List.length_cons,List.length_nil] at l1 l2 l3 l4
 omega
theorem exec22_any (n:Int) (hn:n=6 ∨ n=4) (s:StR) (hv:s.V=S22) (B1 B2 B3 A:Option Addr) (c:Nat) (S:Option Addr) (m d:Nat) (A1:Option Addr) (c1:Nat) (A2:Option Addr) (c2:Nat) (sg:List UInt8) (w:World) (hs:s.ok w) (hN:SlG w B2 2 2 [pubV seedOne 1,pubV seedTwo 1]) (hB:SlG w B3 2 2 [(5:Int),0]) (hT:(tS n A c S m d A1 c1 A2 c2 sg).ok w) (hg:vSg (pubV seedOne 1) (tS n A c S m d A1 c1 A2 c2 sg)=true) :
  Calls Tryz.prog 20 #[.agg (genC 1 3 B1 1 1 B2 2 2 B3 2 2),.agg (ssA s),.agg (stA 0 0 A 1 c S m d),.int .i64 1] w (fun e w'=>∃ (s2:StR) (A9:Option Addr) (n9 c9:Nat) (g9:Int),e=.returned (.tuple #[.agg (ssA s2),.agg (rcA ⟨if n=6 then 100 else 0,A9,n9,c9,if n=6 then 0 else 4,g9⟩)])∧s2.ok w'∧(n=6→s2.V=S22)∧(n=4→s2.C=[⟨balC 0,1⟩,⟨balC 1,4⟩,⟨stkC 0,3⟩]∧n9=2)∧Ext w w'):=by
 have hA:=execute_any ⟨1,3,B1,1,1,B2,2,2,B3,2,2,s,0,0,A,1,c,1⟩ S m d [opW n A1 c1 A2 c2] sg [pubV seedOne 1,pubV seedTwo 1] [5,0] (fun _=>false) true true _ w hs hT hN (slZ_of hB) (show (1:Nat)≤9223372036854775807 from by decide) (S22_bd hs hv) (by
  intro R hR
  rw [List.mem_singleton] at hR
  subst hR
  exact Nat.zero_le _) vldW hg rfl (by
  intro R hR hk
  rw [List.mem_singleton] at hR
  subst hR
  exact absurd (show (1:Int)=6 from hk) (by decide))
 refine hA.mono ?_
 simp only
 rw [hv]
 rintro e w' ⟨s2,A9,n9,c9,rfl,ho,hV,hl,he⟩
 rcases hn with rfl | rfl
 ·rw [aw_c6] at hl ⊢
  rw [aw_s6] at hV ⊢
  exact ⟨s2,A9,n9,c9,_,rfl,ho.ok,fun _=>hV,fun h=>absurd h (by decide),he⟩
 rw [aw_c4] at hl ⊢
 refine ⟨s2,A9,n9,c9,rcG 0 S22 (exeS (chkO 2 1 1 sumU (fun _=>false) 0) true 2 true S22 0 0 [opW 4 A1 c1 A2 c2]),?_,ho.ok,fun h=>absurd h (by decide),fun _=>⟨?_,?_⟩,he⟩
 ·rw [if_neg (by decide),if_neg (by decide),show rcO 0 0 0 [opW 4 A1 c1 A2 c2]=4 from by unfold rcO;rw [if_pos rfl,aw_o4]]
 ·exact (congrArg StV.C hV).trans (aw_s4 _ _ A1 c1 A2 c2)
 have h1:=hl.len
 unfold rcE at h1
 rw [if_pos rfl,aw_e4] at h1
 exact h1.symm
end
end Go.Proofs.YtohmmcahpakokaaGreat
