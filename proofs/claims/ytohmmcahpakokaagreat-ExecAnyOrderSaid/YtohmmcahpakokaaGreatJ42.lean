/- Transactions as rows; what a transaction does depends on its contents alone (plain). -/
import Derived.Test.YtohmmcahpakokaaGreatJ39
set_option maxRecDepth 100000
set_option maxHeartbeats 8000000
set_option linter.unusedVariables false
set_option linter.unusedSimpArgs false
namespace Go.Proofs.YtohmmcahpakokaaGreat
section
open Go.RowKit
attribute [local go_sem ↓] Go.wp_at_zero Go.wp_at_succ
structure TtR where
 ac:Int
 sq:Int
 A:Option Addr
 n:Nat
 c:Nat
 L:List OpR
abbrev ttA (T:TtR):Array Value:=txA T.ac T.sq T.A T.n T.c
def ttL (T:TtR):List Value:=(ttA T).toList
instance:RowT TtR where
 sz:=3
 z:=⟨0,0,none,0,0,[]⟩
 enc:=ttL
 ok T w:=SlO w T.A T.n T.c T.L
 pos:=by decide
 len _:=rfl
 one T u hu:=by
  simp only [ttL,List.mem_cons,List.not_mem_nil,or_false] at hu
  rcases hu with rfl | rfl | rfl <;> rfl
 ext _ _ _ h e:=h.ext e
abbrev tt0:Array Value:=#[.int .i64 0,.int .i64 0,.slice none 0 0]
theorem ttE:Elem Tryz.prog 67 24 (.agg tt0) 3 40:=⟨Tryz.underlying67,by kernel_rfl,rfl,by decide⟩
theorem ttP:RowP TtR 24 ttA:=⟨fun _=>rfl,by kernel_rfl,_,Tryz.underlying24,rfl⟩
theorem mJ (T:TtR) (w:World):(Instr.buildSlice 67 1 #[(0,.agg (ttA T))]).run Tryz.prog w=.ok (.slice (some ⟨w.heap.size,0,none⟩) 1 1) (w.alloc (.cells (ttA T) 24)):=by kernel_rfl
def TtR.ok1 (T:TtR):Bool:=vTx T.ac T.sq T.L
def TtR.nm (T:TtR):UInt64:=bQ T.ac T.sq T.L
def EqT (T U:TtR):Prop:=T.ac=U.ac∧T.sq=U.sq∧T.L.map OpR.v=U.L.map OpR.v
theorem EqT.refl (T:TtR):EqT T T:=⟨rfl,rfl,rfl⟩
theorem EqT.symm {T U:TtR} (h:EqT T U):EqT U T:=⟨h.1.symm,h.2.1.symm,h.2.2.symm⟩
theorem EqT.trans {T U V:TtR} (h:EqT T U) (k:EqT U V):EqT T V:=⟨h.1.trans k.1,h.2.1.trans k.2.1,h.2.2.trans k.2.2⟩
theorem aIy {T U:TtR}:eqX T.ac T.sq T.L U.ac U.sq U.L=true ↔ EqT T U:=by
 unfold eqX EqT
 simp only [Bool.and_eq_true,decide_eq_true_eq,aIB]
def TtR.tr (T:TtR):TrV:=trV T.ac T.sq T.L
theorem aGZ {L M:List OpR} (h:L.map OpR.v=M.map OpR.v) (i:Nat):(aY L i).v=(aY M i).v:=by
 have hl:L.length=M.length:=by have:=congrArg List.length h;simpa using this
 by_cases hi:i < L.length
 ·have h1 := rB hi
  rw [h,rB (by omega)] at h1
  exact (Option.some.inj h1).symm
 have e1:aY L i=aY M i:=by
  simp only [aY,List.getD,List.getElem?_eq_none (Nat.le_of_not_lt hi),List.getElem?_eq_none (show M.length≤i by omega)]
 rw [e1]
theorem aLb {T U:TtR} (h:EqT T U) (hT:T.ok1=true) (hU:U.ok1=true) (hn:T.nm=U.nm):T.tr=U.tr:=by
 obtain ⟨ac,sq,A,n,c,L⟩:=T
 obtain ⟨ac',sq',A',n',c',M⟩:=U
 obtain ⟨h1,h2,h3⟩:=h
 simp only at h1 h2 h3
 subst h1
 subst h2
 have hl:L.length=M.length:=by have:=congrArg List.length h3;simpa using this
 have hv:∀ i,(aY L i).v=(aY M i).v:=aGZ h3
 have hk:∀ i,(aY L i).k=(aY M i).k:=fun i=>congrArg OpV.k (hv i)
 have hto:∀ i,(aY L i).tO=(aY M i).tO:=fun i=>congrArg OpV.tO (hv i)
 have ham:∀ i,(aY L i).am=(aY M i).am:=fun i=>congrArg OpV.am (hv i)
 have hva:∀ i,(aY L i).va=(aY M i).va:=fun i=>congrArg OpV.va (hv i)
 have hlk:∀ i,(aY L i).lk=(aY M i).lk:=fun i=>congrArg OpV.lk (hv i)
 have e1:vTx ac sq L=true:=hT
 have e2:vTx ac sq M=true:=hU
 have e3:bQ ac sq L=bQ ac sq M:=hn
 have hL:∀ i:Int,cB ac sq L i=cB ac sq M i:=fun i=>by
  unfold cB
  rw [e1,e2,e3,hl,hk]
 have hE:dL ac sq L=dL ac sq M:=funext fun i=>by
  unfold dL
  rw [hk,hto,ham,hva,hlk,hL]
 show trV ac sq L=trV ac sq M
 unfold trV qI
 rw [e1,e2,e3,hl,hE]
def aJh (L:List TtR):Prop:=∀ T U,T ∈ L→U ∈ L→T.ok1=true→U.ok1=true→T.nm=U.nm→EqT T U
structure ColV (L:List TtR) (i:Nat) (N:List UInt64) (X:List TtR):Prop where
 len:N.length=X.length
 le:X.length≤i
 cov:∀ j,j < i→(nthG L j).ok1=true→∃ k,k < X.length∧nthG N k=(nthG L j).nm∧EqT (nthG X k) (nthG L j)
 nd:∀ j k,j < N.length→k < N.length→nthG N j=nthG N k→j=k
section
variable {L:List TtR} {i:Nat} {N:List UInt64} {X:List TtR}
theorem ColV.nil (L:List TtR):ColV L 0 [] []:=⟨rfl,Nat.le_refl _,fun j h=>absurd h (Nat.not_lt_zero _),fun j k h=>absurd h (Nat.not_lt_zero _)⟩
theorem ColV.skip (h:ColV L i N X) (hv:(nthG L i).ok1=false):ColV L (i+1) N X:=by
 refine ⟨h.len,Nat.le_succ_of_le h.le,fun j hj ho=>?_,h.nd⟩
 rcases (by omega:j < i ∨ j=i) with hj | rfl
 ·exact h.cov j hj ho
 rw [hv] at ho;cases ho
theorem ColV.known (h:ColV L i N X) (hk:∃ k,k < X.length∧nthG N k=(nthG L i).nm∧EqT (nthG X k) (nthG L i)):ColV L (i+1) N X:=by
 refine ⟨h.len,Nat.le_succ_of_le h.le,fun j hj ho=>?_,h.nd⟩
 rcases (by omega:j < i ∨ j=i) with hj | rfl
 ·exact h.cov j hj ho
 exact hk
theorem eA {α:Type} [RowT α] {L M:List α} {k:Nat} (h:k < L.length):nthG (L ++ M) k=nthG L k:=by
 simp only [nthG,List.getD,List.getElem?_append_left h]
theorem gF {α:Type} [RowT α] {L:List α} {x:α} {k:Nat} (h:k=L.length):nthG (L ++ [x]) k=x:=by
 subst h;simp [nthG]
theorem ColV.push (h:ColV L i N X) (hf:∀ k,k < N.length→nthG N k ≠ (nthG L i).nm):ColV L (i+1) (N ++ [(nthG L i).nm]) (X ++ [nthG L i]):=by
 refine ⟨by simp [h.len],by simp only [List.length_append,List.length_cons,List.length_nil];have:=h.le;omega,fun j hj ho=>?_,fun j k hj hk e=>?_⟩
 ·rcases (by omega : j < i ∨ j = i) with hj | rfl
  ·obtain ⟨k, h1, h2, h3⟩ := h.cov j hj ho
   refine ⟨k,by simp only [List.length_append];omega,?_,?_⟩
   ·rw [eA (by rw [h.len];exact h1)];exact h2
   rw [eA h1];exact h3
  refine ⟨X.length,by simp,gF h.len.symm,?_⟩
  rw [gF rfl];exact EqT.refl _
 simp only [List.length_append,List.length_cons,List.length_nil] at hj hk
 rcases (by omega:j < N.length ∨ j=N.length) with h1 | h1
 ·rcases (by omega : k < N.length ∨ k = N.length) with h2 | h2
  ·rw [eA h1,eA h2] at e;exact h.nd j k h1 h2 e
  rw [eA h1,gF h2] at e;exact absurd e (hf j h1)
 rcases (by omega:k < N.length ∨ k=N.length) with h2 | h2
 ·rw [gF h1,eA h2] at e;exact absurd e.symm (hf k h2)
 omega
theorem ColV.fin (h:ColV L L.length N X):aJh L:=by
 intro T U hT hU h1 h2 hn
 obtain ⟨j,hj,rfl⟩:=List.getElem_of_mem hT
 obtain ⟨k,hk,rfl⟩:=List.getElem_of_mem hU
 rw [cC hj] at h1 hn ⊢
 rw [cC hk] at h2 hn ⊢
 obtain ⟨a,a1,a2,a3⟩:=h.cov j hj h1
 obtain ⟨b,b1,b2,b3⟩:=h.cov k hk h2
 have e:a=b:=h.nd a b (by rw [h.len];exact a1) (by rw [h.len];exact b1) (by rw [a2,b2,hn])
 subst e
 exact a3.symm.trans b3
end
theorem aIe {T:TtR} (h:T.ok1=true):T.L.length≤4:=by
 obtain ⟨a1,a2,a3,a4,a5,a6⟩:=(eO h).1
 omega
theorem aEN (seed pb:UInt64) (ac sq:Int) (L:List OpR) (hpb:kK seed 1=pb) (hl:aDT L) (hv:vTx ac sq L=true) (T:TxR) (hT:aHF T) (e:T.v=(ac,sq,L.map OpR.v,wF seed sq.toNat (bQ ac sq L))):vSg pb T=true:=by
 obtain ⟨hh,_⟩:=eO hv
 obtain ⟨nm,hnm⟩:∃ nm,bQ ac sq L=nm:=⟨_,rfl⟩
 have hsq:((sq.toNat:Nat):Int)=sq:=by omega
 obtain ⟨s,h1,_,h3,h4,_⟩:=aER seed nm 1 sq.toNat (.inl ⟨rfl,by omega⟩)
 rw [hsq,aEb seed nm hh.2.2.1 hh.2.2.2.1] at h1
 injection h1 with h1
 rw [hpb] at h4
 rw [hnm] at e
 unfold TxR.v at e
 injection e with e1 e
 injection e with e2 e
 injection e with e3 e4
 have hn:=congrArg List.length e3
 rw [List.length_map,List.length_map] at hn
 have hvt:vTx T.ac T.sq T.L=true:=by
  rw [aJl (fun R hR=>aJm (hT.1 R hR).1 (hT.1 R hR).2),e1,e2,e3,← aJl (fun R hR=>aJm (hl R hR).1 (hl R hR).2)]
  exact hv
 have hnt:bQ T.ac T.sq T.L=nm:=by
  rw [← hnm]
  unfold bQ
  rw [hvt,hv]
  unfold lW
  rw [aHs e3,hn,e1,e2]
 unfold vSg
 rw [hvt,hnt,e4,h1,h4,h3,hsq,e2]
 simp
def lG:UInt64:=144115188075855872
theorem wG:nmc lG=#[.int .u8 2,.int .u8 0,.int .u8 0,.int .u8 0,.int .u8 0,.int .u8 0,.int .u8 0,.int .u8 0]:=by kernel_rfl
theorem aGy (a b:UInt64) (w:World):(Instr.buildSlice 37 2 #[(0,.agg (nmc a)),(1,.agg (nmc b))]).run Tryz.prog w=.ok (.slice (some ⟨w.heap.size,0,none⟩) 2 2) (w.alloc (.cells (nmc a ++ nmc b) 30)):=by
 rw [← gH a,← gH b];kernel_rfl
section
variable {ops:Array Oper} {rest:List Oper} {o:Oper} {a:Act} {w:World} {K:Act→World→Prop} {Q:Exit→Act→World→Prop}
theorem aCE (hgd:o.guard=none) {ty e:TypeId} (x y:Operand) (ho:o.op=.buildSlice ty 2 #[(0,x),(1,y)]) {vx vy:Value} {cs:Array Value} (hx:a.eval x=vx) (hy:a.eval y=vy) (hr:(Instr.buildSlice ty 2 #[(0,vx),(1,vy)]).run Tryz.prog w=.ok (.slice (some ⟨w.heap.size,0,none⟩) 2 2) (w.alloc (.cells cs e)))
  (h:∀ (g:Nat) (W2:World),Hid (Blk W2 g e cs∧Ext w W2)→wpList Tryz.prog ops Q rest (a.put o.dst (.slice (some ⟨g,0,none⟩) 2 2)) W2):wpList Tryz.prog ops Q (o :: rest) a w :=
 oA hgd (aCd x y ho hx hy hr) (h _ _ (zh ⟨Blk.new w e cs,(Ext.refl w).alloc' _⟩))
theorem tD (hgd:o.guard=none) (x y:Operand) (ho:o.op=.store 40 x y) (g:Nat) (N Z:Int) (B1:Option Addr) (m1 d1:Nat) (B2:Option Addr) (m2 d2:Nat) (B3:Option Addr) (m3 d3:Nat) (hx:a.eval x=.pointer (some ⟨g,0,none⟩)) (hy:a.eval y=.agg (dT N Z B1 m1 d1 B2 m2 d2 B3 m3 d3)) {cs:Array Value} (hcs:cs.size=5) (hb:Blk w g 40 cs)
  (h:∀ W,Hid (Blk W g 40 (dT N Z B1 m1 d1 B2 m2 d2 B3 m3 d3)∧w.setCells g 0 (dT N Z B1 m1 d1 B2 m2 d2 B3 m3 d3).toList=W)→wpList Tryz.prog ops Q rest (a.put o.dst undef) W):wpList Tryz.prog ops Q (o :: rest) a w :=
 wpList_store_mid hgd 40 x y ho g 0 (dT N Z B1 m1 d1 B2 m2 d2 B3 m3 d3) hx hy (by have:=aT hb;rw [hcs] at this;exact this) (by kernel_rfl) (by simp [Value.oneCell']) (h _ (zh ⟨aR (ds:=dT N Z B1 m1 d1 B2 m2 d2 B3 m3 d3) hb (by rw [hcs];rfl),rfl⟩))
end
def aLU (w:World) (e:Ending) (w':World):Prop:=∃ B1 B2 B3:Option Addr,e=.returned (.agg (dT 1 3 B1 1 1 B2 2 2 B3 2 2))∧SlG w' B2 2 2 [kK dU 1,kK lG 1]∧SlG w' B3 2 2 [(5:Int),0]∧SlG w' B1 1 1 [dU]∧Ext w w'
theorem xA (w:World):Calls Tryz.prog 39 #[] w (aLU w):=by
 obtain ⟨W,hW⟩:∃ W,w.alloc (.cells #[.int .i64 0,.int .i64 0,.slice none 0 0,.slice none 0 0,.slice none 0 0] 40)=W:=⟨_,rfl⟩
 have HB:=zh (show Blk W w.heap.size 40 #[.int .i64 0,.int .i64 0,.slice none 0 0,.slice none 0 0,.slice none 0 0] from by rw [← hW];exact Blk.new w _ _)
 have HE:=zh (show Ext w W from by rw [← hW];exact (Ext.refl w).alloc' _)
 obtain ⟨k1,hk1⟩:∃ k,kK dU 1=k:=⟨_,rfl⟩
 obtain ⟨k2,hk2⟩:∃ k,kK lG 1=k:=⟨_,rfl⟩
 have HP1:=zh (fun (V:World)=>nP dU 1 V)
 have HP2:=zh (fun (V:World)=>nP lG 1 V)
 rw [hk1,kI] at HP1
 rw [hk2,wG] at HP2
 have HBN:=zh (fun (V:World)=>aGy k1 k2 V)
 obtain ⟨v1,hv1⟩:∃ v,Value.agg (nmc k1)=v:=⟨_,rfl⟩
 obtain ⟨v2,hv2⟩:∃ v,Value.agg (nmc k2)=v:=⟨_,rfl⟩
 rw [hv1] at HP1
 rw [hv2] at HP2
 rw [hv1,hv2] at HBN
 obtain ⟨W1,hW1⟩:∃ W1,W.alloc (.cells #[.int .u8 1,.int .u8 0,.int .u8 0,.int .u8 0,.int .u8 0,.int .u8 0,.int .u8 0,.int .u8 0] 30)=W1:=⟨_,rfl⟩
 obtain ⟨X,hX⟩:∃ X,W.heap.size=X:=⟨_,rfl⟩
 have HX:=zh (show Blk W1 X 30 (nmc dU) from by rw [← hW1,← hX,kI];exact Blk.new W _ _)
 have HE1:=zh (show Ext W W1 from by rw [← hW1];exact (Ext.refl W).alloc' _)
 have HXE:=zh hX
 have HK1:=zh hk1
 have HK2:=zh hk2
 show Calls _ _ _ _ (fun e w'=>∃ B1 B2 B3:Option Addr,e=.returned (.agg (dT 1 3 B1 1 1 B2 2 2 B3 2 2))∧SlG w' B2 2 2 [kK dU 1,kK lG 1]∧SlG w' B3 2 2 [(5:Int),0]∧SlG w' B1 1 1 [dU]∧Ext w w')
 rw [hk1,hk2]
 clear hk1 hk2 hv1 hv2 hX
 go_enter Tryz.func39,Tryz.ntmps39
 go_wp2_with fail
 try rw [hW1]
 rw [HXE.out]
 clear hW1
 refine (HP1.out _).mono ?_
 rintro e w1 ⟨rfl,he1⟩
 have HA1:=zh (HE1.out.trans he1)
 have HX1:=zh (HX.out.ext he1)
 clear he1
 go_wp2_with fail
 refine (HP2.out _).mono ?_
 rintro e w2 ⟨rfl,he2⟩
 have HA2:=zh (HA1.out.trans he2)
 have HX2:=zh (HX1.out.ext he2)
 clear he2
 have HZ2:=zh (HB.out.ext HA2.out)
 go_wp2_with (first | ((with_reducible refine aCE (vx:=v1) (vy:=v2) rfl (.tmp 4) (.tmp 6) rfl rfl rfl (HBN.out _) ?_);intro g3 W3 h3;obtain ⟨W4,hW4⟩:∃ W4,W3.alloc (.cells #[.int .i64 5,.int .i64 0] 3)=W4:=⟨_,rfl⟩;have HE4:=zh (show Ext W3 W4 from by rw [← hW4];exact (Ext.refl W3).alloc' _);have HI4:=zh (show Blk W4 W3.heap.size 3 #[.int .i64 5,.int .i64 0] from by rw [← hW4];exact Blk.new W3 _ _);have HZ4:=zh ((HZ2.out.ext h3.out.2).ext HE4.out)) | ((try rw [hW4]);(with_reducible refine tD rfl (.tmp 0) (.tmp 9) rfl w.heap.size 1 3 (some ⟨X,0,none⟩) 1 1 (some ⟨g3,0,none⟩) 2 2 (some ⟨W3.heap.size,0,none⟩) 2 2 rfl rfl rfl HZ4.out ?_);intro W5 h5))
 have hZ:=HZ4.out
 have hb1:Blk W4 X 30 (nmc dU):=(HX2.out.ext h3.out.2).ext HE4.out
 have hb2:Blk W4 g3 30 (nmc k1 ++ nmc k2):=h3.out.1.ext HE4.out
 have hb3:=HI4.out
 have hA:Ext w W4:=HE.out.trans (HA2.out.trans (h3.out.2.trans HE4.out))
 have hst:=h5.out.1
 have h55:=h5.out.2
 have c1:Blk W5 X 30 (nmc dU):=by rw [← h55];exact hb1.setCells_far (aDI hb1 hZ (by decide)) _ _
 have c2:Blk W5 g3 30 (nmc k1 ++ nmc k2):=by rw [← h55];exact hb2.setCells_far (aDI hb2 hZ (by decide)) _ _
 have c3:Blk W5 W3.heap.size 3 #[.int .i64 5,.int .i64 0]:=by rw [← h55];exact hb3.setCells_far (aDI hb3 hZ (by decide)) _ _
 have c4:Ext w W5:=by rw [← h55];exact Below.setCells' hA (Nat.le_refl _) _ _
 refine bodyPost_ret (v:=.agg (dT 1 3 (some ⟨X,0,none⟩) 1 1 (some ⟨g3,0,none⟩) 2 2 (some ⟨W3.heap.size,0,none⟩) 2 2)) (gB rfl _ _ w.heap.size _ rfl (run_loadVar_row _ _ _ _ _ (0,0) _ hst Tryz.underlying40 rfl (by kernel_rfl))) rfl ⟨_,_,_,rfl,⟨rfl,by decide,by decide,?_,fun _ _=>trivial⟩,⟨rfl,by decide,by decide,?_,?_⟩,⟨rfl,by decide,by decide,?_,fun _ _=>trivial⟩,c4⟩
 ·have := Rd.of_blk c2
  rwa [Array.toList_append,bF,bF] at this
 ·exact Rd.of_blk c3
 ·intro R hR
  rcases List.mem_cons.1 hR with rfl | hR
  ·show (Lit.int .i64 5).wf=true;decide
  rcases List.mem_cons.1 hR with rfl | hR
  ·show (Lit.int .i64 0).wf=true;decide
  simp at hR
 have:=Rd.of_blk c1
 rwa [bF] at this
section
variable {P:Program} {t e:TypeId} {z:Value} {size bytes:Nat}
theorem aGF (w:World) (e:TypeId) (size:Nat):(w.alloc (.cells #[] e)).ownsRow w.heap.size e size (.slice (some ⟨w.heap.size,0,none⟩) 0 0) 0 [] :=
 ⟨by simp,.inr ⟨w.heap.size,0,#[],rfl,Nat.le_refl _,heap_alloc_new w _,Nat.le_refl _,Nat.zero_le _,by simp,by simp⟩⟩
theorem aGz (E:Elem P t e z size bytes) (ty:TypeId) (w:World) (base:Nat) (A:Option Addr) (hown:w.ownsRow base e size (.slice A 0 0) 0 [])
  (A2:Option Addr) (m c2:Nat) (ys:List Value) (hr:Rd w A2 ys) (hl:ys.length=m * size) (h1:∀ u ∈ ys,u.oneCell'=true)
  (hb:m * bytes≤140737488355328) (h63:m≤4611686018427387904) (hbase:base≤w.heap.size) :
  ∃ A' c' w',(Builtin.append_ #[t,t] ty #[.slice A 0 0,.slice A2 m c2]).run P w=.ok (.slice A' m c') w'∧w'.ownsRow base e size (.slice A' m c') m ys∧Ext w w':=by
 rcases Nat.eq_zero_or_pos m with rfl | hm
 ·have hy : ys = [] := List.eq_nil_of_length_eq_zero (by rw [hl]; exact Nat.zero_mul _)
  subst hy
  obtain ⟨i,hi,hz,hs,hby⟩:=E.get
  refine ⟨A,0,w,?_,hown,Ext.refl w⟩
  cases A <;> cases A2 <;> simp [Builtin.append_,run_underlying E.ut,sizeOf,typeInfo,hi,Builtin.lenOf,Builtin.firstCells,storeCells,loadCells,loadCellsFrom]
 obtain ⟨A',c',w',h2,h3,h4⟩:=aBo E ty w A 0 [] .nil (by simp) A2 m c2 ys hr hl hm (by simpa using hb) (by omega)
 simp only [Nat.zero_add,List.nil_append] at h2 h3
 exact ⟨A',c',w',h2,bB h3 hbase,h4⟩
variable {ops:Array Oper} {rest:List Oper} {o:Oper} {a:Act} {w:World} {K:Act→World→Prop} {Q:Exit→Act→World→Prop} {X:Prop}
theorem pA (E:Elem P t e z size bytes) (s x:Operand)
  (ho:o.op=.call { callee:=.builtin .append,args:=#[s,x],argTypes:=#[t,t] })
  (base:Nat) (A:Option Addr) (hs:a.eval s=.slice A 0 0) (hown:w.ownsRow base e size (.slice A 0 0) 0 [])
  (A2:Option Addr) (m c2:Nat) (ys:List Value) (hx:a.eval x=.slice A2 m c2) (hr:Rd w A2 ys) (hl:ys.length=m * size) (h1:∀ u ∈ ys,u.oneCell'=true)
  (hb:m * bytes≤140737488355328) (h63:m≤4611686018427387904) (hbase:base≤w.heap.size)
  (h:∀ A' c' w',w'.ownsRow base e size (.slice A' m c') m ys→Ext w w'→K (a.put o.dst (.slice A' m c')) w'):o.wp P a w K Q:=by
 obtain ⟨A',c',w',hrun,h2,h3⟩:=aGz E o.type w base A hown A2 m c2 ys hr hl h1 hb h63 hbase
 unfold Oper.wp execOp
 simp only [ho,resolve,invoke,builtin,Sem.run_bind,Sem.run_pure,Result.andThen_ok,List.map_toArray,List.map_cons,List.map_nil,hs,hx,hrun]
 exact h A' c' w' h2 h3
theorem rN (E:Elem P t e z size bytes) (hgd:o.guard=none) (s x:Operand)
  (ho:o.op=.call { callee:=.builtin .append,args:=#[s,x],argTypes:=#[t,t] })
  (base:Nat) (A:Option Addr) (hs:a.eval s=.slice A 0 0) (hown:w.ownsRow base e size (.slice A 0 0) 0 [])
  (A2:Option Addr) (m c2:Nat) (ys:List Value) (hx:a.eval x=.slice A2 m c2) (hr:Rd w A2 ys) (hl:ys.length=m * size) (h1:∀ u ∈ ys,u.oneCell'=true)
  (hb:m * bytes≤140737488355328) (h63:m≤4611686018427387904) (hbase:base≤w.heap.size)
  (h:∀ A' c' w',w'.ownsRow base e size (.slice A' m c') m ys→Ext w w'→wpList P ops Q rest (a.put o.dst (.slice A' m c')) w'):wpList P ops Q (o :: rest) a w :=
 wpList_plain hgd fun K hK=>pA E s x ho base A hs hown A2 m c2 ys hx hr hl h1 hb h63 hbase fun A' c' w' h2 h3=>hK _ _ (h A' c' w' h2 h3)
theorem tC {ty:TypeId} (ho:o.op=.buildSlice ty 0 #[]) (hr:∀ w,(Instr.buildSlice ty 0 #[]).run P w=.ok (.slice (some ⟨w.heap.size,0,none⟩) 0 0) (w.alloc (.cells #[] e)))
  (h:∀ A W2,Hid (W2.ownsRow w.heap.size e size (.slice A 0 0) 0 []∧Ext w W2)→K (a.put o.dst (.slice A 0 0)) W2):o.wp P a w K Q:=by
 have:=h _ _ (zh ⟨aGF w e size,(Ext.refl w).alloc' _⟩)
 unfold Oper.wp execOp
 simp only [ho,List.map_toArray,List.map_nil,Sem.run_bind,hr,Result.andThen_ok,Sem.run_pure]
 exact this
theorem tE (hgd:o.guard=none) {ty:TypeId} (ho:o.op=.buildSlice ty 0 #[]) (hr:∀ w,(Instr.buildSlice ty 0 #[]).run P w=.ok (.slice (some ⟨w.heap.size,0,none⟩) 0 0) (w.alloc (.cells #[] e)))
  (h:∀ A W2,Hid (W2.ownsRow w.heap.size e size (.slice A 0 0) 0 []∧Ext w W2)→wpList P ops Q rest (a.put o.dst (.slice A 0 0)) W2):wpList P ops Q (o :: rest) a w :=
 wpList_plain hgd fun K hK=>tC ho hr fun A W2 h2=>hK _ _ (h A W2 h2)
end
theorem qT (w:World):(Instr.buildSlice 27 0 #[]).run Tryz.prog w=.ok (.slice (some ⟨w.heap.size,0,none⟩) 0 0) (w.alloc (.cells #[] 34)):=by kernel_rfl
theorem aEX (w:World):(Instr.buildSlice 38 0 #[]).run Tryz.prog w=.ok (.slice (some ⟨w.heap.size,0,none⟩) 0 0) (w.alloc (.cells #[] 3)):=by kernel_rfl
theorem aEW (w:World):(Instr.buildSlice 41 0 #[]).run Tryz.prog w=.ok (.slice (some ⟨w.heap.size,0,none⟩) 0 0) (w.alloc (.cells #[] 94)):=by kernel_rfl
theorem aEV (w:World):(Instr.buildSlice 37 0 #[]).run Tryz.prog w=.ok (.slice (some ⟨w.heap.size,0,none⟩) 0 0) (w.alloc (.cells #[] 30)):=by kernel_rfl
theorem aFg (s:StR) (w:World) (h:s.ok w) (hn:s.n1≤1000000∧s.n2≤1000000∧s.n3≤1000000∧s.n4≤1000000):Calls Tryz.prog 57 #[.agg (ssA s)] w (lZ w s.V):=by
 have HP:=zh (show Blk ((w.alloc (.cells (ssA s) 44)).alloc (.cells (ssA ss0) 44)).drew w.heap.size 44 (ssA s) from ((Blk.new w 44 (ssA s)).alloc _).drew)
 have HZ:=zh (show Blk ((w.alloc (.cells (ssA s) 44)).alloc (.cells (ssA ss0) 44)).drew (w.heap.size+1) 44 (ssA ss0) from Blk.drew (Blk.newAt _ _ _ _ (by simp)))
 have HEW:=zh (show Ext w ((w.alloc (.cells (ssA s) 44)).alloc (.cells (ssA ss0) 44)).drew from (((Ext.refl w).alloc' _).alloc' _).drew')
 have HO:=zh h
 have HNN:=zh hn
 clear h hn
 go_enter Tryz.func57,Tryz.ntmps57
 go_wp2_with fail
 refine wp_region_held_drew (S:=fun W=>Blk W w.heap.size 44 (ssA s)∧(∃ z,Blk W (w.heap.size+1) 44 (ssA z))∧Ext w W) (by kernel_rfl) (⟨HP.out,⟨ss0,HZ.out⟩,HEW.out⟩) (fun aA=>?_)
 refine zz0 [1,2,5,6,9,10,13,14,16,17] ?_;repeat first | refine zz1 ?_ (hy:=by intro W aM;obtain ⟨c0,c1,c2,c3,c4⟩:=aE aM.1;go_simp <;> with_reducible rfl) | refine zz2 ?_ | refine zz9 ?_
 refine zzj (VV 0 (fun v W=>∃ A,v=.slice A 0 0∧W.ownsRow w.heap.size 34 11 (.slice A 0 0) 0 []) (VV 3 (fun v W=>∃ A c,v=.slice A s.n1 c∧W.ownsRow w.heap.size 34 11 (.slice A s.n1 c) s.n1 (gcs s.C)) (VV 4 (fun v W=>∃ A,v=.slice A 0 0∧W.ownsRow w.heap.size 3 1 (.slice A 0 0) 0 []) (VV 7 (fun v W=>∃ A c,v=.slice A s.n2 c∧W.ownsRow w.heap.size 3 1 (.slice A s.n2 c) s.n2 (gcs s.Q)) (VV 8 (fun v W=>∃ A,v=.slice A 0 0∧W.ownsRow w.heap.size 94 19 (.slice A 0 0) 0 []) (VV 11 (fun v W=>∃ A c,v=.slice A s.n3 c∧W.ownsRow w.heap.size 94 19 (.slice A s.n3 c) s.n3 (gcs s.K)) (VV 12 (fun v W=>∃ A,v=.slice A 0 0∧W.ownsRow w.heap.size 30 8 (.slice A 0 0) 0 []) (VV 15 (fun v W=>∃ A c,v=.slice A s.n4 c∧W.ownsRow w.heap.size 30 8 (.slice A s.n4 c) s.n4 (gcs s.P)) VN)))))))) [(0,some 3),(3,some 6),(4,some 7),(7,some 10),(8,some 11),(11,some 14),(12,some 15),(15,some 18)] 2 (fun W W' h e=>⟨h.1.ext e,(by obtain ⟨z,hz⟩:=h.2.1;exact ⟨z,hz.ext e⟩),h.2.2.trans e⟩) (VV.ext (fun v w w' ⟨A,h1,h2⟩ e=>⟨A,h1,bA h2 e⟩) (VV.ext (fun v w w' ⟨A,c,h1,h2⟩ e=>⟨A,c,h1,bA h2 e⟩) (VV.ext (fun v w w' ⟨A,h1,h2⟩ e=>⟨A,h1,bA h2 e⟩) (VV.ext (fun v w w' ⟨A,c,h1,h2⟩ e=>⟨A,c,h1,bA h2 e⟩) (VV.ext (fun v w w' ⟨A,h1,h2⟩ e=>⟨A,h1,bA h2 e⟩) (VV.ext (fun v w w' ⟨A,c,h1,h2⟩ e=>⟨A,c,h1,bA h2 e⟩) (VV.ext (fun v w w' ⟨A,h1,h2⟩ e=>⟨A,h1,bA h2 e⟩) (VV.ext (fun v w w' ⟨A,c,h1,h2⟩ e=>⟨A,c,h1,bA h2 e⟩) VN.ext)))))))) (zzc ?_ (zzc ?_ (zzc ?_ (zzc ?_ (zzc ?_ (zzc ?_ (zzc ?_ (zzc ?_ zzn)))))))) ?_
 ·refine zzp fun W hE hS K hK => ?_
  refine tC (size:=11) rfl qT ?_
  intro A5 W5 h5
  exact zzK (hK.out (.slice A5 0 0) _ (h5.out.2) (⟨A5,rfl,bB h5.out.1 hS.2.2.size⟩))
 ·refine zm [(0, some 3)] fun env W hE hS hD K hK => ?_
  obtain ⟨h0,-⟩:=zzV hD
  clear hD
  simp only [aO] at hK ⊢
  generalize env 0=x0 at h0 hK ⊢
  obtain ⟨A7,rfl,ho7⟩:=h0
  have hs7:=(HO.out.ext hS.2.2).s1
  have hl7:(gcs s.C).length=s.n1 * 11:=by rw [aH,hs7.len];rfl
  refine pA deE (.tmp 3) (.tmp 5) rfl w.heap.size A7 rfl ho7 s.A1 s.n1 s.c1 (gcs s.C) rfl hs7.rd hl7 (cD _) (by have:=HNN.out;omega) (by have:=HNN.out;omega) hS.2.2.size ?_
  intro A5 c5 w5 ho5 he5
  exact zzK (hK.out (.slice A5 s.n1 c5) _ (he5) (⟨A5,c5,rfl,ho5⟩))
 ·refine zzp fun W hE hS K hK => ?_
  refine tC (size:=1) rfl aEX ?_
  intro A5 W5 h5
  exact zzK (hK.out (.slice A5 0 0) _ (h5.out.2) (⟨A5,rfl,bB h5.out.1 hS.2.2.size⟩))
 ·refine zm [(4, some 7)] fun env W hE hS hD K hK => ?_
  obtain ⟨h4,-⟩:=zzV hD
  clear hD
  simp only [aO] at hK ⊢
  generalize env 4=x4 at h4 hK ⊢
  obtain ⟨A7,rfl,ho7⟩:=h4
  have hs7:=(HO.out.ext hS.2.2).s2
  have hl7:(gcs s.Q).length=s.n2 * 1:=by rw [aH,hs7.len];rfl
  refine pA inE (.tmp 7) (.tmp 9) rfl w.heap.size A7 rfl ho7 s.A2 s.n2 s.c2 (gcs s.Q) rfl hs7.rd hl7 (cD _) (by have:=HNN.out;omega) (by have:=HNN.out;omega) hS.2.2.size ?_
  intro A5 c5 w5 ho5 he5
  exact zzK (hK.out (.slice A5 s.n2 c5) _ (he5) (⟨A5,c5,rfl,ho5⟩))
 ·refine zzp fun W hE hS K hK => ?_
  refine tC (size:=19) rfl aEW ?_
  intro A5 W5 h5
  exact zzK (hK.out (.slice A5 0 0) _ (h5.out.2) (⟨A5,rfl,bB h5.out.1 hS.2.2.size⟩))
 ·refine zm [(8, some 11)] fun env W hE hS hD K hK => ?_
  obtain ⟨h8,-⟩:=zzV hD
  clear hD
  simp only [aO] at hK ⊢
  generalize env 8=x8 at h8 hK ⊢
  obtain ⟨A7,rfl,ho7⟩:=h8
  have hs7:=(HO.out.ext hS.2.2).s3
  have hl7:(gcs s.K).length=s.n3 * 19:=by rw [aH,hs7.len];rfl
  refine pA lkE (.tmp 11) (.tmp 13) rfl w.heap.size A7 rfl ho7 s.A3 s.n3 s.c3 (gcs s.K) rfl hs7.rd hl7 (cD _) (by have:=HNN.out;omega) (by have:=HNN.out;omega) hS.2.2.size ?_
  intro A5 c5 w5 ho5 he5
  exact zzK (hK.out (.slice A5 s.n3 c5) _ (he5) (⟨A5,c5,rfl,ho5⟩))
 ·refine zzp fun W hE hS K hK => ?_
  refine tC (size:=8) rfl aEV ?_
  intro A5 W5 h5
  exact zzK (hK.out (.slice A5 0 0) _ (h5.out.2) (⟨A5,rfl,bB h5.out.1 hS.2.2.size⟩))
 ·refine zm [(12, some 15)] fun env W hE hS hD K hK => ?_
  obtain ⟨h12,-⟩:=zzV hD
  clear hD
  simp only [aO] at hK ⊢
  generalize env 12=x12 at h12 hK ⊢
  obtain ⟨A7,rfl,ho7⟩:=h12
  have hs7:=(HO.out.ext hS.2.2).s4
  have hl7:(gcs s.P).length=s.n4 * 8:=by rw [aH,hs7.len];rfl
  refine pA dC (.tmp 15) (.tmp 17) rfl w.heap.size A7 rfl ho7 s.A4 s.n4 s.c4 (gcs s.P) rfl hs7.rd hl7 (cD _) (by have:=HNN.out;omega) (by have:=HNN.out;omega) hS.2.2.size ?_
  intro A5 c5 w5 ho5 he5
  exact zzK (hK.out (.slice A5 s.n4 c5) _ (he5) (⟨A5,c5,rfl,ho5⟩))
 intro env W hE hS hV
 obtain ⟨h0,h3,h4,h7,h8,h11,h12,h15,-⟩:=zzV hV
 clear hV
 simp only [aO]
 generalize env 0=x0 at h0 ⊢
 generalize env 3=x3 at h3 ⊢
 generalize env 4=x4 at h4 ⊢
 generalize env 7=x7 at h7 ⊢
 generalize env 8=x8 at h8 ⊢
 generalize env 11=x11 at h11 ⊢
 generalize env 12=x12 at h12 ⊢
 generalize env 15=x15 at h15 ⊢
 obtain ⟨B1,rfl,-⟩:=h0
 obtain ⟨B2,rfl,-⟩:=h4
 obtain ⟨B3,rfl,-⟩:=h8
 obtain ⟨B4,rfl,-⟩:=h12
 obtain ⟨A1,c1,rfl,k1⟩:=h3
 obtain ⟨A2,c2,rfl,k2⟩:=h7
 obtain ⟨A3,c3,rfl,k3⟩:=h11
 obtain ⟨A4,c4,rfl,k4⟩:=h15
 have HK1:=zh k1
 have HK2:=zh k2
 have HK3:=zh k3
 have HK4:=zh k4
 clear k1 k2 k3 k4
 have aA:=hS
 refine zt 18 aA ?_
 refine za 19 (fun K hK=>?_)
 (obtain ⟨z6,hz6⟩:=aA.2.1;refine bC rfl (.tmp 2) (.tmp 21) (by rfl) (w.heap.size+1) (.agg (ssA ⟨A1,s.n1,c1,s.C,A2,s.n2,c2,s.Q,A3,s.n3,c3,s.K,A4,s.n4,c4,s.P,s.G⟩)) ⟨A1,s.n1,c1,s.C,A2,s.n2,c2,s.Q,A3,s.n3,c3,s.K,A4,s.n4,c4,s.P,s.G⟩ rfl (by rfl) (by rfl) hz6 ?_;intro W6 h6)
 refine hK.out _ _ (⟨by rw [← h6.out.1];exact aA.1.grown (aC _ _ _ _) (fun e=>by injection e;omega),⟨_,h6.out.2⟩,by rw [← h6.out.1];exact Below.setCells' aA.2.2 (by omega) _ _⟩) (fun aA=>?_)
 clear hK K
 try simp only [aS]
 refine wpAnyH_done (by kernel_rfl) ?_ _
 have hst:=h6.out.2
 have HOW:=zh (show OwnS W6 w.heap.size ⟨A1,s.n1,c1,s.C,A2,s.n2,c2,s.Q,A3,s.n3,c3,s.K,A4,s.n4,c4,s.P,s.G⟩ from by
  refine OwnS.kept (X:=w.heap.size+1) ⟨HK1.out,HK2.out,HK3.out,HK4.out,HO.out.s1.ok,HO.out.s2.ok,HO.out.s3.ok,HO.out.g⟩ (by rw [← h6.out.1];exact aC _ _ _ _) hz6 (by decide) (by decide) (by decide) (by decide))
 have HX:=zh aA.2.2
 clear h6 hz6 hS hE aA
 go_wp2_with fail
 exact bodyPost_ret (v:=.agg (ssA ⟨A1,s.n1,c1,s.C,A2,s.n2,c2,s.Q,A3,s.n3,c3,s.K,A4,s.n4,c4,s.P,s.G⟩)) (gB rfl _ _ (w.heap.size+1) _ rfl (run_loadVar_row _ _ _ _ _ (0,0) _ hst Tryz.underlying44 rfl (by kernel_rfl))) rfl ⟨_,rfl,HOW.out,rfl,HX.out⟩
end
end Go.Proofs.YtohmmcahpakokaaGreat
