/- The law's genesis. -/
import Derived.Test.YtohmmcahpakokaaGreatH43
import Derived.Test.YtohmmcahpakokaaGreatH44
import Derived.Test.YtohmmcahpakokaaGreatH46
set_option maxRecDepth 100000
set_option maxHeartbeats 8000000
set_option linter.unusedVariables false
set_option linter.unusedSimpArgs false
namespace Go.Proofs.YtohmmcahpakokaaGreat
section
open Go.RowKit
attribute [local go_sem ↓] Go.wp_at_zero Go.wp_at_succ
theorem aEk (seed pb:UInt64) (ac sq:Int) (L:List OpR) (hpb:kM seed 1=pb) (hl:aDr L) (hv:vTx ac sq L=true) (T:TxR) (hT:aGX T) (e:T.v=(ac,sq,L.map OpR.v,vZ seed sq.toNat (bG ac sq L))):vSg pb T=true:=by
 obtain ⟨hh,_⟩:=dT hv
 obtain ⟨nm,hnm⟩:∃ nm,bG ac sq L=nm:=⟨_,rfl⟩
 have hsq:((sq.toNat:Nat):Int)=sq:=by omega
 obtain ⟨s,h1,_,h3,h4,_⟩:=aEm seed nm 1 sq.toNat (.inl ⟨rfl,by omega⟩)
 rw [hsq,aDz seed nm hh.2.2.1 hh.2.2.2.1] at h1
 injection h1 with h1
 rw [hpb] at h4
 rw [hnm] at e
 unfold TxR.v at e
 injection e with e1 e
 injection e with e2 e
 injection e with e3 e4
 have hn:=congrArg List.length e3
 rw [List.length_map,List.length_map] at hn
 have hvt:vTx T.ac T.sq T.L=true:=by
  rw [aIs (fun R hR=>aIt (hT.1 R hR).1 (hT.1 R hR).2),e1,e2,e3,← aIs (fun R hR=>aIt (hl R hR).1 (hl R hR).2)]
  exact hv
 have hnt:bG T.ac T.sq T.L=nm:=by
  rw [← hnm]
  unfold bG
  rw [hvt,hv]
  unfold lY
  rw [aGG e3,hn,e1,e2]
 unfold vSg
 rw [hvt,hnt,e4,h1,h4,h3,hsq,e2]
 simp
def lH:UInt64:=144115188075855872
theorem wB:nmc lH=#[.int .u8 2,.int .u8 0,.int .u8 0,.int .u8 0,.int .u8 0,.int .u8 0,.int .u8 0,.int .u8 0]:=by kernel_rfl
theorem aFJ (a b:UInt64) (w:World):(Instr.buildSlice 37 2 #[(0,.agg (nmc a)),(1,.agg (nmc b))]).run Tryz.prog w=.ok (.slice (some ⟨w.heap.size,0,none⟩) 2 2) (w.alloc (.cells (nmc a ++ nmc b) 30)):=by
 rw [← gQ a,← gQ b];kernel_rfl
section
variable {ops:Array Oper} {rest:List Oper} {o:Oper} {a:Act} {w:World} {K:Act→World→Prop} {Q:Exit→Act→World→Prop}
theorem aCf (hgd:o.guard=none) {ty e:TypeId} (x y:Operand) (ho:o.op=.buildSlice ty 2 #[(0,x),(1,y)]) {vx vy:Value} {cs:Array Value} (hx:a.eval x=vx) (hy:a.eval y=vy) (hr:(Instr.buildSlice ty 2 #[(0,vx),(1,vy)]).run Tryz.prog w=.ok (.slice (some ⟨w.heap.size,0,none⟩) 2 2) (w.alloc (.cells cs e)))
  (h:∀ (g:Nat) (W2:World),Hid (Blk W2 g e cs∧Ext w W2)→wpList Tryz.prog ops Q rest (a.put o.dst (.slice (some ⟨g,0,none⟩) 2 2)) W2):wpList Tryz.prog ops Q (o :: rest) a w :=
 nY hgd (vG x y ho hx hy hr) (h _ _ (zh ⟨Blk.new w e cs,(Ext.refl w).alloc' _⟩))
theorem tB (hgd:o.guard=none) (x y:Operand) (ho:o.op=.store 40 x y) (g:Nat) (N Z:Int) (B1:Option Addr) (m1 d1:Nat) (B2:Option Addr) (m2 d2:Nat) (B3:Option Addr) (m3 d3:Nat) (hx:a.eval x=.pointer (some ⟨g,0,none⟩)) (hy:a.eval y=.agg (dY N Z B1 m1 d1 B2 m2 d2 B3 m3 d3)) {cs:Array Value} (hcs:cs.size=5) (hb:Blk w g 40 cs)
  (h:∀ W,Hid (Blk W g 40 (dY N Z B1 m1 d1 B2 m2 d2 B3 m3 d3)∧w.setCells g 0 (dY N Z B1 m1 d1 B2 m2 d2 B3 m3 d3).toList=W)→wpList Tryz.prog ops Q rest (a.put o.dst undef) W):wpList Tryz.prog ops Q (o :: rest) a w :=
 wpList_store_mid hgd 40 x y ho g 0 (dY N Z B1 m1 d1 B2 m2 d2 B3 m3 d3) hx hy (by have:=aR hb;rw [hcs] at this;exact this) (by kernel_rfl) (by simp [Value.oneCell']) (h _ (zh ⟨aQ (ds:=dY N Z B1 m1 d1 B2 m2 d2 B3 m3 d3) hb (by rw [hcs];rfl),rfl⟩))
end
def aKP (w:World) (e:Ending) (w':World):Prop:=∃ B1 B2 B3:Option Addr,e=.returned (.agg (dY 1 3 B1 1 1 B2 2 2 B3 2 2))∧SlG w' B2 2 2 [kM dZ 1,kM lH 1]∧SlG w' B3 2 2 [(5:Int),0]∧SlG w' B1 1 1 [dZ]∧Ext w w'
theorem wY (w:World):Calls Tryz.prog 39 #[] w (aKP w):=by
 obtain ⟨W,hW⟩:∃ W,w.alloc (.cells #[.int .i64 0,.int .i64 0,.slice none 0 0,.slice none 0 0,.slice none 0 0] 40)=W:=⟨_,rfl⟩
 have HB:=zh (show Blk W w.heap.size 40 #[.int .i64 0,.int .i64 0,.slice none 0 0,.slice none 0 0,.slice none 0 0] from by rw [← hW];exact Blk.new w _ _)
 have HE:=zh (show Ext w W from by rw [← hW];exact (Ext.refl w).alloc' _)
 obtain ⟨k1,hk1⟩:∃ k,kM dZ 1=k:=⟨_,rfl⟩
 obtain ⟨k2,hk2⟩:∃ k,kM lH 1=k:=⟨_,rfl⟩
 have HP1:=zh (fun (V:World)=>nQ dZ 1 V)
 have HP2:=zh (fun (V:World)=>nQ lH 1 V)
 rw [hk1,kK] at HP1
 rw [hk2,wB] at HP2
 have HBN:=zh (fun (V:World)=>aFJ k1 k2 V)
 obtain ⟨v1,hv1⟩:∃ v,Value.agg (nmc k1)=v:=⟨_,rfl⟩
 obtain ⟨v2,hv2⟩:∃ v,Value.agg (nmc k2)=v:=⟨_,rfl⟩
 rw [hv1] at HP1
 rw [hv2] at HP2
 rw [hv1,hv2] at HBN
 obtain ⟨W1,hW1⟩:∃ W1,W.alloc (.cells #[.int .u8 1,.int .u8 0,.int .u8 0,.int .u8 0,.int .u8 0,.int .u8 0,.int .u8 0,.int .u8 0] 30)=W1:=⟨_,rfl⟩
 obtain ⟨X,hX⟩:∃ X,W.heap.size=X:=⟨_,rfl⟩
 have HX:=zh (show Blk W1 X 30 (nmc dZ) from by rw [← hW1,← hX,kK];exact Blk.new W _ _)
 have HE1:=zh (show Ext W W1 from by rw [← hW1];exact (Ext.refl W).alloc' _)
 have HXE:=zh hX
 have HK1:=zh hk1
 have HK2:=zh hk2
 show Calls _ _ _ _ (fun e w'=>∃ B1 B2 B3:Option Addr,e=.returned (.agg (dY 1 3 B1 1 1 B2 2 2 B3 2 2))∧SlG w' B2 2 2 [kM dZ 1,kM lH 1]∧SlG w' B3 2 2 [(5:Int),0]∧SlG w' B1 1 1 [dZ]∧Ext w w')
 rw [hk1,hk2]
 clear hk1 hk2 hv1 hv2 hX
 go_enter Tryz.func39,Tryz.ntmps39
 go_wp2_with fail
 try rw [hW1]
 rw [HXE.out]
 clear hW1
 refine (HP1.out _).mono ?_
 rintro e w1 ⟨rfl,he1⟩
 have HA1:=zh (HE1.out.trans he1)
 have HX1:=zh (HX.out.ext he1)
 clear he1
 go_wp2_with fail
 refine (HP2.out _).mono ?_
 rintro e w2 ⟨rfl,he2⟩
 have HA2:=zh (HA1.out.trans he2)
 have HX2:=zh (HX1.out.ext he2)
 clear he2
 have HZ2:=zh (HB.out.ext HA2.out)
 go_wp2_with (first | ((with_reducible refine aCf (vx:=v1) (vy:=v2) rfl (.tmp 4) (.tmp 6) rfl rfl rfl (HBN.out _) ?_);intro g3 W3 h3;obtain ⟨W4,hW4⟩:∃ W4,W3.alloc (.cells #[.int .i64 5,.int .i64 0] 3)=W4:=⟨_,rfl⟩;have HE4:=zh (show Ext W3 W4 from by rw [← hW4];exact (Ext.refl W3).alloc' _);have HI4:=zh (show Blk W4 W3.heap.size 3 #[.int .i64 5,.int .i64 0] from by rw [← hW4];exact Blk.new W3 _ _);have HZ4:=zh ((HZ2.out.ext h3.out.2).ext HE4.out)) | ((try rw [hW4]);(with_reducible refine tB rfl (.tmp 0) (.tmp 9) rfl w.heap.size 1 3 (some ⟨X,0,none⟩) 1 1 (some ⟨g3,0,none⟩) 2 2 (some ⟨W3.heap.size,0,none⟩) 2 2 rfl rfl rfl HZ4.out ?_);intro W5 h5))
 have hZ:=HZ4.out
 have hb1:Blk W4 X 30 (nmc dZ):=(HX2.out.ext h3.out.2).ext HE4.out
 have hb2:Blk W4 g3 30 (nmc k1 ++ nmc k2):=h3.out.1.ext HE4.out
 have hb3:=HI4.out
 have hA:Ext w W4:=HE.out.trans (HA2.out.trans (h3.out.2.trans HE4.out))
 have hst:=h5.out.1
 have h55:=h5.out.2
 have c1:Blk W5 X 30 (nmc dZ):=by rw [← h55];exact hb1.setCells_far (aDg hb1 hZ (by decide)) _ _
 have c2:Blk W5 g3 30 (nmc k1 ++ nmc k2):=by rw [← h55];exact hb2.setCells_far (aDg hb2 hZ (by decide)) _ _
 have c3:Blk W5 W3.heap.size 3 #[.int .i64 5,.int .i64 0]:=by rw [← h55];exact hb3.setCells_far (aDg hb3 hZ (by decide)) _ _
 have c4:Ext w W5:=by rw [← h55];exact Below.setCells' hA (Nat.le_refl _) _ _
 refine bodyPost_ret (v:=.agg (dY 1 3 (some ⟨X,0,none⟩) 1 1 (some ⟨g3,0,none⟩) 2 2 (some ⟨W3.heap.size,0,none⟩) 2 2)) (eI rfl _ _ w.heap.size _ rfl (run_loadVar_row _ _ _ _ _ (0,0) _ hst Tryz.underlying40 rfl (by kernel_rfl))) rfl ⟨_,_,_,rfl,⟨rfl,by decide,by decide,?_,fun _ _=>trivial⟩,⟨rfl,by decide,by decide,?_,?_⟩,⟨rfl,by decide,by decide,?_,fun _ _=>trivial⟩,c4⟩
 ·have := Rd.of_blk c2
  rwa [Array.toList_append,bO,bO] at this
 ·exact Rd.of_blk c3
 ·intro R hR
  rcases List.mem_cons.1 hR with rfl | hR
  ·show (Lit.int .i64 5).wf=true;decide
  rcases List.mem_cons.1 hR with rfl | hR
  ·show (Lit.int .i64 0).wf=true;decide
  simp at hR
 have:=Rd.of_blk c1
 rwa [bO] at this
end
section
open Go.RowKit
def opW (n:Int) (A1:Option Addr) (c1:Nat) (A2:Option Addr) (c2:Nat):OpR:=⟨1,1,n,0,0,0,0,A1,0,c1,[],A2,0,c2,[]⟩
def aJa (n:Int):OpV:=⟨1,1,n,0,0,0,0,[],[]⟩
theorem aKd {n:Int} {R:OpR} {w:World} (h:R.ok w) (hv:R.v=aJa n):∃ A1 c1 A2 c2,R=opW n A1 c1 A2 c2:=by
 obtain ⟨k,to',am,ul,va,lk,hs,A1,n1,c1,pre,A2,n2,c2,prf⟩:=R
 have h1:=h.pre.len
 have h2:=h.prf.len
 unfold OpR.v aJa at hv
 injection hv with e1 e2 e3 e4 e5 e6 e7 e8 e9
 simp only at h1 h2 e1 e2 e3 e4 e5 e6 e7 e8 e9
 subst e1;subst e2;subst e3;subst e4;subst e5;subst e6;subst e7;subst e8;subst e9
 simp only [List.length_nil] at h1 h2
 subst h1;subst h2
 exact ⟨A1,c1,A2,c2,rfl⟩
theorem aIZ {n:Int} {L:List OpR} {w:World} (h:∀ R,R ∈ L→R.ok w) (hv:L.map OpR.v=[aJa n]):∃ A1 c1 A2 c2,L=[opW n A1 c1 A2 c2]:=by
 cases L with
 | nil=>simp at hv
 | cons R r =>
  cases r with
  | nil =>
   obtain ⟨A1,c1,A2,c2,rfl⟩:=aKd (h R (by simp)) (by simpa using hv)
   exact ⟨A1,c1,A2,c2,rfl⟩
  | cons _ _=>simp at hv
def S22:StV:=aIz 2 [5,0] 3 1
section
variable (H:List UInt8→UInt64) (ev:OpR→Bool) (A1:Option Addr) (c1:Nat) (A2:Option Addr) (c2:Nat)
theorem vW6:vTx 0 0 [opW 6 A1 c1 A2 c2]=true:=by kernel_rfl
theorem vW4:vTx 0 0 [opW 4 A1 c1 A2 c2]=true:=by kernel_rfl
theorem aKU:jF 1 3 1 2 2 [5,0]=true:=by decide
theorem aKM:S22=⟨[⟨aP 0,5⟩,⟨bT 0,3⟩],[0,0],[],[],0⟩:=by kernel_rfl
theorem aKJ:qG (iC 2 1 1 H ev 0) true 2 true S22 0 0 [opW 6 A1 c1 A2 c2]=100:=by kernel_rfl
theorem aKK:qG (iC 2 1 1 H ev 0) true 2 true S22 0 0 [opW 4 A1 c1 A2 c2]=0:=by kernel_rfl
theorem aKy:(xA (iC 2 1 1 H ev 0) true 2 true S22 0 0 [opW 4 A1 c1 A2 c2]).C=[⟨aP 0,1⟩,⟨aP 1,4⟩,⟨bT 0,3⟩]:=by kernel_rfl
theorem aKB:kY 0 0 [opW 4 A1 c1 A2 c2]=4:=by kernel_rfl
theorem aKA:kY 0 0 [opW 6 A1 c1 A2 c2]=6:=by kernel_rfl
theorem aKI:(iA 0 0 [opW 4 A1 c1 A2 c2]).length=2:=by kernel_rfl
theorem aKH:(iA 0 0 [opW 6 A1 c1 A2 c2]).length=2:=by kernel_rfl
theorem aIN:(eP S22 0 0 [opW 6 A1 c1 A2 c2]).C=[⟨aP 0,-1⟩,⟨aP 1,6⟩,⟨bT 0,3⟩]:=by kernel_rfl
theorem aKz:dM [⟨aP 0,-1⟩,⟨aP 1,6⟩,⟨bT 0,3⟩] bV 4=[⟨aP 0,-1⟩,⟨aP 1,6⟩,⟨bT 0,3⟩,⟨bV,4⟩]:=by kernel_rfl
theorem aKZ:aKl [⟨aP 0,-1⟩,⟨aP 1,6⟩,⟨bT 0,3⟩,⟨bV,4⟩]=[⟨aP 1,6⟩,⟨bT 0,3⟩,⟨bV,3⟩]:=by kernel_rfl
theorem aKY:vD 1 S22=⟨[⟨aP 0,5⟩,⟨bV,3⟩],[0,0],[],[],1⟩:=by kernel_rfl
theorem aKG:cY [⟨aP 0,1⟩,⟨aP 1,4⟩,⟨bT 0,3⟩] (aP 1)=4:=by kernel_rfl
theorem aKF:cY [⟨aP 0,-1⟩,⟨aP 1,6⟩,⟨bT 0,3⟩] (aP 0)=-1:=by kernel_rfl
theorem aKE:cY [⟨aP 1,6⟩,⟨bT 0,3⟩,⟨bV,3⟩] (aP 0)=0:=by kernel_rfl
theorem aKD:cY [⟨aP 1,6⟩,⟨bT 0,3⟩,⟨bV,3⟩] bV=3:=by kernel_rfl
theorem aKC:cY [⟨aP 0,5⟩,⟨bV,3⟩] bV=3:=by kernel_rfl
end
end
section
open Go.RowKit
attribute [local go_sem ↓] Go.wp_at_zero Go.wp_at_succ
section
variable {ops:Array Oper} {rest:List Oper} {o o2:Oper} {a:Act} {w:World} {K:Act→World→Prop} {Q:Exit→Act→World→Prop}
theorem eX (hgd:o.guard=none) (ty:TypeId) (x y:Operand) (ho:o.op=.store ty x y) (cs ds:Array Value) (v:Value) (hv:Value.agg ds=v) (hx:a.eval x=.pointer (some ⟨w.heap.size,0,none⟩)) (hy:a.eval y=v) (hcs:ds.size=cs.size) (hi:(Tryz.prog.info? ty).map (·.size)=some ds.size) (h1:ds.all (·.oneCell')=true)
  (h:∀ W2 g,Hid (Blk W2 g ty ds∧Ext w W2∧w.heap.size=g)→wpList Tryz.prog ops Q rest (a.put o.dst undef) W2):wpList Tryz.prog ops Q (o :: rest) a (w.alloc (.cells cs ty)):=by
 subst hv
 refine wpList_store_mid hgd ty x y ho w.heap.size 0 ds hx hy (by rw [hcs];exact aR (Blk.new w ty cs)) hi h1 ?_
 rw [fC w ty cs ds hcs]
 exact h _ _ (zh ⟨Blk.new w ty ds,(Ext.refl w).alloc' _,rfl⟩)
theorem iO (hgd:o.guard=none) (ty:TypeId) (x y:Operand) (ho:o.op=.store ty x y) (g:Nat) (cs ds:Array Value) (v:Value) (hv:Value.agg ds=v) (hx:a.eval x=.pointer (some ⟨g,0,none⟩)) (hy:a.eval y=v) (hcs:ds.size=cs.size) (hi:(Tryz.prog.info? ty).map (·.size)=some ds.size) (h1:ds.all (·.oneCell')=true) (hb:Blk w g ty cs)
  (h:∀ W2,Hid (Blk W2 g ty ds∧w.setCells g 0 ds.toList=W2)→wpList Tryz.prog ops Q rest (a.put o.dst undef) W2):wpList Tryz.prog ops Q (o :: rest) a w:=by
 subst hv
 exact wpList_store_mid hgd ty x y ho g 0 ds hx hy (by rw [hcs];exact aR hb) hi h1 (h _ (zh ⟨aQ hb hcs,rfl⟩))
end
theorem aEE (n:Int):opA (opW n none 0 none 0)=#[.int .i64 1,.int .i64 1,.int .i64 n,.int .i64 0,.int .i64 0,.int .u8 0,.int .u8 0,.int .u8 0,.int .u8 0,.int .u8 0,.int .u8 0,.int .u8 0,.int .u8 0,.int .u8 0,.int .u8 0,.int .u8 0,.int .u8 0,.int .u8 0,.int .u8 0,.int .u8 0,.int .u8 0,.slice none 0 0,.slice none 0 0]:=by
 unfold opA opW;simp only [cO 0 (by omega),cO 1 (by omega),cO 2 (by omega),cO 3 (by omega),cO 4 (by omega),cO 5 (by omega),cO 6 (by omega),cO 7 (by omega)]
theorem aKb (n:Int) (w:World) (g:Nat) (t:TypeId) (h:Blk w g t (opA (opW n none 0 none 0))):SlO w (some ⟨g,0,none⟩) 1 1 [opW n none 0 none 0] :=
 ⟨rfl,Nat.le_refl _,by omega,by
  have e:ocs [opW n none 0 none 0]=(opA (opW n none 0 none 0)).toList:=by rw [mQ,aDH,List.append_nil];rfl
  rw [e];exact Rd.of_blk h,fun R hR=>by
  rw [List.mem_singleton] at hR
  subst hR
  exact ⟨SlB.nil w,SlB.nil w⟩⟩
def tS (n:Int) (A:Option Addr) (c:Nat) (S:Option Addr) (m d:Nat) (A1:Option Addr) (c1:Nat) (A2:Option Addr) (c2:Nat) (sg:List UInt8):TxR:=⟨0,0,A,1,c,S,m,d,[opW n A1 c1 A2 c2],sg⟩
def aLa (n:Int) (w:World) (e:Ending) (w':World):Prop:=∃ (A:Option Addr) (c:Nat) (S:Option Addr) (m d:Nat) (A1:Option Addr) (c1:Nat) (A2:Option Addr) (c2:Nat) (sg:List UInt8),e=.returned (.tuple #[.agg (stA 0 0 A 1 c S m d),.int .i64 0])∧(tS n A c S m d A1 c1 A2 c2 sg).ok w'∧vSg (kM dZ 1) (tS n A c S m d A1 c1 A2 c2 sg)=true∧Ext w w'
theorem tK (n:Int) (hn:n=6 ∨ n=4) (w:World):Calls Tryz.prog 41 #[.agg #[.int .u8 1,.int .u8 0,.int .u8 0,.int .u8 0,.int .u8 0,.int .u8 0,.int .u8 0,.int .u8 0],.agg #[.int .i64 0,.int .i64 0,.slice (some ⟨w.heap.size,0,none⟩) 1 1]] (w.alloc (.cells #[.int .i64 1,.int .i64 1,.int .i64 n,.int .i64 0,.int .i64 0,.int .u8 0,.int .u8 0,.int .u8 0,.int .u8 0,.int .u8 0,.int .u8 0,.int .u8 0,.int .u8 0,.int .u8 0,.int .u8 0,.int .u8 0,.int .u8 0,.int .u8 0,.int .u8 0,.int .u8 0,.int .u8 0,.slice none 0 0,.slice none 0 0] 69)) (aLa n w):=by
 rw [← kK,← aEE n]
 refine (wG dZ 0 0 (some ⟨w.heap.size,0,none⟩) 1 1 [opW n none 0 none 0] _ (aKb n _ _ 69 (Blk.new w _ _))).mono ?_
 have hV:vTx 0 0 [opW n none 0 none 0]=true:=by rcases hn with rfl | rfl;exact vW6 none 0 none 0;exact vW4 none 0 none 0
 rintro e w' ⟨he,h⟩
 rcases h with ⟨h,-⟩ | ⟨-,T,rfl,hT,hv⟩
 ·rw [hV] at h;cases h
 have hl:aDr [opW n none 0 none 0]:=by
  intro R hR
  rw [List.mem_singleton] at hR
  subst hR
  exact ⟨rfl,rfl⟩
 have h1:=aEk dZ _ 0 0 _ rfl hl hV T (aHB hT) hv
 obtain ⟨ac,sq,A,k,c,S,m,d,L,sg⟩:=T
 unfold TxR.v at hv
 simp only [Prod.mk.injEq] at hv
 obtain ⟨rfl,rfl,h3,h4⟩:=hv
 have hops:=hT.ops
 simp only at hops h3 h4
 obtain ⟨A1,c1,A2,c2,rfl⟩:=aIZ hops.ok h3
 have h5:1=k:=hops.len
 subst h5
 exact ⟨A,c,S,m,d,A1,c1,A2,c2,sg,rfl,hT,h1,((Ext.refl w).alloc' _).trans he⟩
theorem aKx (H:List UInt8→UInt64) (ev:OpR→Bool) (A1:Option Addr) (c1:Nat) (A2:Option Addr) (c2:Nat):xA (iC 2 1 1 H ev 0) true 2 true S22 0 0 [opW 6 A1 c1 A2 c2]=S22:=by kernel_rfl
theorem aIT {w:World} {A:Option Addr} {n c:Nat} {l:List Int} (h:SlG w A n c l):SlZ w A n c l:=⟨h.len,h.le,h.cap,by
 have e:gcs l=ics l:=by
  induction l with
  | nil=>rfl
  | cons x r ih =>
   clear h ih
   generalize x :: r=L
   induction L with
   | nil=>rfl
   | cons y q iq=>rw [dC,iq];rfl
 rw [← e];exact h.rd⟩
theorem aDq {w:World} {s:StR} (h:s.ok w) (hv:s.V=S22):s.n1≤200000∧s.n2≤200000∧s.n3≤200000∧s.n4≤200000:=by
 rw [aKM] at hv
 have e1:s.C=_:=congrArg StV.C hv
 have e2:s.Q=_:=congrArg StV.Q hv
 have e3:s.K=_:=congrArg StV.K hv
 have e4:s.P=_:=congrArg StV.P hv
 have l1:=h.s1.len
 have l2:=h.s2.len
 have l3:=h.s3.len
 have l4:=h.s4.len
 rw [e1] at l1;rw [e2] at l2;rw [e3] at l3;rw [e4] at l4
 simp only [List.length_cons,List.length_nil] at l1 l2 l3 l4
 omega
theorem vI (n:Int) (hn:n=6 ∨ n=4) (s:StR) (hv:s.V=S22) (B1 B2 B3 A:Option Addr) (c:Nat) (S:Option Addr) (m d:Nat) (A1:Option Addr) (c1:Nat) (A2:Option Addr) (c2:Nat) (sg:List UInt8) (w:World) (hs:s.ok w) (hN:SlG w B2 2 2 [kM dZ 1,kM lH 1]) (hB:SlG w B3 2 2 [(5:Int),0]) (hT:(tS n A c S m d A1 c1 A2 c2 sg).ok w) (hg:vSg (kM dZ 1) (tS n A c S m d A1 c1 A2 c2 sg)=true) :
  Calls Tryz.prog 20 #[.agg (dY 1 3 B1 1 1 B2 2 2 B3 2 2),.agg (ssA s),.agg (stA 0 0 A 1 c S m d),.int .i64 1] w (fun e w'=>∃ (s2:StR) (A9:Option Addr) (n9 c9:Nat) (g9:Int),e=.returned (.tuple #[.agg (ssA s2),.agg (rcA ⟨if n=6 then 100 else 0,A9,n9,c9,if n=6 then 0 else 4,g9⟩)])∧s2.ok w'∧(n=6→s2.V=S22)∧(n=4→s2.C=[⟨aP 0,1⟩,⟨aP 1,4⟩,⟨bT 0,3⟩]∧n9=2)∧Ext w w'):=by
 have hA:=aBD ⟨1,3,B1,1,1,B2,2,2,B3,2,2,s,0,0,A,1,c,1⟩ S m d [opW n A1 c1 A2 c2] sg [kM dZ 1,kM lH 1] [5,0] (fun _=>false) true true _ w hs hT hN (aIT hB) (show (1:Nat)≤9223372036854775807 from by decide) (aDq hs hv) (by
  intro R hR
  rw [List.mem_singleton] at hR
  subst hR
  exact Nat.zero_le _) aKU hg rfl (by
  intro R hR hk
  rw [List.mem_singleton] at hR
  subst hR
  exact absurd (show (1:Int)=6 from hk) (by decide))
 refine hA.mono ?_
 simp only
 rw [hv]
 rintro e w' ⟨s2,A9,n9,c9,rfl,ho,hV,hl,he⟩
 rcases hn with rfl | rfl
 ·rw [aKJ] at hl ⊢
  rw [aKx] at hV ⊢
  exact ⟨s2,A9,n9,c9,_,rfl,ho.ok,fun _=>hV,fun h=>absurd h (by decide),he⟩
 rw [aKK] at hl ⊢
 refine ⟨s2,A9,n9,c9,rcG 0 S22 (xA (iC 2 1 1 dU (fun _=>false) 0) true 2 true S22 0 0 [opW 4 A1 c1 A2 c2]),?_,ho.ok,fun h=>absurd h (by decide),fun _=>⟨?_,?_⟩,he⟩
 ·rw [if_neg (by decide),if_neg (by decide),show rcO 0 0 0 [opW 4 A1 c1 A2 c2]=4 from by unfold rcO;rw [if_pos rfl,aKB]]
 ·exact (congrArg StV.C hV).trans (aKy _ _ A1 c1 A2 c2)
 have h1:=hl.len
 unfold rcE at h1
 rw [if_pos rfl,aKI] at h1
 exact h1.symm
def qK (L:List OpR) (n:Nat):Nat:=2 * ((List.range n).filter fun i=>decide ((bM L i).k ≠ 6)).length
theorem rI (L:List OpR) (n:Nat):qK L (n+1)=qK L n+(if (bM L n).k ≠ 6 then 2 else 0):=by
 unfold qK
 rw [List.range_succ,List.filter_append,List.length_append,List.filter_cons,List.filter_nil]
 by_cases h:(bM L n).k ≠ 6
 ·rw [if_pos (decide_eq_true h),if_pos h];simp;omega
 rw [if_neg (by simpa using h),if_neg h];simp
theorem aBH {ac sq:Int} {L:List OpR} {i:Nat} (h:1≤(bM L i).k∧(bM L i).k≤6):(cJ ac sq L i).length=if (bM L i).k ≠ 6 then 2 else 0:=by
 unfold cJ
 by_cases h6:(bM L i).k=6
 ·rw [if_neg (by omega),if_neg (by omega),if_neg (by omega),if_neg (by omega),if_neg (by omega)];rfl
 rw [if_pos h6]
 split
 ·rfl
 split
 ·rfl
 split
 ·rfl
 split
 ·rfl
 omega
theorem aGJ {ac sq:Int} {L:List OpR} (n:Nat) (h:∀ i,i < n→1≤(bM L i).k∧(bM L i).k≤6):(iB ac sq L n).length=qK L n:=by
 induction n with
 | zero=>rfl
 | succ n ih=>rw [dQ,List.length_append,ih (fun i hi=>h i (by omega)),aBH (h n (by omega)),rI]
theorem aEY (ac sq:Int) (L:List OpR) (i m:Nat):∃ r,iB ac sq L (i+1+m)=iB ac sq L i ++ (cJ ac sq L i ++ r):=by
 induction m with
 | zero=>exact ⟨[],by rw [Nat.add_zero,dQ,List.append_nil]⟩
 | succ m ih =>
  obtain ⟨r,hr⟩:=ih
  exact ⟨r ++ cJ ac sq L (i+1+m),by rw [← Nat.add_assoc,dQ,hr];simp only [List.append_assoc]⟩
theorem aGH {ac sq:Int} {L:List OpR} (hv:vTx ac sq L=true) {i:Nat} (hi:i < L.length) (h6:(bM L i).k ≠ 6) :
  qK L i+2≤(iA ac sq L).length∧((iA ac sq L).drop (qK L i)).take 2=cJ ac sq L i:=by
 have hk:∀ j,j < L.length→1≤(bM L j).k∧(bM L j).k≤6:=fun j hj=>(kJ ((dT hv).2 j hj)).1
 have e:iA ac sq L=iB ac sq L L.length:=by unfold iA;rw [if_pos hv]
 obtain ⟨r,hr⟩:=aEY ac sq L i (L.length - (i+1))
 rw [show i+1+(L.length - (i+1))=L.length by omega] at hr
 have hc:=aGJ (ac:=ac) (sq:=sq) i (fun j hj=>hk j (by omega))
 have h2:(cJ ac sq L i).length=2:=by rw [aBH (hk i hi),if_pos h6]
 rw [e,hr]
 refine ⟨by rw [List.length_append,List.length_append,hc,h2];omega,?_⟩
 rw [← hc,List.drop_left,← h2,List.take_left]
theorem aBG {o:Oper} {a:Act} (x y z:Operand) (ho:o.op=.slice 27 x (some y) (some z) none) (A:Option Addr) (n c k m:Nat) (hx:a.eval x=.slice A n c) (hy:a.eval y=.int .i64 (k:Int)) (hz:a.eval z=.int .i64 (m:Int)) (hkm:k≤m) (hmn:m≤n) (hnc:n≤c) (w:World) :
  (execOp a.eval o).run Tryz.prog w=.ok (.value (.slice (if c=k then A else A.map (·.add (k * 11))) (m - k) (c - k))) w:=by
 have i0:(0:Int)≤(k:Int):=by omega
 have i1:(k:Int)≤(m:Int):=by omega
 have i2:(m:Int)≤(c:Int):=by omega
 have i3:(0:Int)≤(m:Int):=by omega
 unfold execOp
 simp only [ho,hx,Option.map,hy,hz]
 go_simp
 split <;> (try rfl) <;> (cases A <;> rfl)
theorem vX {o:Oper} {a:Act} {w:World} {ops:Array Oper} {rest:List Oper} {Q:Exit→Act→World→Prop} (hgd:o.guard=none) (x y z:Operand) (ho:o.op=.slice 27 x (some y) (some z) none) (A:Option Addr) (n c k m:Nat) (hx:a.eval x=.slice A n c) (hy:a.eval y=.int .i64 (k:Int)) (hz:a.eval z=.int .i64 (m:Int)) (hkm:k≤m) (hmn:m≤n) (hnc:n≤c)
  (h:∀ A8,Hid ((if c=k then A else A.map (·.add (k * 11)))=A8)→wpList Tryz.prog ops Q rest (a.put o.dst (.slice A8 (m - k) (c - k))) w):wpList Tryz.prog ops Q (o :: rest) a w :=
 dS hgd (aBG x y z ho A n c k m hx hy hz hkm hmn hnc) (h _ (zh rfl))
theorem aCC (ac sq:Int) (A:Option Addr) (n c:Nat) (L:List OpR) (i:Nat) (w:World) (hS:SlO w A n c L) (hi:i < n) (hv:vTx ac sq L=true) :
  Calls Tryz.prog 118 #[.agg (txA ac sq A n c),.int .i64 (i:Int)] w (aGY w (cJ ac sq L i)):=by
 obtain ⟨W,hW⟩:∃ W,w.alloc (.cells (txA ac sq A n c) 24)=W:=⟨_,rfl⟩
 have HB:=zh (show Blk W w.heap.size 24 (txA ac sq A n c) from by rw [← hW];exact Blk.new w 24 (txA ac sq A n c))
 have HE:=zh (show Ext w W from by rw [← hW];exact (Ext.refl w).alloc' _)
 have HS:=zh hS
 have hle:=hS.le
 have hcap:=hS.cap
 have HLEN:=zh hS.len
 obtain ⟨⟨a1,a2,a3,a4,a5,a6⟩,hop⟩:=dT hv
 have hn4:n≤4:=by have:=HLEN.out;omega
 have HVT:=zh hv
 have HKB:=zh (show ∀ j,j < n→1≤(bM L j).k∧(bM L j).k≤6 from fun j hj=>(kJ (hop j (by rw [HLEN.out];exact hj))).1)
 obtain ⟨b,o,hA,-,-⟩:=HS.out.g.at (by omega)
 subst hA
 have HCELL:=zh (fun (V:World) (e:Ext w V) (j:Nat) (hj:j < n)=>show V.cell? ⟨b,o+j * 23,none⟩=some (.int .i64 (bM L j).k) from by
  obtain ⟨b2,o2,e2,hr2,-⟩:=(HS.out.ext e).g.at (by omega)
  injection e2 with e3
  injection e3 with e4 e5
  subst e4
  subst e5
  have h1:=cP (k:=j) hr2 (by rw [HLEN.out];exact hj)
  rw [← mR] at h1
  exact h1 0 _ rfl)
 clear hS hv hop a1 a2 a3 a4 a5 a6
 go_enter Tryz.func118,Tryz.ntmps118
 go_wp2_with fail
 go_loopw [5,6] (fun vk vj wr=>∃ j:Nat,vj=.int .i64 (j:Int)∧j≤i∧vk=.int .i64 (qK L j:Int)∧qK L j≤2 * j∧wr=W) (fun _ j _=>i - (intOf j).toNat)
 case atStart=>exact ⟨0,rfl,Nat.zero_le _,rfl,Nat.le_refl _,rfl⟩
 case round =>
  obtain ⟨j,rfl,hj,rfl,hc,rfl⟩:=hrel
  have t2:=HB.out.cell 2
  by_cases hlt:j < i
  ·have i0 : (0 : Int) ≤ (j : Int) := by omega
   have i1:(j:Int) < (i:Int):=by omega
   have i2:(j:Int) < (n:Int):=by omega
   have c0:=HCELL.out _ HE.out j (by omega)
   by_cases h6:(bM L j).k=6
   ·have HC := zh (show qK L (j + 1) = qK L j from by rw [rI, if_neg (by simp [h6])]; rfl)
    rw [h6] at c0
    clear h6
    go_wp2_with fail
    go_roundw
    case rel=>exact ⟨j+1,by go_num,hlt,by rw [HC.out],by rw [HC.out];omega,trivial⟩
    case measure=>simp [intOf];omega
   have HC:=zh (show qK L (j+1)=qK L j+2 from by rw [rI,if_pos h6])
   obtain ⟨z,hz⟩:∃ z,(bM L j).k=z:=⟨_,rfl⟩
   rw [hz] at c0 h6
   obtain ⟨ct,hct⟩:∃ ct,qK L j=ct:=⟨_,rfl⟩
   rw [hct] at hc HC ⊢
   have b1:(z != 6)=true:=bne_iff_ne.2 h6
   clear hz hct h6
   go_wp2_with fail
   go_roundw
   case rel=>exact ⟨j+1,by go_num,hlt,by rw [HC.out];go_num,by rw [HC.out];omega,trivial⟩
   case measure=>simp [intOf];omega
  obtain rfl:i=j:=by omega
  have i1:¬ (i:Int) < (i:Int):=by omega
  have i2:(i:Int) < (n:Int):=by omega
  have i3:(0:Int)≤(i:Int):=by omega
  have t0:=HB.out.cell 0
  have t1:=HB.out.cell 1
  have c0:=HCELL.out _ HE.out i hi
  by_cases h6:(bM L i).k=6
  ·have HZ:=zh (show cJ ac sq L i=[] from by
    unfold cJ
    rw [if_neg (by omega),if_neg (by omega),if_neg (by omega),if_neg (by omega)])
   rw [h6] at c0
   clear h6
   go_wp2_with fail
   go_ret
   exact ⟨none,0,0,rfl,by rw [HZ.out];exact SlG.nil _,HE.out⟩
  obtain ⟨p1,p2⟩:=aGH HVT.out (by rw [HLEN.out];exact hi) h6
  have HP2:=zh p2
  obtain ⟨z,hz⟩:∃ z,(bM L i).k=z:=⟨_,rfl⟩
  rw [hz] at c0 h6
  obtain ⟨ct,hct⟩:∃ ct,qK L i=ct:=⟨_,rfl⟩
  rw [hct] at hc p1 HP2 ⊢
  have b1:(z == 6)=false:=beq_eq_false_iff_ne.2 h6
  have b2:decide (z=6)=false:=decide_eq_false h6
  have HEF:=zh (aBa ac sq (some ⟨b,o,none⟩) n c L _ (HS.out.ext HE.out))
  clear hz hct h6 p2
  go_wp2_with fail
  refine HEF.out.mono ?_
  rintro e w5 ⟨A5,n5,c5,rfl,ho5,hw5,he5⟩
  have HSL:=zh (show SlG w5 A5 n5 c5 (iA ac sq L) from OwnG.sl (e:=34) ho5 hw5)
  have hn5:(iA ac sq L).length=n5:=HSL.out.len
  have hle5:=HSL.out.le
  have hcp5:=HSL.out.cap
  have hct5:ct≤ct+2:=by omega
  have hct6:ct+2≤n5:=by omega
  have HX5:=zh (HE.out.trans he5)
  clear ho5 hw5 he5 t0 t1 t2 c0 HEF
  go_wp2_with ((with_reducible refine vX rfl (.tmp 29) (.tmp 30) (.tmp 32) rfl A5 n5 c5 ct (ct+2) rfl rfl ?hz2 hct5 hct6 hle5 ?_);(case hz2=>go_num);intro A8 h8)
  go_ret
  refine ⟨A8,2,c5 - ct,rfl,?_,HX5.out⟩
  have hr:=Rd.cutG (k:=ct) (size:=11) HSL.out.rd rfl hn5 (by omega) hle5
  rw [h8.out] at hr
  have hd:=hr.take (2 * 11)
  have e2:(gcs ((iA ac sq L).drop ct)).take (2 * 11)=gcs (((iA ac sq L).drop ct).take 2):=gS (α:=DeR) _ 2
  rw [e2,HP2.out] at hd
  exact ⟨by rw [← HP2.out,List.length_take,List.length_drop];omega,by omega,by omega,hd,fun d hd=>by
   rw [← HP2.out] at hd
   exact HSL.out.ok d (List.mem_of_mem_drop (List.mem_of_mem_take hd))⟩
end
end Go.Proofs.YtohmmcahpakokaaGreat
