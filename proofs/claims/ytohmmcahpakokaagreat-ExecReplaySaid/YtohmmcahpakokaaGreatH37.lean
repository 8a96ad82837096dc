/- Receipts; the state of a step in a variable. -/
import Derived.Test.YtohmmcahpakokaaGreatH31
set_option maxRecDepth 100000
set_option maxHeartbeats 8000000
set_option linter.unusedVariables false
set_option linter.unusedSimpArgs false
namespace Go.Proofs.YtohmmcahpakokaaGreat
section
open Go.RowKit
attribute [local go_sem ↓] Go.wp_at_zero Go.wp_at_succ
structure RcR where
 cd:Int
 A:Option Addr
 n:Nat
 c:Nat
 o:Int
 g:Int
abbrev rcA (x:RcR):Array Value:=#[.int .i64 x.cd,.slice x.A x.n x.c,.int .i64 x.o,.int .i64 x.g]
def rcL (x:RcR):List Value:=(rcA x).toList
theorem aHp (x:RcR):∀ u ∈ rcL x,u.oneCell'=true:=by
 intro u hu
 simp only [rcL,List.mem_cons,List.not_mem_nil,or_false] at hu
 rcases hu with rfl | rfl | rfl | rfl <;> rfl
instance:RowT RcR where
 sz:=4
 z:=⟨0,none,0,0,0,0⟩
 enc:=rcL
 ok _ _:=True
 pos:=by decide
 len _:=rfl
 one:=aHp
 ext _ _ _ h _:=h
theorem rcP:RowP RcR 52 rcA:=⟨fun _=>rfl,by kernel_rfl,_,Tryz.underlying52,rfl⟩
def rc0:RcR:=⟨0,none,0,0,0,0⟩
theorem aFM {fn:Func} {p q:Tmp} {ty ty2:TypeId} (hres:fn.results=#[.cell p ty,.cell q ty2]) (tmps:Array Value) (w1:World) (g g2:Nat) (cs cs2:Array Value) (hp:tmps.getD p undef=.pointer (some ⟨g,0,none⟩)) (hq:tmps.getD q undef=.pointer (some ⟨g2,0,none⟩)) (hl:(loadVar ty ⟨g,0,none⟩).run Tryz.prog w1=.ok (.agg cs) w1) (hl2:(loadVar ty2 ⟨g2,0,none⟩).run Tryz.prog w1=.ok (.agg cs2) w1) :
  (results fn tmps).run Tryz.prog w1=.ok (.tuple #[.agg cs,.agg cs2]) w1:=by
 have hp':tmps[p]?.getD undef=.pointer (some ⟨g,0,none⟩):=by simpa using hp
 have hq':tmps[q]?.getD undef=.pointer (some ⟨g2,0,none⟩):=by simpa using hq
 simp [results,hres,hp',hq',asAddr,hl,hl2]
def rcE (cd ac sq:Int) (L:List OpR):List DeR:=if cd=0 then iA ac sq L else []
def rcO (cd ac sq:Int) (L:List OpR):Int:=if cd=0 then kY ac sq L else 0
def rcG (cd:Int) (S S1:StV):Int:=if cd=0 then bits .andNot .i64 S1.G S.G else 0
def aKQ (w:World) (V:StV) (cd:Int) (l:List DeR) (o g:Int) (e:Ending) (w':World):Prop :=
 ∃ (s:StR) (A:Option Addr) (n c:Nat),e=.returned (.tuple #[.agg (ssA s),.agg (rcA ⟨cd,A,n,c,o,g⟩)])∧OwnS w' w.heap.size s∧s.V=V∧SlG w' A n c l∧Ext w w'
structure StpB (w0 w:World) (P:Nat) (x:StpR):Prop where
 blk:Blk w P 86 (stpA x)
 own:OwnS w w0.heap.size x.s
 low:Ext w0 w
 hP:w0.heap.size≤P
section
variable {w0 w w':World} {P:Nat} {x:StpR}
theorem StpB.ext (h:StpB w0 w P x) (e:Ext w w'):StpB w0 w' P x:=⟨h.blk.ext e,h.own.ext e,h.low.trans e,h.hP⟩
theorem StpB.put (h:StpB w0 w P x) {s:StR} (ho:OwnS w w0.heap.size s):StpB w0 (w.setCells P 5 (ssA s).toList) P { x with s:=s }:=by
 refine ⟨?_,ho.kept (aB _ _ _ _) h.blk (by decide) (by decide) (by decide) (by decide),Below.setCells' h.low h.hP _ _,h.hP⟩
 exact ((((h.blk.set 5 _).set 6 _).set 7 _).set 8 _).set 9 _
theorem StpB.cell2 (h:StpB w0 w P x) {b:Nat} (hA:x.s.A2=some ⟨b,0,none⟩) (j:Nat) (z:Int) (hz:wfI z) :
  StpB w0 (w.setCell ⟨b,j,none⟩ (.int .i64 z)) P { x with s:={ x.s with Q:=x.s.Q.set j z } }:=by
 obtain ⟨gN,gZ,B1,m1,d1,B2,m2,d2,B3,m3,d3,s,ac,sq,A,n,c,ht⟩:=x
 obtain ⟨A1,n1,c1,C1,A2,n2,c2,Q1,A3,n3,c3,K1,A4,n4,c4,P1,G1⟩:=s
 simp only at hA
 subst hA
 have hl:=h.own.l2
 obtain ⟨k1,k2⟩:=World.ownsRow.stored h.own.o2 j (.int .i64 z)
 have hc:(gcs Q1).set j (.int .i64 z)=gcs (Q1.set j z):=by
  have e:∀ L:List Int,gcs L=L.map fun z=>Value.int .i64 z:=fun L=>by
   induction L with
   | nil=>rfl
   | cons x r ih=>rw [dC,ih];rfl
  rw [e,e,List.map_set]
 simp only at k1
 rw [hc] at k1
 have hg:w.grownBy (w.setCell ⟨b,j,none⟩ (.int .i64 z)) (some b):=k2
 have hb:Blk (w.setCell ⟨b,j,none⟩ (.int .i64 z)) P 86 _:=h.blk.grown hg (aK h.own.o2 h.blk (by decide))
 have o1:=World.ownsRow.kept h.own.o1 hg (dP h.own.o1 h.own.o2 (by decide))
 have o3:=World.ownsRow.kept h.own.o3 hg (dP h.own.o3 h.own.o2 (by decide))
 have o4:=World.ownsRow.kept h.own.o4 hg (dP h.own.o4 h.own.o2 (by decide))
 exact ⟨hb,⟨o1,k1,o3,o4,h.own.k1,fun y hy=>by
  rcases List.mem_or_eq_of_mem_set hy with hy | rfl
  ·exact h.own.k2 _ hy
  exact hz,h.own.k3,h.own.g⟩,Below.grown h.low hg h.low.size (fun k hk=>(World.ownsRow.lt h.own.o2 k hk).1),h.hP⟩
end
section
variable {ops:Array Oper} {rest:List Oper} {o:Oper} {a:Act} {w:World} {K:Act→World→Prop} {Q:Exit→Act→World→Prop} {X:Prop}
theorem yN (hgd:o.guard=none) (x y:Operand) (ho:o.op=.store 44 x y) (P:Nat) (v:Value) (s:StR) (hv:Value.agg (ssA s)=v) (hx:a.eval x=.pointer (some ⟨P,5,none⟩)) (hy:a.eval y=v) {z:StpR} (hb:Blk w P 86 (stpA z))
  (h:∀ W,Hid (w.setCells P 5 (ssA s).toList=W)→K (a.put o.dst undef) W):if Region.wanted o (yielded ops a.tmps)=true then Oper.wp Tryz.prog o a w K Q else X:=by
 have hw:Region.wanted o (yielded ops a.tmps)=true:=by simp [Region.wanted,hgd]
 rw [if_pos hw]
 exact wp_store_mid (P:=Tryz.prog) (Q:=Q) (op:=o) (K:=K) 44 x y ho P 5 (ssA s) hx (by rw [hy,hv]) (show w.there P 5 5 from xJ hb (show 5+5≤14 from by decide)) (by kernel_rfl) (yO s) (h _ (zh rfl))
theorem yS (w:World):(Instr.alloc 86 true (.tuple #[])).run Tryz.prog w=.ok (.pointer (some ⟨w.heap.size,0,none⟩)) (w.alloc (.cells (stpA RowT.z) 86)):=by kernel_rfl
theorem aAu (ho:o.op=.alloc 86)
  (h:∀ (g:Nat) (W2:World),Hid (Blk W2 g 86 (stpA RowT.z)∧Ext w W2∧w.heap.size≤g)→K (a.put o.dst (.pointer (some ⟨g,0,none⟩))) W2):o.wp Tryz.prog a w K Q:=by
 have this:=yS w
 have h2:=h _ _ (zh ⟨Blk.new w 86 (stpA RowT.z),(Ext.refl w).alloc' _,Nat.le_refl _⟩)
 clear h
 generalize w.alloc (.cells (stpA RowT.z) 86)=W2 at *
 unfold Oper.wp execOp
 simp only [ho,Sem.run_bind,Sem.run_pure,this,Result.andThen_ok,Oper.upon]
 exact h2
theorem iD {v:Value} (hr:∀ w,(execOp a.eval o).run Tryz.prog w=.ok (.value v) w) (h:K (a.put o.dst v) w):o.wp Tryz.prog a w K Q:=by
 unfold Oper.wp
 rw [hr w]
 exact h
theorem yC {ty:TypeId} {i j k l:Nat} (x y z u:Operand) (ho:o.op=.build ty #[(i,x),(j,y),(k,z),(l,u)]) {vx vy vz vu v:Value} (hx:a.eval x=vx) (hy:a.eval y=vy) (hz:a.eval z=vz) (hu:a.eval u=vu) (hr:∀ w,(Instr.build ty #[(i,vx),(j,vy),(k,vz),(l,vu)]).run Tryz.prog w=.ok v w) (w:World):(execOp a.eval o).run Tryz.prog w=.ok (.value v) w:=by
 unfold execOp
 simp only [ho,List.map_toArray,List.map_cons,List.map_nil,hx,hy,hz,hu,Sem.run_bind,hr,Result.andThen_ok,Sem.run_pure]
end
section
variable {α:Type} [RowT α] {ty:TypeId} {arr:α→Array Value} {o:Oper} {a:Act} {w:World} {ops:Array Oper} {rest:List Oper} {Q:Exit→Act→World→Prop} {K:Act→World→Prop} {X:Prop}
theorem mG (h:RowP α ty arr) (hgd:o.guard=none) (x y:Operand) (ho:o.op=.store ty x y) (b of:Nat) (hx:a.eval x=.pointer (some ⟨b,of,none⟩)) (R:α) (v:Value) (hv:Value.agg (arr R)=v) (hy:a.eval y=v) (ht:w.there b of (RowT.sz α))
  (hn:∀ W2,Hid (w.setCells b of (RowT.enc R)=W2)→wpList Tryz.prog ops Q rest (a.put o.dst undef) W2):wpList Tryz.prog ops Q (o :: rest) a w :=
 bL h hgd x y ho b of hx R v hv hy ht (hn _ (zh rfl))
theorem pE (h:RowP α ty arr) (hgd:o.guard=none) (x y:Operand) (ho:o.op=.store ty x y) (b of:Nat) (hx:a.eval x=.pointer (some ⟨b,of,none⟩)) (R:α) (v:Value) (hv:Value.agg (arr R)=v) (hy:a.eval y=v) (ht:w.there b of (RowT.sz α))
  (hn:∀ W2,Hid (w.setCells b of (RowT.enc R)=W2)→K (a.put o.dst undef) W2):if Region.wanted o (yielded ops a.tmps)=true then Oper.wp Tryz.prog o a w K Q else X :=
 aAG h hgd x y ho b of hx R v hv hy ht (hn _ (zh rfl))
end
theorem aCx (x:StpR) (w:World):(Instr.build 86 #[(0,.agg (dY x.gN x.gZ x.B1 x.m1 x.d1 x.B2 x.m2 x.d2 x.B3 x.m3 x.d3)),(1,.agg (ssA x.s)),(2,.agg (txA x.ac x.sq x.A x.n x.c)),(3,.int .i64 x.ht)]).run Tryz.prog w=.ok (.agg (stpA x)) w:=by kernel_rfl
theorem aCy (x:RcR) (w:World):(Instr.build 52 #[(0,.int .i64 x.cd),(1,.slice x.A x.n x.c),(2,.int .i64 x.o),(3,.int .i64 x.g)]).run Tryz.prog w=.ok (.agg (rcA x)) w:=by kernel_rfl
theorem vF {o:Oper} {a:Act} (x y:Operand) (ho:o.op=.slice 27 x (some y) none none) (A:Option Addr) (n c k:Nat) (hx:a.eval x=.slice A n c) (hy:a.eval y=.int .i64 (k:Int)) (hkn:k≤n) (hnc:n≤c) (w:World) :
  (execOp a.eval o).run Tryz.prog w=.ok (.value (.slice (if c=k then A else A.map (·.add (k * 11))) (n - k) (c - k))) w:=by
 have i0:(0:Int)≤(k:Int):=by omega
 have i1:(k:Int)≤(n:Int):=by omega
 have i2:(n:Int)≤(c:Int):=by omega
 unfold execOp
 simp only [ho,hx,Option.map,hy]
 go_simp
 split <;> (try rfl) <;> (cases A <;> rfl)
theorem aBF {o:Oper} {a:Act} (x y:Operand) (ho:o.op=.slice 27 x (some y) none none) (A:Option Addr) (n c k:Nat) (hx:a.eval x=.slice A n c) (hy:a.eval y=.int .i64 (k:Int)) (hkn:k≤n) (hnc:n≤c) (A8:Option Addr) (hA:(if c=k then A else A.map (·.add (k * 11)))=A8) (w:World) :
  (execOp a.eval o).run Tryz.prog w=.ok (.value (.slice A8 (n - k) (c - k))) w:=by
 rw [← hA];exact vF x y ho A n c k hx hy hkn hnc w
theorem pB {o:Oper} {a:Act} {w:World} {ops:Array Oper} {rest:List Oper} {Q:Exit→Act→World→Prop} (hgd:o.guard=none) (x y:Operand) (ho:o.op=.slice 27 x (some y) none none) (A:Option Addr) (n c k:Nat) (hx:a.eval x=.slice A n c) (hy:a.eval y=.int .i64 (k:Int)) (hkn:k≤n) (hnc:n≤c)
  (h:∀ A8,Hid ((if c=k then A else A.map (·.add (k * 11)))=A8)→wpList Tryz.prog ops Q rest (a.put o.dst (.slice A8 (n - k) (c - k))) w):wpList Tryz.prog ops Q (o :: rest) a w :=
 dS hgd (vF x y ho A n c k hx hy hkn hnc) (h _ (zh rfl))
theorem vE {o:Oper} {a:Act} (x y:Operand) (ho:o.op=.slice 41 x (some y) none none) (A:Option Addr) (n c k:Nat) (hx:a.eval x=.slice A n c) (hy:a.eval y=.int .i64 (k:Int)) (hkn:k≤n) (hnc:n≤c) (w:World) :
  (execOp a.eval o).run Tryz.prog w=.ok (.value (.slice (if c=k then A else A.map (·.add (k * 19))) (n - k) (c - k))) w:=by
 have i0:(0:Int)≤(k:Int):=by omega
 have i1:(k:Int)≤(n:Int):=by omega
 have i2:(n:Int)≤(c:Int):=by omega
 unfold execOp
 simp only [ho,hx,Option.map,hy]
 go_simp
 split <;> (try rfl) <;> (cases A <;> rfl)
theorem aBE {o:Oper} {a:Act} (x y:Operand) (ho:o.op=.slice 41 x (some y) none none) (A:Option Addr) (n c k:Nat) (hx:a.eval x=.slice A n c) (hy:a.eval y=.int .i64 (k:Int)) (hkn:k≤n) (hnc:n≤c) (A8:Option Addr) (hA:(if c=k then A else A.map (·.add (k * 19)))=A8) (w:World) :
  (execOp a.eval o).run Tryz.prog w=.ok (.value (.slice A8 (n - k) (c - k))) w:=by
 rw [← hA];exact vE x y ho A n c k hx hy hkn hnc w
theorem pA {o:Oper} {a:Act} {w:World} {ops:Array Oper} {rest:List Oper} {Q:Exit→Act→World→Prop} (hgd:o.guard=none) (x y:Operand) (ho:o.op=.slice 41 x (some y) none none) (A:Option Addr) (n c k:Nat) (hx:a.eval x=.slice A n c) (hy:a.eval y=.int .i64 (k:Int)) (hkn:k≤n) (hnc:n≤c)
  (h:∀ A8,Hid ((if c=k then A else A.map (·.add (k * 19)))=A8)→wpList Tryz.prog ops Q rest (a.put o.dst (.slice A8 (n - k) (c - k))) w):wpList Tryz.prog ops Q (o :: rest) a w :=
 dS hgd (vE x y ho A n c k hx hy hkn hnc) (h _ (zh rfl))
theorem aCZ {o:Oper} {a:Act} (x y:Operand) (ho:o.op=.slice 37 x (some y) none none) (A:Option Addr) (n c k:Nat) (hx:a.eval x=.slice A n c) (hy:a.eval y=.int .i64 (k:Int)) (hkn:k≤n) (hnc:n≤c) (w:World) :
  (execOp a.eval o).run Tryz.prog w=.ok (.value (.slice (if c=k then A else A.map (·.add (k * 8))) (n - k) (c - k))) w:=by
 have i0:(0:Int)≤(k:Int):=by omega
 have i1:(k:Int)≤(n:Int):=by omega
 have i2:(n:Int)≤(c:Int):=by omega
 unfold execOp
 simp only [ho,hx,Option.map,hy]
 go_simp
 split <;> (try rfl) <;> (cases A <;> rfl)
theorem oZ {o:Oper} {a:Act} {w:World} {ops:Array Oper} {rest:List Oper} {Q:Exit→Act→World→Prop} (hgd:o.guard=none) (x y:Operand) (ho:o.op=.slice 37 x (some y) none none) (A:Option Addr) (n c k:Nat) (hx:a.eval x=.slice A n c) (hy:a.eval y=.int .i64 (k:Int)) (hkn:k≤n) (hnc:n≤c)
  (h:∀ A8,Hid ((if c=k then A else A.map (·.add (k * 8)))=A8)→wpList Tryz.prog ops Q rest (a.put o.dst (.slice A8 (n - k) (c - k))) w):wpList Tryz.prog ops Q (o :: rest) a w :=
 dS hgd (aCZ x y ho A n c k hx hy hkn hnc) (h _ (zh rfl))
theorem Rd.cutG {α:Type} [RowT α] {w:World} {A:Option Addr} {n c k size:Nat} {L:List α} (h:Rd w A (gcs L)) (hsz:RowT.sz α=size) (hl:L.length=n) (hk:k≤n) (hc:n≤c):Rd w (if c=k then A else A.map (·.add (k * size))) (gcs (L.drop k)):=by
 subst hsz
 by_cases e:c=k
 ·have : L.drop k = [] := List.drop_eq_nil_of_le (by omega)
  rw [this,aDP];exact .nil
 have:=h.cut (n:=n) (k:=k) (c:=c) (size:=RowT.sz α) (by rw [aH,hl]) hk hc
 rw [eF] at this
 rw [if_neg (by omega)] at this
 rw [if_neg e]
 exact this
theorem aDB {α:Type} [RowT α] {P:Program} {t e:TypeId} {z:Value} {size bytes:Nat} (E:Elem P t e z size bytes) (hsz:RowT.sz α=size) {w:World} {base g n c:Nat} {L:List α} {i:Nat} (h:w.ownsRow base e size (.slice (some ⟨g,0,none⟩) n c) n (gcs L)) (hi:i < n) (hn:n≤2305843009213693952) (ad:Addr) (had:(if c=i+1 then ⟨g,0,none⟩ else (⟨g,(i+1) * size,none⟩:Addr))=ad) :
  ∃ W1,(∀ ty,(Builtin.append_ #[t,t] ty #[.slice (some ⟨g,0,none⟩) i c,.slice (some ad) (n - (i+1)) (c - (i+1))]).run P w=.ok (.slice (some ⟨g,0,none⟩) (n - 1) c) W1)∧W1.ownsRow base e size (.slice (some ⟨g,0,none⟩) (n - 1) c) (n - 1) (gcs (L.take i ++ L.drop (i+1)))∧w.grownBy W1 (some g):=by
 subst hsz
 obtain ⟨hle,hcap⟩:=dO h
 have HLEN:L.length=n:=OwnG.len (e:=e) h
 obtain ⟨ti,hti,htz,htsz,htby⟩:=Elem.get E
 have hsrc0:∀ k v,(gcs L)[k]?=some v→w.cell? ⟨g,k,none⟩=some v:=fun k v hv=>by
  obtain ⟨g',hgg,_,hra⟩:=cI h (by omega)
  obtain rfl:g=g':=by injection hgg with h1;injection h1
  have:=hra k v hv;rwa [Nat.zero_add] at this
 have hdl:(gcs (L.drop (i+1))).length=(n - (i+1)) * RowT.sz α:=by rw [aH,List.length_drop,HLEN]
 have hfit:i * RowT.sz α+(n - (i+1)) * RowT.sz α≤n * RowT.sz α:=by rw [← Nat.add_mul];exact Nat.mul_le_mul_right _ (by omega)
 have hxl:(gcs L).length=n * RowT.sz α:=by rw [aH,HLEN]
 have hnews:∀ j u,(gcs (L.drop (i+1)))[j]?=some u→w.cell? (ad.add j)=some u:=fun j u hu=>by
  have hj:=(List.getElem?_eq_some_iff.1 hu).1
  rw [hdl] at hj
  by_cases hc:c=i+1
  ·have : n - (i + 1) = 0 := by omega
   rw [this] at hj;omega
  rw [← had,if_neg hc,Addr.add_mid]
  refine hsrc0 _ u ?_
  rw [← eF,List.getElem?_drop] at hu
  exact hu
 have hrun:=fun ty=>run_append_room_cells (P:=P) (w:=w) t ty e ti (Elem.ut E) hti g 0 i c ad (n - (i+1)) (c - (i+1)) (gcs (L.drop (i+1))) (by rw [htsz];exact hdl) hnews (bF _) (by omega)
  (fun j hj=>by rw [htsz,Nat.zero_add,h.cellAt (i * RowT.sz α+j) (by omega),List.getElem?_eq_getElem (by omega)];rfl) (fun j hj=>by rw [htsz,Nat.zero_add];exact h.frozenAt _)
 rw [htsz,Nat.zero_add,show i+(n - (i+1))=n - 1 by omega] at hrun
 obtain ⟨s1,s2⟩:=jR (gcs (L.drop (i+1))) (i * RowT.sz α) w (gcs L) (by omega) h
 refine ⟨_,hrun,?_,s2⟩
 have:=sS s1 (i:=n - 1) (by omega) (by simp)
 have hd:=rG L (i:=i) (by rw [HLEN];exact hi)
 rw [HLEN] at hd
 rw [hd] at this
 exact this
def aKS (w:World) (C:List DeR) (c:CeR) (e:Ending) (w':World):Prop:=∃ r,e=.returned (.int .i64 r)∧IxIs (fun d:DeR=>decide (d.c=c)) C r∧Ext w w'
theorem aDD (s:StR) (c:CeR) (w:World) (h:s.ok w) (hc:ceW c):Calls Tryz.prog 70 #[.agg (ssA s),.agg (ceA c)] w (aKS w s.C c):=by
 obtain ⟨W,hW⟩:∃ W,(w.alloc (.cells (ssA s) 44)).alloc (.cells (ceA c) 32)=W:=⟨_,rfl⟩
 have HB:=zh (show Blk W w.heap.size 44 (ssA s) from by rw [← hW];exact (Blk.new w 44 (ssA s)).alloc _)
 have HC:=zh (show Blk W (w.heap.size+1) 32 (ceA c) from by rw [← hW];exact Blk.newAt _ _ _ _ (by simp))
 have HE:=zh (show Ext w W from by rw [← hW];exact ((Ext.refl w).alloc' _).alloc' _)
 have HS:=zh h.s1
 have HCW:=zh hc
 have HLEN:=zh h.s1.len
 have hle:=h.s1.le
 have hcap:=h.s1.cap
 clear h hc
 go_enter Tryz.func70,Tryz.ntmps70
 go_wp2_with fail
 go_loopw [5] (fun vi wr=>∃ k:Nat,vi=.int .i64 (k:Int)∧k≤s.n1∧Hid (∀ j,j < k→decide ((aM s.C j).c=c)=false)∧Hid (Ext W wr)) (fun i _=>s.n1 - (intOf i).toNat)
 case atStart=>exact ⟨0,rfl,Nat.zero_le _,zh (fun j hj=>absurd hj (Nat.not_lt_zero _)),zh (Ext.refl W)⟩
 case round =>
  obtain ⟨k,rfl,hk,HN,HXW⟩:=hrel
  have HB1:=zh (HB.out.ext HXW.out)
  have HC1:=zh (HC.out.ext HXW.out)
  have HX:=zh (HE.out.trans HXW.out)
  have q0:=HB1.out.cell 0
  by_cases hlt:k < s.n1
  ·have i0 : (0 : Int) ≤ (k : Int) := by omega
   have i1:(k:Int) < (s.n1:Int):=by omega
   obtain ⟨d,hd⟩:∃ d,aM s.C k=d:=⟨_,rfl⟩
   obtain ⟨b,o,hab,hrow,-⟩:=HS.out.at (by omega)
   have HAB:=zh hab
   have HDR:=zh (fun (V:World) (e:Ext w V)=>show V.rangeAt b (o+k * 11) (RowT.enc d.c) from by
    rw [← hd]
    obtain ⟨b2,o2,e2,hr2,-⟩:=(HS.out.ext e).at (by omega)
    rw [HAB.out] at e2
    injection e2 with e3
    injection e3 with e4 e5
    subst e4
    subst e5
    have:=aY (k:=10) (cP (k:=k) hr2 (by rw [HLEN.out];exact hlt))
    exact this)
   have hdw:deW d:=by rw [← hd];exact HS.out.nth hlt
   have HEQ:=zh (fun W=>tQ d.c c hdw.1 HCW.out W)
   obtain ⟨eq,heq⟩:∃ eq,decide (d.c=c)=eq:=⟨_,rfl⟩
   rw [heq] at HEQ
   have HDK:=zh (show decide ((aM s.C k).c=c)=eq from by rw [hd];exact heq)
   clear hab hrow hd hdw heq
   go_upto_region 4 with fail
   clear q0
   refine wp_region_held_drew (S:=fun V=>Blk V w.heap.size 44 (ssA s)∧Blk V (w.heap.size+1) 32 (ceA c)∧Ext w V) (by kernel_rfl) (⟨HB1.out.drew,HC1.out.drew,HX.out.trans ((Ext.refl _).drew')⟩) (fun aA=>?_)
   refine zz0 [0,1,2,3,4] ?_;repeat first | refine zz1 ?_ (hy:=by intro W aI;have q1:W.cell? ⟨w.heap.size,0,none⟩=some (.slice (some ⟨b,o,none⟩) s.n1 s.c1):=(by rw [← HAB.out];exact aI.1.cell 0);go_simp <;> with_reducible rfl) | refine zz2 ?_ | refine zz9 ?_
   refine zu 5 (v:=.agg (ceA d.c)) aA ?_ (hy:=by exact aG ceP (by rfl) (.tmp 17) rfl b (o+k * 11) rfl d.c _ rfl (fun V h=>HDR.out V h.2.2))
   refine zu 6 (v:=.agg (ceA c)) aA ?_ (hy:=by exact aG ceP (by rfl) (.tmp 3) rfl (w.heap.size+1) 0 rfl c _ rfl (fun V h=>aD h.2.1))
   refine zu 7 (v:=.bool eq) aA ?_ (hy:=by exact cK (by rfl) (.tmp 18) (.tmp 19) (by rfl) (vx:=.agg (ceA d.c)) (vy:=.agg (ceA c)) (by rfl) (by rfl) (lA _ _ _ _ _) HEQ.out)
   refine wpAnyH_done (by kernel_rfl) ?_ _
   have HXN:=zh (HXW.out.trans ((Ext.refl _).drew'))
   have HXX:=zh (HX.out.trans ((Ext.refl _).drew'))
   clear aA
   cases eq
   ·go_wp2_with fail
    go_roundw
    case rel=>exact ⟨k+1,by go_num,hlt,zh (fun j hj=>by
     rcases (by omega:j < k ∨ j=k) with hj | rfl
     ·exact HN.out j hj
     exact HDK.out),HXN⟩
    case measure=>simp [intOf];omega
   go_wp2_with fail
   go_ret
   exact ⟨_,rfl,.inr ⟨k,rfl,by rw [HLEN.out];exact hlt,HDK.out,HN.out⟩,HXX.out⟩
  obtain rfl:s.n1=k:=by omega
  have i1:¬ (s.n1:Int) < (s.n1:Int):=by omega
  go_wp2_with fail
  go_ret
  exact ⟨_,rfl,.inl ⟨rfl,fun j hj=>HN.out j (by rw [← HLEN.out];exact hj)⟩,HX.out⟩
theorem kW (s:StR) (c:CeR) (w:World) (h:s.ok w) (hc:ceW c):Calls Tryz.prog 30 #[.agg (ssA s),.agg (ceA c)] w fun e w'=>e=.returned (.int .i64 (cY s.C c))∧Ext w w':=by
 obtain ⟨W,hW⟩:∃ W,(w.alloc (.cells (ssA s) 44)).alloc (.cells (ceA c) 32)=W:=⟨_,rfl⟩
 have HB:=zh (show Blk W w.heap.size 44 (ssA s) from by rw [← hW];exact (Blk.new w 44 (ssA s)).alloc _)
 have HC:=zh (show Blk W (w.heap.size+1) 32 (ceA c) from by rw [← hW];exact Blk.newAt _ _ _ _ (by simp))
 have HE:=zh (show Ext w W from by rw [← hW];exact ((Ext.refl w).alloc' _).alloc' _)
 have HS:=zh h
 have HCW:=zh hc
 have hle:=h.s1.le
 have hcap:=h.s1.cap
 have rc:W.rangeAt (w.heap.size+1) 0 (RowT.enc c):=aD HC.out
 obtain ⟨q0,q1,q2,q3,q4⟩:=aE HB.out
 clear h hc
 go_enter Tryz.func30,Tryz.ntmps30
 go_wp2_with (first | (with_reducible refine aC ceP rfl (.tmp 3) rfl (w.heap.size+1) 0 rfl c _ rfl rc ?_) | fail "A")
 refine (aDD s c W (HS.out.ext HE.out) HCW.out).mono ?_
 rintro e w5 ⟨r,rfl,hr,he5⟩
 have HX5:=zh (HE.out.trans he5)
 rcases hr with ⟨rfl,hno⟩ | ⟨k,rfl,hk,h1,h2⟩
 ·have HG := zh (show cY s.C c = 0 from jG (sW hno))
  clear he5 q0 q1 q2 q3 q4 rc hno
  go_wp2_with fail
  go_ret
  exact ⟨by rw [HG.out];rfl,HX5.out⟩
 have HG:=zh (show cY s.C c=(aM s.C k).a from jG (qE hk h1 h2))
 have hkn:k < s.n1:=by rw [← HS.out.s1.len];exact hk
 have i0:¬ (k:Int) < 0:=by omega
 have i2:(0:Int)≤(k:Int):=by omega
 have i1:(k:Int) < (s.n1:Int):=by omega
 obtain ⟨b,o,hab,hcell⟩:=uX (HS.out.ext HX5.out).s1 hkn
 have p0:w5.cell? ⟨w.heap.size,0,none⟩=some (.slice (some ⟨b,o,none⟩) s.n1 s.c1):=by rw [← hab];exact (HB.out.ext he5).cell 0
 clear he5 q0 q1 q2 q3 q4 rc hk h1 h2 hab
 go_wp2_with fail
 go_ret
 exact ⟨by rw [HG.out];rfl,HX5.out⟩
theorem lM (A:Option Addr) (n c:Nat) (L:List UInt64) (x:UInt64) (w:World) (h:SlG w A n c L):Calls Tryz.prog 34 #[.slice A n c,.agg (nmc x)] w fun e w'=>e=.returned (.bool (decide (x ∈ L)))∧Ext w w':=by
 obtain ⟨W,hW⟩:∃ W,w.alloc (.cells (nmc x) 30)=W:=⟨_,rfl⟩
 have HC:=zh (show Blk W w.heap.size 30 (nmc x) from by rw [← hW];exact Blk.new w 30 (nmc x))
 have HE:=zh (show Ext w W from by rw [← hW];exact (Ext.refl w).alloc' _)
 have HS:=zh h
 have HLEN:=zh h.len
 have hle:=h.le
 have hcap:=h.cap
 clear h
 go_enter Tryz.func34,Tryz.ntmps34
 go_wp2_with fail
 go_loopw [5] (fun vi wr=>∃ k:Nat,vi=.int .i64 (k:Int)∧k≤n∧Hid (∀ j,j < k→decide (aM L j=x)=false)∧Hid (Ext W wr)) (fun i _=>n - (intOf i).toNat)
 case atStart=>exact ⟨0,rfl,Nat.zero_le _,zh (fun j hj=>absurd hj (Nat.not_lt_zero _)),zh (Ext.refl W)⟩
 case round =>
  obtain ⟨k,rfl,hk,HN,HXW⟩:=hrel
  have HC1:=zh (HC.out.ext HXW.out)
  have HX:=zh (HE.out.trans HXW.out)
  by_cases hlt:k < n
  ·have i0 : (0 : Int) ≤ (k : Int) := by omega
   have i1:(k:Int) < (n:Int):=by omega
   obtain ⟨d,hd⟩:∃ d,aM L k=d:=⟨_,rfl⟩
   obtain ⟨b,o,hab,hrow,-⟩:=HS.out.at (by omega)
   subst hab
   have HDR:=zh (fun (V:World) (e:Ext w V)=>show V.rangeAt b (o+k * 8) (RowT.enc d) from by
    rw [← hd]
    obtain ⟨b2,o2,e2,hr2,-⟩:=(HS.out.ext e).at (by omega)
    injection e2 with e3
    injection e3 with e4 e5
    subst e4
    subst e5
    exact cP (k:=k) hr2 (by rw [HLEN.out];exact hlt))
   have HEQ:=zh (fun W=>cZ d x W)
   obtain ⟨eq,heq⟩:∃ eq,decide (d=x)=eq:=⟨_,rfl⟩
   rw [heq] at HEQ
   have HDK:=zh (show decide (aM L k=x)=eq from by rw [hd];exact heq)
   clear hrow hd heq
   go_upto_region 4 with fail
   refine wp_region_held_drew (S:=fun V=>Blk V w.heap.size 30 (nmc x)∧Ext w V) (by kernel_rfl) (⟨HC1.out.drew,HX.out.trans ((Ext.refl _).drew')⟩) (fun aA=>?_)
   refine zzr [0,1,2] ?_
   refine zu 3 (v:=.agg (nmc d)) aA ?_ (hy:=by exact aG nmP (by rfl) (.tmp 14) rfl b (o+k * 8) rfl d _ rfl (fun V h=>HDR.out V h.2))
   refine zu 4 (v:=.agg (nmc x)) aA ?_ (hy:=by exact aG nmP (by rfl) (.tmp 3) rfl w.heap.size 0 rfl x _ rfl (fun V h=>bP h.1))
   refine zu 5 (v:=.bool eq) aA ?_ (hy:=by exact cK (by rfl) (.tmp 15) (.tmp 16) (by rfl) (vx:=.agg (nmc d)) (vy:=.agg (nmc x)) (by rfl) (by rfl) (fZ _ _ _ _ _) HEQ.out)
   refine wpAnyH_done (by kernel_rfl) ?_ _
   have HXN:=zh (HXW.out.trans ((Ext.refl _).drew'))
   have HXX:=zh (HX.out.trans ((Ext.refl _).drew'))
   clear aA
   cases eq
   ·go_wp2_with fail
    go_roundw
    case rel=>exact ⟨k+1,by go_num,hlt,zh (fun j hj=>by
     rcases (by omega:j < k ∨ j=k) with hj | rfl
     ·exact HN.out j hj
     exact HDK.out),HXN⟩
    case measure=>simp [intOf];omega
   have HF:=zh (show decide (x ∈ L)=true from by
    have h1:aM L k=x:=of_decide_eq_true HDK.out
    exact decide_eq_true (by rw [← h1];exact jS (by rw [HLEN.out];exact hlt)))
   go_wp2_with fail
   go_ret
   exact ⟨by rw [HF.out];rfl,HXX.out⟩
  obtain rfl:n=k:=by omega
  have i1:¬ (n:Int) < (n:Int):=by omega
  have HF:=zh (show decide (x ∈ L)=false from decide_eq_false (fun hm=>by
   obtain ⟨j,hj,hx⟩:=List.getElem_of_mem hm
   have:=HN.out j (by rw [← HLEN.out];exact hj)
   rw [← cD hj] at this
   exact (of_decide_eq_false this) hx))
  go_wp2_with fail
  go_ret
  exact ⟨by rw [HF.out];rfl,HX.out⟩
theorem wR (s:StR) (x:UInt64) (w:World) (h:s.ok w):Calls Tryz.prog 113 #[.agg (ssA s),.agg (nmc x)] w fun e w'=>e=.returned (.tuple #[.agg (lkA (lkO (fdK s.K x))),.bool (fdK s.K x).isSome])∧Ext w w':=by
 obtain ⟨W,hW⟩:∃ W,((w.alloc (.cells (ssA s) 44)).alloc (.cells (nmc x) 30)).alloc (.cells lk0 94)=W:=⟨_,rfl⟩
 have HB:=zh (show Blk W w.heap.size 44 (ssA s) from by rw [← hW];exact ((Blk.new w 44 (ssA s)).alloc _).alloc _)
 have HC:=zh (show Blk W (w.heap.size+1) 30 (nmc x) from by rw [← hW];exact Blk.alloc (Blk.newAt _ _ _ _ (by simp)) _)
 have HD:=zh (show Blk W (w.heap.size+2) 94 lk0 from by rw [← hW];exact Blk.newAt _ _ _ _ (by simp))
 have HE:=zh (show Ext w W from by rw [← hW];exact (((Ext.refl w).alloc' _).alloc' _).alloc' _)
 have HS:=zh h.s3
 have HLEN:=zh h.s3.len
 have hle:=h.s3.le
 have hcap:=h.s3.cap
 clear h
 go_enter Tryz.func113,Tryz.ntmps113
 go_wp2_with fail
 go_loopw [6] (fun vi wr=>∃ k:Nat,vi=.int .i64 (k:Int)∧k≤s.n3∧Hid (∀ j,j < k→decide ((aM s.K j).nm=x)=false)∧Hid (Ext W wr)) (fun i _=>s.n3 - (intOf i).toNat)
 case atStart=>exact ⟨0,rfl,Nat.zero_le _,zh (fun j hj=>absurd hj (Nat.not_lt_zero _)),zh (Ext.refl W)⟩
 case round =>
  obtain ⟨k,rfl,hk,HN,HXW⟩:=hrel
  have HB1:=zh (HB.out.ext HXW.out)
  have HC1:=zh (HC.out.ext HXW.out)
  have HD1:=zh (HD.out.ext HXW.out)
  have HX:=zh (HE.out.trans HXW.out)
  obtain ⟨-,-,q2,-,-⟩:=aE HB1.out
  by_cases hlt:k < s.n3
  ·have i0 : (0 : Int) ≤ (k : Int) := by omega
   have i1:(k:Int) < (s.n3:Int):=by omega
   obtain ⟨d,hd⟩:∃ d,aM s.K k=d:=⟨_,rfl⟩
   obtain ⟨b,o,hab,hrow,-⟩:=HS.out.at (by omega)
   have HAB:=zh hab
   have HLR:=zh (fun (V:World) (e:Ext w V)=>show V.rangeAt b (o+k * 19) (RowT.enc d) from by
    rw [← hd]
    obtain ⟨b2,o2,e2,hr2,-⟩:=(HS.out.ext e).at (by omega)
    rw [HAB.out] at e2
    injection e2 with e3
    injection e3 with e4 e5
    subst e4
    subst e5
    exact cP (k:=k) hr2 (by rw [HLEN.out];exact hlt))
   have HDR:=zh (fun (V:World) (e:Ext w V)=>show V.rangeAt b (o+k * 19) (RowT.enc d.nm) from by
    have:=aY (k:=8) (HLR.out V e)
    exact this)
   have HEQ:=zh (fun W=>cZ d.nm x W)
   obtain ⟨eq,heq⟩:∃ eq,decide (d.nm=x)=eq:=⟨_,rfl⟩
   rw [heq] at HEQ
   have HDK:=zh (show decide ((aM s.K k).nm=x)=eq from by rw [hd];exact heq)
   have HDD:=zh hd
   clear hab hrow hd heq
   go_upto_region 4 with fail
   clear q2
   refine wp_region_held_drew (S:=fun V=>Blk V w.heap.size 44 (ssA s)∧Blk V (w.heap.size+1) 30 (nmc x)∧Ext w V) (by kernel_rfl) (⟨HB1.out.drew,HC1.out.drew,HX.out.trans ((Ext.refl _).drew')⟩) (fun aA=>?_)
   refine zz0 [0,1,2,3,4] ?_;repeat first | refine zz1 ?_ (hy:=by intro W aI;have q1:W.cell? ⟨w.heap.size,2,none⟩=some (.slice (some ⟨b,o,none⟩) s.n3 s.c3):=(by rw [← HAB.out];exact aI.1.cell 2);go_simp <;> with_reducible rfl) | refine zz2 ?_ | refine zz9 ?_
   refine zu 5 (v:=.agg (nmc d.nm)) aA ?_ (hy:=by exact aG nmP (by rfl) (.tmp 18) rfl b (o+k * 19) rfl d.nm _ rfl (fun V h=>HDR.out V h.2.2))
   refine zu 6 (v:=.agg (nmc x)) aA ?_ (hy:=by exact aG nmP (by rfl) (.tmp 3) rfl (w.heap.size+1) 0 rfl x _ rfl (fun V h=>bP h.2.1))
   refine zu 7 (v:=.bool eq) aA ?_ (hy:=by exact cK (by rfl) (.tmp 19) (.tmp 20) (by rfl) (vx:=.agg (nmc d.nm)) (vy:=.agg (nmc x)) (by rfl) (by rfl) (fZ _ _ _ _ _) HEQ.out)
   refine wpAnyH_done (by kernel_rfl) ?_ _
   have HXN:=zh (HXW.out.trans ((Ext.refl _).drew'))
   have HXX:=zh (HX.out.trans ((Ext.refl _).drew'))
   clear aA
   cases eq
   ·go_wp2_with fail
    go_roundw
    case rel=>exact ⟨k+1,by go_num,hlt,zh (fun j hj=>by
     rcases (by omega:j < k ∨ j=k) with hj | rfl
     ·exact HN.out j hj
     exact HDK.out),HXN⟩
    case measure=>simp [intOf];omega
   have HF:=zh (show fdK s.K x=some d from by rw [← HDD.out];exact sV (by rw [HLEN.out];exact hlt) HDK.out HN.out)
   obtain ⟨v,hv⟩:∃ v,Value.agg (lkA d)=v:=⟨_,rfl⟩
   have HV:=zh hv
   obtain ⟨W9,hW9⟩:∃ W9,wr.drew=W9:=⟨_,rfl⟩
   have HD9:=zh (show Blk W9 (w.heap.size+2) 94 lk0 from by rw [← hW9];exact HD1.out.drew)
   have HX9:=zh (show Ext w W9 from by rw [← hW9];exact HXX.out)
   have q2:W9.cell? ⟨w.heap.size,2,none⟩=some (.slice (some ⟨b,o,none⟩) s.n3 s.c3):=by rw [← hW9,← HAB.out];exact HB1.out.drew.cell 2
   have r9:W9.rangeAt b (o+k * 19) (RowT.enc d):=HLR.out W9 HX9.out
   have ht:W9.there (w.heap.size+2) 0 (RowT.sz LkR):=aR HD9.out
   rw [hW9]
   clear hv hW9
   go_wp2_with (first | (with_reducible refine aC lkP rfl (.tmp 25) rfl b (o+k * 19) rfl d v HV.out r9 ?_) | (with_reducible refine bL lkP rfl (.tmp 4) (.tmp 26) rfl (w.heap.size+2) 0 rfl d v HV.out rfl ht ?_))
   have hst:=aQ (ds:=lkA d) HD9.out rfl
   exact bodyPost_ret (rT rfl _ _ (w.heap.size+2) _ _ rfl rfl (run_loadVar_row _ _ _ _ _ (0,0) _ hst Tryz.underlying94 rfl (by kernel_rfl))) rfl ⟨by rw [HF.out];rfl,Below.setCells' HX9.out (by omega) _ _⟩
  obtain rfl:s.n3=k:=by omega
  have i1:¬ (s.n3:Int) < (s.n3:Int):=by omega
  have HF:=zh (show fdK s.K x=none from zV (fun j hj=>HN.out j (by rw [← HLEN.out];exact hj)))
  have ht:wr.there (w.heap.size+2) 0 (RowT.sz LkR):=aR HD1.out
  have hv0:Value.agg (lkA (⟨0,0,0,0,0⟩:LkR))=.agg lk0:=by rw [aDM]
  have HV:=zh hv0
  clear hv0
  go_wp2_with ((with_reducible refine bL lkP rfl (.tmp 4) (.tmp 27) rfl (w.heap.size+2) 0 rfl ⟨0,0,0,0,0⟩ (.agg lk0) HV.out rfl ht ?_))
  have hst:=aQ (ds:=lkA (⟨0,0,0,0,0⟩:LkR)) HD1.out rfl
  exact bodyPost_ret (rT rfl _ _ (w.heap.size+2) _ _ rfl rfl (run_loadVar_row _ _ _ _ _ (0,0) _ hst Tryz.underlying94 rfl (by kernel_rfl))) rfl ⟨by rw [HF.out];rfl,Below.setCells' HX.out (by omega) _ _⟩
end
end Go.Proofs.YtohmmcahpakokaaGreat
