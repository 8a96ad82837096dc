/- append, over a slice of the call's own and over one that must grow; the source whatever it is. -/
import Derived.Test.YtohmmcahpakokaaGreatJ00
set_option maxRecDepth 100000
set_option maxHeartbeats 8000000
set_option linter.unusedVariables false
set_option linter.unusedSimpArgs false
namespace Go.Proofs.YtohmmcahpakokaaGreat
section
open Go.RowKit
structure Elem (P:Program) (t e:TypeId) (z:Value) (size bytes:Nat):Prop where
 ut:P.underlying t=some (.slice e)
 info:(P.info? e).map (fun i=>(i.zero,i.size,i.bytes))=some (some z,size,bytes)
 zs:z.cells.size=size
 pos:0 < size
section
variable {P:Program} {t e:TypeId} {z:Value} {size bytes:Nat}
theorem Elem.get (E:Elem P t e z size bytes):∃ i,P.info? e=some i∧i.zero=some z∧i.size=size∧i.bytes=bytes:=by
 have h:=E.info
 cases hi:P.info? e with
 | none=>rw [hi] at h;cases h
 | some i=>rw [hi] at h;simp only [Option.map_some,Option.some.injEq,Prod.mk.injEq] at h;exact ⟨i,rfl,h.1,h.2.1,h.2.2⟩
theorem xT {w:World} {base:Nat} {v:Value} {n:Nat} {xs:List Value} (h:w.ownsRow base e size v n xs):∃ A c,v=.slice A n c:=by
 rcases h.2 with ⟨rfl,rfl⟩ | ⟨g,cap,cur,rfl,_⟩
 ·exact ⟨none,0,rfl⟩
 exact ⟨_,cap,rfl⟩
theorem aGG (w:World) (base:Nat) (cur:Array Value) (cap g:Nat) (hg:w.heap.size=g) (hb:base≤g) (hm:cap≤4611686018427387904) (hs:cur.size=cap * size):(w.alloc (.cells cur e)).ownsRow base e size (.slice (some ⟨g,0,none⟩) 0 cap) 0 []:=by
 subst hg;exact World.ownsRow_made w cur cap hb (by simp only [maxLen];omega) hs
theorem bA {w w':World} {base:Nat} {v:Value} {n:Nat} {xs:List Value} (h:w.ownsRow base e size v n xs) (he:Ext w w'):w'.ownsRow base e size v n xs:=by
 refine ⟨h.1,?_⟩
 rcases h.2 with h2 | ⟨g,cap,cur,hv,hg,hh,r⟩
 ·exact .inl h2
 exact .inr ⟨g,cap,cur,hv,hg,(he.block g (Array.getElem?_eq_some_iff.1 hh).1).trans hh,r⟩
theorem aHS (E:Elem P t e z size bytes) (ty:TypeId) (w:World) (base:Nat) (A:Option Addr) (n c:Nat) (xs:List Value) (hown:w.ownsRow base e size (.slice A n c) n xs)
  (A2:Option Addr) (m c2:Nat) (ys:List Value) (hr:Rd w A2 ys) (hl:ys.length=m * size) (h1:∀ u ∈ ys,u.oneCell'=true)
  (hb:(n+m) * bytes≤140737488355328) (h63:n+m≤4611686018427387904) (hbase:base≤w.heap.size) :
  ∃ A' c' w',(Builtin.append_ #[t,t] ty #[.slice A n c,.slice A2 m c2]).run P w=.ok (.slice A' (n+m) c') w'∧w'.ownsRow base e size (.slice A' (n+m) c') (n+m) (xs ++ ys)∧w.grownBy w' (Value.ownBlock (.slice A n c)):=by
 obtain ⟨i,hi,hz,hs,hby⟩:=E.get
 rcases A2 with _ | ad
 ·have hy:ys=[]:=by
   rcases hr with h | ⟨b,o,h,_⟩
   ·exact h
   cases h
  subst hy
  have hm:m=0:=by
   have hp:=E.pos
   rcases Nat.eq_zero_or_pos m with h | h
   ·exact h
   have:=Nat.mul_pos h hp;simp at hl;omega
  subst hm
  refine ⟨A,c,w,?_,by simpa using hown,⟨rfl,rfl,rfl,Nat.le_refl _,fun _ _ _=>rfl⟩⟩
  rcases hown.2 with ⟨hv,hn⟩ | ⟨g,cap,cur,hv,_,_,hnc,_⟩
  ·injection hv with h1 h2 h3; subst h1; subst h2; subst h3
   simp [Builtin.append_,run_underlying E.ut,sizeOf,typeInfo,hi,Builtin.lenOf,Builtin.firstCells]
  injection hv with h1 _ h3;subst h1;subst h3
  simp [Builtin.append_,run_underlying E.ut,sizeOf,typeInfo,hi,Builtin.lenOf,Builtin.firstCells,hnc,storeCells]
 have hcells:∀ j u,ys[j]?=some u→w.cell? (ad.add j)=some u:=by
  intro j u hu
  obtain ⟨ad',h,hc⟩:=hr.src (by have:=(List.getElem?_eq_some_iff.1 hu).1;omega)
  injection h with h;subst h;exact hc j u hu
 obtain ⟨v',w',hrun,h2,h3,_⟩:=run_append_own (P:=P) w base t ty e i z size bytes E.ut hi hz hs hby E.zs E.pos (.slice A n c) n xs hown ad m c2 ys hl hcells h1 (by simp only [maxLen];omega) hb hbase
 obtain ⟨A',c',rfl⟩:=xT h2
 exact ⟨A',c',w',hrun,h2,h3⟩
theorem aBn (E:Elem P t e z size bytes) (ty:TypeId) (w:World) (A:Option Addr) (n c:Nat) (xs:List Value) (hra:Rd w A xs) (hla:xs.length=n * size) (hn:0 < n)
  (A2:Option Addr) (m c2:Nat) (ys:List Value) (hr:Rd w A2 ys) (hl:ys.length=m * size) (hm:0 < m) (h1:∀ u ∈ ys,u.oneCell'=true) (hg:c < n+m)
  (hb:(n+m) * bytes≤140737488355328) (h63:n+m≤4611686018427387904) :
  ∃ A' c' w',(Builtin.append_ #[t,t] ty #[.slice A n c,.slice A2 m c2]).run P w=.ok (.slice A' (n+m) c') w'∧w'.ownsRow w.heap.size e size (.slice A' (n+m) c') (n+m) (xs ++ ys)∧Ext w w':=by
 obtain ⟨i,hi,hz,hs,hby⟩:=E.get
 subst hs;subst hby
 obtain ⟨ad,rfl,hca⟩:=hra.src (by rw [hla];exact Nat.mul_pos hn E.pos)
 obtain ⟨ad2,rfl,hcb⟩:=hr.src (by rw [hl];exact Nat.mul_pos hm E.pos)
 have hrun:=run_append_grow (P:=P) w t ty e i z E.ut hi hz ad n c xs hla hca ad2 m c2 ys hl hcb hg (by omega) (growslice_fits hg hb)
 refine ⟨_,_,_,hrun,⟨by rw [List.length_append,hla,hl,Nat.add_mul],.inr ⟨w.heap.size,_,_,rfl,Nat.le_refl _,heap_alloc_new w.drew _,grownCap_ge w _ _ _,grownCap_le_maxLen w _ _ _ (by simp only [maxLen];omega),?_,?_⟩⟩,(Ext.refl w).drew'.alloc' _⟩
 ·simp only [Array.size_append, List.size_toArray, size_zeroCells, E.zs, hla, hl, ← Nat.add_mul]
  have:=grownCap_ge w (n+m) c e
  congr 1;omega
 simp only [Array.toList_append,List.append_assoc]
 rw [← List.append_assoc,show (n+m) * i.size=(xs ++ ys).length from by rw [List.length_append,hla,hl,Nat.add_mul]]
 exact List.take_left
theorem nZ {o:Oper} {a:Act} {w:World} {K:Act→World→Prop} {Q:Exit→Act→World→Prop} (E:Elem P t e z size bytes) (s x:Operand)
  (ho:o.op=.call { callee:=.builtin .append,args:=#[s,x],argTypes:=#[t,t] })
  (base:Nat) (A:Option Addr) (n c:Nat) (xs:List Value) (hs:a.eval s=.slice A n c) (hown:w.ownsRow base e size (.slice A n c) n xs)
  (A2:Option Addr) (m c2:Nat) (ys:List Value) (hx:a.eval x=.slice A2 m c2) (hr:Rd w A2 ys) (hl:ys.length=m * size) (h1:∀ u ∈ ys,u.oneCell'=true)
  (hb:(n+m) * bytes≤140737488355328) (h63:n+m≤4611686018427387904) (hbase:base≤w.heap.size)
  (h:∀ A' c' w',w'.ownsRow base e size (.slice A' (n+m) c') (n+m) (xs ++ ys)→w.grownBy w' (Value.ownBlock (.slice A n c))→K (a.put o.dst (.slice A' (n+m) c')) w'):o.wp P a w K Q:=by
 obtain ⟨A',c',w',hrun,h2,h3⟩:=aHS E o.type w base A n c xs hown A2 m c2 ys hr hl h1 hb h63 hbase
 unfold Oper.wp execOp
 simp only [ho,resolve,invoke,builtin,Sem.run_bind,Sem.run_pure,Result.andThen_ok,List.map_toArray,List.map_cons,List.map_nil,hs,hx,hrun]
 exact h A' c' w' h2 h3
theorem aHJ {o:Oper} {a:Act} {w:World} {K:Act→World→Prop} {Q:Exit→Act→World→Prop} (E:Elem P t e z size bytes) (s x:Operand)
  (ho:o.op=.call { callee:=.builtin .append,args:=#[s,x],argTypes:=#[t,t] })
  (A:Option Addr) (n c:Nat) (xs:List Value) (hs:a.eval s=.slice A n c) (hra:Rd w A xs) (hla:xs.length=n * size) (hn:0 < n)
  (A2:Option Addr) (m c2:Nat) (ys:List Value) (hx:a.eval x=.slice A2 m c2) (hr:Rd w A2 ys) (hl:ys.length=m * size) (hm:0 < m) (h1:∀ u ∈ ys,u.oneCell'=true) (hg:c < n+m)
  (hb:(n+m) * bytes≤140737488355328) (h63:n+m≤4611686018427387904)
  (h:∀ A' c' w',w'.ownsRow w.heap.size e size (.slice A' (n+m) c') (n+m) (xs ++ ys)→Ext w w'→K (a.put o.dst (.slice A' (n+m) c')) w'):o.wp P a w K Q:=by
 obtain ⟨A',c',w',hrun,h2,h3⟩:=aBn E o.type w A n c xs hra hla hn A2 m c2 ys hr hl hm h1 hg hb h63
 unfold Oper.wp execOp
 simp only [ho,resolve,invoke,builtin,Sem.run_bind,Sem.run_pure,Result.andThen_ok,List.map_toArray,List.map_cons,List.map_nil,hs,hx,hrun]
 exact h A' c' w' h2 h3
end
section
variable {P:Program} {t e:TypeId} {z:Value} {size bytes:Nat}
theorem fR {ops:Array Oper} {rest:List Oper} {o:Oper} {a:Act} {w:World} {Q:Exit→Act→World→Prop} (E:Elem P t e z size bytes) (hgd:o.guard=none) (s x:Operand)
  (ho:o.op=.call { callee:=.builtin .append,args:=#[s,x],argTypes:=#[t,t] })
  (base:Nat) (A:Option Addr) (n c:Nat) (xs:List Value) (hs:a.eval s=.slice A n c) (hown:w.ownsRow base e size (.slice A n c) n xs)
  (A2:Option Addr) (m c2:Nat) (ys:List Value) (hx:a.eval x=.slice A2 m c2) (hr:Rd w A2 ys) (hl:ys.length=m * size) (h1:∀ u ∈ ys,u.oneCell'=true)
  (hb:(n+m) * bytes≤140737488355328) (h63:n+m≤4611686018427387904) (hbase:base≤w.heap.size) (w0:World) (hw0:Below base w0 w)
  (h:∀ A' c' w',w'.ownsRow base e size (.slice A' (n+m) c') (n+m) (xs ++ ys)→Below base w0 w'→w.heap.size≤w'.heap.size→wpList P ops Q rest (a.put o.dst (.slice A' (n+m) c')) w'):wpList P ops Q (o :: rest) a w:=by
 refine wpList_plain hgd fun K hK=>nZ E s x ho base A n c xs hs hown A2 m c2 ys hx hr hl h1 hb h63 hbase fun A' c' w' h2 h3=>hK _ _ (h A' c' w' h2 ?_ h3.size)
 exact hw0.grown h3 hbase (fun k hk=>(World.ownsRow.lt hown k hk).1)
theorem tJ {ops:Array Oper} {o:Oper} {a:Act} {w:World} {K:Act→World→Prop} {Q:Exit→Act→World→Prop} {X:Prop} (E:Elem P t e z size bytes) (hgd:o.guard=none) (s x:Operand)
  (ho:o.op=.call { callee:=.builtin .append,args:=#[s,x],argTypes:=#[t,t] })
  (base:Nat) (A:Option Addr) (n c:Nat) (xs:List Value) (hs:a.eval s=.slice A n c) (hown:w.ownsRow base e size (.slice A n c) n xs)
  (A2:Option Addr) (m c2:Nat) (ys:List Value) (hx:a.eval x=.slice A2 m c2) (hr:Rd w A2 ys) (hl:ys.length=m * size) (h1:∀ u ∈ ys,u.oneCell'=true)
  (hb:(n+m) * bytes≤140737488355328) (h63:n+m≤4611686018427387904) (hbase:base≤w.heap.size) (w0:World) (hw0:Below base w0 w)
  (h:∀ A' c' w',w'.ownsRow base e size (.slice A' (n+m) c') (n+m) (xs ++ ys)→Below base w0 w'→w.heap.size≤w'.heap.size→K (a.put o.dst (.slice A' (n+m) c')) w'):if Region.wanted o (yielded ops a.tmps)=true then Oper.wp P o a w K Q else X:=by
 have hw:Region.wanted o (yielded ops a.tmps)=true:=by simp [Region.wanted,hgd]
 rw [if_pos hw]
 refine nZ E s x ho base A n c xs hs hown A2 m c2 ys hx hr hl h1 hb h63 hbase fun A' c' w' h2 h3=>h A' c' w' h2 ?_ h3.size
 exact hw0.grown h3 hbase (fun k hk=>(World.ownsRow.lt hown k hk).1)
end
def OwnB (w:World) (base:Nat) (e:TypeId) (A:Option Addr) (n c:Nat) (l:List UInt8):Prop:=w.ownsRow base e 1 (.slice A n c) n (bcs l)
section
variable {P:Program} {t e:TypeId}
theorem OwnB.sl {w:World} {base:Nat} {A:Option Addr} {n c:Nat} {l:List UInt8} (h:OwnB w base e A n c l):SlB w A n c l:=SlB.of_own h
theorem OwnB.nil (w:World) (base:Nat) (e:TypeId):OwnB w base e none 0 0 []:=World.ownsRow_nil w base e 1
theorem OwnB.made (w:World) (base:Nat) (cur:Array Value) (cap g:Nat) (hg:w.heap.size=g) (hb:base≤g) (hm:cap≤4611686018427387904) (hs:cur.size=cap):OwnB (w.alloc (.cells cur e)) base e (some ⟨g,0,none⟩) 0 cap []:=by
 subst hg;exact World.ownsRow_made w cur cap hb (by simp only [maxLen];omega) (by omega)
theorem OwnB.alloc {w:World} {base:Nat} {A:Option Addr} {n c:Nat} {l:List UInt8} (h:OwnB w base e A n c l) (o:Obj):OwnB (w.alloc o) base e A n c l:=World.ownsRow.alloc h o
theorem OwnB.drew {w:World} {base:Nat} {A:Option Addr} {n c:Nat} {l:List UInt8} (h:OwnB w base e A n c l):OwnB w.drew base e A n c l:=h
theorem OwnB.ext {w w':World} {base:Nat} {A:Option Addr} {n c:Nat} {l:List UInt8} (h:OwnB w base e A n c l) (he:Ext w w'):OwnB w' base e A n c l:=by
 refine ⟨h.1,?_⟩
 rcases h.2 with h2 | ⟨g,cap,cur,hv,hg,hh,r⟩
 ·exact .inl h2
 exact .inr ⟨g,cap,cur,hv,hg,(he.block g (Array.getElem?_eq_some_iff.1 hh).1).trans hh,r⟩
theorem bZ {ops:Array Oper} {rest:List Oper} {o:Oper} {a:Act} {w:World} {Q:Exit→Act→World→Prop} (E:Elem P t e (.int .u8 0) 1 1) (hgd:o.guard=none) (s x:Operand)
  (ho:o.op=.call { callee:=.builtin .append,args:=#[s,x],argTypes:=#[t,t] })
  (base:Nat) (A:Option Addr) (n c:Nat) (l:List UInt8) (hs:a.eval s=.slice A n c) (hown:OwnB w base e A n c l)
  (A2:Option Addr) (m c2:Nat) (l2:List UInt8) (hx:a.eval x=.slice A2 m c2) (hr:SlB w A2 m c2 l2)
  (hb:n+m≤140737488355328) (hbase:base≤w.heap.size) (w0:World) (hw0:Below base w0 w)
  (h:∀ A' c' w',OwnB w' base e A' (n+m) c' (l ++ l2)→Below base w0 w'→w.heap.size≤w'.heap.size→wpList P ops Q rest (a.put o.dst (.slice A' (n+m) c')) w'):wpList P ops Q (o :: rest) a w:=by
 refine wpList_plain hgd fun K hK=>nZ E s x ho base A n c (bcs l) hs hown A2 m c2 (bcs l2) hx hr.rd (by rw [aJ,hr.len,Nat.mul_one]) (dW l2) (by omega) (by omega) hbase fun A' c' w' h2 h3=>hK _ _ (h A' c' w' ?_ ?_ h3.size)
 ·unfold OwnB;rw [eJ];exact h2
 exact hw0.grown h3 hbase (fun k hk=>(World.ownsRow.lt hown k hk).1)
theorem pB {ops:Array Oper} {rest:List Oper} {o:Oper} {a:Act} {w:World} {Q:Exit→Act→World→Prop} (E:Elem P t e (.int .u8 0) 1 1) (hgd:o.guard=none) (s x:Operand)
  (ho:o.op=.call { callee:=.builtin .append,args:=#[s,x],argTypes:=#[t,t] })
  (A:Option Addr) (n c:Nat) (l:List UInt8) (hs:a.eval s=.slice A n c) (hra:SlB w A n c l) (hn:0 < n)
  (A2:Option Addr) (m c2:Nat) (l2:List UInt8) (hx:a.eval x=.slice A2 m c2) (hr:SlB w A2 m c2 l2) (hm:0 < m) (hg:c < n+m)
  (hb:n+m≤140737488355328)
  (h:∀ A' c' w',OwnB w' w.heap.size e A' (n+m) c' (l ++ l2)→Ext w w'→wpList P ops Q rest (a.put o.dst (.slice A' (n+m) c')) w'):wpList P ops Q (o :: rest) a w:=by
 refine wpList_plain hgd fun K hK=>aHJ E s x ho A n c (bcs l) hs hra.rd (by rw [aJ,hra.len,Nat.mul_one]) hn A2 m c2 (bcs l2) hx hr.rd (by rw [aJ,hr.len,Nat.mul_one]) hm (dW l2) hg (by omega) (by omega) fun A' c' w' h2 h3=>hK _ _ (h A' c' w' ?_ h3)
 unfold OwnB;rw [eJ];exact h2
end
section
variable {P:Program} {t e:TypeId}
theorem xP {ops:Array Oper} {o:Oper} {a:Act} {w:World} {K:Act→World→Prop} {Q:Exit→Act→World→Prop} {X:Prop} (E:Elem P t e (.int .u8 0) 1 1) (hgd:o.guard=none) (s x:Operand)
  (ho:o.op=.call { callee:=.builtin .append,args:=#[s,x],argTypes:=#[t,t] })
  (base:Nat) (A:Option Addr) (n c:Nat) (l:List UInt8) (hs:a.eval s=.slice A n c) (hown:OwnB w base e A n c l)
  (A2:Option Addr) (m c2:Nat) (l2:List UInt8) (hx:a.eval x=.slice A2 m c2) (hr:SlB w A2 m c2 l2)
  (hb:n+m≤140737488355328) (hbase:base≤w.heap.size) (w0:World) (hw0:Below base w0 w)
  (h:∀ A' c' w',OwnB w' base e A' (n+m) c' (l ++ l2)→Below base w0 w'→w.heap.size≤w'.heap.size→K (a.put o.dst (.slice A' (n+m) c')) w'):if Region.wanted o (yielded ops a.tmps)=true then Oper.wp P o a w K Q else X:=by
 have hw:Region.wanted o (yielded ops a.tmps)=true:=by simp [Region.wanted,hgd]
 rw [if_pos hw]
 refine nZ E s x ho base A n c (bcs l) hs hown A2 m c2 (bcs l2) hx hr.rd (by rw [aJ,hr.len,Nat.mul_one]) (dW l2) (by omega) (by omega) hbase fun A' c' w' h2 h3=>h A' c' w' ?_ ?_ h3.size
 ·unfold OwnB;rw [eJ];exact h2
 exact hw0.grown h3 hbase (fun k hk=>(World.ownsRow.lt hown k hk).1)
end
def toB (z:Int):UInt8:=UInt8.ofNat (z % 256).toNat
theorem bT (z:Int):z % 256=((toB z).toNat:Int):=by unfold toB;simp;omega
theorem SlB.new {w:World} {t:TypeId} {cs:Array Value} {g:Nat} (hg:w.heap.size=g) (l:List UInt8) (h:cs.toList=bcs l) (hl:l.length≤9223372036854775807):SlB (w.alloc (.cells cs t)) (some ⟨g,0,none⟩) l.length l.length l:=by
 subst hg;exact ⟨rfl,Nat.le_refl _,hl,by rw [← h];exact Rd.of_blk (Blk.new w t cs)⟩
theorem SlB.new1 (w:World) (t:TypeId) (z:Int) (c:UInt8) (g:Nat) (hg:w.heap.size=g) (hz:z=(c.toNat:Int)):SlB (w.alloc (.cells #[.int .u8 z] t)) (some ⟨g,0,none⟩) 1 1 [c] :=
 SlB.new hg [c] (by rw [hz];rfl) (by simp)
theorem SlB.new2 (w:World) (t:TypeId) (z z':Int) (c c':UInt8) (g:Nat) (hg:w.heap.size=g) (hz:z=(c.toNat:Int)) (hz':z'=(c'.toNat:Int)):SlB (w.alloc (.cells #[.int .u8 z,.int .u8 z'] t)) (some ⟨g,0,none⟩) 2 2 [c,c'] :=
 SlB.new hg [c,c'] (by rw [hz,hz'];rfl) (by simp)
theorem SlB.blkN {w:World} {g:Nat} {t:TypeId} {n:UInt64} (h:Blk w g t (nmc n)):SlB w (some ⟨g,0,none⟩) 8 8 (nmb n) :=
 ⟨aG n,Nat.le_refl _,by omega,by rw [← bF];exact Rd.of_blk h⟩
theorem bI:Elem Tryz.prog 45 5 (.int .u8 0) 1 1:=⟨Tryz.underlying45,by kernel_rfl,rfl,by decide⟩
theorem cF {w:World} {base n c:Nat} {e:TypeId} {size:Nat} {A:Option Addr} {xs:List Value} (h:w.ownsRow base e size (.slice A n c) n xs) (hn:0 < n):∃ g,A=some ⟨g,0,none⟩∧base≤g∧w.rangeAt g 0 xs:=by
 rcases h.2 with ⟨hv,h0⟩ | ⟨g,cap,cur,hv,hb,hh,_⟩
 ·omega
 injection hv with hA;subst hA
 refine ⟨g,rfl,hb,fun j v hv=>?_⟩
 have:=h.cells (g:=g) rfl j v hv
 rwa [Addr.add_mid] at this
theorem dN {w:World} {A:Option Addr} {n c:Nat} {base:Nat} {e:TypeId} {size:Nat} {xs:List Value} (h:w.ownsRow base e size (.slice A n c) n xs):n≤c∧c≤9223372036854775807:=by
 rcases h.2 with ⟨hv,hn⟩ | ⟨g,cap,cur,hv,_,_,hc,hm,_⟩
 ·injection hv;omega
 injection hv with _ _ hc';subst hc';exact ⟨hc,hm⟩
theorem bB {w:World} {base base':Nat} {e:TypeId} {size:Nat} {v:Value} {n:Nat} {xs:List Value} (h:w.ownsRow base e size v n xs) (hb:base'≤base):w.ownsRow base' e size v n xs:=by
 refine ⟨h.1,?_⟩
 rcases h.2 with h2 | ⟨g,cap,cur,hv,hg,r⟩
 ·exact .inl h2
 exact .inr ⟨g,cap,cur,hv,by omega,r⟩
def aLT (k:IntKind) (w:World) (a:Option Addr) (len cap:Nat) (zs:List Int):Prop :=
 (a=none∧len=0∧cap=0∧zs=[]) ∨
 ∃ x,a=some x∧len≤cap∧cap≤maxLen∧zs.length=cap∧(∀ i,i < zs.length→w.cell? (x.add i)=some (.int k (zs.getD i 0)))∧∀ n ∈ zs,(Lit.int k n).wf=true
theorem aJk {n:Int} (h:(Lit.int .u8 n).wf=true):0≤n∧n < 256:=by
 have:0≤n∧n≤255:=by simpa [Lit.wf,IntKind.min,IntKind.max,IntKind.signed,IntKind.bits] using h
 omega
theorem aCU {w:World} {a:Option Addr} {len cap:Nat} {zs:List Int} (h:aLT .u8 w a len cap zs):∃ l,SlB w a len cap l:=by
 rcases h with ⟨rfl,rfl,rfl,rfl⟩ | ⟨x,rfl,hl,hm,hz,hc,hw⟩
 ·exact ⟨[],SlB.nil w⟩
 refine ⟨(zs.take len).map toB,by simp;omega,hl,hm,?_⟩
 by_cases h0:len=0
 ·subst h0;exact .inl (by simp [bcs])
 have hcell:∀ j,j < len→w.cell? (x.add j)=some (.int .u8 ((toB (zs.getD j 0)).toNat:Int)):=by
  intro j hj
  rw [hc j (by omega),← bT]
  have hb:=aJk (hw (zs.getD j 0) (by
   have:zs.getD j 0=zs[j]'(by omega):=by simp [show j < zs.length from by omega]
   rw [this];exact List.getElem_mem _))
  rw [Int.emod_eq_of_lt hb.1 hb.2]
 have hx:x.spot=none:=by
  have:=hcell 0 (by omega)
  simp only [Addr.add,if_pos] at this
  unfold World.cell? at this
  cases hs:x.spot with
  | none=>rfl
  | some p=>rw [hs] at this;split at this <;> simp at this
 refine .inr ⟨x.block,x.off,by cases x;simp_all,fun j v hv=>?_⟩
 have hj:j < len:=by have:=(List.getElem?_eq_some_iff.1 hv).1;simp [bcs] at this;omega
 have e:(⟨x.block,x.off+j,none⟩:Addr)=x.add j:=by
  cases x;simp only at hx;subst hx;rw [Addr.add_mid]
 rw [e,hcell j hj,← hv]
 simp [bcs,bv,hj,show j < zs.length from by omega]
def aGq (l:List UInt8):ByteArray:=⟨l.toArray⟩
theorem aEQ {l l':List UInt8} (h:(aGq l).toList=(aGq l').toList):l=l':=by
 rw [ByteArray.toList_eq,ByteArray.toList_eq] at h;exact h
theorem pH {w:World} {A:Option Addr} {n c:Nat} {l:List UInt8} (h:SlB w A n c l):(convert 45 9 (.slice A n c)).run Tryz.prog w=.ok (.string (aGq l)) w:=by
 have hl:=h.len
 rcases A with _ | ad
 ·obtain rfl:l=[]:=by
   rcases h.rd with h | ⟨b,o,h,_⟩
   ·have:=congrArg List.length h;rw [aJ] at this;exact List.length_eq_zero_iff.1 this
   cases h
  exact run_convert_bytes_nil w _ _ Tryz.underlying45 Tryz.underlying5 n c _ Tryz.underlying9
 subst hl
 exact run_convert_bytes_back w _ _ _ ad c l Tryz.underlying45 Tryz.underlying5 Tryz.underlying9 (fun j hj=>by
  obtain ⟨b,o,e,hr,_⟩:=h.at (by omega)
  injection e with e;subst e
  rw [Addr.add_mid];exact aAI hr j hj)
end
end Go.Proofs.YtohmmcahpakokaaGreat
