/- append, over a slice of the call's own and over one that must grow; the source whatever it is. -/
import Derived.Test.YtohmmcahpakokaaGreatG01
set_option maxRecDepth 100000
set_option maxHeartbeats 8000000
set_option linter.unusedVariables false
set_option linter.unusedSimpArgs false
namespace Go.Proofs.YtohmmcahpakokaaGreat
section
open Go.RowKit
structure Elem (P:Program) (t e:TypeId) (z:Value) (size bytes:Nat):Prop where
 ut:P.underlying t=some (.slice e)
 info:(P.info? e).map (fun i=>(i.zero,i.size,i.bytes))=some (some z,size,bytes)
 zs:z.cells.size=size
 pos:0 < size
section
variable {P:Program} {t e:TypeId} {z:Value} {size bytes:Nat}
theorem Elem.get (E:Elem P t e z size bytes):∃ i,P.info? e=some i∧i.zero=some z∧i.size=size∧i.bytes=bytes:=by
 have h:=E.info
 cases hi:P.info? e with
 | none=>rw [hi] at h;cases h
 | some i=>rw [hi] at h;simp only [Option.map_some,Option.some.injEq,Prod.mk.injEq] at h;exact ⟨i,rfl,h.1,h.2.1,h.2.2⟩
theorem aFP {w:World} {base:Nat} {v:Value} {n:Nat} {xs:List Value} (h:w.ownsRow base e size v n xs):∃ A c,v=.slice A n c:=by
 rcases h.2 with ⟨rfl,rfl⟩ | ⟨g,cap,cur,rfl,_⟩
 ·exact ⟨none,0,rfl⟩
 exact ⟨_,cap,rfl⟩
theorem aHs (w:World) (base:Nat) (cur:Array Value) (cap g:Nat) (hg:w.heap.size=g) (hb:base≤g) (hm:cap≤4611686018427387904) (hs:cur.size=cap * size):(w.alloc (.cells cur e)).ownsRow base e size (.slice (some ⟨g,0,none⟩) 0 cap) 0 []:=by
 subst hg;exact World.ownsRow_made w cur cap hb (by simp only [maxLen];omega) hs
theorem bF {w w':World} {base:Nat} {v:Value} {n:Nat} {xs:List Value} (h:w.ownsRow base e size v n xs) (he:Ext w w'):w'.ownsRow base e size v n xs:=by
 refine ⟨h.1,?_⟩
 rcases h.2 with h2 | ⟨g,cap,cur,hv,hg,hh,r⟩
 ·exact .inl h2
 exact .inr ⟨g,cap,cur,hv,hg,(he.block g (Array.getElem?_eq_some_iff.1 hh).1).trans hh,r⟩
theorem aIU (E:Elem P t e z size bytes) (ty:TypeId) (w:World) (base:Nat) (A:Option Addr) (n c:Nat) (xs:List Value) (hown:w.ownsRow base e size (.slice A n c) n xs)
  (A2:Option Addr) (m c2:Nat) (ys:List Value) (hr:Rd w A2 ys) (hl:ys.length=m * size) (h1:∀ u ∈ ys,u.oneCell'=true)
  (hb:(n+m) * bytes≤140737488355328) (h63:n+m≤4611686018427387904) (hbase:base≤w.heap.size) :
  ∃ A' c' w',(Builtin.append_ #[t,t] ty #[.slice A n c,.slice A2 m c2]).run P w=.ok (.slice A' (n+m) c') w'∧w'.ownsRow base e size (.slice A' (n+m) c') (n+m) (xs ++ ys)∧w.grownBy w' (Value.ownBlock (.slice A n c)):=by
 obtain ⟨i,hi,hz,hs,hby⟩:=E.get
 rcases A2 with _ | ad
 ·have hy:ys=[]:=by
   rcases hr with h | ⟨b,o,h,_⟩
   ·exact h
   cases h
  subst hy
  have hm:m=0:=by
   have hp:=E.pos
   rcases Nat.eq_zero_or_pos m with h | h
   ·exact h
   have:=Nat.mul_pos h hp;simp at hl;omega
  subst hm
  refine ⟨A,c,w,?_,by simpa using hown,⟨rfl,rfl,rfl,Nat.le_refl _,fun _ _ _=>rfl⟩⟩
  rcases hown.2 with ⟨hv,hn⟩ | ⟨g,cap,cur,hv,_,_,hnc,_⟩
  ·injection hv with h1 h2 h3; subst h1; subst h2; subst h3
   simp [Builtin.append_,run_underlying E.ut,sizeOf,typeInfo,hi,Builtin.lenOf,Builtin.firstCells]
  injection hv with h1 _ h3;subst h1;subst h3
  simp [Builtin.append_,run_underlying E.ut,sizeOf,typeInfo,hi,Builtin.lenOf,Builtin.firstCells,hnc,storeCells]
 have hcells:∀ j u,ys[j]?=some u→w.cell? (ad.add j)=some u:=by
  intro j u hu
  obtain ⟨ad',h,hc⟩:=hr.src (by have:=(List.getElem?_eq_some_iff.1 hu).1;omega)
  injection h with h;subst h;exact hc j u hu
 obtain ⟨v',w',hrun,h2,h3,_⟩:=run_append_own (P:=P) w base t ty e i z size bytes E.ut hi hz hs hby E.zs E.pos (.slice A n c) n xs hown ad m c2 ys hl hcells h1 (by simp only [maxLen];omega) hb hbase
 obtain ⟨A',c',rfl⟩:=aFP h2
 exact ⟨A',c',w',hrun,h2,h3⟩
theorem aBW (E:Elem P t e z size bytes) (ty:TypeId) (w:World) (A:Option Addr) (n c:Nat) (xs:List Value) (hra:Rd w A xs) (hla:xs.length=n * size) (hn:0 < n)
  (A2:Option Addr) (m c2:Nat) (ys:List Value) (hr:Rd w A2 ys) (hl:ys.length=m * size) (hm:0 < m) (h1:∀ u ∈ ys,u.oneCell'=true) (hg:c < n+m)
  (hb:(n+m) * bytes≤140737488355328) (h63:n+m≤4611686018427387904) :
  ∃ A' c' w',(Builtin.append_ #[t,t] ty #[.slice A n c,.slice A2 m c2]).run P w=.ok (.slice A' (n+m) c') w'∧w'.ownsRow w.heap.size e size (.slice A' (n+m) c') (n+m) (xs ++ ys)∧Ext w w':=by
 obtain ⟨i,hi,hz,hs,hby⟩:=E.get
 subst hs;subst hby
 obtain ⟨ad,rfl,hca⟩:=hra.src (by rw [hla];exact Nat.mul_pos hn E.pos)
 obtain ⟨ad2,rfl,hcb⟩:=hr.src (by rw [hl];exact Nat.mul_pos hm E.pos)
 have hrun:=run_append_grow (P:=P) w t ty e i z E.ut hi hz ad n c xs hla hca ad2 m c2 ys hl hcb hg (by omega) (growslice_fits hg hb)
 refine ⟨_,_,_,hrun,⟨by rw [List.length_append,hla,hl,Nat.add_mul],.inr ⟨w.heap.size,_,_,rfl,Nat.le_refl _,heap_alloc_new w.drew _,grownCap_ge w _ _ _,grownCap_le_maxLen w _ _ _ (by simp only [maxLen];omega),?_,?_⟩⟩,(Ext.refl w).drew'.alloc' _⟩
 ·simp only [Array.size_append, List.size_toArray, size_zeroCells, E.zs, hla, hl, ← Nat.add_mul]
  have:=grownCap_ge w (n+m) c e
  congr 1;omega
 simp only [Array.toList_append,List.append_assoc]
 rw [← List.append_assoc,show (n+m) * i.size=(xs ++ ys).length from by rw [List.length_append,hla,hl,Nat.add_mul]]
 exact List.take_left
theorem oD {o:Oper} {a:Act} {w:World} {K:Act→World→Prop} {Q:Exit→Act→World→Prop} (E:Elem P t e z size bytes) (s x:Operand)
  (ho:o.op=.call { callee:=.builtin .append,args:=#[s,x],argTypes:=#[t,t] })
  (base:Nat) (A:Option Addr) (n c:Nat) (xs:List Value) (hs:a.eval s=.slice A n c) (hown:w.ownsRow base e size (.slice A n c) n xs)
  (A2:Option Addr) (m c2:Nat) (ys:List Value) (hx:a.eval x=.slice A2 m c2) (hr:Rd w A2 ys) (hl:ys.length=m * size) (h1:∀ u ∈ ys,u.oneCell'=true)
  (hb:(n+m) * bytes≤140737488355328) (h63:n+m≤4611686018427387904) (hbase:base≤w.heap.size)
  (h:∀ A' c' w',w'.ownsRow base e size (.slice A' (n+m) c') (n+m) (xs ++ ys)→w.grownBy w' (Value.ownBlock (.slice A n c))→K (a.put o.dst (.slice A' (n+m) c')) w'):o.wp P a w K Q:=by
 obtain ⟨A',c',w',hrun,h2,h3⟩:=aIU E o.type w base A n c xs hown A2 m c2 ys hr hl h1 hb h63 hbase
 unfold Oper.wp execOp
 simp only [ho,resolve,invoke,builtin,Sem.run_bind,Sem.run_pure,Result.andThen_ok,List.map_toArray,List.map_cons,List.map_nil,hs,hx,hrun]
 exact h A' c' w' h2 h3
theorem aII {o:Oper} {a:Act} {w:World} {K:Act→World→Prop} {Q:Exit→Act→World→Prop} (E:Elem P t e z size bytes) (s x:Operand)
  (ho:o.op=.call { callee:=.builtin .append,args:=#[s,x],argTypes:=#[t,t] })
  (A:Option Addr) (n c:Nat) (xs:List Value) (hs:a.eval s=.slice A n c) (hra:Rd w A xs) (hla:xs.length=n * size) (hn:0 < n)
  (A2:Option Addr) (m c2:Nat) (ys:List Value) (hx:a.eval x=.slice A2 m c2) (hr:Rd w A2 ys) (hl:ys.length=m * size) (hm:0 < m) (h1:∀ u ∈ ys,u.oneCell'=true) (hg:c < n+m)
  (hb:(n+m) * bytes≤140737488355328) (h63:n+m≤4611686018427387904)
  (h:∀ A' c' w',w'.ownsRow w.heap.size e size (.slice A' (n+m) c') (n+m) (xs ++ ys)→Ext w w'→K (a.put o.dst (.slice A' (n+m) c')) w'):o.wp P a w K Q:=by
 obtain ⟨A',c',w',hrun,h2,h3⟩:=aBW E o.type w A n c xs hra hla hn A2 m c2 ys hr hl hm h1 hg hb h63
 unfold Oper.wp execOp
 simp only [ho,resolve,invoke,builtin,Sem.run_bind,Sem.run_pure,Result.andThen_ok,List.map_toArray,List.map_cons,List.map_nil,hs,hx,hrun]
 exact h A' c' w' h2 h3
end
section
variable {P:Program} {t e:TypeId} {z:Value} {size bytes:Nat}
theorem fX {ops:Array Oper} {rest:List Oper} {o:Oper} {a:Act} {w:World} {Q:Exit→Act→World→Prop} (E:Elem P t e z size bytes) (hgd:o.guard=none) (s x:Operand)
  (ho:o.op=.call { callee:=.builtin .append,args:=#[s,x],argTypes:=#[t,t] })
  (base:Nat) (A:Option Addr) (n c:Nat) (xs:List Value) (hs:a.eval s=.slice A n c) (hown:w.ownsRow base e size (.slice A n c) n xs)
  (A2:Option Addr) (m c2:Nat) (ys:List Value) (hx:a.eval x=.slice A2 m c2) (hr:Rd w A2 ys) (hl:ys.length=m * size) (h1:∀ u ∈ ys,u.oneCell'=true)
  (hb:(n+m) * bytes≤140737488355328) (h63:n+m≤4611686018427387904) (hbase:base≤w.heap.size) (w0:World) (hw0:Below base w0 w)
  (h:∀ A' c' w',w'.ownsRow base e size (.slice A' (n+m) c') (n+m) (xs ++ ys)→Below base w0 w'→w.heap.size≤w'.heap.size→wpList P ops Q rest (a.put o.dst (.slice A' (n+m) c')) w'):wpList P ops Q (o :: rest) a w:=by
 refine wpList_plain hgd fun K hK=>oD E s x ho base A n c xs hs hown A2 m c2 ys hx hr hl h1 hb h63 hbase fun A' c' w' h2 h3=>hK _ _ (h A' c' w' h2 ?_ h3.size)
 exact hw0.grown h3 hbase (fun k hk=>(World.ownsRow.lt hown k hk).1)
theorem uB {ops:Array Oper} {o:Oper} {a:Act} {w:World} {K:Act→World→Prop} {Q:Exit→Act→World→Prop} {X:Prop} (E:Elem P t e z size bytes) (hgd:o.guard=none) (s x:Operand)
  (ho:o.op=.call { callee:=.builtin .append,args:=#[s,x],argTypes:=#[t,t] })
  (base:Nat) (A:Option Addr) (n c:Nat) (xs:List Value) (hs:a.eval s=.slice A n c) (hown:w.ownsRow base e size (.slice A n c) n xs)
  (A2:Option Addr) (m c2:Nat) (ys:List Value) (hx:a.eval x=.slice A2 m c2) (hr:Rd w A2 ys) (hl:ys.length=m * size) (h1:∀ u ∈ ys,u.oneCell'=true)
  (hb:(n+m) * bytes≤140737488355328) (h63:n+m≤4611686018427387904) (hbase:base≤w.heap.size) (w0:World) (hw0:Below base w0 w)
  (h:∀ A' c' w',w'.ownsRow base e size (.slice A' (n+m) c') (n+m) (xs ++ ys)→Below base w0 w'→w.heap.size≤w'.heap.size→K (a.put o.dst (.slice A' (n+m) c')) w'):if Region.wanted o (yielded ops a.tmps)=true then Oper.wp P o a w K Q else X:=by
 have hw:Region.wanted o (yielded ops a.tmps)=true:=by simp [Region.wanted,hgd]
 rw [if_pos hw]
 refine oD E s x ho base A n c xs hs hown A2 m c2 ys hx hr hl h1 hb h63 hbase fun A' c' w' h2 h3=>h A' c' w' h2 ?_ h3.size
 exact hw0.grown h3 hbase (fun k hk=>(World.ownsRow.lt hown k hk).1)
end
def OwnB (w:World) (base:Nat) (e:TypeId) (A:Option Addr) (n c:Nat) (l:List UInt8):Prop:=w.ownsRow base e 1 (.slice A n c) n (bcs l)
section
variable {P:Program} {t e:TypeId}
theorem OwnB.sl {w:World} {base:Nat} {A:Option Addr} {n c:Nat} {l:List UInt8} (h:OwnB w base e A n c l):SlB w A n c l:=SlB.of_own h
theorem OwnB.nil (w:World) (base:Nat) (e:TypeId):OwnB w base e none 0 0 []:=World.ownsRow_nil w base e 1
theorem OwnB.made (w:World) (base:Nat) (cur:Array Value) (cap g:Nat) (hg:w.heap.size=g) (hb:base≤g) (hm:cap≤4611686018427387904) (hs:cur.size=cap):OwnB (w.alloc (.cells cur e)) base e (some ⟨g,0,none⟩) 0 cap []:=by
 subst hg;exact World.ownsRow_made w cur cap hb (by simp only [maxLen];omega) (by omega)
theorem OwnB.alloc {w:World} {base:Nat} {A:Option Addr} {n c:Nat} {l:List UInt8} (h:OwnB w base e A n c l) (o:Obj):OwnB (w.alloc o) base e A n c l:=World.ownsRow.alloc h o
theorem OwnB.drew {w:World} {base:Nat} {A:Option Addr} {n c:Nat} {l:List UInt8} (h:OwnB w base e A n c l):OwnB w.drew base e A n c l:=h
theorem OwnB.ext {w w':World} {base:Nat} {A:Option Addr} {n c:Nat} {l:List UInt8} (h:OwnB w base e A n c l) (he:Ext w w'):OwnB w' base e A n c l:=by
 refine ⟨h.1,?_⟩
 rcases h.2 with h2 | ⟨g,cap,cur,hv,hg,hh,r⟩
 ·exact .inl h2
 exact .inr ⟨g,cap,cur,hv,hg,(he.block g (Array.getElem?_eq_some_iff.1 hh).1).trans hh,r⟩
theorem bR {ops:Array Oper} {rest:List Oper} {o:Oper} {a:Act} {w:World} {Q:Exit→Act→World→Prop} (E:Elem P t e (.int .u8 0) 1 1) (hgd:o.guard=none) (s x:Operand)
  (ho:o.op=.call { callee:=.builtin .append,args:=#[s,x],argTypes:=#[t,t] })
  (base:Nat) (A:Option Addr) (n c:Nat) (l:List UInt8) (hs:a.eval s=.slice A n c) (hown:OwnB w base e A n c l)
  (A2:Option Addr) (m c2:Nat) (l2:List UInt8) (hx:a.eval x=.slice A2 m c2) (hr:SlB w A2 m c2 l2)
  (hb:n+m≤140737488355328) (hbase:base≤w.heap.size) (w0:World) (hw0:Below base w0 w)
  (h:∀ A' c' w',OwnB w' base e A' (n+m) c' (l ++ l2)→Below base w0 w'→w.heap.size≤w'.heap.size→wpList P ops Q rest (a.put o.dst (.slice A' (n+m) c')) w'):wpList P ops Q (o :: rest) a w:=by
 refine wpList_plain hgd fun K hK=>oD E s x ho base A n c (bcs l) hs hown A2 m c2 (bcs l2) hx hr.rd (by rw [aJ,hr.len,Nat.mul_one]) (dT l2) (by omega) (by omega) hbase fun A' c' w' h2 h3=>hK _ _ (h A' c' w' ?_ ?_ h3.size)
 ·unfold OwnB;rw [eQ];exact h2
 exact hw0.grown h3 hbase (fun k hk=>(World.ownsRow.lt hown k hk).1)
theorem pG {ops:Array Oper} {rest:List Oper} {o:Oper} {a:Act} {w:World} {Q:Exit→Act→World→Prop} (E:Elem P t e (.int .u8 0) 1 1) (hgd:o.guard=none) (s x:Operand)
  (ho:o.op=.call { callee:=.builtin .append,args:=#[s,x],argTypes:=#[t,t] })
  (A:Option Addr) (n c:Nat) (l:List UInt8) (hs:a.eval s=.slice A n c) (hra:SlB w A n c l) (hn:0 < n)
  (A2:Option Addr) (m c2:Nat) (l2:List UInt8) (hx:a.eval x=.slice A2 m c2) (hr:SlB w A2 m c2 l2) (hm:0 < m) (hg:c < n+m)
  (hb:n+m≤140737488355328)
  (h:∀ A' c' w',OwnB w' w.heap.size e A' (n+m) c' (l ++ l2)→Ext w w'→wpList P ops Q rest (a.put o.dst (.slice A' (n+m) c')) w'):wpList P ops Q (o :: rest) a w:=by
 refine wpList_plain hgd fun K hK=>aII E s x ho A n c (bcs l) hs hra.rd (by rw [aJ,hra.len,Nat.mul_one]) hn A2 m c2 (bcs l2) hx hr.rd (by rw [aJ,hr.len,Nat.mul_one]) hm (dT l2) hg (by omega) (by omega) fun A' c' w' h2 h3=>hK _ _ (h A' c' w' ?_ h3)
 unfold OwnB;rw [eQ];exact h2
end
section
variable {P:Program} {t e:TypeId}
theorem yK {ops:Array Oper} {o:Oper} {a:Act} {w:World} {K:Act→World→Prop} {Q:Exit→Act→World→Prop} {X:Prop} (E:Elem P t e (.int .u8 0) 1 1) (hgd:o.guard=none) (s x:Operand)
  (ho:o.op=.call { callee:=.builtin .append,args:=#[s,x],argTypes:=#[t,t] })
  (base:Nat) (A:Option Addr) (n c:Nat) (l:List UInt8) (hs:a.eval s=.slice A n c) (hown:OwnB w base e A n c l)
  (A2:Option Addr) (m c2:Nat) (l2:List UInt8) (hx:a.eval x=.slice A2 m c2) (hr:SlB w A2 m c2 l2)
  (hb:n+m≤140737488355328) (hbase:base≤w.heap.size) (w0:World) (hw0:Below base w0 w)
  (h:∀ A' c' w',OwnB w' base e A' (n+m) c' (l ++ l2)→Below base w0 w'→w.heap.size≤w'.heap.size→K (a.put o.dst (.slice A' (n+m) c')) w'):if Region.wanted o (yielded ops a.tmps)=true then Oper.wp P o a w K Q else X:=by
 have hw:Region.wanted o (yielded ops a.tmps)=true:=by simp [Region.wanted,hgd]
 rw [if_pos hw]
 refine oD E s x ho base A n c (bcs l) hs hown A2 m c2 (bcs l2) hx hr.rd (by rw [aJ,hr.len,Nat.mul_one]) (dT l2) (by omega) (by omega) hbase fun A' c' w' h2 h3=>h A' c' w' ?_ ?_ h3.size
 ·unfold OwnB;rw [eQ];exact h2
 exact hw0.grown h3 hbase (fun k hk=>(World.ownsRow.lt hown k hk).1)
end
def toB (z:Int):UInt8:=UInt8.ofNat (z % 256).toNat
theorem bK (z:Int):z % 256=((toB z).toNat:Int):=by unfold toB;simp;omega
theorem SlB.new {w:World} {t:TypeId} {cs:Array Value} {g:Nat} (hg:w.heap.size=g) (l:List UInt8) (h:cs.toList=bcs l) (hl:l.length≤9223372036854775807):SlB (w.alloc (.cells cs t)) (some ⟨g,0,none⟩) l.length l.length l:=by
 subst hg;exact ⟨rfl,Nat.le_refl _,hl,by rw [← h];exact Rd.of_blk (Blk.new w t cs)⟩
theorem SlB.new1 (w:World) (t:TypeId) (z:Int) (c:UInt8) (g:Nat) (hg:w.heap.size=g) (hz:z=(c.toNat:Int)):SlB (w.alloc (.cells #[.int .u8 z] t)) (some ⟨g,0,none⟩) 1 1 [c] :=
 SlB.new hg [c] (by rw [hz];rfl) (by simp)
theorem SlB.new2 (w:World) (t:TypeId) (z z':Int) (c c':UInt8) (g:Nat) (hg:w.heap.size=g) (hz:z=(c.toNat:Int)) (hz':z'=(c'.toNat:Int)):SlB (w.alloc (.cells #[.int .u8 z,.int .u8 z'] t)) (some ⟨g,0,none⟩) 2 2 [c,c'] :=
 SlB.new hg [c,c'] (by rw [hz,hz'];rfl) (by simp)
theorem SlB.blkN {w:World} {g:Nat} {t:TypeId} {n:UInt64} (h:Blk w g t (nmc n)):SlB w (some ⟨g,0,none⟩) 8 8 (nmb n) :=
 ⟨aG n,Nat.le_refl _,by omega,by rw [← bJ];exact Rd.of_blk h⟩
theorem bL:Elem Tryz.prog 45 5 (.int .u8 0) 1 1:=⟨Tryz.underlying45,by kernel_rfl,rfl,by decide⟩
theorem cY {w:World} {base n c:Nat} {e:TypeId} {size:Nat} {A:Option Addr} {xs:List Value} (h:w.ownsRow base e size (.slice A n c) n xs) (hn:0 < n):∃ g,A=some ⟨g,0,none⟩∧base≤g∧w.rangeAt g 0 xs:=by
 rcases h.2 with ⟨hv,h0⟩ | ⟨g,cap,cur,hv,hb,hh,_⟩
 ·omega
 injection hv with hA;subst hA
 refine ⟨g,rfl,hb,fun j v hv=>?_⟩
 have:=h.cells (g:=g) rfl j v hv
 rwa [Addr.add_mid] at this
theorem dY {w:World} {A:Option Addr} {n c:Nat} {base:Nat} {e:TypeId} {size:Nat} {xs:List Value} (h:w.ownsRow base e size (.slice A n c) n xs):n≤c∧c≤9223372036854775807:=by
 rcases h.2 with ⟨hv,hn⟩ | ⟨g,cap,cur,hv,_,_,hc,hm,_⟩
 ·injection hv;omega
 injection hv with _ _ hc';subst hc';exact ⟨hc,hm⟩
theorem bB {w:World} {base base':Nat} {e:TypeId} {size:Nat} {v:Value} {n:Nat} {xs:List Value} (h:w.ownsRow base e size v n xs) (hb:base'≤base):w.ownsRow base' e size v n xs:=by
 refine ⟨h.1,?_⟩
 rcases h.2 with h2 | ⟨g,cap,cur,hv,hg,r⟩
 ·exact .inl h2
 exact .inr ⟨g,cap,cur,hv,by omega,r⟩
def aKP (k:IntKind) (w:World) (a:Option Addr) (len cap:Nat) (zs:List Int):Prop :=
 (a=none∧len=0∧cap=0∧zs=[]) ∨
 ∃ x,a=some x∧len≤cap∧cap≤maxLen∧zs.length=cap∧(∀ i,i < zs.length→w.cell? (x.add i)=some (.int k (zs.getD i 0)))∧∀ n ∈ zs,(Lit.int k n).wf=true
theorem aKo {n:Int} (h:(Lit.int .u8 n).wf=true):0≤n∧n < 256:=by
 have:0≤n∧n≤255:=by simpa [Lit.wf,IntKind.min,IntKind.max,IntKind.signed,IntKind.bits] using h
 omega
theorem aDE {w:World} {a:Option Addr} {len cap:Nat} {zs:List Int} (h:aKP .u8 w a len cap zs):∃ l,SlB w a len cap l:=by
 rcases h with ⟨rfl,rfl,rfl,rfl⟩ | ⟨x,rfl,hl,hm,hz,hc,hw⟩
 ·exact ⟨[],SlB.nil w⟩
 refine ⟨(zs.take len).map toB,by simp;omega,hl,hm,?_⟩
 by_cases h0:len=0
 ·subst h0;exact .inl (by simp [bcs])
 have hcell:∀ j,j < len→w.cell? (x.add j)=some (.int .u8 ((toB (zs.getD j 0)).toNat:Int)):=by
  intro j hj
  rw [hc j (by omega),← bK]
  have hb:=aKo (hw (zs.getD j 0) (by
   have:zs.getD j 0=zs[j]'(by omega):=by simp [show j < zs.length from by omega]
   rw [this];exact List.getElem_mem _))
  rw [Int.emod_eq_of_lt hb.1 hb.2]
 have hx:x.spot=none:=by
  have:=hcell 0 (by omega)
  simp only [Addr.add,if_pos] at this
  unfold World.cell? at this
  cases hs:x.spot with
  | none=>rfl
  | some p=>rw [hs] at this;split at this <;> simp at this
 refine .inr ⟨x.block,x.off,by cases x;simp_all,fun j v hv=>?_⟩
 have hj:j < len:=by have:=(List.getElem?_eq_some_iff.1 hv).1;simp [bcs] at this;omega
 have e:(⟨x.block,x.off+j,none⟩:Addr)=x.add j:=by
  cases x;simp only at hx;subst hx;rw [Addr.add_mid]
 rw [e,hcell j hj,← hv]
 simp [bcs,bv,hj,show j < zs.length from by omega]
end
section
open Go.RowKit
attribute [local go_sem ↓] Go.wp_at_zero Go.wp_at_succ
def dW (t:UInt8) (l:List UInt8):UInt64:=cM (t :: l)
theorem aHY (w:World):(Instr.makeSlice 45 (.int .i64 0) (.int .i64 160)).run Tryz.prog w=.ok (.slice (some ⟨w.heap.size,0,none⟩) 0 160) (w.alloc (.cells (madeCells (Value.int .u8 0).cells 160) 5)):=by
 obtain ⟨i,hi,hz,hs,hby⟩:=bL.get
 have h:=run_make (P:=Tryz.prog) w 45 5 i (.int .u8 0) bL.ut hi hz .i64 .i64 0 160 (by omega) (by omega) (by rw [hby];omega) (by omega)
 simpa [hs] using h
theorem fZ (t:UInt8) (A:Option Addr) (n c:Nat) (l:List UInt8) (w:World) (h:SlB w A n c l) (hm:n < 140737488355328) :
  Calls Tryz.prog 109 #[.int .u8 (t.toNat:Int),.slice A n c] w fun e w'=>e=.returned (.agg (nmc (dW t l)))∧Ext w w':=by
 have hmk:=aHY
 go_enter Tryz.func109,Tryz.ntmps109
 go_wp2_with (at_builtin;go_must (refine bR bL rfl (.tmp 7) (.tmp 9) rfl (w.heap.size+1) _ _ _ [] rfl ((OwnB.made (w.alloc _) (w.heap.size+1) _ 160 (w.heap.size+1) (by simp) (Nat.le_refl _) (by omega) (size_madeCells _ _)).alloc _) _ _ _ [t] rfl ?r1 (by omega) ?b1 (w.alloc (.cells zcs.toArray 30)) ?w1 ?_))
 case r1=>exact SlB.new1 _ _ _ t _ (by simp) rfl
 case b1=>simp
 case w1=>exact Below.alloc (Below.alloc (Below.refl _ _) (by simp) _) (by simp) _
 intro A1 c1 w1 ho1 hw1 hs1
 have hsl:=h.ext (((Ext.refl w).alloc' _).trans (hw1.mono (by simp)))
 have hsz:w.heap.size+1≤w1.heap.size:=by omega
 go_wp2_with (at_builtin;refine bR bL rfl (.tmp 10) (.tmp 11) rfl (w.heap.size+1) _ _ _ [t] rfl ho1 _ _ _ l rfl hsl (by omega) hsz (w.alloc (.cells zcs.toArray 30)) hw1 ?_)
 intro A2 c2 w2 ho2 hw2 hs2
 go_wp2_with fail
 refine (aEJ _ _ _ _ _ ho2.sl (by omega)).mono ?_
 rintro e w3 ⟨rfl,he3⟩
 have hE3:Ext (w.alloc (.cells zcs.toArray 30)) w3:=by have:=Below.trans hw2 (he3.mono (B':=w.heap.size+1) (by omega));simpa [Ext] using this
 have hb0:Blk w3 w.heap.size 30 zcs.toArray:=(Blk.new w _ _).ext hE3
 go_wp2_with (refine wpList_store_mid rfl 30 _ _ rfl w.heap.size 0 (nmc (cM ([t] ++ l))) rfl rfl (lF hb0 _) (eO _) (gQ _) ?_)
 refine bodyPost_ret (v:=.agg (nmc (cM ([t] ++ l)))) (fI rfl _ _ w.heap.size _ rfl (blkN hb0 _)) rfl ⟨rfl,Below.setCells' (((Ext.refl w).alloc' _).trans hE3) (Nat.le_refl _) _ _⟩
theorem eA (t:UInt8) (A:Option Addr) (n c:Nat) (l:List UInt8) (w:World) (h:SlB w A n c l) (hm:n < 140737488355328) :
  Calls Tryz.prog 75 #[.int .u8 (t.toNat:Int),.slice A n c] w fun e w'=>e=.returned (.agg (nmc (dW t l)))∧Ext w w':=by
 have hmk:=aHY
 go_enter Tryz.func75,Tryz.ntmps75
 go_wp2_with (at_builtin;go_must (refine bR bL rfl (.tmp 5) (.tmp 7) rfl (w.heap.size+1) _ _ _ [] rfl ((OwnB.made (w.alloc _) (w.heap.size+1) _ 160 (w.heap.size+1) (by simp) (Nat.le_refl _) (by omega) (size_madeCells _ _)).alloc _) _ _ _ [t] rfl ?r1 (by omega) ?b1 (w.alloc (.cells zcs.toArray 30)) ?w1 ?_))
 case r1=>exact SlB.new1 _ _ _ t _ (by simp) rfl
 case b1=>simp
 case w1=>exact Below.alloc (Below.alloc (Below.refl _ _) (by simp) _) (by simp) _
 intro A1 c1 w1 ho1 hw1 hs1
 have hsl:=h.ext (((Ext.refl w).alloc' _).trans (hw1.mono (by simp)))
 have hsz:w.heap.size+1≤w1.heap.size:=by omega
 go_wp2_with (at_builtin;refine bR bL rfl (.tmp 8) (.tmp 9) rfl (w.heap.size+1) _ _ _ [t] rfl ho1 _ _ _ l rfl hsl (by omega) hsz (w.alloc (.cells zcs.toArray 30)) hw1 ?_)
 intro A2 c2 w2 ho2 hw2 hs2
 go_wp2_with fail
 refine (uQ _ _ _ _ _ ho2.sl (by omega)).mono ?_
 rintro e w3 ⟨rfl,he3⟩
 have hE3:Ext (w.alloc (.cells zcs.toArray 30)) w3:=by have:=Below.trans hw2 (he3.mono (B':=w.heap.size+1) (by omega));simpa [Ext] using this
 have hb0:Blk w3 w.heap.size 30 zcs.toArray:=(Blk.new w _ _).ext hE3
 go_wp2_with (refine wpList_store_mid rfl 30 _ _ rfl w.heap.size 0 (nmc (cM ([t] ++ l))) rfl rfl (lF hb0 _) (eO _) (gQ _) ?_)
 refine bodyPost_ret (v:=.agg (nmc (cM ([t] ++ l)))) (fI rfl _ _ w.heap.size _ rfl (blkN hb0 _)) rfl ⟨rfl,Below.setCells' (((Ext.refl w).alloc' _).trans hE3) (Nat.le_refl _) _ _⟩
def z16:List Value:=List.replicate 16 (.int .u8 0)
theorem aCf (x y:UInt64):(splice (splice z16 0 (bcs (nmb x))) 8 (bcs (nmb y))).toArray=(bcs (nmb x ++ nmb y)).toArray:=by
 have h1:=aG x
 have h2:=aG y
 simp only [splice,z16,List.take_zero,List.nil_append,aJ,h1,h2,Nat.zero_add,List.drop_replicate,eQ]
 rw [List.take_append_of_le_length (by rw [aJ,h1];omega),List.take_of_length_le (by rw [aJ,h1];omega),List.drop_eq_nil_of_le (by simp [aJ,h1])]
 simp
theorem sW (x:UInt64):(splice z16 0 (bcs (nmb x))).length=16:=by
 rw [length_splice _ _ _ (by rw [aJ,aG];simp [z16])];simp [z16]
def kE (t:UInt8) (x y:UInt64):UInt64:=dW t (nmb x ++ nmb y)
theorem aCg (t:UInt8) (x y:UInt64) (w:World) :
  Calls Tryz.prog 265 #[.int .u8 (t.toNat:Int),.agg (nmc x),.agg (nmc y)] w fun e w'=>e=.returned (.agg (nmc (kE t x y)))∧Ext w w':=by
 go_enter Tryz.func265,Tryz.ntmps265
 go_wp2_with fail
 go_still_tail 2,(by kernel_rfl)
 change wpList _ _ _ _ _ (World.drew _)
 refine wpList_copy_splice rfl _ _ _ _ rfl 5 Tryz.underlying45 (by kernel_rfl) _ _ _ _ _ _ rfl rfl (w.heap.size+3) 0 z16 248 ?g1 (bcs (nmb x)) ?c1 ?c2 ?c3 (dT _) (w.heap.size+3) (((w.alloc (.cells (nmc x) 30)).alloc (.cells (nmc y) 30)).alloc (.cells zcs.toArray 30)) ?b1 (Nat.le_refl _) ?_
 case g1=>exact (Blk.newAt (((w.alloc (.cells (nmc x) 30)).alloc (.cells (nmc y) 30)).alloc (.cells zcs.toArray 30)) 248 z16.toArray (w.heap.size+3) (by simp)).drew
 case c1=>rw [aJ,aG];rfl
 case c2 =>
  intro _
  refine ⟨rfl,_,rfl,fun j v hv=>?_⟩
  rw [Addr.add_mid]
  exact aC ((((Blk.new w _ (nmc x)).alloc _).alloc _).alloc _).drew j v (by rw [bJ];exact hv)
 case c3=>rw [aJ,aG];decide
 case b1=>exact (Below.alloc (Below.refl _ _) (by simp) _).drew
 intro w1 hb1 hw1
 have hy1:Blk w1 (w.heap.size+1) 30 (nmc y):=by
  have:=((Blk.new (w.alloc (.cells (nmc x) 30)) 30 (nmc y)).alloc (.cells zcs.toArray 30)).below hw1 (by simp)
  simpa using this
 go_wp2_with fail
 go_still_tail 2,(by kernel_rfl)
 change wpList _ _ _ _ _ (World.drew _)
 refine wpList_copy_splice rfl _ _ _ _ rfl 5 Tryz.underlying45 (by kernel_rfl) _ _ _ _ _ _ rfl rfl (w.heap.size+3) 8 (splice z16 0 (bcs (nmb x))) 248 ?g1 (bcs (nmb y)) ?c1 ?c2 ?c3 (dT _) (w.heap.size+3) (((w.alloc (.cells (nmc x) 30)).alloc (.cells (nmc y) 30)).alloc (.cells zcs.toArray 30)) ?b1 (Nat.le_refl _) ?_
 case g1=>exact hb1.out
 case c1=>rw [aJ,aG];rfl
 case c2 =>
  intro _
  refine ⟨rfl,_,rfl,fun j v hv=>?_⟩
  rw [Addr.add_mid]
  exact aC hy1.drew j v (by rw [bJ];exact hv)
 case c3=>rw [aJ,aG,sW];decide
 case b1=>exact hw1.drew
 intro w2 hb2 hw2
 have hb3:Blk w2 (w.heap.size+3) 248 (bcs (nmb x ++ nmb y)).toArray:=by rw [← aCf];exact hb2.out
 have hl16:(nmb x ++ nmb y).length=16:=by rw [List.length_append,aG,aG]
 have hsl:SlB w2 (some ⟨w.heap.size+3,0,none⟩) 16 16 (nmb x ++ nmb y):=⟨hl16,by omega,by omega,by have:=Rd.of_blk hb3;simpa using this⟩
 go_wp2_with fail
 refine (fZ t _ _ _ _ _ hsl (by omega)).mono ?_
 rintro e w3 ⟨rfl,he3⟩
 have hsz2:=hb3.lt
 have hE3:Below (w.heap.size+3) (((w.alloc (.cells (nmc x) 30)).alloc (.cells (nmc y) 30)).alloc (.cells zcs.toArray 30)) w3:=Below.trans hw2 (he3.mono (by omega))
 have hb0:Blk w3 (w.heap.size+2) 30 zcs.toArray:=by
  have:=(Blk.new ((w.alloc (.cells (nmc x) 30)).alloc (.cells (nmc y) 30)) 30 zcs.toArray).below hE3 (by simp)
  simpa using this
 go_wp2_with (refine wpList_store_mid rfl 30 _ _ rfl (w.heap.size+2) 0 (nmc (dW t (nmb x ++ nmb y))) rfl rfl (lF hb0 _) (eO _) (gQ _) ?_)
 refine bodyPost_ret (v:=.agg (nmc (dW t (nmb x ++ nmb y)))) (fI rfl _ _ (w.heap.size+2) _ rfl (blkN hb0 _)) rfl ⟨rfl,Below.setCells' (((((Ext.refl w).alloc' _).alloc' _).alloc' _).trans (by simpa [Ext] using hE3)) (by omega) _ _⟩
theorem aCb (t:UInt8) (x y:UInt64) (w:World) :
  Calls Tryz.prog 195 #[.int .u8 (t.toNat:Int),.agg (nmc x),.agg (nmc y)] w fun e w'=>e=.returned (.agg (nmc (kE t x y)))∧Ext w w':=by
 go_enter Tryz.func195,Tryz.ntmps195
 go_wp2_with fail
 have own1:OwnB (((((w.alloc (.cells (nmc x) 30)).alloc (.cells (nmc y) 30)).alloc (.cells zcs.toArray 30)).alloc (.cells #[] 5)).drew) (w.heap.size+3) 5 (some ⟨w.heap.size+3,0,none⟩) 0 0 []:=(OwnB.made _ _ _ 0 _ (by simp) (Nat.le_refl _) (by omega) (by simp)).drew
 have r1:SlB (((((w.alloc (.cells (nmc x) 30)).alloc (.cells (nmc y) 30)).alloc (.cells zcs.toArray 30)).alloc (.cells #[] 5)).drew) (some ⟨w.heap.size,0,none⟩) 8 8 (nmb x):=SlB.blkN ((((Blk.new w _ (nmc x)).alloc _).alloc _).alloc _).drew
 have b1:Below (w.heap.size+3) (((w.alloc (.cells (nmc x) 30)).alloc (.cells (nmc y) 30)).alloc (.cells zcs.toArray 30)) (((((w.alloc (.cells (nmc x) 30)).alloc (.cells (nmc y) 30)).alloc (.cells zcs.toArray 30)).alloc (.cells #[] 5)).drew):=(Below.alloc (Below.refl _ _) (by simp) _).drew
 have hy:Blk (((w.alloc (.cells (nmc x) 30)).alloc (.cells (nmc y) 30)).alloc (.cells zcs.toArray 30)) (w.heap.size+1) 30 (nmc y):=(Blk.newAt (w.alloc (.cells (nmc x) 30)) 30 (nmc y) (w.heap.size+1) (by simp)).alloc _
 have hz:Blk (((w.alloc (.cells (nmc x) 30)).alloc (.cells (nmc y) 30)).alloc (.cells zcs.toArray 30)) (w.heap.size+2) 30 zcs.toArray:=Blk.newAt ((w.alloc (.cells (nmc x) 30)).alloc (.cells (nmc y) 30)) 30 zcs.toArray (w.heap.size+2) (by simp)
 go_region_held3 (fun _=>True) (trivial) (first | (refine yK bL rfl (.tmp 8) (.tmp 9) rfl (w.heap.size+3) _ _ _ [] (by rfl) own1 _ _ _ (nmb x) (by rfl) r1 (by omega) (by simp) (((w.alloc (.cells (nmc x) 30)).alloc (.cells (nmc y) 30)).alloc (.cells zcs.toArray 30)) b1 ?_;intro A1 c1 w1 ho1 hw1 hs1) | (refine yK bL rfl (.tmp 10) (.tmp 11) rfl (w.heap.size+3) _ _ _ (nmb x) (by rfl) ho1 _ _ _ (nmb y) (by rfl) (SlB.blkN (hy.below hw1 (by omega))) (by omega) (by have:=hs1;simp at this;omega) (((w.alloc (.cells (nmc x) 30)).alloc (.cells (nmc y) 30)).alloc (.cells zcs.toArray 30)) hw1 ?_;intro A2 c2 w2 ho2 hw2 hs2) | (go_at_call 75;refine (eA t _ _ _ _ _ ho2.sl (by omega)).mono ?_;rintro e w3 ⟨rfl,he3⟩;have hw3:=Below.trans hw2 (he3.mono (by have:=hs1;simp at this;omega));have hz3:=hz.below hw3 (by omega);have hst:=cC hz3 (dW t (nmb x ++ nmb y))))
 go_wp2_with fail
 refine bodyPost_ret (v:=.agg (nmc (dW t (nmb x ++ nmb y)))) (fI rfl _ _ (w.heap.size+2) _ rfl (blkN hz3 _)) rfl ⟨rfl,Below.setCells' (((((Ext.refl w).alloc' _).alloc' _).alloc' _).trans (by simpa [Ext] using hw3)) (by omega) _ _⟩
theorem aAn (x:UInt64) (k:Int) (w:World) :
  Calls Tryz.prog 199 #[.agg (nmc x),.int .i64 k] w fun e w'=>e=.returned (.agg (nmc (dW 32 (nmb x ++ [toB k]))))∧Ext w w':=by
 go_enter Tryz.func199,Tryz.ntmps199
 go_wp2_with (at_builtin;go_must (refine bR bL rfl (.tmp 5) (.tmp 6) rfl (w.heap.size+2) _ _ _ [] rfl ?o1 _ _ _ (nmb x) rfl ?r1 ?n1 ?b1 ((w.alloc (.cells (nmc x) 30)).alloc (.cells zcs.toArray 30)) ?w1 ?_))
 case o1=>exact OwnB.made _ _ _ 0 _ (by simp) (Nat.le_refl _) (by omega) (by simp)
 case r1=>exact SlB.blkN (((Blk.new w _ (nmc x)).alloc _).alloc _)
 case n1=>omega
 case b1=>simp
 case w1=>exact Below.alloc (Below.refl _ _) (by simp) _
 intro A1 c1 w1 ho1 hw1 hs1
 have hsz:w.heap.size+2≤w1.heap.size:=by omega
 go_wp2_with (at_builtin;go_must (refine bR bL rfl (.tmp 7) (.tmp 10) rfl (w.heap.size+2) _ _ _ (nmb x) rfl (ho1.alloc _) _ _ _ [toB k] rfl ?r1 (by omega) ?b1 ((w.alloc (.cells (nmc x) 30)).alloc (.cells zcs.toArray 30)) ?w1 ?_))
 case r1=>exact SlB.new1 _ _ _ (toB k) _ rfl (bK k)
 case b1=>simp;omega
 case w1=>exact Below.alloc hw1 hsz _
 intro A2 c2 w2 ho2 hw2 hs2
 have hsz2:w.heap.size+2≤w2.heap.size:=by omega
 go_wp2_with fail
 refine (eA 32 _ _ _ _ _ ho2.sl (by omega)).mono ?_
 rintro e w3 ⟨rfl,he3⟩
 have hE3:Below (w.heap.size+2) ((w.alloc (.cells (nmc x) 30)).alloc (.cells zcs.toArray 30)) w3:=Below.trans hw2 (he3.mono (by omega))
 have hb0:Blk w3 (w.heap.size+1) 30 zcs.toArray:=(Blk.newAt (w.alloc (.cells (nmc x) 30)) 30 zcs.toArray (w.heap.size+1) (by simp)).below hE3 (by omega)
 go_wp2_with (refine wpList_store_mid rfl 30 _ _ rfl (w.heap.size+1) 0 (nmc (dW 32 (nmb x ++ [toB k]))) rfl rfl (lF hb0 _) (eO _) (gQ _) ?_)
 refine bodyPost_ret (v:=.agg (nmc (dW 32 (nmb x ++ [toB k])))) (fI rfl _ _ (w.heap.size+1) _ rfl (blkN hb0 _)) rfl ⟨rfl,Below.setCells' ((((Ext.refl w).alloc' _).alloc' _).trans (by simpa [Ext] using hE3)) (by omega) _ _⟩
def cJ (v:UInt64) (c p:Int):Nat→UInt64
 | 0=>v
 | k+1=>dW 33 (nmb (cJ v c p k) ++ [toB c,toB (p+k)])
theorem aIv {w:World} {g:Nat} {t:TypeId} {n:UInt64} (h:Blk w g t (nmc n)) (r:UInt64):Blk (w.setCells g 0 (nmc r).toList) g t (nmc r):=aQ h (by rw [cU,cU])
theorem aEH {w:World} {g:Nat} {t:TypeId} {n:UInt64} (h:Blk w g t (nmc n)) (r:UInt64):w.there g 0 (nmc r).size:=by rw [cU];have:=aK h;rwa [cU] at this
theorem Blk.setCells_far {w:World} {g g':Nat} {t:TypeId} {cs:Array Value} (h:Blk w g t cs) (hne:g ≠ g') (vs:List Value):∀ o,Blk (w.setCells g' o vs) g t cs:=by
 induction vs generalizing w with
 | nil=>intro o;exact h
 | cons v r ih=>intro o;exact ih (h.far (p:=⟨g',o,none⟩) hne v) (o+1)
theorem aGO (v:UInt64) (c p q:Int) (w:World) (hp:0≤p) (hp2:p≤1000) (hq:-1000≤q) (hq2:q≤1000) :
  Calls Tryz.prog 255 #[.agg (nmc v),.int .i64 c,.int .i64 p,.int .i64 q] w fun e w'=>e=.returned (.agg (nmc (cJ v c p (q - p).toNat)))∧Ext w w':=by
 go_enter Tryz.func255,Tryz.ntmps255
 go_wp2_with fail
 go_loopw [13] (fun i wr=>∃ k:Nat,k≤(q - p).toNat∧i=.int .i64 (k:Int)∧Blk wr w.heap.size 30 (nmc (cJ v c p k))∧Blk wr (w.heap.size+1) 30 zcs.toArray∧Ext w wr) (fun i _=>(q - p).toNat - (intOf i).toNat)
 case atStart=>exact ⟨0,by omega,rfl,(Blk.new w _ _).alloc _,Blk.newAt _ _ _ _ (by simp),((Ext.refl w).alloc' _).alloc' _⟩
 case round =>
  obtain ⟨k,hk,rfl,hB,hZ,hE⟩:=hrel
  by_cases hlt:(k:Int) < q - p
  ·have HS := zh (show cJ v c p (k + 1) = dW 33 (nmb (cJ v c p k) ++ [toB c, toB (p + k)]) from rfl)
   generalize cJ v c p k=x at *
   go_wp2_with (at_builtin;go_must (refine pG bL rfl (.tmp 16) (.tmp 23) rfl _ _ _ (nmb x) rfl ?o1 ?n1 _ _ _ [toB c,toB (p+k)] rfl ?r1 ?m1 ?g1 ?b1 ?_))
   case o1=>exact SlB.blkN (hB.alloc _)
   case n1=>omega
   case r1=>exact SlB.new2 _ _ _ _ _ _ _ (by simp) (bK _) (bK _)
   case m1=>omega
   case g1=>omega
   case b1=>omega
   intro A2 c2 w2 ho2 he2
   have hE2:=Ext.trans ((Ext.refl wr).alloc' _) he2
   go_wp2_with fail
   refine (fZ 33 _ _ _ _ _ ho2.sl (by omega)).mono ?_
   rintro e w3 ⟨rfl,he3⟩
   have hE3:=Ext.trans hE2 he3
   have hB3:=hB.ext hE3
   have hZ3:=hZ.ext hE3
   go_wp2_with (with_reducible refine wpList_store_mid rfl 30 _ _ rfl w.heap.size 0 (nmc (dW 33 (nmb x ++ [toB c,toB (p+k)]))) rfl rfl (aEH hB3 _) (eO _) (gQ _) ?_)
   go_roundw
   case rel=>exact ⟨k+1,by omega,by go_num,by rw [HS.out];exact aIv hB3 _,hZ3.setCells_far (by omega) _ _,Below.setCells' (Ext.trans hE hE3) (Nat.le_refl _) _ _⟩
   case measure=>simp [intOf];omega
  have HK:=zh (show k=(q - p).toNat by omega)
  have HX:=zh (show cJ v c p (q - p).toNat=cJ v c p k by rw [← HK.out])
  generalize cJ v c p k=x at *
  go_wp2_with (first | (refine wpList_load_row rfl 30 _ rfl _ rfl 30 _ (0,0) _ hB Tryz.underlying30 rfl (eO x) ?_) | (refine wpList_store_mid rfl 30 _ _ rfl (w.heap.size+1) 0 (nmc x) rfl rfl (lF hZ _) (eO _) (gQ _) ?_))
  refine bodyPost_ret (v:=.agg (nmc x)) (fI rfl _ _ (w.heap.size+1) _ rfl (blkN hZ _)) rfl ⟨by rw [HX.out],Below.setCells' hE (by omega) _ _⟩
theorem iJ (n:UInt64) (k:Nat) (hk:k < 8):(nmc n)[k]?=some (.int .u8 (((nmb n).getD k 0).toNat:Int)):=by
 have hl:=aG n
 simp [nmc,bcs,bv,hl,hk]
theorem pY (n:UInt64):nmb n=[(nmb n).getD 0 0,(nmb n).getD 1 0,(nmb n).getD 2 0,(nmb n).getD 3 0,(nmb n).getD 4 0,(nmb n).getD 5 0,(nmb n).getD 6 0,(nmb n).getD 7 0]:=by
 have hl:=aG n
 match h:nmb n,hl with
 | [a,b,c,d,e,f,g,i],_=>rfl
theorem pQ (v:UInt64) (c p q:Int) (w:World) (hp:0≤p) (hp2:p≤1000) (hq:-1000≤q) (hq2:q≤1000) :
  Calls Tryz.prog 198 #[.agg (nmc v),.int .i64 c,.int .i64 p,.int .i64 q] w fun e w'=>e=.returned (.agg (nmc (cJ v c p (q - p).toNat)))∧Ext w w':=by
 go_enter Tryz.func198,Tryz.ntmps198
 go_wp2_with fail
 go_loopw [9] (fun i wr=>∃ k:Nat,k≤(q - p).toNat∧i=.int .i64 (p+k)∧Blk wr w.heap.size 30 (nmc (cJ v c p k))∧Blk wr (w.heap.size+1) 30 zcs.toArray∧Ext w wr) (fun i _=>(q - intOf i).toNat)
 case atStart=>exact ⟨0,by omega,by simp,(Blk.new w _ _).alloc _,Blk.newAt _ _ _ _ (by simp),((Ext.refl w).alloc' _).alloc' _⟩
 case round =>
  obtain ⟨k,hk,rfl,hB,hZ,hE⟩:=hrel
  by_cases hlt:p+(k:Int) < q
  ·have HS := zh (show cJ v c p (k + 1) = cM (33 :: (nmb (cJ v c p k) ++ [toB c, toB (p + k)])) from rfl)
   generalize cJ v c p k=x at *
   have g0:=(hB.cell 0).trans (iJ x 0 (by omega))
   have g1:=(hB.cell 1).trans (iJ x 1 (by omega))
   have g2:=(hB.cell 2).trans (iJ x 2 (by omega))
   have g3:=(hB.cell 3).trans (iJ x 3 (by omega))
   have g4:=(hB.cell 4).trans (iJ x 4 (by omega))
   have g5:=(hB.cell 5).trans (iJ x 5 (by omega))
   have g6:=(hB.cell 6).trans (iJ x 6 (by omega))
   have g7:=(hB.cell 7).trans (iJ x 7 (by omega))
   have HL:=zh (pY x)
   generalize (nmb x).getD 0 0=b0 at *
   generalize (nmb x).getD 1 0=b1 at *
   generalize (nmb x).getD 2 0=b2 at *
   generalize (nmb x).getD 3 0=b3 at *
   generalize (nmb x).getD 4 0=b4 at *
   generalize (nmb x).getD 5 0=b5 at *
   generalize (nmb x).getD 6 0=b6 at *
   generalize (nmb x).getD 7 0=b7 at *
   go_wp2_with fail
   refine (uQ _ _ _ (33 :: (nmb x ++ [toB c,toB (p+k)])) _ ?hs (by omega)).mono ?_
   case hs=>rw [HL.out];exact SlB.new (by simp) [33,b0,b1,b2,b3,b4,b5,b6,b7,toB c,toB (p+k)] (by simp [bcs,bv,← bK]) (by simp)
   rintro e w3 ⟨rfl,he3⟩
   have hE3:=Ext.trans ((Ext.refl wr).alloc' _) he3
   have hB3:=hB.ext hE3
   have hZ3:=hZ.ext hE3
   clear g0 g1 g2 g3 g4 g5 g6 g7
   go_wp2_with (with_reducible refine wpList_store_mid rfl 30 _ _ rfl w.heap.size 0 (nmc (cM (33 :: (nmb x ++ [toB c,toB (p+k)])))) rfl rfl (aEH hB3 _) (eO _) (gQ _) ?_)
   go_roundw
   case rel=>exact ⟨k+1,by omega,by go_num,by rw [HS.out];exact aIv hB3 _,hZ3.setCells_far (by omega) _ _,Below.setCells' (Ext.trans hE hE3) (Nat.le_refl _) _ _⟩
   case measure=>simp [intOf];omega
  have HK:=zh (show k=(q - p).toNat by omega)
  have HX:=zh (show cJ v c p (q - p).toNat=cJ v c p k by rw [← HK.out])
  generalize cJ v c p k=x at *
  go_wp2_with (first | (refine wpList_load_row rfl 30 _ rfl _ rfl 30 _ (0,0) _ hB Tryz.underlying30 rfl (eO x) ?_) | (refine wpList_store_mid rfl 30 _ _ rfl (w.heap.size+1) 0 (nmc x) rfl rfl (lF hZ _) (eO _) (gQ _) ?_))
  refine bodyPost_ret (v:=.agg (nmc x)) (fI rfl _ _ (w.heap.size+1) _ rfl (blkN hZ _)) rfl ⟨by rw [HX.out],Below.setCells' hE (by omega) _ _⟩
end
end Go.Proofs.YtohmmcahpakokaaGreat
