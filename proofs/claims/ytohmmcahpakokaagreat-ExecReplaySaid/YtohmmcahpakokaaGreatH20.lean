/- Laws on a row of one's own: copy and clear within it, more and fewer elements, an element put in or taken out. -/
import Derived.Lib.Overlaps
import Derived.Lib.AppendZerosOnto
import Derived.Lib.SliceRun
import Derived.Test.YtohmmcahpakokaaGreatH03
import Derived.Test.YtohmmcahpakokaaGreatH19
set_option maxRecDepth 100000
set_option maxHeartbeats 8000000
set_option linter.unusedSectionVars false
set_option linter.unusedVariables false
set_option linter.unusedSimpArgs false
namespace Go.Proofs.YtohmmcahpakokaaGreat
section
open Go.RowKit
theorem aHk {P:Program} {t e:TypeId} {z:Value} {size bytes:Nat} (E:Elem P t e z size bytes) (w:World) (ty:TypeId) (g o dLen dCap:Nat) (a:Addr) (sLen sCap:Nat) (cs:List Value)
  (hn:cs.length=Nat.min sLen dLen * size)
  (hsrc:∀ j v,cs[j]?=some v→w.cell? (a.add j)=some v) (hc:∀ j,j < cs.length→(w.cell? ⟨g,o+j,none⟩).isSome=true) (hf:∀ j,j < cs.length→w.frozen? ⟨g,o+j,none⟩=false) (h1:∀ v ∈ cs,v.oneCell'=true) :
  (Builtin.copy_ #[t,t] ty #[.slice (some ⟨g,o,none⟩) dLen dCap,.slice (some a) sLen sCap]).run P w=.ok (goInt (Nat.min sLen dLen)) (w.setCells g o cs):=by
 obtain ⟨i,hi,_,hs,_⟩:=E.get
 have hl:=run_loadCells_list (P:=P) w a cs hsrc
 have hst:=run_storeCells_cells (P:=P) g o cs 0 w (by simpa using hc) (by simpa using hf) h1
 simp [Builtin.copy_,run_underlying E.ut,Builtin.lenOf,Builtin.firstCells,sizeOf,typeInfo,hi,hs,← hn,hl,hst]
section
variable {P:Program} {t e:TypeId} {z:Value} {size bytes:Nat} {ops:Array Oper} {rest:List Oper} {o:Oper} {a:Act} {w:World} {K:Act→World→Prop} {Q:Exit→Act→World→Prop} {X:Prop}
theorem aFl (E:Elem P t e z size bytes) (d s:Operand)
  (ho:o.op=.call { callee:=.builtin .copy,args:=#[d,s],argTypes:=#[t,t] })
  (base g off n c:Nat) (xs:List Value) (hown:w.ownsRow base e size (.slice (some ⟨g,0,none⟩) n c) n xs)
  (ad:Addr) (dLen dCap sLen sCap:Nat) (hd:a.eval d=.slice (some ⟨g,off,none⟩) dLen dCap) (hs:a.eval s=.slice (some ad) sLen sCap)
  (cs:List Value) (hn:cs.length=Nat.min sLen dLen * size)
  (hsrc:∀ j v,cs[j]?=some v→w.cell? (ad.add j)=some v)
  (hfit:off+cs.length≤n * size) (h1:∀ v ∈ cs,v.oneCell'=true)
  (h:∀ w',w'.ownsRow base e size (.slice (some ⟨g,0,none⟩) n c) n (splice xs off cs)→w.grownBy w' (some g)→K (a.put o.dst (goInt (Nat.min sLen dLen))) w'):o.wp P a w K Q:=by
 have hxl:=hown.1
 have hrun:=aHk E w o.type g off dLen dCap ad sLen sCap cs hn hsrc (fun j hj=>by rw [hown.cellAt (off+j) (by omega),List.getElem?_eq_getElem (by omega)];rfl) (fun j hj=>hown.frozenAt _) h1
 obtain ⟨k1,k2⟩:=jR cs off w xs (by omega) hown
 unfold Oper.wp execOp
 simp only [ho,resolve,invoke,builtin,Sem.run_bind,Sem.run_pure,Result.andThen_ok,List.map_toArray,List.map_cons,List.map_nil,hd,hs,hrun]
 exact h _ k1 k2
theorem kS (E:Elem P t e z size bytes) (hgd:o.guard=none) (d s:Operand)
  (ho:o.op=.call { callee:=.builtin .copy,args:=#[d,s],argTypes:=#[t,t] })
  (base g off n c:Nat) (xs:List Value) (hown:w.ownsRow base e size (.slice (some ⟨g,0,none⟩) n c) n xs)
  (ad:Addr) (dLen dCap sLen sCap:Nat) (hd:a.eval d=.slice (some ⟨g,off,none⟩) dLen dCap) (hs:a.eval s=.slice (some ad) sLen sCap)
  (cs:List Value) (hn:cs.length=Nat.min sLen dLen * size)
  (hsrc:∀ j v,cs[j]?=some v→w.cell? (ad.add j)=some v)
  (hfit:off+cs.length≤n * size) (h1:∀ v ∈ cs,v.oneCell'=true)
  (h:∀ w',w'.ownsRow base e size (.slice (some ⟨g,0,none⟩) n c) n (splice xs off cs)→w.grownBy w' (some g)→K (a.put o.dst (goInt (Nat.min sLen dLen))) w'):if Region.wanted o (yielded ops a.tmps)=true then Oper.wp P o a w K Q else X:=by
 have hw:Region.wanted o (yielded ops a.tmps)=true:=by simp [Region.wanted,hgd]
 rw [if_pos hw]
 exact aFl E d s ho base g off n c xs hown ad dLen dCap sLen sCap hd hs cs hn hsrc hfit h1 h
theorem iE (E:Elem P t e z size bytes) (hgd:o.guard=none) (d s:Operand)
  (ho:o.op=.call { callee:=.builtin .copy,args:=#[d,s],argTypes:=#[t,t] })
  (base g off n c:Nat) (xs:List Value) (hown:w.ownsRow base e size (.slice (some ⟨g,0,none⟩) n c) n xs)
  (ad:Addr) (dLen dCap sLen sCap:Nat) (hd:a.eval d=.slice (some ⟨g,off,none⟩) dLen dCap) (hs:a.eval s=.slice (some ad) sLen sCap)
  (cs:List Value) (hn:cs.length=Nat.min sLen dLen * size)
  (hsrc:∀ j v,cs[j]?=some v→w.cell? (ad.add j)=some v)
  (hfit:off+cs.length≤n * size) (h1:∀ v ∈ cs,v.oneCell'=true)
  (h:∀ w',w'.ownsRow base e size (.slice (some ⟨g,0,none⟩) n c) n (splice xs off cs)→w.grownBy w' (some g)→wpList P ops Q rest (a.put o.dst (goInt (Nat.min sLen dLen))) w'):wpList P ops Q (o :: rest) a w :=
 wpList_plain hgd fun K hK=>aFl E d s ho base g off n c xs hown ad dLen dCap sLen sCap hd hs cs hn hsrc hfit h1 (fun w' h2 h3=>hK _ _ (h w' h2 h3))
end
theorem aDC {P:Program} {t e:TypeId} {z:Value} {size bytes:Nat} (E:Elem P t e z size bytes) (hz1:∀ v ∈ z.cells,v.oneCell'=true) (w:World) (ty:TypeId) (g o n c:Nat) (hn:0 < n) (hc:∀ j,j < n * size→(w.cell? ⟨g,o+j,none⟩).isSome=true) (hf:∀ j,j < n * size→w.frozen? ⟨g,o+j,none⟩=false) :
  (Builtin.clear_ #[t] ty #[.slice (some ⟨g,o,none⟩) n c]).run P w=.ok (.tuple #[]) (w.setCells g o (Builtin.zeroCells z.cells n).toList):=by
 obtain ⟨i,hi,hz,hsz,hby⟩:=E.get
 have hlen:(Builtin.zeroCells z.cells n).toList.length=n * size:=by rw [Array.length_toList,size_zeroCells,E.zs]
 have h1:∀ v ∈ (Builtin.zeroCells z.cells n).toList,v.oneCell'=true:=by
  intro v hv
  simp only [Builtin.zeroCells,Array.toList_map,List.mem_map] at hv
  obtain ⟨q,_,rfl⟩:=hv
  have hp:0 < z.cells.size:=by rw [E.zs];exact E.pos
  have hq:q % z.cells.size < z.cells.size:=Nat.mod_lt _ hp
  rw [getElem!_pos z.cells _ hq]
  exact hz1 _ (Array.getElem_mem hq)
 have hst:=run_storeCells_cells (P:=P) g o (Builtin.zeroCells z.cells n).toList 0 w (fun j hj=>by rw [hlen] at hj;simpa using hc j hj) (fun j hj=>by rw [hlen] at hj;simpa using hf j hj) h1
 simp only [Nat.add_zero] at hst
 obtain ⟨m,rfl⟩:∃ m,n=m+1:=⟨n - 1,by omega⟩
 simp [Builtin.clear_,run_underlying E.ut,zeroValue,typeInfo,hi,hz,hst]
theorem uE {w:World} {base:Nat} {e:TypeId} {size g n c:Nat} {xs:List Value} (h:w.ownsRow base e size (.slice (some ⟨g,0,none⟩) n c) n xs) {m:Nat} (hm:n≤m) (hc:m≤c):∃ js,js.length=(m - n) * size∧w.ownsRow base e size (.slice (some ⟨g,0,none⟩) m c) m (xs ++ js):=by
 have hl:=h.1
 rcases h.2 with ⟨hv,_⟩ | ⟨g',cap,cur,hv,hb,hh,hn,hmx,hs,ht⟩
 ·cases hv
 injection hv with h1 h2 h3
 injection h1 with h1
 injection h1 with h1 h4
 subst h1;subst h3
 have e1:n * size+(m - n) * size=m * size:=by rw [← Nat.add_mul];congr 1;omega
 have e2:m * size≤c * size:=Nat.mul_le_mul_right _ hc
 refine ⟨(cur.toList.drop (n * size)).take ((m - n) * size),by simp [hs];omega,by simp [hs,hl];omega,.inr ⟨g,c,cur,rfl,hb,hh,hc,hmx,hs,?_⟩⟩
 rw [← e1,List.take_add,ht]
theorem rC {w:World} {base:Nat} {e:TypeId} {size g n c:Nat} {xs:List Value} {cur:Array Value} (hb:base≤g) (hh:Blk w g e cur) (hn:n≤c) (hc:c≤maxLen) (hs:cur.size=c * size) (hx:xs.length=n * size) (ht:cur.toList.take (n * size)=xs):w.ownsRow base e size (.slice (some ⟨g,0,none⟩) n c) n xs :=
 ⟨hx,.inr ⟨g,c,cur,rfl,hb,hh,hn,hc,hs,ht⟩⟩
theorem zL {w:World} {base:Nat} {e:TypeId} {size g n c:Nat} {xs:List Value} (h:w.ownsRow base e size (.slice (some ⟨g,0,none⟩) n c) n xs):∃ cur,Blk w g e cur∧cur.size=c * size:=by
 rcases h.2 with ⟨hv,_⟩ | ⟨g',cap,cur,hv,hb,hh,hn,hmx,hs,ht⟩
 ·cases hv
 injection hv with h1 h2 h3
 injection h1 with h1
 injection h1 with h1 h4
 subst h1;subst h3
 exact ⟨cur,hh,hs⟩
theorem xN {w:World} {g:Nat} {t:TypeId} {cs:Array Value} (h:Blk w g t cs):w.shape? g=some (t,cs.size):=by
 unfold World.shape?;rw [h]
theorem yR {P:Program} {f:FuncId} {fn:Func} {t e tR:TypeId} {z:Value} {size bytes:Nat} (E:Elem P t e z size bytes) (hf:P.funcs[f]?=some fn) (hname:(fn.name == "runtime.NumGoroutine")=false) (hb:fn.body.isNone=true) (hn:Extern.findNext fn=none) (he:Extern.find fn=some (Extern.SlicesOverlaps.overlaps #[t,t] #[tR]))
  {w:World} {g1 g2:Nat} {t1 t2:TypeId} {c1 c2:Array Value} (h1:Blk w g1 t1 c1) (h2:Blk w g2 t2 c2) (hne:g1 ≠ g2) (hc:c2.size ≠ 0) (o1 o2 la ca lb cb:Nat) :
  (callFunc f #[.slice (some ⟨g1,o1,none⟩) la ca,.slice (some ⟨g2,o2,none⟩) lb cb]).run P w=.ok (.value (.bool false)) w:=by
 obtain ⟨i,hi,_,hs,_⟩:=E.get
 rw [run_callFunc_extern hf hname hb hn he,Lib.run_overlaps_apart w t tR e E.ut size (fun w=>by simp [sizeOf,typeInfo,hi,hs]) ⟨g1,o1,none⟩ ⟨g2,o2,none⟩ la ca lb cb hne t1 t2 c1.size c2.size (xN h1) (xN h2) hc (h1.frozen _) (h1.frozen _)]
 rfl
section
variable {α:Type} [RowT α]
theorem rD (L:List α) (x:α) {i:Nat} (hi:i≤L.length) (js:List Value) (hj:js.length=RowT.sz α) :
  splice (splice (gcs L ++ js) ((i+1) * RowT.sz α) (gcs (L.drop i))) (i * RowT.sz α) (RowT.enc x)=gcs (L.take i ++ x :: L.drop i):=by
 have hl:=aH L
 have ht:((gcs L).take (i * RowT.sz α))=gcs (L.take i):=gS L i
 have htl:(gcs (L.take i)).length=i * RowT.sz α:=by rw [aH,List.length_take,Nat.min_eq_left hi]
 have hdl:(gcs (L.drop i)).length=(L.length - i) * RowT.sz α:=by rw [aH,List.length_drop]
 have e1:i * RowT.sz α+RowT.sz α=(i+1) * RowT.sz α:=by rw [Nat.add_mul,Nat.one_mul]
 have e2:i * RowT.sz α+(L.length - i) * RowT.sz α=L.length * RowT.sz α:=by rw [← Nat.add_mul];congr 1;omega
 have hle:i * RowT.sz α≤(gcs L).length:=by rw [hl];omega
 unfold splice
 rw [RowT.len,bD,dC,hdl]
 have a1:((gcs L ++ js).take ((i+1) * RowT.sz α) ++ (gcs (L.drop i) ++ (gcs L ++ js).drop ((i+1) * RowT.sz α+(L.length - i) * RowT.sz α))).take (i * RowT.sz α)=gcs (L.take i):=by
  rw [List.take_append_of_le_length (by rw [List.length_take,List.length_append,hl,hj];omega),List.take_take,Nat.min_eq_left (by omega),List.take_append_of_le_length hle,ht]
 have a2:((gcs L ++ js).take ((i+1) * RowT.sz α) ++ (gcs (L.drop i) ++ (gcs L ++ js).drop ((i+1) * RowT.sz α+(L.length - i) * RowT.sz α))).drop (i * RowT.sz α+RowT.sz α)=gcs (L.drop i):=by
  have h0:(gcs L ++ js).drop ((i+1) * RowT.sz α+(L.length - i) * RowT.sz α)=[]:=List.drop_of_length_le (by rw [List.length_append,hl,hj];omega)
  rw [h0,List.append_nil,e1,List.drop_append,List.drop_of_length_le (by rw [List.length_take];omega),List.length_take,List.length_append,hl,hj,Nat.min_eq_left (by omega),Nat.sub_self,List.drop_zero,List.nil_append]
 rw [a1,a2]
theorem oM (L:List α) (x:α) {i:Nat} (hi:i≤L.length) (js:List Value) (hj:js.length=(L.length+1 - i) * RowT.sz α) :
  splice (splice (gcs (L.take i) ++ js) (i * RowT.sz α) (RowT.enc x)) ((i+1) * RowT.sz α) (gcs (L.drop i))=gcs (L.take i ++ x :: L.drop i):=by
 have htl:(gcs (L.take i)).length=i * RowT.sz α:=by rw [aH,List.length_take,Nat.min_eq_left hi]
 have hdl:(gcs (L.drop i)).length=(L.length - i) * RowT.sz α:=by rw [aH,List.length_drop]
 have e1:i * RowT.sz α+RowT.sz α=(i+1) * RowT.sz α:=by rw [Nat.add_mul,Nat.one_mul]
 have e2:RowT.sz α+(L.length - i) * RowT.sz α=(L.length+1 - i) * RowT.sz α:=by rw [show L.length+1 - i=1+(L.length - i) by omega,Nat.add_mul,Nat.one_mul]
 unfold splice
 rw [RowT.len,bD,dC,hdl]
 have a0:(gcs (L.take i) ++ js).take (i * RowT.sz α)=gcs (L.take i):=by rw [List.take_append_of_le_length (by omega),List.take_of_length_le (by omega)]
 rw [a0]
 have a1:(gcs (L.take i) ++ (RowT.enc x ++ (gcs (L.take i) ++ js).drop (i * RowT.sz α+RowT.sz α))).take ((i+1) * RowT.sz α)=gcs (L.take i) ++ RowT.enc x:=by
  rw [← List.append_assoc,List.take_append_of_le_length (by rw [List.length_append,htl,RowT.len];omega),List.take_of_length_le (by rw [List.length_append,htl,RowT.len];omega)]
 have a2:(gcs (L.take i) ++ (RowT.enc x ++ (gcs (L.take i) ++ js).drop (i * RowT.sz α+RowT.sz α))).drop ((i+1) * RowT.sz α+(L.length - i) * RowT.sz α)=[]:=by
  apply List.drop_of_length_le
  rw [List.length_append,List.length_append,List.length_drop,List.length_append,htl,RowT.len,hj];omega
 rw [a1,a2,List.append_nil,List.append_assoc]
theorem rG (L:List α) {i:Nat} (hi:i < L.length) :
  (splice (gcs L) (i * RowT.sz α) (gcs (L.drop (i+1)))).take ((L.length - 1) * RowT.sz α)=gcs (L.take i ++ L.drop (i+1)):=by
 have ht:((gcs L).take (i * RowT.sz α))=gcs (L.take i):=gS L i
 have htl:(gcs (L.take i)).length=i * RowT.sz α:=by rw [aH,List.length_take,Nat.min_eq_left (by omega)]
 have hdl:(gcs (L.drop (i+1))).length=(L.length - (i+1)) * RowT.sz α:=by rw [aH,List.length_drop]
 have e2:i * RowT.sz α+(L.length - (i+1)) * RowT.sz α=(L.length - 1) * RowT.sz α:=by rw [← Nat.add_mul];congr 1;omega
 unfold splice
 rw [ht,bD,← List.append_assoc,List.take_append_of_le_length (by rw [List.length_append,htl,hdl];omega),List.take_of_length_le (by rw [List.length_append,htl,hdl];omega)]
end
end
section
open Go.RowKit
attribute [local go_sem ↓] Go.wp_at_zero Go.wp_at_succ
section
variable {α β:Type} [RowT α] [DecidableEq β] {V:α→β} {d dk:Array α} {k j:Nat}
theorem lS (hj:1≤j) (hn:j < d.size):compO ((d.toList.take (j+1)).map V)=if V d[j]! = V d[j - 1]! then compO ((d.toList.take j).map V) else compO ((d.toList.take j).map V) ++ [V d[j]!]:=by
 obtain ⟨i,rfl⟩:∃ i,j=i+1:=⟨j - 1,by omega⟩
 have e1:=gI (L:=d.toList) (k:=i+1) (by simpa using hn)
 have e2:=gI (L:=d.toList) (k:=i) (by simp;omega)
 rw [e1,e2,List.map_append,List.map_append,List.map_cons,List.map_nil,List.map_cons,List.map_nil,List.append_assoc,qO,qO]
 simp only [Nat.add_sub_cancel,List.cons_append,List.nil_append]
 exact aDe _ _ _
structure Cm1 (V:α→β) (d:Array α) (k:Nat):Prop where
 pos:1≤k
 le:k≤d.size
 val:compO ((d.toList.take k).map V)=(d.toList.take k).map V
structure Cmp (V:α→β) (d dk:Array α) (k j:Nat):Prop where
 size:dk.size=d.size
 pos:1≤k
 kj:k < j
 jn:j≤d.size
 rest:∀ i,k≤i→dk[i]! = d[i]!
 val:(dk.toList.take k).map V=compO ((d.toList.take j).map V)
theorem Cm1.start (h:1≤d.size):Cm1 V d 1:=⟨Nat.le_refl _,h,by
 have e:=gI (L:=d.toList) (k:=0) (by simp;omega)
 rw [e];rfl⟩
theorem Cm1.next (h:Cm1 V d k) (hk:k < d.size) (hv:V d[k]! ≠ V d[k - 1]!):Cm1 V d (k+1):=⟨by omega,hk,by
 rw [lS h.pos hk,if_neg hv,h.val,gI (L:=d.toList) (k:=k) (by simpa using hk),List.map_append,qO];rfl⟩
theorem Cm1.dup (h:Cm1 V d k) (hk:k < d.size) (hv:V d[k]! = V d[k - 1]!):Cmp V d d k (k+1):=⟨rfl,h.pos,by omega,hk,fun _ _=>rfl,by rw [lS h.pos hk,if_pos hv,h.val]⟩
theorem Cm1.all (h:Cm1 V d k) (hk:d.size≤k):d.toList.map V=compO (d.toList.map V):=by
 have:=h.val
 rw [List.take_of_length_le (by simpa using hk)] at this
 exact this.symm
theorem Cmp.dup (h:Cmp V d dk k j) (hj:j < d.size) (hv:V d[j]! = V d[j - 1]!):Cmp V d dk k (j+1):=⟨h.size,h.pos,by have:=h.kj;omega,hj,h.rest,by rw [lS (by have:=h.kj;omega) hj,if_pos hv];exact h.val⟩
theorem Cmp.keep (h:Cmp V d dk k j) (hj:j < d.size) (hv:V d[j]! ≠ V d[j - 1]!):Cmp V d (dk.setIfInBounds k d[j]!) (k+1) (j+1):=by
 have hkj:=h.kj
 have hk:k < dk.size:=by rw [h.size];omega
 refine ⟨by rw [Array.size_setIfInBounds];exact h.size,by omega,by omega,hj,fun i hi=>?_,?_⟩
 ·rw [← h.rest i (by omega)]
  by_cases hs:i < dk.size
  ·rw [getElem!_pos _ i (by simpa using hs),getElem!_pos dk i hs,Array.getElem_setIfInBounds (by simpa using hs),if_neg (by omega)]
  rw [getElem!_neg _ i (by simpa using hs),getElem!_neg dk i hs]
 rw [lS (by omega) hj,if_neg hv,← h.val,Array.toList_setIfInBounds,gI (k:=k) (by simpa using hk),List.take_set_of_le (Nat.le_refl _),List.map_append]
 congr 1
 rw [show aM (dk.toList.set k d[j]!) k=d[j]! from by simp [aM,hk]];rfl
theorem Cmp.all (h:Cmp V d dk k j) (hj:d.size≤j):(dk.toList.take k).map V=compO (d.toList.map V):=by
 have:=h.val
 rw [List.take_of_length_le (show (d.toList).length≤j by simpa using hj)] at this
 exact this
end
theorem aCw {P:Program} {t e:TypeId} {z:Value} {size bytes:Nat} (E:Elem P t e z size bytes) (hz1:∀ v ∈ z.cells,v.oneCell'=true) (w:World) (ty:TypeId) (g o n c:Nat) (hn:0 < n) (hc:∀ j,j < n * size→(w.cell? ⟨g,o+j,none⟩).isSome=true) (hf:∀ j,j < n * size→w.frozen? ⟨g,o+j,none⟩=false) :
  (Builtin.clear_ #[t] ty #[.slice (some ⟨g,o,none⟩) n c]).run P w=.ok (.tuple #[]) (w.setCells g o (Builtin.zeroCells z.cells n).toList):=by
 obtain ⟨i,hi,hz,hsz,hby⟩:=E.get
 have hlen:(Builtin.zeroCells z.cells n).toList.length=n * size:=by rw [Array.length_toList,size_zeroCells,E.zs]
 have h1:∀ v ∈ (Builtin.zeroCells z.cells n).toList,v.oneCell'=true:=by
  intro v hv
  simp only [Builtin.zeroCells,Array.toList_map,List.mem_map] at hv
  obtain ⟨q,_,rfl⟩:=hv
  have hp:0 < z.cells.size:=by rw [E.zs];exact E.pos
  have hq:q % z.cells.size < z.cells.size:=Nat.mod_lt _ hp
  rw [getElem!_pos z.cells _ hq]
  exact hz1 _ (Array.getElem_mem hq)
 have hst:=run_storeCells_cells (P:=P) g o (Builtin.zeroCells z.cells n).toList 0 w (fun j hj=>by rw [hlen] at hj;simpa using hc j hj) (fun j hj=>by rw [hlen] at hj;simpa using hf j hj) h1
 simp only [Nat.add_zero] at hst
 obtain ⟨m,rfl⟩:∃ m,n=m+1:=⟨n - 1,by omega⟩
 simp [Builtin.clear_,run_underlying E.ut,zeroValue,typeInfo,hi,hz,hst]
section
variable {α:Type} [RowT α] [RowB α] {w0 w:World} {base n c:Nat} {e:TypeId} {A:Option Addr} {d:Array α}
theorem RowS.cutClear (h:RowS w0 w base e A n c d) {g:Nat} (hA:A=some ⟨g,0,none⟩) {k:Nat} (hk:k≤n) (ys:List Value):RowS w0 (w.setCells g (k * RowT.sz α) ys) base e A k c (d.toList.take k).toArray:=by
 have ho:=h.own
 subst hA
 obtain ⟨xs',k1,k2,k3⟩:=uD ys (k * RowT.sz α) w (gcs d.toList) ho
 have h2:=sS k1 hk (by simp)
 rw [k2,gS] at h2
 exact ⟨h2,fun x hx=>RowB.kept _ _ _ _ _ _ _ _ _ _ _ (h.ow x (List.mem_of_mem_take hx)) ho h.ne k3,Grown.trans h.gr k3,h.ne⟩
theorem RowS.clearOk (h:RowS w0 w base e A n c d) {g:Nat} (hA:A=some ⟨g,0,none⟩) {k:Nat} (hk:k≤n):(∀ j,j < (n - k) * RowT.sz α→(w.cell? ⟨g,k * RowT.sz α+j,none⟩).isSome=true)∧∀ j,j < (n - k) * RowT.sz α→w.frozen? ⟨g,k * RowT.sz α+j,none⟩=false:=by
 have hl:=h.own.1
 have ho:=h.own
 have he:k * RowT.sz α+(n - k) * RowT.sz α=n * RowT.sz α:=by rw [← Nat.add_mul];congr 1;omega
 subst hA
 exact ⟨fun j hj=>by rw [ho.cellAt (k * RowT.sz α+j) (by omega),List.getElem?_eq_getElem (by omega)];rfl,fun j hj=>ho.frozenAt _⟩
end
theorem yO (s:StR):(ssA s).all (·.oneCell')=true:=by simp [Value.oneCell']
section
variable {ops:Array Oper} {o:Oper} {a:Act} {w:World} {K:Act→World→Prop} {Q:Exit→Act→World→Prop} {X:Prop}
theorem bE (hgd:o.guard=none) (x y:Operand) (ho:o.op=.store 44 x y) (g:Nat) (v:Value) (s:StR) (hv:Value.agg (ssA s)=v) (hx:a.eval x=.pointer (some ⟨g,0,none⟩)) (hy:a.eval y=v) {z:StR} (hb:Blk w g 44 (ssA z))
  (h:∀ W,Hid (w.setCells g 0 (ssA s).toList=W∧Blk W g 44 (ssA s))→K (a.put o.dst undef) W):if Region.wanted o (yielded ops a.tmps)=true then Oper.wp Tryz.prog o a w K Q else X:=by
 have hw:Region.wanted o (yielded ops a.tmps)=true:=by simp [Region.wanted,hgd]
 rw [if_pos hw]
 exact wp_store_mid (P:=Tryz.prog) (Q:=Q) (op:=o) (K:=K) 44 x y ho g 0 (ssA s) hx (by rw [hy,hv]) (show w.there g 0 (ssA z).size from aR hb) (by kernel_rfl) (yO s) (h _ (zh ⟨rfl,aQ (ds:=ssA s) hb rfl⟩))
end
theorem cV (s:StR) (w:World) (h:s.ok w) (hn:s.n1≤1000000∧s.n2≤1000000∧s.n3≤1000000∧s.n4≤1000000):Calls Tryz.prog 51 #[.agg (ssA s)] w (gW w s.V):=by
 have HP:=zh (show Blk ((w.alloc (.cells (ssA s) 44)).alloc (.cells (ssA ss0) 44)).drew w.heap.size 44 (ssA s) from ((Blk.new w 44 (ssA s)).alloc _).drew)
 have HZ:=zh (show Blk ((w.alloc (.cells (ssA s) 44)).alloc (.cells (ssA ss0) 44)).drew (w.heap.size+1) 44 (ssA ss0) from Blk.drew (Blk.newAt _ _ _ _ (by simp)))
 have HEW:=zh (show Ext w ((w.alloc (.cells (ssA s) 44)).alloc (.cells (ssA ss0) 44)).drew from (((Ext.refl w).alloc' _).alloc' _).drew')
 have HS:=zh (h.ext HEW.out)
 have HW:=zh HEW.out.size
 have HO:=zh h
 have hn1:s.n1≤1000000000:=by omega
 have hn2:s.n2≤1000000000:=by omega
 have hn3:s.n3≤1000000000:=by omega
 have hn4:s.n4≤1000000000:=by omega
 clear h hn
 go_enter Tryz.func51,Tryz.ntmps51
 go_wp2_with fail
 refine wp_region_held_drew (S:=fun W=>Blk W w.heap.size 44 (ssA s)∧(∃ z,Blk W (w.heap.size+1) 44 (ssA z))∧Ext w W) (by kernel_rfl) (⟨HP.out,⟨ss0,HZ.out⟩,HEW.out⟩) (fun aA=>?_)
 refine zz0 [0,1,3,4,6,7,9,10,12,13] ?_;repeat first | refine zz1 ?_ (hy:=by intro W aI;obtain ⟨c0,c1,c2,c3,c4⟩:=aE aI.1;go_simp <;> with_reducible rfl) | refine zz2 ?_ | refine zz9 ?_
 refine zzj (VV 2 (fun v W=>∃ A c,v=.slice A s.n1 c∧W.ownsRow w.heap.size 34 11 (.slice A s.n1 c) s.n1 (gcs s.C)) (VV 5 (fun v W=>∃ A c,v=.slice A s.n2 c∧W.ownsRow w.heap.size 3 1 (.slice A s.n2 c) s.n2 (gcs s.Q)) (VV 8 (fun v W=>∃ A c,v=.slice A s.n3 c∧W.ownsRow w.heap.size 94 19 (.slice A s.n3 c) s.n3 (gcs s.K)) (VV 11 (fun v W=>∃ A c,v=.slice A s.n4 c∧W.ownsRow w.heap.size 30 8 (.slice A s.n4 c) s.n4 (gcs s.P)) VN)))) [(2,some 5),(5,some 8),(8,some 11),(11,some 14)] 2 (fun W W' h e=>⟨h.1.ext e,(by obtain ⟨z,hz⟩:=h.2.1;exact ⟨z,hz.ext e⟩),h.2.2.trans e⟩) (VV.ext (fun v w w' ⟨A,c,h1,h2⟩ e=>⟨A,c,h1,aU h2 e⟩) (VV.ext (fun v w w' ⟨A,c,h1,h2⟩ e=>⟨A,c,h1,aU h2 e⟩) (VV.ext (fun v w w' ⟨A,c,h1,h2⟩ e=>⟨A,c,h1,aU h2 e⟩) (VV.ext (fun v w w' ⟨A,c,h1,h2⟩ e=>⟨A,c,h1,aU h2 e⟩) VN.ext)))) (zzc ?_ (zzc ?_ (zzc ?_ (zzc ?_ zzn)))) ?_
 ·refine zzp fun W hE hS K hK => ?_
  go_simp
  go_at_call 90
  refine (aBR s.A1 s.n1 s.c1 s.C _ (HO.out.ext hS.2.2).s1 hn1).mono ?_
  rintro e w5 ⟨A5,c5,rfl,ho5,he5⟩
  exact zzK (hK.out (.slice A5 s.n1 c5) _ (he5) (⟨A5,c5,rfl,bC ho5 (Nat.le_trans HW.out hE.size)⟩))
 ·refine zzp fun W hE hS K hK => ?_
  go_simp
  go_at_call 91
  refine (aBQ s.A2 s.n2 s.c2 s.Q _ (HO.out.ext hS.2.2).s2 hn2).mono ?_
  rintro e w5 ⟨A5,c5,rfl,ho5,he5⟩
  exact zzK (hK.out (.slice A5 s.n2 c5) _ (he5) (⟨A5,c5,rfl,bC ho5 (Nat.le_trans HW.out hE.size)⟩))
 ·refine zzp fun W hE hS K hK => ?_
  go_simp
  go_at_call 92
  refine (aBP s.A3 s.n3 s.c3 s.K _ (HO.out.ext hS.2.2).s3 hn3).mono ?_
  rintro e w5 ⟨A5,c5,rfl,ho5,he5⟩
  exact zzK (hK.out (.slice A5 s.n3 c5) _ (he5) (⟨A5,c5,rfl,bC ho5 (Nat.le_trans HW.out hE.size)⟩))
 ·refine zzp fun W hE hS K hK => ?_
  go_simp
  go_at_call 93
  refine (aBO s.A4 s.n4 s.c4 s.P _ (HO.out.ext hS.2.2).s4 hn4).mono ?_
  rintro e w5 ⟨A5,c5,rfl,ho5,he5⟩
  exact zzK (hK.out (.slice A5 s.n4 c5) _ (he5) (⟨A5,c5,rfl,bC ho5 (Nat.le_trans HW.out hE.size)⟩))
 intro env W hE hS hV
 obtain ⟨h2,h5,h8,h11,-⟩:=zzV hV
 clear hV
 simp only [aJ]
 generalize env 2=x2 at h2 ⊢
 generalize env 5=x5 at h5 ⊢
 generalize env 8=x8 at h8 ⊢
 generalize env 11=x11 at h11 ⊢
 obtain ⟨A1,c1,rfl,k1⟩:=h2
 obtain ⟨A2,c2,rfl,k2⟩:=h5
 obtain ⟨A3,c3,rfl,k3⟩:=h8
 obtain ⟨A4,c4,rfl,k4⟩:=h11
 have HK1:=zh k1
 have HK2:=zh k2
 have HK3:=zh k3
 have HK4:=zh k4
 clear k1 k2 k3 k4
 have aA:=hS
 refine zt 14 aA ?_
 refine za 15 (fun K hK=>?_)
 (obtain ⟨z6,hz6⟩:=aA.2.1;refine bE rfl (.tmp 2) (.tmp 17) (by rfl) (w.heap.size+1) (.agg (ssA ⟨A1,s.n1,c1,s.C,A2,s.n2,c2,s.Q,A3,s.n3,c3,s.K,A4,s.n4,c4,s.P,s.G⟩)) ⟨A1,s.n1,c1,s.C,A2,s.n2,c2,s.Q,A3,s.n3,c3,s.K,A4,s.n4,c4,s.P,s.G⟩ rfl (by rfl) (by rfl) hz6 ?_;intro W6 h6)
 refine hK.out _ _ (⟨aA.1.grown (by rw [← h6.out.1];exact aB _ _ _ _) (fun e=>by injection e;omega),⟨_,h6.out.2⟩,by rw [← h6.out.1];exact Below.setCells' aA.2.2 (Nat.le_succ _) _ _⟩) (fun aA=>?_)
 clear hK K
 try simp only [bH]
 refine wpAnyH_done (by kernel_rfl) ?_ _
 have hst:=h6.out.2
 have HOW:=zh (show OwnS W6 w.heap.size ⟨A1,s.n1,c1,s.C,A2,s.n2,c2,s.Q,A3,s.n3,c3,s.K,A4,s.n4,c4,s.P,s.G⟩ from by
  refine OwnS.kept (X:=w.heap.size+1) ⟨HK1.out,HK2.out,HK3.out,HK4.out,HO.out.s1.ok,HO.out.s2.ok,HO.out.s3.ok,HO.out.g⟩ (by rw [← h6.out.1];exact aB _ _ _ _) hz6 (by decide) (by decide) (by decide) (by decide))
 have HX:=zh aA.2.2
 clear h6 hz6 hS hE aA
 go_wp2_with fail
 exact bodyPost_ret (v:=.agg (ssA ⟨A1,s.n1,c1,s.C,A2,s.n2,c2,s.Q,A3,s.n3,c3,s.K,A4,s.n4,c4,s.P,s.G⟩)) (eI rfl _ _ (w.heap.size+1) _ rfl (run_loadVar_row _ _ _ _ _ (0,0) _ hst Tryz.underlying44 rfl (by kernel_rfl))) rfl ⟨_,rfl,HOW.out,rfl,HX.out⟩
end
end Go.Proofs.YtohmmcahpakokaaGreat
