/- Laws on a row of one's own: copy and clear within it, more and fewer elements, an element put in or taken out. -/
import Derived.Lib.Overlaps
import Derived.Lib.AppendZerosOnto
import Derived.Lib.SliceRun
import Derived.Test.YtohmmcahpakokaaGreatJ21
set_option maxRecDepth 100000
set_option maxHeartbeats 8000000
set_option linter.unusedSectionVars false
set_option linter.unusedVariables false
set_option linter.unusedSimpArgs false
namespace Go.Proofs.YtohmmcahpakokaaGreat
section
open Go.RowKit
theorem aHR {P:Program} {t e:TypeId} {z:Value} {size bytes:Nat} (E:Elem P t e z size bytes) (w:World) (ty:TypeId) (g o dLen dCap:Nat) (a:Addr) (sLen sCap:Nat) (cs:List Value)
  (hn:cs.length=Nat.min sLen dLen * size)
  (hsrc:∀ j v,cs[j]?=some v→w.cell? (a.add j)=some v) (hc:∀ j,j < cs.length→(w.cell? ⟨g,o+j,none⟩).isSome=true) (hf:∀ j,j < cs.length→w.frozen? ⟨g,o+j,none⟩=false) (h1:∀ v ∈ cs,v.oneCell'=true) :
  (Builtin.copy_ #[t,t] ty #[.slice (some ⟨g,o,none⟩) dLen dCap,.slice (some a) sLen sCap]).run P w=.ok (goInt (Nat.min sLen dLen)) (w.setCells g o cs):=by
 obtain ⟨i,hi,_,hs,_⟩:=E.get
 have hl:=run_loadCells_list (P:=P) w a cs hsrc
 have hst:=run_storeCells_cells (P:=P) g o cs 0 w (by simpa using hc) (by simpa using hf) h1
 simp [Builtin.copy_,run_underlying E.ut,Builtin.lenOf,Builtin.firstCells,sizeOf,typeInfo,hi,hs,← hn,hl,hst]
section
variable {P:Program} {t e:TypeId} {z:Value} {size bytes:Nat} {ops:Array Oper} {rest:List Oper} {o:Oper} {a:Act} {w:World} {K:Act→World→Prop} {Q:Exit→Act→World→Prop} {X:Prop}
theorem aFY (E:Elem P t e z size bytes) (d s:Operand)
  (ho:o.op=.call { callee:=.builtin .copy,args:=#[d,s],argTypes:=#[t,t] })
  (base g off n c:Nat) (xs:List Value) (hown:w.ownsRow base e size (.slice (some ⟨g,0,none⟩) n c) n xs)
  (ad:Addr) (dLen dCap sLen sCap:Nat) (hd:a.eval d=.slice (some ⟨g,off,none⟩) dLen dCap) (hs:a.eval s=.slice (some ad) sLen sCap)
  (cs:List Value) (hn:cs.length=Nat.min sLen dLen * size)
  (hsrc:∀ j v,cs[j]?=some v→w.cell? (ad.add j)=some v)
  (hfit:off+cs.length≤n * size) (h1:∀ v ∈ cs,v.oneCell'=true)
  (h:∀ w',w'.ownsRow base e size (.slice (some ⟨g,0,none⟩) n c) n (splice xs off cs)→w.grownBy w' (some g)→K (a.put o.dst (goInt (Nat.min sLen dLen))) w'):o.wp P a w K Q:=by
 have hxl:=hown.1
 have hrun:=aHR E w o.type g off dLen dCap ad sLen sCap cs hn hsrc (fun j hj=>by rw [hown.cellAt (off+j) (by omega),List.getElem?_eq_getElem (by omega)];rfl) (fun j hj=>hown.frozenAt _) h1
 obtain ⟨k1,k2⟩:=jM cs off w xs (by omega) hown
 unfold Oper.wp execOp
 simp only [ho,resolve,invoke,builtin,Sem.run_bind,Sem.run_pure,Result.andThen_ok,List.map_toArray,List.map_cons,List.map_nil,hd,hs,hrun]
 exact h _ k1 k2
theorem kQ (E:Elem P t e z size bytes) (hgd:o.guard=none) (d s:Operand)
  (ho:o.op=.call { callee:=.builtin .copy,args:=#[d,s],argTypes:=#[t,t] })
  (base g off n c:Nat) (xs:List Value) (hown:w.ownsRow base e size (.slice (some ⟨g,0,none⟩) n c) n xs)
  (ad:Addr) (dLen dCap sLen sCap:Nat) (hd:a.eval d=.slice (some ⟨g,off,none⟩) dLen dCap) (hs:a.eval s=.slice (some ad) sLen sCap)
  (cs:List Value) (hn:cs.length=Nat.min sLen dLen * size)
  (hsrc:∀ j v,cs[j]?=some v→w.cell? (ad.add j)=some v)
  (hfit:off+cs.length≤n * size) (h1:∀ v ∈ cs,v.oneCell'=true)
  (h:∀ w',w'.ownsRow base e size (.slice (some ⟨g,0,none⟩) n c) n (splice xs off cs)→w.grownBy w' (some g)→K (a.put o.dst (goInt (Nat.min sLen dLen))) w'):if Region.wanted o (yielded ops a.tmps)=true then Oper.wp P o a w K Q else X:=by
 have hw:Region.wanted o (yielded ops a.tmps)=true:=by simp [Region.wanted,hgd]
 rw [if_pos hw]
 exact aFY E d s ho base g off n c xs hown ad dLen dCap sLen sCap hd hs cs hn hsrc hfit h1 h
theorem gV (E:Elem P t e z size bytes) (hgd:o.guard=none) (d s:Operand)
  (ho:o.op=.call { callee:=.builtin .copy,args:=#[d,s],argTypes:=#[t,t] })
  (base g off n c:Nat) (xs:List Value) (hown:w.ownsRow base e size (.slice (some ⟨g,0,none⟩) n c) n xs)
  (ad:Addr) (dLen dCap sLen sCap:Nat) (hd:a.eval d=.slice (some ⟨g,off,none⟩) dLen dCap) (hs:a.eval s=.slice (some ad) sLen sCap)
  (cs:List Value) (hn:cs.length=Nat.min sLen dLen * size)
  (hsrc:∀ j v,cs[j]?=some v→w.cell? (ad.add j)=some v)
  (hfit:off+cs.length≤n * size) (h1:∀ v ∈ cs,v.oneCell'=true)
  (h:∀ w',w'.ownsRow base e size (.slice (some ⟨g,0,none⟩) n c) n (splice xs off cs)→w.grownBy w' (some g)→wpList P ops Q rest (a.put o.dst (goInt (Nat.min sLen dLen))) w'):wpList P ops Q (o :: rest) a w :=
 wpList_plain hgd fun K hK=>aFY E d s ho base g off n c xs hown ad dLen dCap sLen sCap hd hs cs hn hsrc hfit h1 (fun w' h2 h3=>hK _ _ (h w' h2 h3))
end
theorem aEd {P:Program} {t e:TypeId} {z:Value} {size bytes:Nat} (E:Elem P t e z size bytes) (hz1:∀ v ∈ z.cells,v.oneCell'=true) (w:World) (ty:TypeId) (g o n c:Nat) (hn:0 < n) (hc:∀ j,j < n * size→(w.cell? ⟨g,o+j,none⟩).isSome=true) (hf:∀ j,j < n * size→w.frozen? ⟨g,o+j,none⟩=false) :
  (Builtin.clear_ #[t] ty #[.slice (some ⟨g,o,none⟩) n c]).run P w=.ok (.tuple #[]) (w.setCells g o (Builtin.zeroCells z.cells n).toList):=by
 obtain ⟨i,hi,hz,hsz,hby⟩:=E.get
 have hlen:(Builtin.zeroCells z.cells n).toList.length=n * size:=by rw [Array.length_toList,size_zeroCells,E.zs]
 have h1:∀ v ∈ (Builtin.zeroCells z.cells n).toList,v.oneCell'=true:=by
  intro v hv
  simp only [Builtin.zeroCells,Array.toList_map,List.mem_map] at hv
  obtain ⟨q,_,rfl⟩:=hv
  have hp:0 < z.cells.size:=by rw [E.zs];exact E.pos
  have hq:q % z.cells.size < z.cells.size:=Nat.mod_lt _ hp
  rw [getElem!_pos z.cells _ hq]
  exact hz1 _ (Array.getElem_mem hq)
 have hst:=run_storeCells_cells (P:=P) g o (Builtin.zeroCells z.cells n).toList 0 w (fun j hj=>by rw [hlen] at hj;simpa using hc j hj) (fun j hj=>by rw [hlen] at hj;simpa using hf j hj) h1
 simp only [Nat.add_zero] at hst
 obtain ⟨m,rfl⟩:∃ m,n=m+1:=⟨n - 1,by omega⟩
 simp [Builtin.clear_,run_underlying E.ut,zeroValue,typeInfo,hi,hz,hst]
theorem uG {w:World} {base:Nat} {e:TypeId} {size g n c:Nat} {xs:List Value} (h:w.ownsRow base e size (.slice (some ⟨g,0,none⟩) n c) n xs) {m:Nat} (hm:n≤m) (hc:m≤c):∃ js,js.length=(m - n) * size∧w.ownsRow base e size (.slice (some ⟨g,0,none⟩) m c) m (xs ++ js):=by
 have hl:=h.1
 rcases h.2 with ⟨hv,_⟩ | ⟨g',cap,cur,hv,hb,hh,hn,hmx,hs,ht⟩
 ·cases hv
 injection hv with h1 h2 h3
 injection h1 with h1
 injection h1 with h1 h4
 subst h1;subst h3
 have e1:n * size+(m - n) * size=m * size:=by rw [← Nat.add_mul];congr 1;omega
 have e2:m * size≤c * size:=Nat.mul_le_mul_right _ hc
 refine ⟨(cur.toList.drop (n * size)).take ((m - n) * size),by simp [hs];omega,by simp [hs,hl];omega,.inr ⟨g,c,cur,rfl,hb,hh,hc,hmx,hs,?_⟩⟩
 rw [← e1,List.take_add,ht]
theorem qZ {w:World} {base:Nat} {e:TypeId} {size g n c:Nat} {xs:List Value} {cur:Array Value} (hb:base≤g) (hh:Blk w g e cur) (hn:n≤c) (hc:c≤maxLen) (hs:cur.size=c * size) (hx:xs.length=n * size) (ht:cur.toList.take (n * size)=xs):w.ownsRow base e size (.slice (some ⟨g,0,none⟩) n c) n xs :=
 ⟨hx,.inr ⟨g,c,cur,rfl,hb,hh,hn,hc,hs,ht⟩⟩
theorem aAa {w:World} {base:Nat} {e:TypeId} {size g n c:Nat} {xs:List Value} (h:w.ownsRow base e size (.slice (some ⟨g,0,none⟩) n c) n xs):∃ cur,Blk w g e cur∧cur.size=c * size:=by
 rcases h.2 with ⟨hv,_⟩ | ⟨g',cap,cur,hv,hb,hh,hn,hmx,hs,ht⟩
 ·cases hv
 injection hv with h1 h2 h3
 injection h1 with h1
 injection h1 with h1 h4
 subst h1;subst h3
 exact ⟨cur,hh,hs⟩
theorem xQ {w:World} {g:Nat} {t:TypeId} {cs:Array Value} (h:Blk w g t cs):w.shape? g=some (t,cs.size):=by
 unfold World.shape?;rw [h]
theorem zC {P:Program} {f:FuncId} {fn:Func} {t e tR:TypeId} {z:Value} {size bytes:Nat} (E:Elem P t e z size bytes) (hf:P.funcs[f]?=some fn) (hname:(fn.name == "runtime.NumGoroutine")=false) (hb:fn.body.isNone=true) (hn:Extern.findNext fn=none) (he:Extern.find fn=some (Extern.SlicesOverlaps.overlaps #[t,t] #[tR]))
  {w:World} {g1 g2:Nat} {t1 t2:TypeId} {c1 c2:Array Value} (h1:Blk w g1 t1 c1) (h2:Blk w g2 t2 c2) (hne:g1 ≠ g2) (hc:c2.size ≠ 0) (o1 o2 la ca lb cb:Nat) :
  (callFunc f #[.slice (some ⟨g1,o1,none⟩) la ca,.slice (some ⟨g2,o2,none⟩) lb cb]).run P w=.ok (.value (.bool false)) w:=by
 obtain ⟨i,hi,_,hs,_⟩:=E.get
 rw [run_callFunc_extern hf hname hb hn he,Lib.run_overlaps_apart w t tR e E.ut size (fun w=>by simp [sizeOf,typeInfo,hi,hs]) ⟨g1,o1,none⟩ ⟨g2,o2,none⟩ la ca lb cb hne t1 t2 c1.size c2.size (xQ h1) (xQ h2) hc (h1.frozen _) (h1.frozen _)]
 rfl
section
variable {α:Type} [RowT α]
theorem rC (L:List α) (x:α) {i:Nat} (hi:i≤L.length) (js:List Value) (hj:js.length=RowT.sz α) :
  splice (splice (gcs L ++ js) ((i+1) * RowT.sz α) (gcs (L.drop i))) (i * RowT.sz α) (RowT.enc x)=gcs (L.take i ++ x :: L.drop i):=by
 have hl:=aH L
 have ht:((gcs L).take (i * RowT.sz α))=gcs (L.take i):=iT L i
 have htl:(gcs (L.take i)).length=i * RowT.sz α:=by rw [aH,List.length_take,Nat.min_eq_left hi]
 have hdl:(gcs (L.drop i)).length=(L.length - i) * RowT.sz α:=by rw [aH,List.length_drop]
 have e1:i * RowT.sz α+RowT.sz α=(i+1) * RowT.sz α:=by rw [Nat.add_mul,Nat.one_mul]
 have e2:i * RowT.sz α+(L.length - i) * RowT.sz α=L.length * RowT.sz α:=by rw [← Nat.add_mul];congr 1;omega
 have hle:i * RowT.sz α≤(gcs L).length:=by rw [hl];omega
 unfold splice
 rw [RowT.len,bS,cW,hdl]
 have a1:((gcs L ++ js).take ((i+1) * RowT.sz α) ++ (gcs (L.drop i) ++ (gcs L ++ js).drop ((i+1) * RowT.sz α+(L.length - i) * RowT.sz α))).take (i * RowT.sz α)=gcs (L.take i):=by
  rw [List.take_append_of_le_length (by rw [List.length_take,List.length_append,hl,hj];omega),List.take_take,Nat.min_eq_left (by omega),List.take_append_of_le_length hle,ht]
 have a2:((gcs L ++ js).take ((i+1) * RowT.sz α) ++ (gcs (L.drop i) ++ (gcs L ++ js).drop ((i+1) * RowT.sz α+(L.length - i) * RowT.sz α))).drop (i * RowT.sz α+RowT.sz α)=gcs (L.drop i):=by
  have h0:(gcs L ++ js).drop ((i+1) * RowT.sz α+(L.length - i) * RowT.sz α)=[]:=List.drop_of_length_le (by rw [List.length_append,hl,hj];omega)
  rw [h0,List.append_nil,e1,List.drop_append,List.drop_of_length_le (by rw [List.length_take];omega),List.length_take,List.length_append,hl,hj,Nat.min_eq_left (by omega),Nat.sub_self,List.drop_zero,List.nil_append]
 rw [a1,a2]
theorem oO (L:List α) (x:α) {i:Nat} (hi:i≤L.length) (js:List Value) (hj:js.length=(L.length+1 - i) * RowT.sz α) :
  splice (splice (gcs (L.take i) ++ js) (i * RowT.sz α) (RowT.enc x)) ((i+1) * RowT.sz α) (gcs (L.drop i))=gcs (L.take i ++ x :: L.drop i):=by
 have htl:(gcs (L.take i)).length=i * RowT.sz α:=by rw [aH,List.length_take,Nat.min_eq_left hi]
 have hdl:(gcs (L.drop i)).length=(L.length - i) * RowT.sz α:=by rw [aH,List.length_drop]
 have e1:i * RowT.sz α+RowT.sz α=(i+1) * RowT.sz α:=by rw [Nat.add_mul,Nat.one_mul]
 have e2:RowT.sz α+(L.length - i) * RowT.sz α=(L.length+1 - i) * RowT.sz α:=by rw [show L.length+1 - i=1+(L.length - i) by omega,Nat.add_mul,Nat.one_mul]
 unfold splice
 rw [RowT.len,bS,cW,hdl]
 have a0:(gcs (L.take i) ++ js).take (i * RowT.sz α)=gcs (L.take i):=by rw [List.take_append_of_le_length (by omega),List.take_of_length_le (by omega)]
 rw [a0]
 have a1:(gcs (L.take i) ++ (RowT.enc x ++ (gcs (L.take i) ++ js).drop (i * RowT.sz α+RowT.sz α))).take ((i+1) * RowT.sz α)=gcs (L.take i) ++ RowT.enc x:=by
  rw [← List.append_assoc,List.take_append_of_le_length (by rw [List.length_append,htl,RowT.len];omega),List.take_of_length_le (by rw [List.length_append,htl,RowT.len];omega)]
 have a2:(gcs (L.take i) ++ (RowT.enc x ++ (gcs (L.take i) ++ js).drop (i * RowT.sz α+RowT.sz α))).drop ((i+1) * RowT.sz α+(L.length - i) * RowT.sz α)=[]:=by
  apply List.drop_of_length_le
  rw [List.length_append,List.length_append,List.length_drop,List.length_append,htl,RowT.len,hj];omega
 rw [a1,a2,List.append_nil,List.append_assoc]
theorem rG (L:List α) {i:Nat} (hi:i < L.length) :
  (splice (gcs L) (i * RowT.sz α) (gcs (L.drop (i+1)))).take ((L.length - 1) * RowT.sz α)=gcs (L.take i ++ L.drop (i+1)):=by
 have ht:((gcs L).take (i * RowT.sz α))=gcs (L.take i):=iT L i
 have htl:(gcs (L.take i)).length=i * RowT.sz α:=by rw [aH,List.length_take,Nat.min_eq_left (by omega)]
 have hdl:(gcs (L.drop (i+1))).length=(L.length - (i+1)) * RowT.sz α:=by rw [aH,List.length_drop]
 have e2:i * RowT.sz α+(L.length - (i+1)) * RowT.sz α=(L.length - 1) * RowT.sz α:=by rw [← Nat.add_mul];congr 1;omega
 unfold splice
 rw [ht,bS,← List.append_assoc,List.take_append_of_le_length (by rw [List.length_append,htl,hdl];omega),List.take_of_length_le (by rw [List.length_append,htl,hdl];omega)]
end
end
section
open Go.RowKit
attribute [local go_sem ↓] Go.wp_at_zero Go.wp_at_succ
section
variable {α β:Type} [RowT α] [DecidableEq β] {V:α→β} {d dk:Array α} {k j:Nat}
theorem lP (hj:1≤j) (hn:j < d.size):compO ((d.toList.take (j+1)).map V)=if V d[j]! = V d[j - 1]! then compO ((d.toList.take j).map V) else compO ((d.toList.take j).map V) ++ [V d[j]!]:=by
 obtain ⟨i,rfl⟩:∃ i,j=i+1:=⟨j - 1,by omega⟩
 have e1:=fX (L:=d.toList) (k:=i+1) (by simpa using hn)
 have e2:=fX (L:=d.toList) (k:=i) (by simp;omega)
 rw [e1,e2,List.map_append,List.map_append,List.map_cons,List.map_nil,List.map_cons,List.map_nil,List.append_assoc,qO,qO]
 simp only [Nat.add_sub_cancel,List.cons_append,List.nil_append]
 exact aDF _ _ _
structure Cm1 (V:α→β) (d:Array α) (k:Nat):Prop where
 pos:1≤k
 le:k≤d.size
 val:compO ((d.toList.take k).map V)=(d.toList.take k).map V
structure Cmp (V:α→β) (d dk:Array α) (k j:Nat):Prop where
 size:dk.size=d.size
 pos:1≤k
 kj:k < j
 jn:j≤d.size
 rest:∀ i,k≤i→dk[i]! = d[i]!
 val:(dk.toList.take k).map V=compO ((d.toList.take j).map V)
theorem Cm1.start (h:1≤d.size):Cm1 V d 1:=⟨Nat.le_refl _,h,by
 have e:=fX (L:=d.toList) (k:=0) (by simp;omega)
 rw [e];rfl⟩
theorem Cm1.next (h:Cm1 V d k) (hk:k < d.size) (hv:V d[k]! ≠ V d[k - 1]!):Cm1 V d (k+1):=⟨by omega,hk,by
 rw [lP h.pos hk,if_neg hv,h.val,fX (L:=d.toList) (k:=k) (by simpa using hk),List.map_append,qO];rfl⟩
theorem Cm1.dup (h:Cm1 V d k) (hk:k < d.size) (hv:V d[k]! = V d[k - 1]!):Cmp V d d k (k+1):=⟨rfl,h.pos,by omega,hk,fun _ _=>rfl,by rw [lP h.pos hk,if_pos hv,h.val]⟩
theorem Cm1.all (h:Cm1 V d k) (hk:d.size≤k):d.toList.map V=compO (d.toList.map V):=by
 have:=h.val
 rw [List.take_of_length_le (by simpa using hk)] at this
 exact this.symm
theorem Cmp.dup (h:Cmp V d dk k j) (hj:j < d.size) (hv:V d[j]! = V d[j - 1]!):Cmp V d dk k (j+1):=⟨h.size,h.pos,by have:=h.kj;omega,hj,h.rest,by rw [lP (by have:=h.kj;omega) hj,if_pos hv];exact h.val⟩
theorem Cmp.keep (h:Cmp V d dk k j) (hj:j < d.size) (hv:V d[j]! ≠ V d[j - 1]!):Cmp V d (dk.setIfInBounds k d[j]!) (k+1) (j+1):=by
 have hkj:=h.kj
 have hk:k < dk.size:=by rw [h.size];omega
 refine ⟨by rw [Array.size_setIfInBounds];exact h.size,by omega,by omega,hj,fun i hi=>?_,?_⟩
 ·rw [← h.rest i (by omega)]
  by_cases hs:i < dk.size
  ·rw [getElem!_pos _ i (by simpa using hs),getElem!_pos dk i hs,Array.getElem_setIfInBounds (by simpa using hs),if_neg (by omega)]
  rw [getElem!_neg _ i (by simpa using hs),getElem!_neg dk i hs]
 rw [lP (by omega) hj,if_neg hv,← h.val,Array.toList_setIfInBounds,fX (k:=k) (by simpa using hk),List.take_set_of_le (Nat.le_refl _),List.map_append]
 congr 1
 rw [show nthG (dk.toList.set k d[j]!) k=d[j]! from by simp [nthG,hk]];rfl
theorem Cmp.all (h:Cmp V d dk k j) (hj:d.size≤j):(dk.toList.take k).map V=compO (d.toList.map V):=by
 have:=h.val
 rw [List.take_of_length_le (show (d.toList).length≤j by simpa using hj)] at this
 exact this
end
theorem aCY {P:Program} {t e:TypeId} {z:Value} {size bytes:Nat} (E:Elem P t e z size bytes) (hz1:∀ v ∈ z.cells,v.oneCell'=true) (w:World) (ty:TypeId) (g o n c:Nat) (hn:0 < n) (hc:∀ j,j < n * size→(w.cell? ⟨g,o+j,none⟩).isSome=true) (hf:∀ j,j < n * size→w.frozen? ⟨g,o+j,none⟩=false) :
  (Builtin.clear_ #[t] ty #[.slice (some ⟨g,o,none⟩) n c]).run P w=.ok (.tuple #[]) (w.setCells g o (Builtin.zeroCells z.cells n).toList):=by
 obtain ⟨i,hi,hz,hsz,hby⟩:=E.get
 have hlen:(Builtin.zeroCells z.cells n).toList.length=n * size:=by rw [Array.length_toList,size_zeroCells,E.zs]
 have h1:∀ v ∈ (Builtin.zeroCells z.cells n).toList,v.oneCell'=true:=by
  intro v hv
  simp only [Builtin.zeroCells,Array.toList_map,List.mem_map] at hv
  obtain ⟨q,_,rfl⟩:=hv
  have hp:0 < z.cells.size:=by rw [E.zs];exact E.pos
  have hq:q % z.cells.size < z.cells.size:=Nat.mod_lt _ hp
  rw [getElem!_pos z.cells _ hq]
  exact hz1 _ (Array.getElem_mem hq)
 have hst:=run_storeCells_cells (P:=P) g o (Builtin.zeroCells z.cells n).toList 0 w (fun j hj=>by rw [hlen] at hj;simpa using hc j hj) (fun j hj=>by rw [hlen] at hj;simpa using hf j hj) h1
 simp only [Nat.add_zero] at hst
 obtain ⟨m,rfl⟩:∃ m,n=m+1:=⟨n - 1,by omega⟩
 simp [Builtin.clear_,run_underlying E.ut,zeroValue,typeInfo,hi,hz,hst]
section
variable {α:Type} [RowT α] [RowB α] {w0 w:World} {base n c:Nat} {e:TypeId} {A:Option Addr} {d:Array α}
theorem RowS.cutClear (h:RowS w0 w base e A n c d) {g:Nat} (hA:A=some ⟨g,0,none⟩) {k:Nat} (hk:k≤n) (ys:List Value):RowS w0 (w.setCells g (k * RowT.sz α) ys) base e A k c (d.toList.take k).toArray:=by
 have ho:=h.own
 subst hA
 obtain ⟨xs',k1,k2,k3⟩:=uF ys (k * RowT.sz α) w (gcs d.toList) ho
 have h2:=sV k1 hk (by simp)
 rw [k2,iT] at h2
 exact ⟨h2,fun x hx=>RowB.kept _ _ _ _ _ _ _ _ _ _ _ (h.ow x (List.mem_of_mem_take hx)) ho h.ne k3,Grown.trans h.gr k3,h.ne⟩
theorem RowS.clearOk (h:RowS w0 w base e A n c d) {g:Nat} (hA:A=some ⟨g,0,none⟩) {k:Nat} (hk:k≤n):(∀ j,j < (n - k) * RowT.sz α→(w.cell? ⟨g,k * RowT.sz α+j,none⟩).isSome=true)∧∀ j,j < (n - k) * RowT.sz α→w.frozen? ⟨g,k * RowT.sz α+j,none⟩=false:=by
 have hl:=h.own.1
 have ho:=h.own
 have he:k * RowT.sz α+(n - k) * RowT.sz α=n * RowT.sz α:=by rw [← Nat.add_mul];congr 1;omega
 subst hA
 exact ⟨fun j hj=>by rw [ho.cellAt (k * RowT.sz α+j) (by omega),List.getElem?_eq_getElem (by omega)];rfl,fun j hj=>ho.frozenAt _⟩
end
end
section
open Go.RowKit
structure TrV where
 ok:Bool
 nm:UInt64
 ac:Int
 sq:Int
 e:List DeR
structure St3 where
 C:List DeR
 Q:List Int
 P:List UInt64
def eW (X:St3) (t:TrV):St3:=if t.ok=false ∨ t.nm ∈ X.P then X else ⟨addL X.C t.e,jO X.Q t.ac t.sq,cM X.P t.nm⟩
structure St3.good (X:St3):Prop where
 asc:AscC X.C
 nz:nzC X.C
 app:Asc ltN X.P
theorem aFb {X:St3} (h:X.good) (t:TrV):(eW X t).good:=by
 unfold eW
 split
 ·exact h
 exact ⟨rK _ h.asc,uM _ h.nz,lD h.app _⟩
theorem aGY (Q:List Int) (a s:Int):(jO Q a s).length=Q.length:=by unfold jO;split <;> simp
theorem aBW (Q:List Int) (i j:Nat) (x:Int) (hi:i < Q.length):(Q.set i x).getD j 0=if i=j then x else Q.getD j 0:=by
 rw [List.getD_eq_getElem?_getD,List.getD_eq_getElem?_getD,List.getElem?_set]
 by_cases h:i=j
 ·subst h;simp [hi]
 simp [h]
theorem aFq (Q:List Int) {a b:Int} (s r:Int) (ha:0≤a) (hb:0≤b):jO (jO Q a s) b r=jO (jO Q b r) a s:=by
 unfold jO
 by_cases h1:a < (Q.length:Int)
 ·by_cases h2 : b < (Q.length : Int)
  ·have i1 : a.toNat < Q.length := by omega
   have i2:b.toNat < Q.length:=by omega
   simp only [h1,h2,if_true,List.length_set,aBW Q _ _ _ i1,aBW Q _ _ _ i2]
   by_cases e:a=b
   ·subst e
    simp only [if_true,List.set_set]
    congr 1;omega
   have e1:a.toNat ≠ b.toNat:=by omega
   rw [if_neg e1,if_neg (Ne.symm e1),List.set_comm _ _ e1]
  simp [h1,h2]
 by_cases h2:b < (Q.length:Int)
 ·simp [h1,h2]
 simp [h1,h2]
theorem aFc {X:St3} (h:X.good) {t u:TrV} (ht:t.ok=true→0≤t.ac) (hu:u.ok=true→0≤u.ac) (hn:t.ok=true→u.ok=true→t.nm=u.nm→t=u):eW (eW X t) u=eW (eW X u) t:=by
 cases et:t.ok with
 | false =>
  have e:∀ Y,eW Y t=Y:=fun Y=>if_pos (.inl et)
  rw [e,e]
 | true =>
  cases eu:u.ok with
  | false =>
   have e:∀ Y,eW Y u=Y:=fun Y=>if_pos (.inl eu)
   rw [e,e]
  | true =>
   by_cases en:t.nm=u.nm
   ·rw [hn et eu en]
   have et':¬ t.ok=false:=by rw [et];decide
   have eu':¬ u.ok=false:=by rw [eu];decide
   by_cases h1:t.nm ∈ X.P
   ·have e1 : eW X t = X := if_pos (.inr h1)
    have e2:eW (eW X u) t=eW X u:=by
     refine if_pos (.inr ?_)
     unfold eW;split
     ·exact h1
     exact (fZ _ _ _).2 (.inr h1)
    rw [e1,e2]
   by_cases h2:u.nm ∈ X.P
   ·have e1 : eW X u = X := if_pos (.inr h2)
    have e2:eW (eW X t) u=eW X t:=by
     refine if_pos (.inr ?_)
     unfold eW;split
     ·exact h2
     exact (fZ _ _ _).2 (.inr h2)
    rw [e1,e2]
   have e1:eW X t=⟨addL X.C t.e,jO X.Q t.ac t.sq,cM X.P t.nm⟩:=if_neg (fun hh=>hh.elim et' h1)
   have e2:eW X u=⟨addL X.C u.e,jO X.Q u.ac u.sq,cM X.P u.nm⟩:=if_neg (fun hh=>hh.elim eu' h2)
   have h3:u.nm ∉ cM X.P t.nm:=fun hh=>((fZ _ _ _).1 hh).elim (fun e=>en e.symm) h2
   have h4:t.nm ∉ cM X.P u.nm:=fun hh=>((fZ _ _ _).1 hh).elim en h1
   have e3:eW (eW X t) u=⟨addL (addL X.C t.e) u.e,jO (jO X.Q t.ac t.sq) u.ac u.sq,cM (cM X.P t.nm) u.nm⟩:=by
    rw [e1];exact if_neg (fun hh=>hh.elim eu' h3)
   have e4:eW (eW X u) t=⟨addL (addL X.C u.e) t.e,jO (jO X.Q u.ac u.sq) t.ac t.sq,cM (cM X.P u.nm) t.nm⟩:=by
    rw [e2];exact if_neg (fun hh=>hh.elim et' h4)
   rw [e3,e4,← mX,← mX,aFV h.asc h.nz List.perm_append_comm,aFq _ _ _ (ht et) (hu eu),aDp h.app]
theorem aFa {l m:List TrV} (hp:l.Perm m):∀ {X:St3},X.good→(∀ t,t ∈ l→t.ok=true→0≤t.ac)→(∀ t u,t ∈ l→u ∈ l→t.ok=true→u.ok=true→t.nm=u.nm→t=u)→l.foldl eW X=m.foldl eW X:=by
 induction hp with
 | nil=>intro X _ _ _;rfl
 | cons x _ ih =>
  intro X hX h0 h1
  exact ih (aFb hX x) (fun t ht=>h0 t (List.mem_cons_of_mem _ ht)) (fun t u ht hu=>h1 t u (List.mem_cons_of_mem _ ht) (List.mem_cons_of_mem _ hu))
 | swap x y l =>
  intro X hX h0 h1
  show l.foldl eW (eW (eW X y) x)=l.foldl eW (eW (eW X x) y)
  rw [aFc hX (h0 y (by simp)) (h0 x (by simp)) (h1 y x (by simp) (by simp))]
 | trans p q ih1 ih2 =>
  intro X hX h0 h1
  rw [ih1 hX h0 h1,ih2 hX (fun t ht=>h0 t (p.mem_iff.2 ht)) (fun t u ht hu=>h1 t u (p.mem_iff.2 ht) (p.mem_iff.2 hu))]
def noB (L:List OpR):Prop:=∀ i,i < L.length→(aY L i).k ≠ 6
def trV (ac sq:Int) (L:List OpR):TrV:=⟨vTx ac sq L,bQ ac sq L,ac,sq,qI ac sq L L.length⟩
def StV.s3 (S:StV):St3:=⟨S.C,S.Q,S.P⟩
theorem aLm {ac sq:Int} {L:List OpR} (hb:noB L) (S:StV):∀ n,n≤L.length→(doN ac sq L S n).C=addL S.C (qI ac sq L n):=by
 intro n
 induction n with
 | zero=>intro _;rfl
 | succ n ih =>
  intro hn
  rw [mU,nH,mX,← ih (by omega)]
  unfold doO kM
  have:=hb n (by omega)
  split
  ·rfl
  split
  ·rfl
  rfl
theorem aJU {ac sq:Int} {L:List OpR} (hb:noB L) (S:StV):(gQ S ac sq L).s3=eW S.s3 (trV ac sq L):=by
 unfold gQ eW
 have e:=oS ac sq L S L.length
 by_cases h:vTx ac sq L=false ∨ bQ ac sq L ∈ S.P
 ·rw [if_pos h];exact (if_pos h).symm
 rw [if_neg h]
 refine Eq.trans ?_ (if_neg h).symm
 show St3.mk (doN ac sq L S L.length).C (jO (doN ac sq L S L.length).Q ac sq) (cM (doN ac sq L S L.length).P (bQ ac sq L))=_
 rw [aLm hb S L.length (Nat.le_refl _),e.1,e.2];rfl
end
end Go.Proofs.YtohmmcahpakokaaGreat
