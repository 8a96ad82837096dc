/- The order of votes (the program's). -/
import Derived.Test.YtohmmcahpakokaaGreatD21
set_option maxRecDepth 100000
set_option maxHeartbeats 8000000
set_option linter.unusedSectionVars false
set_option linter.unusedVariables false
set_option linter.unusedSimpArgs false
namespace Go.Proofs.YtohmmcahpakokaaGreat
section
open Go.RowKit
attribute [local go_sem ↓] Go.wp_at_zero Go.wp_at_succ
theorem eqIn_N (a b:UInt64) (w:World):(Op.equalIn 10000 30 (.agg (nmc a)) (.agg (nmc b))).run Tryz.prog w=.ok (decide (a=b)) w:=by
 have:=run_eqN a b w
 rw [run_eql_struct] at this
 cases h:(Op.equalIn 10000 30 (.agg (nmc a)) (.agg (nmc b))).run Tryz.prog w with
 | ok r w'=>rw [h] at this;simp at this;obtain ⟨h1,h2⟩:=this;subst h1;subst h2;rfl
 | _=>rw [h] at this;simp at this
theorem run_neqV (a b:UInt64) (w:World):(binOp .neq 30 (.agg (nmc a)) (.agg (nmc b))).run Tryz.prog w=.ok (.bool (!decide (a=b))) w:=by
 rw [run_neq_struct,eqIn_N a b w]
 rfl
def x5 (v:VtR):List Int:=[v.sl,v.ro,v.k,v.si,v.ch]
abbrev x5A (v:VtR):Array Value:=#[.int .i64 v.sl,.int .i64 v.ro,.int .i64 v.k,.int .i64 v.si,.int .i64 v.ch]
def x5n (v:VtR) (i:Nat):Int:=(x5 v).getD i 0
theorem ltVt_pa {a b:VtR} (h:a.pa ≠ b.pa):ltVt a b=decide (un a.pa < un b.pa):=by
 unfold ltVt vtKey lexI
 rw [if_neg (fun e=>h (un_inj e))]
theorem ltVt_x5 {a b:VtR} (h:a.pa=b.pa) {k:Nat} (hk:k < 5) (he:∀ j,j < k→x5n a j=x5n b j) (hn:x5n a k ≠ x5n b k):ltVt a b=decide (x5n a k < x5n b k):=by
 have e0:0 < k→a.sl=b.sl:=fun h=>he 0 h
 have e1:1 < k→a.ro=b.ro:=fun h=>he 1 h
 have e2:2 < k→a.k=b.k:=fun h=>he 2 h
 have e3:3 < k→a.si=b.si:=fun h=>he 3 h
 unfold ltVt vtKey
 rcases (by omega:k=0 ∨ k=1 ∨ k=2 ∨ k=3 ∨ k=4) with rfl | rfl | rfl | rfl | rfl
 ·have hn' : a.sl ≠ b.sl := hn
  simp only [lexI,h,if_true,if_neg hn'];rfl
 ·have hn' : a.ro ≠ b.ro := hn
  simp only [lexI,h,e0 (by omega),if_true,if_neg hn'];rfl
 ·have hn' : a.k ≠ b.k := hn
  simp only [lexI,h,e0 (by omega),e1 (by omega),if_true,if_neg hn'];rfl
 ·have hn' : a.si ≠ b.si := hn
  simp only [lexI,h,e0 (by omega),e1 (by omega),e2 (by omega),if_true,if_neg hn'];rfl
 have hn':a.ch ≠ b.ch:=hn
 simp only [lexI,h,e0 (by omega),e1 (by omega),e2 (by omega),e3 (by omega),if_true,if_neg hn'];rfl
theorem ltVt_va {a b:VtR} (h:a.pa=b.pa) (he:∀ j,j < 5→x5n a j=x5n b j) (hn:a.va ≠ b.va):ltVt a b=decide (un a.va < un b.va):=by
 have e0:a.sl=b.sl:=he 0 (by omega)
 have e1:a.ro=b.ro:=he 1 (by omega)
 have e2:a.k=b.k:=he 2 (by omega)
 have e3:a.si=b.si:=he 3 (by omega)
 have e4:a.ch=b.ch:=he 4 (by omega)
 unfold ltVt vtKey
 simp only [lexI,h,e0,e1,e2,e3,e4,if_true,if_neg (fun e=>hn (un_inj e):¬ un a.va=un b.va)]
theorem ltVt_su {a b:VtR} (h:a.pa=b.pa) (he:∀ j,j < 5→x5n a j=x5n b j) (hn:a.va=b.va):ltVt a b=decide (a.su < b.su):=by
 have e0:a.sl=b.sl:=he 0 (by omega)
 have e1:a.ro=b.ro:=he 1 (by omega)
 have e2:a.k=b.k:=he 2 (by omega)
 have e3:a.si=b.si:=he 3 (by omega)
 have e4:a.ch=b.ch:=he 4 (by omega)
 unfold ltVt vtKey
 simp only [lexI,h,e0,e1,e2,e3,e4,hn,if_true]
 split
 ·rename_i e;rw [e];simp
 rfl
theorem vt_pa {w:World} {g:Nat} {t:TypeId} {v:VtR} (h:Blk w g t (vtA v)):w.rangeAt g 6 (bcs (nmb v.pa)):=by
 have h1:=rT (k:=8) (rangeAt_drop (k:=6) (rB h))
 rw [bcs_nb8,← Nat.zero_add 6]
 exact h1
theorem vt_va {w:World} {g:Nat} {t:TypeId} {v:VtR} (h:Blk w g t (vtA v)):w.rangeAt g 14 (bcs (nmb v.va)):=by
 have h1:=rT (k:=8) (rangeAt_drop (k:=14) (rB h))
 rw [bcs_nb8,← Nat.zero_add 14]
 exact h1
def x5L (v:VtR):List Value:=(x5A v).toList
theorem x5L_one (v:VtR):∀ u ∈ x5L v,u.oneCell'=true:=by
 intro u hu
 simp only [x5L,List.mem_cons,List.not_mem_nil,or_false] at hu
 rcases hu with rfl | rfl | rfl | rfl | rfl <;> rfl
theorem x5A_all (v:VtR):(x5A v).all (·.oneCell')=true:=all_oneCell_toArray (x5L_one v)
theorem wpList_newX5 {o:Oper} {a:Act} {w:World} {ops:Array Oper} {rest:List Oper} {Q:Exit→Act→World→Prop} (hgd:o.guard=none) (x y:Operand) (ho:o.op=.store 228 x y) (cs:Array Value) (hcs:cs.size=5) (R:VtR) (hx:a.eval x=.pointer (some ⟨w.heap.size,0,none⟩)) (hy:a.eval y=.agg (x5A R))
  (h:wpList Tryz.prog ops Q rest (a.put o.dst undef) (w.alloc (.cells (x5A R) 228))):wpList Tryz.prog ops Q (o :: rest) a (w.alloc (.cells cs 228)):=by
 have ht:=tB (Blk.new w 228 cs)
 rw [hcs] at ht
 refine wpList_store_mid hgd 228 x y ho w.heap.size 0 (x5A R) hx hy ht (by kernel_rfl) (x5A_all R) ?_
 rw [setCells_whole w 228 cs (x5A R) (by rw [hcs];rfl)]
 exact h
theorem x5_at {w:World} {g:Nat} {t:TypeId} {v:VtR} (h:Blk w g t (x5A v)) {k:Nat} (hk:k < 5):w.cell? ⟨g,k,none⟩=some (.int .i64 (x5n v k)):=by
 rcases (by omega:k=0 ∨ k=1 ∨ k=2 ∨ k=3 ∨ k=4) with rfl | rfl | rfl | rfl | rfl <;> exact h.cell _
theorem vtLess_any (a b:VtR) (w:World):Calls Tryz.prog 210 #[.agg (vtA a),.agg (vtA b)] w fun e w'=>e=.returned (.bool (ltVt a b))∧Ext w w':=by
 have hE:=((Ext.refl w).alloc' (.cells (vtA a) 134)).alloc' (.cells (vtA b) 134)
 have HB1:=zh ((Blk.new w 134 (vtA a)).alloc (.cells (vtA b) 134))
 have HB2:=zh (show Blk ((w.alloc (.cells (vtA a) 134)).alloc (.cells (vtA b) 134)) (w.heap.size+1) 134 (vtA b) from Blk.newAt _ _ _ _ (by simp))
 have HE:=zh hE
 obtain ⟨W0,hW0⟩:∃ W0,(w.alloc (.cells (vtA a) 134)).alloc (.cells (vtA b) 134)=W0:=⟨_,rfl⟩
 rw [hW0] at HB1 HB2 HE
 have hsz:W0.heap.size=w.heap.size+2:=by rw [← hW0];simp
 have HSZ:=zh hsz
 have g1:w.heap.size < W0.heap.size:=by omega
 have g2:w.heap.size+1 < W0.heap.size:=by omega
 obtain ⟨a0,a1,a2,a3,a4,a5,a6,a7⟩:=vt_facts HB1.out
 obtain ⟨b0,b1,b2,b3,b4,b5,b6,b7⟩:=vt_facts HB2.out
 have p1:=vt_pa HB1.out
 have p2:=vt_pa HB2.out
 have hq:=fun W=>run_neqV a.pa b.pa W
 have hqi:=fun W=>eqIn_N a.pa b.pa W
 clear hE a6 a7 b6 b7 hsz
 by_cases hpa:a.pa=b.pa
 ·rw [decide_eq_true hpa] at hq hqi
  rw [Bool.not_true] at hq
  have HPA:=zh hpa
  clear hpa
  go_enter Tryz.func210,Tryz.ntmps210
  go_wp2_with (first | (with_reducible refine wpList_loadN rfl (.tmp 8) rfl w.heap.size 6 rfl a.pa p1 ?_) | (with_reducible refine wpList_loadN rfl (.tmp 10) rfl (w.heap.size+1) 6 rfl b.pa p2 ?_) | (with_reducible refine wpList_newX5 rfl (.tmp 5) (.tmp 28) rfl _ rfl a rfl rfl ?_) | (with_reducible refine wpList_newX5 rfl (.tmp 6) (.tmp 39) rfl _ rfl b rfl rfl ?_))
  have HX:=zh (((Blk.new W0 228 (x5A a))).alloc (.cells (x5A b) 228))
  have HY:=zh (show Blk ((W0.alloc (.cells (x5A a) 228)).alloc (.cells (x5A b) 228)) (W0.heap.size+1) 228 (x5A b) from Blk.newAt _ _ _ _ (by simp))
  have HE1:=zh (((Ext.refl W0).alloc' (.cells (x5A a) 228)).alloc' (.cells (x5A b) 228))
  clear p1 p2 hq hqi a0 a1 a2 a3 a4 a5 b0 b1 b2 b3 b4 b5 g1 g2
  generalize (W0.alloc (.cells (x5A a) 228)).alloc (.cells (x5A b) 228)=W1 at HX HY HE1 ⊢
  go_loopw [40,7] (fun i _ wr=>∃ k:Nat,k≤5∧i=.int .i64 (k:Int)∧Hid (∀ j,j < k→x5n a j=x5n b j)∧Hid (Ext W1 wr)) (fun i _ _=>5 - (intOf i).toNat)
  case atStart=>exact ⟨0,by omega,rfl,zh (fun j hj=>by omega),zh (Ext.refl _)⟩
  case round =>
   obtain ⟨k,hk,rfl,HP,HZ⟩:=hrel
   by_cases hlt:k < 5
   ·have hx := x5_at (HX.out.ext HZ.out) hlt
    have hy:=x5_at (HY.out.ext HZ.out) hlt
    have i0:(0:Int)≤(k:Int):=by omega
    have i1:(k:Int) < 5:=by omega
    by_cases hne:x5n a k=x5n b k
    ·have HP':=zh (show ∀ j,j < k+1→x5n a j=x5n b j from fun j hj=>by
      rcases Nat.lt_or_ge j k with h | h
      ·exact HP.out j h
      obtain rfl:j=k:=by omega
      exact hne)
     obtain ⟨z,hz⟩:∃ z,x5n a k=z:=⟨_,rfl⟩
     rw [hz] at hx hne
     rw [← hne] at hy
     clear hz hne
     have hz:(z != z)=false:=by simp
     go_wp2_with fail
     go_quiet ((fail))
     go_wp2_with fail
     go_roundw
     case rel=>exact ⟨k+1,by omega,by go_num,HP',zh (below_drewN HZ.out _)⟩
     case measure=>simp [intOf];omega
    have HV:=zh (ltVt_x5 HPA.out hlt HP.out hne)
    obtain ⟨z,hz⟩:∃ z,x5n a k=z:=⟨_,rfl⟩
    obtain ⟨y,hyy⟩:∃ y,x5n b k=y:=⟨_,rfl⟩
    rw [hz,hyy] at HV hne
    rw [hz] at hx
    rw [hyy] at hy
    have hzy:(z != y)=true:=bne_iff_ne.2 hne
    have HZZ:=zh hz
    have HYY:=zh hyy
    clear hz hyy
    go_wp2_with fail
    go_quiet ((fail))
    have HZ2:=zh (below_drewN HZ.out nq)
    clear hx hy HZ
    generalize wr.drewN nq=W2 at HZ2 ⊢
    have hx:=x5_at (HX.out.ext HZ2.out) hlt
    have hy:=x5_at (HY.out.ext HZ2.out) hlt
    rw [HZZ.out] at hx
    rw [HYY.out] at hy
    go_wp2_with fail
    go_quiet ((fail))
    go_wp2_with fail
    go_ret
    exact ⟨by rw [HV.out];rfl,HE.out.trans (HE1.out.trans (below_drewN HZ2.out _))⟩
   obtain rfl:k=5:=by omega
   have HE2:=zh (HE1.out.trans HZ.out)
   have HW:=zh (HE.out.trans HE2.out)
   have p1:=vt_va (HB1.out.ext HE2.out)
   have p2:=vt_va (HB2.out.ext HE2.out)
   obtain ⟨a0,a1,a2,a3,a4,a5,a6,a7⟩:=vt_facts (HB1.out.ext HE2.out)
   obtain ⟨b0,b1,b2,b3,b4,b5,b6,b7⟩:=vt_facts (HB2.out.ext HE2.out)
   clear a0 a1 a2 a3 a4 a6 a7 b0 b1 b2 b3 b4 b6 b7
   have hq:=fun W=>run_neqV a.va b.va W
   have hqi:=fun W=>eqIn_N a.va b.va W
   by_cases hva:a.va=b.va
   ·have HV := zh (ltVt_su HPA.out HP.out hva)
    rw [decide_eq_true hva] at hq hqi
    rw [Bool.not_true] at hq
    clear hva
    go_wp2_with (first | (with_reducible refine wpList_loadN rfl (.tmp 58) rfl w.heap.size 14 rfl a.va p1 ?_) | (with_reducible refine wpList_loadN rfl (.tmp 60) rfl (w.heap.size+1) 14 rfl b.va p2 ?_))
    go_ret
    exact ⟨by rw [HV.out];rfl,HW.out⟩
   have HV:=zh (ltVt_va HPA.out HP.out hva)
   rw [decide_eq_false hva] at hq hqi
   rw [Bool.not_false] at hq
   clear hva
   go_wp2_with (first | (with_reducible refine wpList_loadN rfl (.tmp 58) rfl w.heap.size 14 rfl a.va p1 ?_) | (with_reducible refine wpList_loadN rfl (.tmp 60) rfl (w.heap.size+1) 14 rfl b.va p2 ?_) | (with_reducible refine wpList_loadN rfl (.tmp 63) rfl w.heap.size 14 rfl a.va p1 ?_) | (with_reducible refine wpList_loadN rfl (.tmp 65) rfl (w.heap.size+1) 14 rfl b.va p2 ?_))
   refine (hLess_any a.va b.va wr).mono ?_
   rintro e w1 ⟨rfl,he1⟩
   have HX1:=zh (HW.out.trans he1)
   clear he1
   go_wp2_with fail
   go_ret
   exact ⟨by rw [HV.out];rfl,HX1.out⟩
 have HV:=zh (ltVt_pa hpa)
 rw [decide_eq_false hpa] at hq hqi
 rw [Bool.not_false] at hq
 clear hpa
 go_enter Tryz.func210,Tryz.ntmps210
 go_wp2_with (first | (with_reducible refine wpList_loadN rfl (.tmp 8) rfl w.heap.size 6 rfl a.pa p1 ?_) | (with_reducible refine wpList_loadN rfl (.tmp 10) rfl (w.heap.size+1) 6 rfl b.pa p2 ?_) | (with_reducible refine wpList_loadN rfl (.tmp 13) rfl w.heap.size 6 rfl a.pa p1 ?_) | (with_reducible refine wpList_loadN rfl (.tmp 15) rfl (w.heap.size+1) 6 rfl b.pa p2 ?_))
 refine (hLess_any a.pa b.pa W0).mono ?_
 rintro e w1 ⟨rfl,he1⟩
 have HX:=zh (HE.out.trans he1)
 clear he1
 go_wp2_with fail
 go_ret
 exact ⟨by rw [HV.out];rfl,HX.out⟩
section
variable {α β:Type} [RowT α] [DecidableEq β] {V:α→β} {d dk:Array α} {k j:Nat}
theorem compO_take (hj:1≤j) (hn:j < d.size):compO ((d.toList.take (j+1)).map V)=if V d[j]! = V d[j - 1]! then compO ((d.toList.take j).map V) else compO ((d.toList.take j).map V) ++ [V d[j]!]:=by
 obtain ⟨i,rfl⟩:∃ i,j=i+1:=⟨j - 1,by omega⟩
 have e1:=take_nthG (L:=d.toList) (k:=i+1) (by simpa using hn)
 have e2:=take_nthG (L:=d.toList) (k:=i) (by simp;omega)
 rw [e1,e2,List.map_append,List.map_append,List.map_cons,List.map_nil,List.map_cons,List.map_nil,List.append_assoc,arr_nth,arr_nth]
 simp only [Nat.add_sub_cancel,List.cons_append,List.nil_append]
 exact compO_snoc _ _ _
structure Cm1 (V:α→β) (d:Array α) (k:Nat):Prop where
 pos:1≤k
 le:k≤d.size
 val:compO ((d.toList.take k).map V)=(d.toList.take k).map V
structure Cmp (V:α→β) (d dk:Array α) (k j:Nat):Prop where
 size:dk.size=d.size
 pos:1≤k
 kj:k < j
 jn:j≤d.size
 rest:∀ i,k≤i→dk[i]! = d[i]!
 val:(dk.toList.take k).map V=compO ((d.toList.take j).map V)
theorem Cm1.start (h:1≤d.size):Cm1 V d 1:=⟨Nat.le_refl _,h,by
 have e:=take_nthG (L:=d.toList) (k:=0) (by simp;omega)
 rw [e];rfl⟩
theorem Cm1.next (h:Cm1 V d k) (hk:k < d.size) (hv:V d[k]! ≠ V d[k - 1]!):Cm1 V d (k+1):=⟨by omega,hk,by
 rw [compO_take h.pos hk,if_neg hv,h.val,take_nthG (L:=d.toList) (k:=k) (by simpa using hk),List.map_append,arr_nth];rfl⟩
theorem Cm1.dup (h:Cm1 V d k) (hk:k < d.size) (hv:V d[k]! = V d[k - 1]!):Cmp V d d k (k+1):=⟨rfl,h.pos,by omega,hk,fun _ _=>rfl,by rw [compO_take h.pos hk,if_pos hv,h.val]⟩
theorem Cm1.all (h:Cm1 V d k) (hk:d.size≤k):d.toList.map V=compO (d.toList.map V):=by
 have:=h.val
 rw [List.take_of_length_le (by simpa using hk)] at this
 exact this.symm
theorem Cmp.dup (h:Cmp V d dk k j) (hj:j < d.size) (hv:V d[j]! = V d[j - 1]!):Cmp V d dk k (j+1):=⟨h.size,h.pos,by have:=h.kj;omega,hj,h.rest,by rw [compO_take (by have:=h.kj;omega) hj,if_pos hv];exact h.val⟩
theorem Cmp.keep (h:Cmp V d dk k j) (hj:j < d.size) (hv:V d[j]! ≠ V d[j - 1]!):Cmp V d (dk.setIfInBounds k d[j]!) (k+1) (j+1):=by
 have hkj:=h.kj
 have hk:k < dk.size:=by rw [h.size];omega
 refine ⟨by rw [Array.size_setIfInBounds];exact h.size,by omega,by omega,hj,fun i hi=>?_,?_⟩
 ·rw [← h.rest i (by omega)]
  by_cases hs:i < dk.size
  ·rw [getElem!_pos _ i (by simpa using hs),getElem!_pos dk i hs,Array.getElem_setIfInBounds (by simpa using hs),if_neg (by omega)]
  rw [getElem!_neg _ i (by simpa using hs),getElem!_neg dk i hs]
 rw [compO_take (by omega) hj,if_neg hv,← h.val,Array.toList_setIfInBounds,take_nthG (k:=k) (by simpa using hk),List.take_set_of_le (Nat.le_refl _),List.map_append]
 congr 1
 rw [show nthG (dk.toList.set k d[j]!) k=d[j]! from by simp [nthG,hk]];rfl
theorem Cmp.all (h:Cmp V d dk k j) (hj:d.size≤j):(dk.toList.take k).map V=compO (d.toList.map V):=by
 have:=h.val
 rw [List.take_of_length_le (show (d.toList).length≤j by simpa using hj)] at this
 exact this
end
theorem run_clearG {P:Program} {t e:TypeId} {z:Value} {size bytes:Nat} (E:Elem P t e z size bytes) (hz1:∀ v ∈ z.cells,v.oneCell'=true) (w:World) (ty:TypeId) (g o n c:Nat) (hn:0 < n) (hc:∀ j,j < n * size→(w.cell? ⟨g,o+j,none⟩).isSome=true) (hf:∀ j,j < n * size→w.frozen? ⟨g,o+j,none⟩=false) :
  (Builtin.clear_ #[t] ty #[.slice (some ⟨g,o,none⟩) n c]).run P w=.ok (.tuple #[]) (w.setCells g o (Builtin.zeroCells z.cells n).toList):=by
 obtain ⟨i,hi,hz,hsz,hby⟩:=E.get
 have hlen:(Builtin.zeroCells z.cells n).toList.length=n * size:=by rw [Array.length_toList,size_zeroCells,E.zs]
 have h1:∀ v ∈ (Builtin.zeroCells z.cells n).toList,v.oneCell'=true:=by
  intro v hv
  simp only [Builtin.zeroCells,Array.toList_map,List.mem_map] at hv
  obtain ⟨q,_,rfl⟩:=hv
  have hp:0 < z.cells.size:=by rw [E.zs];exact E.pos
  have hq:q % z.cells.size < z.cells.size:=Nat.mod_lt _ hp
  rw [getElem!_pos z.cells _ hq]
  exact hz1 _ (Array.getElem_mem hq)
 have hst:=run_storeCells_cells (P:=P) g o (Builtin.zeroCells z.cells n).toList 0 w (fun j hj=>by rw [hlen] at hj;simpa using hc j hj) (fun j hj=>by rw [hlen] at hj;simpa using hf j hj) h1
 simp only [Nat.add_zero] at hst
 obtain ⟨m,rfl⟩:∃ m,n=m+1:=⟨n - 1,by omega⟩
 simp [Builtin.clear_,run_underlying E.ut,zeroValue,typeInfo,hi,hz,hst]
section
variable {α:Type} [RowT α] [RowB α] {w0 w:World} {base n c:Nat} {e:TypeId} {A:Option Addr} {d:Array α}
theorem RowS.cutClear (h:RowS w0 w base e A n c d) {g:Nat} (hA:A=some ⟨g,0,none⟩) {k:Nat} (hk:k≤n) (ys:List Value):RowS w0 (w.setCells g (k * RowT.sz α) ys) base e A k c (d.toList.take k).toArray:=by
 have ho:=h.own
 subst hA
 obtain ⟨xs',k1,k2,k3⟩:=own_over ys (k * RowT.sz α) w (gcs d.toList) ho
 have h2:=own_cut k1 hk (by simp)
 rw [k2,gcs_take] at h2
 exact ⟨h2,fun x hx=>RowB.kept _ _ _ _ _ _ _ _ _ _ _ (h.ow x (List.mem_of_mem_take hx)) ho h.ne k3,Grown.trans h.gr k3,h.ne⟩
theorem RowS.clearOk (h:RowS w0 w base e A n c d) {g:Nat} (hA:A=some ⟨g,0,none⟩) {k:Nat} (hk:k≤n):(∀ j,j < (n - k) * RowT.sz α→(w.cell? ⟨g,k * RowT.sz α+j,none⟩).isSome=true)∧∀ j,j < (n - k) * RowT.sz α→w.frozen? ⟨g,k * RowT.sz α+j,none⟩=false:=by
 have hl:=h.own.1
 have ho:=h.own
 have he:k * RowT.sz α+(n - k) * RowT.sz α=n * RowT.sz α:=by rw [← Nat.add_mul];congr 1;omega
 subst hA
 exact ⟨fun j hj=>by rw [ho.cellAt (k * RowT.sz α+j) (by omega),List.getElem?_eq_getElem (by omega)];rfl,fun j hj=>ho.frozenAt _⟩
end
end
section
open Go.RowKit
def effO (ac sq:Int) (L:List OpR) (i:Nat):List DeR :=
 if (nthO L i).k=1 then movC (balC ac) (balC (nthO L i).tO) (nthO L i).am
 else if (nthO L i).k=2 then movC (balC ac) (lckC (lockNm ac sq L (i:Int))) (nthO L i).am
 else if (nthO L i).k=3 ∨ (nthO L i).k=4 then movC (lckC (nthO L i).lk) (balC (nthO L i).tO) (nthO L i).am
 else if (nthO L i).k=5 then movC (balC ac) (stkC (nthO L i).va) (nthO L i).am
 else []
def effN (ac sq:Int) (L:List OpR) (n:Nat):List DeR:=(List.range n).flatMap (effO ac sq L)
def effT (ac sq:Int) (L:List OpR):List DeR:=if vTx ac sq L=true then effN ac sq L L.length else []
theorem effN_succ (ac sq:Int) (L:List OpR) (n:Nat):effN ac sq L (n+1)=effN ac sq L n ++ effO ac sq L n:=by
 unfold effN;rw [List.range_succ,List.flatMap_append,List.flatMap_cons,List.flatMap_nil,List.append_nil]
theorem sum_append (l m:List DeR):sumC (l ++ m)=sumC l+sumC m:=by unfold sumC;rw [List.map_append,List.sum_append]
theorem sum_effO (ac sq:Int) (L:List OpR) (i:Nat):wr (sumC (effO ac sq L i))=0:=by
 unfold effO
 split
 ·exact sum_mov ..
 split
 ·exact sum_mov ..
 split
 ·exact sum_mov ..
 split
 ·exact sum_mov ..
 rfl
theorem tot_add {C l:List DeR} (h:wr (sumC l)=0):totC (addL C l)=totC C:=by
 rw [sum_addL,← wr_add',h,Int.add_zero];rfl
def outN (L:List OpR) (n:Nat):Int:=wr ((L.take n).map OpR.am).sum
def outT (ac sq:Int) (L:List OpR):Int:=if vTx ac sq L=true then outN L L.length else 0
def addS (S:StV) (l:List DeR):StV:=⟨addL S.C l,S.Q,S.K,S.P,S.G⟩
def expS1 (g:Int) (S:StV) (i:Nat):StV :=
 if hasM g i=true∧hasM S.G i=false then ⟨addL S.C (movC (stkC (i:Int)) polC (getC S.C (stkC (i:Int)))),S.Q,S.K,S.P,addM S.G i⟩ else S
def expN (g:Int) (S:StV) (n:Nat):StV:=(List.range n).foldl (expS1 g) S
def expS (g:Int) (S:StV):StV:=expN g S 10
theorem expN_succ (g:Int) (S:StV) (n:Nat):expN g S (n+1)=expS1 g (expN g S n) n:=by
 unfold expN;rw [List.range_succ,List.foldl_append];rfl
theorem expN_tot (g:Int) (S:StV) (n:Nat):totC (expN g S n).C=totC S.C:=by
 induction n with
 | zero=>rfl
 | succ n ih =>
  rw [expN_succ];unfold expS1;split
  ·show totC (addL _ _) = _
   rw [tot_add (sum_mov ..),ih]
  exact ih
theorem exp_tot (g:Int) (S:StV):totC (expS g S).C=totC S.C:=expN_tot g S 10
def chgO (ac sq:Int) (L:List OpR) (S:StV) (i:Nat):StV :=
 if (nthO L i).k=2 then ⟨S.C,S.Q,openK S.K ⟨lockNm ac sq L (i:Int),(nthO L i).hs,ac,(nthO L i).tO,(nthO L i).ul⟩,S.P,S.G⟩
 else if (nthO L i).k=3 ∨ (nthO L i).k=4 then ⟨S.C,S.Q,closeK (nthO L i).lk S.K,S.P,S.G⟩
 else if (nthO L i).k=6 then expS (2 ^ (nthO L i).va.toNat) S
 else S
def doO (ac sq:Int) (L:List OpR) (S:StV) (i:Nat):StV:=chgO ac sq L (addS S (effO ac sq L i)) i
def doN (ac sq:Int) (L:List OpR) (S:StV) (n:Nat):StV:=(List.range n).foldl (doO ac sq L) S
theorem doN_succ (ac sq:Int) (L:List OpR) (S:StV) (n:Nat):doN ac sq L S (n+1)=doO ac sq L (doN ac sq L S n) n:=by
 unfold doN;rw [List.range_succ,List.foldl_append];rfl
theorem expN_QP (g:Int) (S:StV) (n:Nat):(expN g S n).Q=S.Q∧(expN g S n).P=S.P:=by
 induction n with
 | zero=>exact ⟨rfl,rfl⟩
 | succ n ih =>
  rw [expN_succ];unfold expS1;split
  ·exact ih
  exact ih
theorem chg_QP (ac sq:Int) (L:List OpR) (S:StV) (i:Nat):(chgO ac sq L S i).Q=S.Q∧(chgO ac sq L S i).P=S.P:=by
 unfold chgO
 split
 ·exact ⟨rfl,rfl⟩
 split
 ·exact ⟨rfl,rfl⟩
 split
 ·exact expN_QP _ _ _
 exact ⟨rfl,rfl⟩
theorem doN_QP (ac sq:Int) (L:List OpR) (S:StV) (n:Nat):(doN ac sq L S n).Q=S.Q∧(doN ac sq L S n).P=S.P:=by
 induction n with
 | zero=>exact ⟨rfl,rfl⟩
 | succ n ih =>
  rw [doN_succ]
  have:=chg_QP ac sq L (addS (doN ac sq L S n) (effO ac sq L n)) n
  exact ⟨this.1.trans ih.1,this.2.trans ih.2⟩
theorem chg_tot (ac sq:Int) (L:List OpR) (S:StV) (i:Nat):totC (chgO ac sq L S i).C=totC S.C:=by
 unfold chgO
 split
 ·rfl
 split
 ·rfl
 split
 ·exact exp_tot _ _
 rfl
theorem doN_tot (ac sq:Int) (L:List OpR) (S:StV) (n:Nat):totC (doN ac sq L S n).C=totC S.C:=by
 induction n with
 | zero=>rfl
 | succ n ih =>
  rw [doN_succ];unfold doO
  rw [chg_tot]
  show totC (addL _ _)=_
  rw [tot_add (sum_effO ..),ih]
def nxtQ (Q:List Int) (ac sq:Int):List Int:=if ac < (Q.length:Int) then Q.set ac.toNat (max (Q.getD ac.toNat 0) (sq+1)) else Q
def repS (S:StV) (ac sq:Int) (L:List OpR):StV :=
 if vTx ac sq L=false ∨ txNm ac sq L ∈ S.P then S
 else ⟨(doN ac sq L S L.length).C,nxtQ (doN ac sq L S L.length).Q ac sq,(doN ac sq L S L.length).K,markP (doN ac sq L S L.length).P (txNm ac sq L),(doN ac sq L S L.length).G⟩
theorem rep_tot (S:StV) (ac sq:Int) (L:List OpR):totC (repS S ac sq L).C=totC S.C:=by
 unfold repS
 split
 ·rfl
 exact doN_tot ac sq L S L.length
end
end Go.Proofs.YtohmmcahpakokaaGreat
