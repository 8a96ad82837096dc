/- Repetitions struck from a row, side by side (what slices.CompactFunc does, plain); the end of a row cleared and cut off. -/
import Derived.Lib.Overlaps
import Derived.Lib.AppendZerosOnto
import Derived.Lib.SliceRun
import Derived.Deep.Cut
import Derived.ArgAppend
import Derived.Test.YtohmmcahpakokaaGreatK20
import Derived.Test.YtohmmcahpakokaaGreatK21
set_option maxRecDepth 100000
set_option maxHeartbeats 8000000
set_option linter.unusedSectionVars false
set_option linter.unusedVariables false
set_option linter.unusedSimpArgs false
namespace Go.Proofs.YtohmmcahpakokaaGreat
open Go.RowKit
attribute [local go_sem ↓] Go.wp_at_zero Go.wp_at_succ
section
variable {α β:Type} [RowT α] [DecidableEq β] {V:α→β} {d dk:Array α} {k j:Nat}
theorem compO_take (hj:1≤j) (hn:j < d.size):compO ((d.toList.take (j+1)).map V)=if V d[j]! = V d[j - 1]! then compO ((d.toList.take j).map V) else compO ((d.toList.take j).map V) ++ [V d[j]!]:=by
 obtain ⟨i,rfl⟩:∃ i,j=i+1:=⟨j - 1,by omega⟩
 have e1:=take_nthG (L:=d.toList) (k:=i+1) (by simpa using hn)
 have e2:=take_nthG (L:=d.toList) (k:=i) (by simp;omega)
 rw [e1,e2,List.map_append,List.map_append,List.map_cons,List.map_nil,List.map_cons,List.map_nil,List.append_assoc,arr_nth,arr_nth]
 simp only [Nat.add_sub_cancel,List.cons_append,List.nil_append]
 exact compO_snoc _ _ _
structure Cm1 (V:α→β) (d:Array α) (k:Nat):Prop where
 pos:1≤k
 le:k≤d.size
 val:compO ((d.toList.take k).map V)=(d.toList.take k).map V
structure Cmp (V:α→β) (d dk:Array α) (k j:Nat):Prop where
 size:dk.size=d.size
 pos:1≤k
 kj:k < j
 jn:j≤d.size
 rest:∀ i,k≤i→dk[i]! = d[i]!
 val:(dk.toList.take k).map V=compO ((d.toList.take j).map V)
theorem Cm1.start (h:1≤d.size):Cm1 V d 1:=⟨Nat.le_refl _,h,by
 have e:=take_nthG (L:=d.toList) (k:=0) (by simp;omega)
 rw [e];rfl⟩
theorem Cm1.next (h:Cm1 V d k) (hk:k < d.size) (hv:V d[k]! ≠ V d[k - 1]!):Cm1 V d (k+1):=⟨by omega,hk,by
 rw [compO_take h.pos hk,if_neg hv,h.val,take_nthG (L:=d.toList) (k:=k) (by simpa using hk),List.map_append,arr_nth];rfl⟩
theorem Cm1.dup (h:Cm1 V d k) (hk:k < d.size) (hv:V d[k]! = V d[k - 1]!):Cmp V d d k (k+1):=⟨rfl,h.pos,by omega,hk,fun _ _=>rfl,by rw [compO_take h.pos hk,if_pos hv,h.val]⟩
theorem Cm1.all (h:Cm1 V d k) (hk:d.size≤k):d.toList.map V=compO (d.toList.map V):=by
 have:=h.val
 rw [List.take_of_length_le (by simpa using hk)] at this
 exact this.symm
theorem Cmp.dup (h:Cmp V d dk k j) (hj:j < d.size) (hv:V d[j]! = V d[j - 1]!):Cmp V d dk k (j+1):=⟨h.size,h.pos,by have:=h.kj;omega,hj,h.rest,by rw [compO_take (by have:=h.kj;omega) hj,if_pos hv];exact h.val⟩
theorem Cmp.keep (h:Cmp V d dk k j) (hj:j < d.size) (hv:V d[j]! ≠ V d[j - 1]!):Cmp V d (dk.setIfInBounds k d[j]!) (k+1) (j+1):=by
 have hkj:=h.kj
 have hk:k < dk.size:=by rw [h.size];omega
 refine ⟨by rw [Array.size_setIfInBounds];exact h.size,by omega,by omega,hj,fun i hi=>?_,?_⟩
 ·rw [← h.rest i (by omega)]
  by_cases hs:i < dk.size
  ·rw [getElem!_pos _ i (by simpa using hs),getElem!_pos dk i hs,Array.getElem_setIfInBounds (by simpa using hs),if_neg (by omega)]
  ·rw [getElem!_neg _ i (by simpa using hs),getElem!_neg dk i hs]
 ·rw [compO_take (by omega) hj, if_neg hv, ← h.val, Array.toList_setIfInBounds, take_nthG (k := k) (by simpa using hk), List.take_set_of_le (Nat.le_refl _), List.map_append]
  congr 1
  rw [show nthG (dk.toList.set k d[j]!) k=d[j]! from by simp [nthG,hk]];rfl
theorem Cmp.all (h:Cmp V d dk k j) (hj:d.size≤j):(dk.toList.take k).map V=compO (d.toList.map V):=by
 have:=h.val
 rw [List.take_of_length_le (show (d.toList).length≤j by simpa using hj)] at this
 exact this
end
theorem run_clearG {P:Program} {t e:TypeId} {z:Value} {size bytes:Nat} (E:Elem P t e z size bytes) (hz1:∀ v ∈ z.cells,v.oneCell'=true) (w:World) (ty:TypeId) (g o n c:Nat) (hn:0 < n) (hc:∀ j,j < n * size→(w.cell? ⟨g,o+j,none⟩).isSome=true) (hf:∀ j,j < n * size→w.frozen? ⟨g,o+j,none⟩=false) :
  (Builtin.clear_ #[t] ty #[.slice (some ⟨g,o,none⟩) n c]).run P w=.ok (.tuple #[]) (w.setCells g o (Builtin.zeroCells z.cells n).toList):=by
 obtain ⟨i,hi,hz,hsz,hby⟩:=E.get
 have hlen:(Builtin.zeroCells z.cells n).toList.length=n * size:=by rw [Array.length_toList,size_zeroCells,E.zs]
 have h1:∀ v ∈ (Builtin.zeroCells z.cells n).toList,v.oneCell'=true:=by
  intro v hv
  simp only [Builtin.zeroCells,Array.toList_map,List.mem_map] at hv
  obtain ⟨q,_,rfl⟩:=hv
  have hp:0 < z.cells.size:=by rw [E.zs];exact E.pos
  have hq:q % z.cells.size < z.cells.size:=Nat.mod_lt _ hp
  rw [getElem!_pos z.cells _ hq]
  exact hz1 _ (Array.getElem_mem hq)
 have hst:=run_storeCells_cells (P:=P) g o (Builtin.zeroCells z.cells n).toList 0 w (fun j hj=>by rw [hlen] at hj;simpa using hc j hj) (fun j hj=>by rw [hlen] at hj;simpa using hf j hj) h1
 simp only [Nat.add_zero] at hst
 obtain ⟨m,rfl⟩:∃ m,n=m+1:=⟨n - 1,by omega⟩
 simp [Builtin.clear_,run_underlying E.ut,zeroValue,typeInfo,hi,hz,hst]
section
variable {α:Type} [RowT α] [RowB α] {w0 w:World} {base n c:Nat} {e:TypeId} {A:Option Addr} {d:Array α}
theorem RowS.cutClear (h:RowS w0 w base e A n c d) {g:Nat} (hA:A=some ⟨g,0,none⟩) {k:Nat} (hk:k≤n) (ys:List Value):RowS w0 (w.setCells g (k * RowT.sz α) ys) base e A k c (d.toList.take k).toArray:=by
 have ho:=h.own
 subst hA
 obtain ⟨xs',k1,k2,k3⟩:=own_over ys (k * RowT.sz α) w (gcs d.toList) ho
 have h2:=own_cut k1 hk (by simp)
 rw [k2,gcs_take] at h2
 exact ⟨h2,fun x hx=>RowB.kept _ _ _ _ _ _ _ _ _ _ _ (h.ow x (List.mem_of_mem_take hx)) ho h.ne k3,Grown.trans h.gr k3,h.ne⟩
theorem RowS.clearOk (h:RowS w0 w base e A n c d) {g:Nat} (hA:A=some ⟨g,0,none⟩) {k:Nat} (hk:k≤n):(∀ j,j < (n - k) * RowT.sz α→(w.cell? ⟨g,k * RowT.sz α+j,none⟩).isSome=true)∧∀ j,j < (n - k) * RowT.sz α→w.frozen? ⟨g,k * RowT.sz α+j,none⟩=false:=by
 have hl:=h.own.1
 have ho:=h.own
 have he:k * RowT.sz α+(n - k) * RowT.sz α=n * RowT.sz α:=by rw [← Nat.add_mul];congr 1;omega
 subst hA
 exact ⟨fun j hj=>by rw [ho.cellAt (k * RowT.sz α+j) (by omega),List.getElem?_eq_getElem (by omega)];rfl,fun j hj=>ho.frozenAt _⟩
end
end Go.Proofs.YtohmmcahpakokaaGreat
namespace Go.Proofs.YtohmmcahpakokaaGreat
open Go.RowKit
section
variable {α β:Type} [RowT α] [DecidableEq β] {V:α→β} {lt0:α→α→Bool} {lt:β→β→Bool} {d d':Array α} {n:Nat}
theorem wsc_of (hlt:∀ x y,lt0 x y=lt (V x) (V y)) (hn:d'.size=n) (hs:Sort.SortedIn lt0 0 n d'):Wsc lt (d'.toList.map V):=by
 unfold Wsc
 rw [List.pairwise_iff_getElem]
 intro i j hi hj hij
 simp only [List.length_map,Array.length_toList] at hi hj
 have:=hs i j (Nat.zero_le _) hij (by omega)
 rw [hlt,getElem!_pos d' i hi,getElem!_pos d' j hj] at this
 simpa using this
theorem mem_of_perm (hd:d.size=n) (hp:Sort.PermIn 0 n d d') (y:β):y ∈ d'.toList.map V ↔ y ∈ d.toList.map V:=by
 obtain ⟨h1,h2,h3⟩:=hp
 have e1:d'.extract 0 n=d':=by rw [← hd,← h1];exact Array.extract_size
 have e2:d.extract 0 n=d:=by rw [← hd];exact Array.extract_size
 rw [e1,e2] at h3
 exact (h3.map V).mem_iff
theorem canon_of_sorted (hS:STO lt) (hlt:∀ x y,lt0 x y=lt (V x) (V y)) (hd:d.size=n) (hp:Sort.PermIn 0 n d d') (hs:Sort.SortedIn lt0 0 n d'):compO (d'.toList.map V)=canonO lt (d.toList.map V) :=
 compO_canon hS (wsc_of hlt (by rw [hp.1,hd]) hs) (mem_of_perm hd hp)
end
end Go.Proofs.YtohmmcahpakokaaGreat
namespace Go.Proofs.YtohmmcahpakokaaGreat
open Go.RowKit
attribute [local go_sem ↓] Go.wp_at_zero Go.wp_at_succ
theorem sigU_in (seed m:UInt64) {sq:Int} (h0:0≤sq) (h1:sq≤31):sigU seed 1 sq m=some (sig1 seed sq.toNat m):=by
 unfold sigU
 rw [if_pos ⟨rfl,h0,by omega⟩]
theorem SlB.grown {w w':World} {A:Option Addr} {n c X:Nat} {l:List UInt8} {ac sq:Int} {A1 A2:Option Addr} {n1 c1 n2 c2:Nat} {t:TypeId} (h:SlB w A n c l) (hg:w.grownBy w' (some X)) (hb:Blk w X t (stA ac sq A1 n1 c1 A2 n2 c2)):SlB w' A n c l:=by
 refine ⟨h.len,h.le,h.cap,?_⟩
 by_cases hx:bcs l=[]
 ·exact .inl hx
 ·obtain ⟨b, o, e, hr, hlt⟩ := h.rd.at hx
  refine .inr ⟨b,o,e,rangeAt_keep hr (hg.block b hlt ?_)⟩
  intro e2
  injection e2 with e2
  subst e2
  cases l with
  | nil=>exact hx rfl
  | cons x r =>
   have h0:=hr 0 (bv x) rfl
   rw [Nat.add_zero,hb.cell o] at h0
   match o,h0 with
   | 0,h0=>simp [bv] at h0
   | 1,h0=>simp [bv] at h0
   | 2,h0=>simp [bv] at h0
   | 3,h0=>simp [bv] at h0
   | o+4,h0=>simp at h0
def SgOut (w:World) (seed:UInt64) (ac sq:Int) (L:List OpR) (e:Ending) (w':World):Prop :=
 Ext w w'∧((vTx ac sq L=false∧e=.returned (.tuple #[.agg zero4,.int .i64 1])) ∨ (vTx ac sq L=true∧∃ T:TxR,e=.returned (.tuple #[.agg (tA T),.int .i64 0])∧T.ok w'∧T.v=(ac,sq,L.map OpR.v,sig1 seed sq.toNat (txNm ac sq L))))
end Go.Proofs.YtohmmcahpakokaaGreat
namespace Go.Proofs.YtohmmcahpakokaaGreat
open Go.RowKit
theorem bv_has (g:Int) {k:Nat} (hk:k≤9):(BitVec.ofInt 64 g).getLsbD k=hasM g k:=by
 have h1:(BitVec.ofInt 64 g).toNat=(g % 2 ^ 64).toNat:=by simp [BitVec.toNat_ofInt]
 show (BitVec.ofInt 64 g).toNat.testBit k=_
 rw [Nat.testBit_eq_decide_div_mod_eq,h1]
 unfold hasM
 have h2:(0:Int)≤g % 2 ^ 64:=Int.emod_nonneg _ (by decide)
 apply decide_eq_decide.2
 obtain rfl | rfl | rfl | rfl | rfl | rfl | rfl | rfl | rfl | rfl:k=0 ∨ k=1 ∨ k=2 ∨ k=3 ∨ k=4 ∨ k=5 ∨ k=6 ∨ k=7 ∨ k=8 ∨ k=9:=by omega
 all_goals omega
theorem bv_pow {k:Nat} (hk:k≤9):BitVec.ofInt 64 ((2:Int) ^ k)=BitVec.twoPow 64 k:=by
 obtain rfl | rfl | rfl | rfl | rfl | rfl | rfl | rfl | rfl | rfl:k=0 ∨ k=1 ∨ k=2 ∨ k=3 ∨ k=4 ∨ k=5 ∨ k=6 ∨ k=7 ∨ k=8 ∨ k=9:=by omega
 all_goals rfl
theorem bits_and_pow (g:Int) {k:Nat} (hk:k≤9):bits .and .i64 g (2 ^ k)=if hasM g k=true then 2 ^ k else 0:=by
 show IntKind.i64.wrap ((BitVec.ofInt 64 g &&& BitVec.ofInt 64 (2 ^ k)).toNat:Int)=_
 rw [bv_pow hk,BitVec.and_twoPow,bv_has g hk]
 by_cases h:hasM g k=true
 ·rw [if_pos h, if_pos h]
  obtain rfl | rfl | rfl | rfl | rfl | rfl | rfl | rfl | rfl | rfl:k=0 ∨ k=1 ∨ k=2 ∨ k=3 ∨ k=4 ∨ k=5 ∨ k=6 ∨ k=7 ∨ k=8 ∨ k=9:=by omega
  all_goals rfl
 ·rw [if_neg h,if_neg h];rfl
theorem wfI_addM {G:Int} (h:wfI G) {k:Nat} (hk:k≤9):wfI (addM G k):=by
 unfold addM hasM
 by_cases h1:G / 2 ^ k % 2=1
 ·rw [if_pos (by simpa using h1)];exact h
 ·rw [if_neg (by simpa using h1)]
  rw [wfI_in] at *
  unfold in64 at *
  obtain rfl | rfl | rfl | rfl | rfl | rfl | rfl | rfl | rfl | rfl:k=0 ∨ k=1 ∨ k=2 ∨ k=3 ∨ k=4 ∨ k=5 ∨ k=6 ∨ k=7 ∨ k=8 ∨ k=9:=by omega
  all_goals omega
theorem bits_or_pow {g:Int} (hg:wfI g) {k:Nat} (hk:k≤9):bits .or .i64 g (2 ^ k)=addM g k:=by
 have hw:∀ z:Int,wfI z→IntKind.i64.wrap (((BitVec.ofInt 64 z).toNat:Nat):Int)=z:=by
  intro z hz
  have h1:(((BitVec.ofInt 64 z).toNat:Nat):Int)=z % 2 ^ 64:=by
   rw [BitVec.toNat_ofInt]
   exact Int.toNat_of_nonneg (Int.emod_nonneg _ (by decide))
  rw [h1]
  rw [wfI_in] at hz
  unfold in64 at hz
  rw [IntKind.wrap_i64]
  omega
 show IntKind.i64.wrap ((BitVec.ofInt 64 g ||| BitVec.ofInt 64 (2 ^ k)).toNat:Int)=_
 have h0:=bv_has g hk
 unfold addM
 by_cases h:hasM g k=true
 ·rw [if_pos h]
  have:BitVec.ofInt 64 g ||| BitVec.ofInt 64 (2 ^ k)=BitVec.ofInt 64 g:=by
   rw [bv_pow hk]
   apply BitVec.eq_of_getLsbD_eq
   intro i hi
   rw [BitVec.getLsbD_or,BitVec.getLsbD_twoPow]
   by_cases e:k=i
   ·subst e;rw [h0,h];rfl
   ·simp [e]
  rw [this];exact hw g hg
 ·rw [if_neg h]
  have h2:hasM g k=false:=by simpa using h
  have:BitVec.ofInt 64 g ||| BitVec.ofInt 64 (2 ^ k)=BitVec.ofInt 64 (g+2 ^ k):=by
   rw [BitVec.ofInt_add]
   refine (BitVec.add_eq_or_of_and_eq_zero _ _ ?_).symm
   rw [bv_pow hk,BitVec.and_twoPow,h0,h2];rfl
  rw [this]
  refine hw _ ?_
  have:=wfI_addM hg hk
  unfold addM at this;rwa [if_neg h] at this
theorem run_cpy {P:Program} {t e:TypeId} {z:Value} {size bytes:Nat} (E:Elem P t e z size bytes) (w:World) (ty:TypeId) (g o dLen dCap:Nat) (a:Addr) (sLen sCap:Nat) (cs:List Value)
  (hn:cs.length=Nat.min sLen dLen * size)
  (hsrc:∀ j v,cs[j]?=some v→w.cell? (a.add j)=some v) (hc:∀ j,j < cs.length→(w.cell? ⟨g,o+j,none⟩).isSome=true) (hf:∀ j,j < cs.length→w.frozen? ⟨g,o+j,none⟩=false) (h1:∀ v ∈ cs,v.oneCell'=true) :
  (Builtin.copy_ #[t,t] ty #[.slice (some ⟨g,o,none⟩) dLen dCap,.slice (some a) sLen sCap]).run P w=.ok (goInt (Nat.min sLen dLen)) (w.setCells g o cs):=by
 obtain ⟨i,hi,_,hs,_⟩:=E.get
 have hl:=run_loadCells_list (P:=P) w a cs hsrc
 have hst:=run_storeCells_cells (P:=P) g o cs 0 w (by simpa using hc) (by simpa using hf) h1
 simp [Builtin.copy_,run_underlying E.ut,Builtin.lenOf,Builtin.firstCells,sizeOf,typeInfo,hi,hs,← hn,hl,hst]
section
variable {P:Program} {t e:TypeId} {z:Value} {size bytes:Nat} {ops:Array Oper} {rest:List Oper} {o:Oper} {a:Act} {w:World} {K:Act→World→Prop} {Q:Exit→Act→World→Prop} {X:Prop}
theorem wp_cpy (E:Elem P t e z size bytes) (d s:Operand)
  (ho:o.op=.call { callee:=.builtin .copy,args:=#[d,s],argTypes:=#[t,t] })
  (base g off n c:Nat) (xs:List Value) (hown:w.ownsRow base e size (.slice (some ⟨g,0,none⟩) n c) n xs)
  (ad:Addr) (dLen dCap sLen sCap:Nat) (hd:a.eval d=.slice (some ⟨g,off,none⟩) dLen dCap) (hs:a.eval s=.slice (some ad) sLen sCap)
  (cs:List Value) (hn:cs.length=Nat.min sLen dLen * size)
  (hsrc:∀ j v,cs[j]?=some v→w.cell? (ad.add j)=some v)
  (hfit:off+cs.length≤n * size) (h1:∀ v ∈ cs,v.oneCell'=true)
  (h:∀ w',w'.ownsRow base e size (.slice (some ⟨g,0,none⟩) n c) n (splice xs off cs)→w.grownBy w' (some g)→K (a.put o.dst (goInt (Nat.min sLen dLen))) w'):o.wp P a w K Q:=by
 have hxl:=hown.1
 have hrun:=run_cpy E w o.type g off dLen dCap ad sLen sCap cs hn hsrc (fun j hj=>by rw [hown.cellAt (off+j) (by omega),List.getElem?_eq_getElem (by omega)];rfl) (fun j hj=>hown.frozenAt _) h1
 obtain ⟨k1,k2⟩:=own_splice cs off w xs (by omega) hown
 unfold Oper.wp execOp
 simp only [ho,resolve,invoke,builtin,Sem.run_bind,Sem.run_pure,Result.andThen_ok,List.map_toArray,List.map_cons,List.map_nil,hd,hs,hrun]
 exact h _ k1 k2
theorem step_cpy (E:Elem P t e z size bytes) (hgd:o.guard=none) (d s:Operand)
  (ho:o.op=.call { callee:=.builtin .copy,args:=#[d,s],argTypes:=#[t,t] })
  (base g off n c:Nat) (xs:List Value) (hown:w.ownsRow base e size (.slice (some ⟨g,0,none⟩) n c) n xs)
  (ad:Addr) (dLen dCap sLen sCap:Nat) (hd:a.eval d=.slice (some ⟨g,off,none⟩) dLen dCap) (hs:a.eval s=.slice (some ad) sLen sCap)
  (cs:List Value) (hn:cs.length=Nat.min sLen dLen * size)
  (hsrc:∀ j v,cs[j]?=some v→w.cell? (ad.add j)=some v)
  (hfit:off+cs.length≤n * size) (h1:∀ v ∈ cs,v.oneCell'=true)
  (h:∀ w',w'.ownsRow base e size (.slice (some ⟨g,0,none⟩) n c) n (splice xs off cs)→w.grownBy w' (some g)→K (a.put o.dst (goInt (Nat.min sLen dLen))) w'):if Region.wanted o (yielded ops a.tmps)=true then Oper.wp P o a w K Q else X:=by
 have hw:Region.wanted o (yielded ops a.tmps)=true:=by simp [Region.wanted,hgd]
 rw [if_pos hw]
 exact wp_cpy E d s ho base g off n c xs hown ad dLen dCap sLen sCap hd hs cs hn hsrc hfit h1 h
theorem wpList_cpy (E:Elem P t e z size bytes) (hgd:o.guard=none) (d s:Operand)
  (ho:o.op=.call { callee:=.builtin .copy,args:=#[d,s],argTypes:=#[t,t] })
  (base g off n c:Nat) (xs:List Value) (hown:w.ownsRow base e size (.slice (some ⟨g,0,none⟩) n c) n xs)
  (ad:Addr) (dLen dCap sLen sCap:Nat) (hd:a.eval d=.slice (some ⟨g,off,none⟩) dLen dCap) (hs:a.eval s=.slice (some ad) sLen sCap)
  (cs:List Value) (hn:cs.length=Nat.min sLen dLen * size)
  (hsrc:∀ j v,cs[j]?=some v→w.cell? (ad.add j)=some v)
  (hfit:off+cs.length≤n * size) (h1:∀ v ∈ cs,v.oneCell'=true)
  (h:∀ w',w'.ownsRow base e size (.slice (some ⟨g,0,none⟩) n c) n (splice xs off cs)→w.grownBy w' (some g)→wpList P ops Q rest (a.put o.dst (goInt (Nat.min sLen dLen))) w'):wpList P ops Q (o :: rest) a w :=
 wpList_plain hgd fun K hK=>wp_cpy E d s ho base g off n c xs hown ad dLen dCap sLen sCap hd hs cs hn hsrc hfit h1 (fun w' h2 h3=>hK _ _ (h w' h2 h3))
end
theorem run_clr {P:Program} {t e:TypeId} {z:Value} {size bytes:Nat} (E:Elem P t e z size bytes) (hz1:∀ v ∈ z.cells,v.oneCell'=true) (w:World) (ty:TypeId) (g o n c:Nat) (hn:0 < n) (hc:∀ j,j < n * size→(w.cell? ⟨g,o+j,none⟩).isSome=true) (hf:∀ j,j < n * size→w.frozen? ⟨g,o+j,none⟩=false) :
  (Builtin.clear_ #[t] ty #[.slice (some ⟨g,o,none⟩) n c]).run P w=.ok (.tuple #[]) (w.setCells g o (Builtin.zeroCells z.cells n).toList):=by
 obtain ⟨i,hi,hz,hsz,hby⟩:=E.get
 have hlen:(Builtin.zeroCells z.cells n).toList.length=n * size:=by rw [Array.length_toList,size_zeroCells,E.zs]
 have h1:∀ v ∈ (Builtin.zeroCells z.cells n).toList,v.oneCell'=true:=by
  intro v hv
  simp only [Builtin.zeroCells,Array.toList_map,List.mem_map] at hv
  obtain ⟨q,_,rfl⟩:=hv
  have hp:0 < z.cells.size:=by rw [E.zs];exact E.pos
  have hq:q % z.cells.size < z.cells.size:=Nat.mod_lt _ hp
  rw [getElem!_pos z.cells _ hq]
  exact hz1 _ (Array.getElem_mem hq)
 have hst:=run_storeCells_cells (P:=P) g o (Builtin.zeroCells z.cells n).toList 0 w (fun j hj=>by rw [hlen] at hj;simpa using hc j hj) (fun j hj=>by rw [hlen] at hj;simpa using hf j hj) h1
 simp only [Nat.add_zero] at hst
 obtain ⟨m,rfl⟩:∃ m,n=m+1:=⟨n - 1,by omega⟩
 simp [Builtin.clear_,run_underlying E.ut,zeroValue,typeInfo,hi,hz,hst]
theorem own_more {w:World} {base:Nat} {e:TypeId} {size g n c:Nat} {xs:List Value} (h:w.ownsRow base e size (.slice (some ⟨g,0,none⟩) n c) n xs) {m:Nat} (hm:n≤m) (hc:m≤c):∃ js,js.length=(m - n) * size∧w.ownsRow base e size (.slice (some ⟨g,0,none⟩) m c) m (xs ++ js):=by
 have hl:=h.1
 rcases h.2 with ⟨hv,_⟩ | ⟨g',cap,cur,hv,hb,hh,hn,hmx,hs,ht⟩
 ·cases hv
 ·injection hv with h1 h2 h3
  injection h1 with h1
  injection h1 with h1 h4
  subst h1;subst h3
  have e1:n * size+(m - n) * size=m * size:=by rw [← Nat.add_mul];congr 1;omega
  have e2:m * size≤c * size:=Nat.mul_le_mul_right _ hc
  refine ⟨(cur.toList.drop (n * size)).take ((m - n) * size),by simp [hs];omega,by simp [hs,hl];omega,.inr ⟨g,c,cur,rfl,hb,hh,hc,hmx,hs,?_⟩⟩
  rw [← e1,List.take_add,ht]
theorem own_block {w:World} {base:Nat} {e:TypeId} {size g n c:Nat} {xs:List Value} {cur:Array Value} (hb:base≤g) (hh:Blk w g e cur) (hn:n≤c) (hc:c≤maxLen) (hs:cur.size=c * size) (hx:xs.length=n * size) (ht:cur.toList.take (n * size)=xs):w.ownsRow base e size (.slice (some ⟨g,0,none⟩) n c) n xs :=
 ⟨hx,.inr ⟨g,c,cur,rfl,hb,hh,hn,hc,hs,ht⟩⟩
theorem own_blk {w:World} {base:Nat} {e:TypeId} {size g n c:Nat} {xs:List Value} (h:w.ownsRow base e size (.slice (some ⟨g,0,none⟩) n c) n xs):∃ cur,Blk w g e cur∧cur.size=c * size:=by
 rcases h.2 with ⟨hv,_⟩ | ⟨g',cap,cur,hv,hb,hh,hn,hmx,hs,ht⟩
 ·cases hv
 ·injection hv with h1 h2 h3
  injection h1 with h1
  injection h1 with h1 h4
  subst h1;subst h3
  exact ⟨cur,hh,hs⟩
theorem shape_blk {w:World} {g:Nat} {t:TypeId} {cs:Array Value} (h:Blk w g t cs):w.shape? g=some (t,cs.size):=by
 unfold World.shape?;rw [h]
theorem run_ovl {P:Program} {f:FuncId} {fn:Func} {t e tR:TypeId} {z:Value} {size bytes:Nat} (E:Elem P t e z size bytes) (hf:P.funcs[f]?=some fn) (hname:(fn.name == "runtime.NumGoroutine")=false) (hb:fn.body.isNone=true) (hn:Extern.findNext fn=none) (he:Extern.find fn=some (Extern.SlicesOverlaps.overlaps #[t,t] #[tR]))
  {w:World} {g1 g2:Nat} {t1 t2:TypeId} {c1 c2:Array Value} (h1:Blk w g1 t1 c1) (h2:Blk w g2 t2 c2) (hne:g1 ≠ g2) (hc:c2.size ≠ 0) (o1 o2 la ca lb cb:Nat) :
  (callFunc f #[.slice (some ⟨g1,o1,none⟩) la ca,.slice (some ⟨g2,o2,none⟩) lb cb]).run P w=.ok (.value (.bool false)) w:=by
 obtain ⟨i,hi,_,hs,_⟩:=E.get
 rw [run_callFunc_extern hf hname hb hn he,Lib.run_overlaps_apart w t tR e E.ut size (fun w=>by simp [sizeOf,typeInfo,hi,hs]) ⟨g1,o1,none⟩ ⟨g2,o2,none⟩ la ca lb cb hne t1 t2 c1.size c2.size (shape_blk h1) (shape_blk h2) hc (h1.frozen _) (h1.frozen _)]
 rfl
section
variable {α:Type} [RowT α]
theorem ins_cells (L:List α) (x:α) {i:Nat} (hi:i≤L.length) (js:List Value) (hj:js.length=RowT.sz α) :
  splice (splice (gcs L ++ js) ((i+1) * RowT.sz α) (gcs (L.drop i))) (i * RowT.sz α) (RowT.enc x)=gcs (L.take i ++ x :: L.drop i):=by
 have hl:=gcs_length L
 have ht:((gcs L).take (i * RowT.sz α))=gcs (L.take i):=gcs_take L i
 have htl:(gcs (L.take i)).length=i * RowT.sz α:=by rw [gcs_length,List.length_take,Nat.min_eq_left hi]
 have hdl:(gcs (L.drop i)).length=(L.length - i) * RowT.sz α:=by rw [gcs_length,List.length_drop]
 have e1:i * RowT.sz α+RowT.sz α=(i+1) * RowT.sz α:=by rw [Nat.add_mul,Nat.one_mul]
 have e2:i * RowT.sz α+(L.length - i) * RowT.sz α=L.length * RowT.sz α:=by rw [← Nat.add_mul];congr 1;omega
 have hle:i * RowT.sz α≤(gcs L).length:=by rw [hl];omega
 unfold splice
 rw [RowT.len,gcs_append,gcs_cons,hdl]
 have a1:((gcs L ++ js).take ((i+1) * RowT.sz α) ++ (gcs (L.drop i) ++ (gcs L ++ js).drop ((i+1) * RowT.sz α+(L.length - i) * RowT.sz α))).take (i * RowT.sz α)=gcs (L.take i):=by
  rw [List.take_append_of_le_length (by rw [List.length_take,List.length_append,hl,hj];omega),List.take_take,Nat.min_eq_left (by omega),List.take_append_of_le_length hle,ht]
 have a2:((gcs L ++ js).take ((i+1) * RowT.sz α) ++ (gcs (L.drop i) ++ (gcs L ++ js).drop ((i+1) * RowT.sz α+(L.length - i) * RowT.sz α))).drop (i * RowT.sz α+RowT.sz α)=gcs (L.drop i):=by
  have h0:(gcs L ++ js).drop ((i+1) * RowT.sz α+(L.length - i) * RowT.sz α)=[]:=List.drop_of_length_le (by rw [List.length_append,hl,hj];omega)
  rw [h0,List.append_nil,e1,List.drop_append,List.drop_of_length_le (by rw [List.length_take];omega),List.length_take,List.length_append,hl,hj,Nat.min_eq_left (by omega),Nat.sub_self,List.drop_zero,List.nil_append]
 rw [a1,a2]
theorem ins_cells2 (L:List α) (x:α) {i:Nat} (hi:i≤L.length) (js:List Value) (hj:js.length=(L.length+1 - i) * RowT.sz α) :
  splice (splice (gcs (L.take i) ++ js) (i * RowT.sz α) (RowT.enc x)) ((i+1) * RowT.sz α) (gcs (L.drop i))=gcs (L.take i ++ x :: L.drop i):=by
 have htl:(gcs (L.take i)).length=i * RowT.sz α:=by rw [gcs_length,List.length_take,Nat.min_eq_left hi]
 have hdl:(gcs (L.drop i)).length=(L.length - i) * RowT.sz α:=by rw [gcs_length,List.length_drop]
 have e1:i * RowT.sz α+RowT.sz α=(i+1) * RowT.sz α:=by rw [Nat.add_mul,Nat.one_mul]
 have e2:RowT.sz α+(L.length - i) * RowT.sz α=(L.length+1 - i) * RowT.sz α:=by rw [show L.length+1 - i=1+(L.length - i) by omega,Nat.add_mul,Nat.one_mul]
 unfold splice
 rw [RowT.len,gcs_append,gcs_cons,hdl]
 have a0:(gcs (L.take i) ++ js).take (i * RowT.sz α)=gcs (L.take i):=by rw [List.take_append_of_le_length (by omega),List.take_of_length_le (by omega)]
 rw [a0]
 have a1:(gcs (L.take i) ++ (RowT.enc x ++ (gcs (L.take i) ++ js).drop (i * RowT.sz α+RowT.sz α))).take ((i+1) * RowT.sz α)=gcs (L.take i) ++ RowT.enc x:=by
  rw [← List.append_assoc,List.take_append_of_le_length (by rw [List.length_append,htl,RowT.len];omega),List.take_of_length_le (by rw [List.length_append,htl,RowT.len];omega)]
 have a2:(gcs (L.take i) ++ (RowT.enc x ++ (gcs (L.take i) ++ js).drop (i * RowT.sz α+RowT.sz α))).drop ((i+1) * RowT.sz α+(L.length - i) * RowT.sz α)=[]:=by
  apply List.drop_of_length_le
  rw [List.length_append,List.length_append,List.length_drop,List.length_append,htl,RowT.len,hj];omega
 rw [a1,a2,List.append_nil,List.append_assoc]
theorem del_cells (L:List α) {i:Nat} (hi:i < L.length) :
  (splice (gcs L) (i * RowT.sz α) (gcs (L.drop (i+1)))).take ((L.length - 1) * RowT.sz α)=gcs (L.take i ++ L.drop (i+1)):=by
 have ht:((gcs L).take (i * RowT.sz α))=gcs (L.take i):=gcs_take L i
 have htl:(gcs (L.take i)).length=i * RowT.sz α:=by rw [gcs_length,List.length_take,Nat.min_eq_left (by omega)]
 have hdl:(gcs (L.drop (i+1))).length=(L.length - (i+1)) * RowT.sz α:=by rw [gcs_length,List.length_drop]
 have e2:i * RowT.sz α+(L.length - (i+1)) * RowT.sz α=(L.length - 1) * RowT.sz α:=by rw [← Nat.add_mul];congr 1;omega
 unfold splice
 rw [ht,gcs_append,← List.append_assoc,List.take_append_of_le_length (by rw [List.length_append,htl,hdl];omega),List.take_of_length_le (by rw [List.length_append,htl,hdl];omega)]
end
end Go.Proofs.YtohmmcahpakokaaGreat
