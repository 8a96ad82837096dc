/- state.Get, Applied, Lock. -/
import Derived.Test.YtohmmcahpakokaaGreatC26
set_option maxRecDepth 100000
set_option maxHeartbeats 8000000
set_option linter.unusedSectionVars false
set_option linter.unusedVariables false
set_option linter.unusedSimpArgs false
namespace Go.Proofs.YtohmmcahpakokaaGreat
open Go.RowKit
attribute [local go_sem ↓] Go.wp_at_zero Go.wp_at_succ
theorem get_cell {w:World} {A:Option Addr} {n c:Nat} {C:List DeR} (h:SlG w A n c C) {k:Nat} (hk:k < n):∃ b o,A=some ⟨b,o,none⟩∧w.cell? ⟨b,o+k * 11+10,none⟩=some (.int .i64 (nthG C k).a):=by
 obtain ⟨b,o,rfl,hr,-⟩:=h.at (by omega)
 have h1:w.rangeAt b (o+k * 11) (RowT.enc (nthG C k)):=el_at hr (by rw [h.len];exact hk)
 exact ⟨b,o,rfl,h1 10 _ rfl⟩
theorem stGet_any (s:StR) (c:CeR) (w:World) (h:s.ok w) (hc:ceW c):Calls Tryz.prog 67 #[.agg (ssA s),.agg (ceA c)] w fun e w'=>e=.returned (.int .i64 (getC s.C c))∧Ext w w':=by
 obtain ⟨W,hW⟩:∃ W,((w.alloc (.cells (ssA s) 44)).alloc (.cells (ceA c) 32))=W:=⟨_,rfl⟩
 have HB:=zh (show Blk W w.heap.size 44 (ssA s) from by rw [← hW];exact (Blk.new w 44 (ssA s)).alloc _)
 have HC:=zh (show Blk W (w.heap.size+1) 32 (ceA c) from by rw [← hW];exact Blk.newAt _ _ _ _ (by simp))
 have HE:=zh (show Ext w W from by rw [← hW];exact ((Ext.refl w).alloc' _).alloc' _)
 have q0:=HB.out.cell 0
 have q1:=HB.out.cell 1
 have q2:=HB.out.cell 2
 have q3:=HB.out.cell 3
 have q4:=HB.out.cell 4
 have r1:W.rangeAt (w.heap.size+1) 0 (RowT.enc c):=rangeAt_of_blk HC.out
 have HS:=zh h
 have hl1:=h.s1.len
 have hle:=h.s1.le
 have hcap:=h.s1.cap
 have HCW:=zh hc
 obtain ⟨v1,hv1⟩:∃ v,Value.agg (ceA c)=v:=⟨_,rfl⟩
 have HV1:=zh hv1
 have HL:=zh hl1
 rcases ix_cases (fun x:DeR=>decide (x.c=c)) s.C with hno | ⟨k,hk,h1,h2⟩
 ·have HF := zh (find_any s c W (h.ext HE.out) hc (-1) (.inl ⟨rfl, hno⟩))
  have HG:=zh (getC_of (fd_none hno))
  rw [hv1] at HF
  clear hno h hc hv1 hl1
  go_enter Tryz.func67,Tryz.ntmps67
  go_wp2_with (first | (with_reducible refine wpList_loadG ceP rfl (.tmp 3) rfl (w.heap.size+1) 0 rfl c v1 HV1.out r1 ?_) | fail "A")
  refine HF.out.mono ?_
  rintro e w5 ⟨rfl,he5⟩
  have HX:=zh (HE.out.trans he5)
  clear hW
  clear he5 r1 q0 q1 q2 q3 q4
  go_wp2_with fail
  go_ret
  exact ⟨by rw [HG.out];rfl,HX.out⟩
 ·have HF := zh (find_any s c W (h.ext HE.out) hc (k : Int) (.inr ⟨k, rfl, hk, h1, h2⟩))
  have HG:=zh (getC_of (fd_some hk h1 h2))
  have hk':k < s.n1:=by omega
  rw [hv1] at HF
  clear h1 h2 h hc hv1 hl1 hk
  go_enter Tryz.func67,Tryz.ntmps67
  go_wp2_with (first | (with_reducible refine wpList_loadG ceP rfl (.tmp 3) rfl (w.heap.size+1) 0 rfl c v1 HV1.out r1 ?_) | fail "A")
  refine HF.out.mono ?_
  rintro e w5 ⟨rfl,he5⟩
  have HX:=zh (HE.out.trans he5)
  clear hW
  have p0:w5.cell? ⟨w.heap.size,0,none⟩=some (.slice s.A1 s.n1 s.c1):=(HB.out.ext he5).cell 0
  obtain ⟨b,o,hA,hcell⟩:=get_cell (HS.out.ext HX.out).s1 hk'
  rw [hA] at p0
  have i0:(0:Int)≤(k:Int):=by omega
  have i1:(k:Int) < (s.n1:Int):=by omega
  clear he5 r1 q0 q1 q2 q3 q4 hA
  go_wp2_with fail
  go_ret
  exact ⟨by rw [HG.out];rfl,HX.out⟩
theorem mem_ix {L:List UInt64} {x:UInt64}:(∃ k,k < L.length∧nthG L k=x) ↔ x ∈ L:=by
 constructor
 ·rintro ⟨k,hk,rfl⟩;exact nthG_mem hk
 ·intro h
  obtain ⟨k,hk,rfl⟩:=List.getElem_of_mem h
  exact ⟨k,hk,(nthG_eq hk).symm⟩
def IdxOut (L:List UInt64) (x:UInt64) (w:World) (e:Ending) (w':World):Prop:=∃ r:Int,e=.returned (.int .i64 r)∧(decide (r ≥ 0)=decide (x ∈ L))∧Ext w w'
theorem idxNm_any (A:Option Addr) (n c:Nat) (L:List UInt64) (x:UInt64) (w:World) (h:SlG w A n c L):Calls Tryz.prog 181 #[.slice A n c,.agg (nmc x)] w (IdxOut L x w):=by
 have HS:=zh (h.ext ((Ext.refl w).alloc' (.cells (nmc x) 30)))
 have HB:=zh (Blk.new w 30 (nmc x))
 have HE:=zh ((Ext.refl w).alloc' (.cells (nmc x) 30))
 have hle:=h.le
 have hcap:=h.cap
 have HL:=zh h.len
 obtain ⟨W,hW⟩:∃ W,w.alloc (.cells (nmc x) 30)=W:=⟨_,rfl⟩
 rw [hW] at HS HB HE
 clear h
 go_enter Tryz.func181,Tryz.ntmps181
 go_wp2_with fail
 clear hW
 go_loopw [8] (fun vi wr=>∃ k:Nat,vi=.int .i64 (k:Int)∧k≤n∧Hid (∀ j,j < k→nthG L j ≠ x)∧Hid (Ext W wr)) (fun i _=>n - (intOf i).toNat)
 case atStart=>exact ⟨0,rfl,Nat.zero_le _,zh (fun j hj=>absurd hj (Nat.not_lt_zero _)),zh (Ext.refl W)⟩
 case round =>
  obtain ⟨k,rfl,hk,HN,HX⟩:=hrel
  by_cases hlt:k < n
  ·have i0 : (0 : Int) ≤ (k : Int) := by omega
   have i1:(k:Int) < (n:Int):=by omega
   have HS2:=zh (HS.out.ext HX.out)
   obtain ⟨b,o,rfl,hrow,-⟩:=HS2.out.at (by omega)
   have hr:wr.rangeAt b (o+k * 8) (RowT.enc (nthG L k)):=el_at hrow (by rw [HL.out];exact hlt)
   have HR:=zh hr
   have HB2:=zh (HB.out.ext HX.out)
   by_cases he:x=nthG L k
   ·have HM := zh (mem_ix.1 ⟨k, by rw [HL.out]; exact hlt, he.symm⟩)
    obtain ⟨b,hb⟩:∃ b,decide (x=nthG L k)=b:=⟨_,rfl⟩
    have HD:=zh hb
    obtain rfl:true=b:=by rw [← hb,decide_eq_true he]
    clear hb he hr hrow
    go_wp2_with fail
    refine wp_region_held_drew (S:=fun V=>Blk V w.heap.size 30 (nmc x)∧V.rangeAt b (o+k * 8) (RowT.enc (nthG L k))) (by kernel_rfl) (⟨HB2.out.drew,HR.out⟩) (fun hHeld=>?_)
    refine zu 0 (v:=.agg (nmc x)) hHeld ?_ (hy:=by exact yields_loadG nmP (by rfl) (.tmp 3) rfl w.heap.size 0 rfl x _ rfl (fun V h=>nm_range h.1))
    refine zzr [1,2,3] ?_
    refine zu 4 (v:=.agg (nmc (nthG L k))) hHeld ?_ (hy:=by exact yields_loadG nmP (by rfl) (.tmp 14) rfl b (o+k * 8) rfl (nthG L k) _ rfl (fun V h=>h.2))
    refine zu 5 (v:=.bool true) hHeld ?_ (hy:=by exact yields_cmp (vx:=.agg (nmc x)) (vy:=.agg (nmc (nthG L k))) (by rfl) (.tmp 11) (.tmp 15) rfl rfl rfl (fun w=>guard_Nm _ _ _ _ _ w) (fun w=>by rw [run_eqN,HD.out]))
    refine wpAnyH_done (by kernel_rfl) ?_ _
    clear hHeld
    go_wp2_with fail
    go_ret
    exact ⟨_,rfl,by rw [decide_eq_true HM.out,decide_eq_true (by omega)],HE.out.trans (HX.out.trans ((Ext.refl wr).drew'))⟩
   ·have HN2:=zh (show ∀ j,j < k+1→nthG L j ≠ x from fun j hj e=>by
     by_cases e2:j=k
     ·rw [e2] at e;exact he e.symm
     ·exact HN.out j (by omega) e)
    obtain ⟨b,hb⟩:∃ b,decide (x=nthG L k)=b:=⟨_,rfl⟩
    have HD:=zh hb
    obtain rfl:false=b:=by rw [← hb,decide_eq_false he]
    clear hb he hr hrow
    go_wp2_with fail
    refine wp_region_held_drew (S:=fun V=>Blk V w.heap.size 30 (nmc x)∧V.rangeAt b (o+k * 8) (RowT.enc (nthG L k))) (by kernel_rfl) (⟨HB2.out.drew,HR.out⟩) (fun hHeld=>?_)
    refine zu 0 (v:=.agg (nmc x)) hHeld ?_ (hy:=by exact yields_loadG nmP (by rfl) (.tmp 3) rfl w.heap.size 0 rfl x _ rfl (fun V h=>nm_range h.1))
    refine zzr [1,2,3] ?_
    refine zu 4 (v:=.agg (nmc (nthG L k))) hHeld ?_ (hy:=by exact yields_loadG nmP (by rfl) (.tmp 14) rfl b (o+k * 8) rfl (nthG L k) _ rfl (fun V h=>h.2))
    refine zu 5 (v:=.bool false) hHeld ?_ (hy:=by exact yields_cmp (vx:=.agg (nmc x)) (vy:=.agg (nmc (nthG L k))) (by rfl) (.tmp 11) (.tmp 15) rfl rfl rfl (fun w=>guard_Nm _ _ _ _ _ w) (fun w=>by rw [run_eqN,HD.out]))
    refine wpAnyH_done (by kernel_rfl) ?_ _
    clear hHeld
    have HX2:=zh (HX.out.trans ((Ext.refl wr).drew'))
    go_wp2_with fail
    go_roundw
    case rel=>exact ⟨k+1,by go_num,hlt,HN2,HX2⟩
    case measure=>simp [intOf];omega
  ·have i1 : ¬ (k : Int) < (n : Int) := by omega
   have HM:=zh (show ¬ x ∈ L from fun h=>by
    obtain ⟨j,hj,e⟩:=mem_ix.2 h
    exact HN.out j (by rw [HL.out] at hj;omega) e)
   go_wp2_with fail
   go_ret
   exact ⟨-1,rfl,by rw [decide_eq_false HM.out];rfl,HE.out.trans HX.out⟩
theorem hasNm_any (A:Option Addr) (n c:Nat) (L:List UInt64) (x:UInt64) (w:World) (h:SlG w A n c L):Calls Tryz.prog 123 #[.slice A n c,.agg (nmc x)] w fun e w'=>e=.returned (.bool (decide (x ∈ L)))∧Ext w w':=by
 have HE:=zh ((Ext.refl w).alloc' (.cells (nmc x) 30))
 have HS:=zh (h.ext HE.out)
 have r0:(w.alloc (.cells (nmc x) 30)).rangeAt w.heap.size 0 (RowT.enc x):=nm_range (Blk.new w 30 (nmc x))
 clear h
 go_enter Tryz.func123,Tryz.ntmps123
 go_wp2_with (first | (with_reducible refine wpList_loadG nmP rfl (.tmp 3) rfl w.heap.size 0 rfl x _ rfl r0 ?_) | fail "A")
 refine (idxNm_any A n c L x _ HS.out).mono ?_
 rintro e w5 ⟨r,rfl,hr,he5⟩
 have HR:=zh hr
 have HX:=zh (HE.out.trans he5)
 clear hr he5 r0
 go_wp2_with fail
 go_ret
 exact ⟨by rw [← HR.out];rfl,HX.out⟩
theorem stApplied_any (s:StR) (x:UInt64) (w:World) (h:s.ok w):Calls Tryz.prog 63 #[.agg (ssA s),.agg (nmc x)] w fun e w'=>e=.returned (.bool (decide (x ∈ s.P)))∧Ext w w':=by
 obtain ⟨W,hW⟩:∃ W,((w.alloc (.cells (ssA s) 44)).alloc (.cells (nmc x) 30))=W:=⟨_,rfl⟩
 have HB:=zh (show Blk W w.heap.size 44 (ssA s) from by rw [← hW];exact (Blk.new w 44 (ssA s)).alloc _)
 have HC:=zh (show Blk W (w.heap.size+1) 30 (nmc x) from by rw [← hW];exact Blk.newAt _ _ _ _ (by simp))
 have HE:=zh (show Ext w W from by rw [← hW];exact ((Ext.refl w).alloc' _).alloc' _)
 have q3:W.cell? ⟨w.heap.size,3,none⟩=some (.slice s.A4 s.n4 s.c4):=HB.out.cell 3
 have r1:W.rangeAt (w.heap.size+1) 0 (RowT.enc x):=nm_range HC.out
 have HS:=zh (h.ext HE.out).s4
 clear h
 go_enter Tryz.func63,Tryz.ntmps63
 go_wp2_with (first | (with_reducible refine wpList_loadG nmP rfl (.tmp 3) rfl (w.heap.size+1) 0 rfl x _ rfl r1 ?_) | fail "A")
 refine (hasNm_any s.A4 s.n4 s.c4 s.P x _ HS.out).mono ?_
 rintro e w5 ⟨rfl,he5⟩
 have HX:=zh (HE.out.trans he5)
 clear he5 q3 r1 hW
 go_wp2_with fail
 go_ret
 exact ⟨rfl,HX.out⟩
def lkO:Option LkR→LkR
 | none=>⟨0,0,0,0,0⟩
 | some l=>l
theorem fk_none {K:List LkR} {n:UInt64} (h:∀ k,k < K.length→decide ((nthG K k).nm=n)=false):fdK K n=none:=by
 unfold fdK
 rw [List.find?_eq_none]
 intro l hl
 obtain ⟨k,hk,rfl⟩:=List.getElem_of_mem hl
 rw [nthG_eq hk,h k hk];decide
theorem fk_some:∀ {K:List LkR} {n:UInt64} {k:Nat},k < K.length→decide ((nthG K k).nm=n)=true→(∀ j,j < k→decide ((nthG K j).nm=n)=false)→fdK K n=some (nthG K k)
 | [],n,k,hk,_,_=>by simp at hk
 | d :: r,n,0,_,h1,_=>by unfold fdK;rw [List.find?_cons,show decide (d.nm=n)=true from h1];rfl
 | d :: r,n,k+1,hk,h1,h2=>by
  have h0:=h2 0 (by omega)
  unfold fdK
  rw [List.find?_cons,show decide (d.nm=n)=false from h0]
  exact fk_some (K:=r) (by simpa using hk) h1 (fun j hj=>h2 (j+1) (by omega))
theorem lk_zero:lkA (⟨0,0,0,0,0⟩:LkR)=lk0:=by unfold lkA lk0;simp only [nb8_nil 0 (by omega),nb8_nil 1 (by omega),nb8_nil 2 (by omega),nb8_nil 3 (by omega),nb8_nil 4 (by omega),nb8_nil 5 (by omega),nb8_nil 6 (by omega),nb8_nil 7 (by omega)]
section
variable {α β:Type} [RowT α] [DecidableEq β] {V:α→β} {d dk:Array α} {k j:Nat}
theorem compO_take (hj:1≤j) (hn:j < d.size):compO ((d.toList.take (j+1)).map V)=if V d[j]! = V d[j - 1]! then compO ((d.toList.take j).map V) else compO ((d.toList.take j).map V) ++ [V d[j]!]:=by
 obtain ⟨i,rfl⟩:∃ i,j=i+1:=⟨j - 1,by omega⟩
 have e1:=take_nthG (L:=d.toList) (k:=i+1) (by simpa using hn)
 have e2:=take_nthG (L:=d.toList) (k:=i) (by simp;omega)
 rw [e1,e2,List.map_append,List.map_append,List.map_cons,List.map_nil,List.map_cons,List.map_nil,List.append_assoc,arr_nth,arr_nth]
 simp only [Nat.add_sub_cancel,List.cons_append,List.nil_append]
 exact compO_snoc _ _ _
structure Cm1 (V:α→β) (d:Array α) (k:Nat):Prop where
 pos:1≤k
 le:k≤d.size
 val:compO ((d.toList.take k).map V)=(d.toList.take k).map V
structure Cmp (V:α→β) (d dk:Array α) (k j:Nat):Prop where
 size:dk.size=d.size
 pos:1≤k
 kj:k < j
 jn:j≤d.size
 rest:∀ i,k≤i→dk[i]! = d[i]!
 val:(dk.toList.take k).map V=compO ((d.toList.take j).map V)
theorem Cm1.start (h:1≤d.size):Cm1 V d 1:=⟨Nat.le_refl _,h,by
 have e:=take_nthG (L:=d.toList) (k:=0) (by simp;omega)
 rw [e];rfl⟩
theorem Cm1.next (h:Cm1 V d k) (hk:k < d.size) (hv:V d[k]! ≠ V d[k - 1]!):Cm1 V d (k+1):=⟨by omega,hk,by
 rw [compO_take h.pos hk,if_neg hv,h.val,take_nthG (L:=d.toList) (k:=k) (by simpa using hk),List.map_append,arr_nth];rfl⟩
theorem Cm1.dup (h:Cm1 V d k) (hk:k < d.size) (hv:V d[k]! = V d[k - 1]!):Cmp V d d k (k+1):=⟨rfl,h.pos,by omega,hk,fun _ _=>rfl,by rw [compO_take h.pos hk,if_pos hv,h.val]⟩
theorem Cm1.all (h:Cm1 V d k) (hk:d.size≤k):d.toList.map V=compO (d.toList.map V):=by
 have:=h.val
 rw [List.take_of_length_le (by simpa using hk)] at this
 exact this.symm
theorem Cmp.dup (h:Cmp V d dk k j) (hj:j < d.size) (hv:V d[j]! = V d[j - 1]!):Cmp V d dk k (j+1):=⟨h.size,h.pos,by have:=h.kj;omega,hj,h.rest,by rw [compO_take (by have:=h.kj;omega) hj,if_pos hv];exact h.val⟩
theorem Cmp.keep (h:Cmp V d dk k j) (hj:j < d.size) (hv:V d[j]! ≠ V d[j - 1]!):Cmp V d (dk.setIfInBounds k d[j]!) (k+1) (j+1):=by
 have hkj:=h.kj
 have hk:k < dk.size:=by rw [h.size];omega
 refine ⟨by rw [Array.size_setIfInBounds];exact h.size,by omega,by omega,hj,fun i hi=>?_,?_⟩
 ·rw [← h.rest i (by omega)]
  by_cases hs:i < dk.size
  ·rw [getElem!_pos _ i (by simpa using hs),getElem!_pos dk i hs,Array.getElem_setIfInBounds (by simpa using hs),if_neg (by omega)]
  ·rw [getElem!_neg _ i (by simpa using hs),getElem!_neg dk i hs]
 ·rw [compO_take (by omega) hj, if_neg hv, ← h.val, Array.toList_setIfInBounds, take_nthG (k := k) (by simpa using hk), List.take_set_of_le (Nat.le_refl _), List.map_append]
  congr 1
  rw [show nthG (dk.toList.set k d[j]!) k=d[j]! from by simp [nthG,hk]];rfl
theorem Cmp.all (h:Cmp V d dk k j) (hj:d.size≤j):(dk.toList.take k).map V=compO (d.toList.map V):=by
 have:=h.val
 rw [List.take_of_length_le (show (d.toList).length≤j by simpa using hj)] at this
 exact this
end
theorem run_clearG {P:Program} {t e:TypeId} {z:Value} {size bytes:Nat} (E:Elem P t e z size bytes) (hz1:∀ v ∈ z.cells,v.oneCell'=true) (w:World) (ty:TypeId) (g o n c:Nat) (hn:0 < n) (hc:∀ j,j < n * size→(w.cell? ⟨g,o+j,none⟩).isSome=true) (hf:∀ j,j < n * size→w.frozen? ⟨g,o+j,none⟩=false) :
  (Builtin.clear_ #[t] ty #[.slice (some ⟨g,o,none⟩) n c]).run P w=.ok (.tuple #[]) (w.setCells g o (Builtin.zeroCells z.cells n).toList):=by
 obtain ⟨i,hi,hz,hsz,hby⟩:=E.get
 have hlen:(Builtin.zeroCells z.cells n).toList.length=n * size:=by rw [Array.length_toList,size_zeroCells,E.zs]
 have h1:∀ v ∈ (Builtin.zeroCells z.cells n).toList,v.oneCell'=true:=by
  intro v hv
  simp only [Builtin.zeroCells,Array.toList_map,List.mem_map] at hv
  obtain ⟨q,_,rfl⟩:=hv
  have hp:0 < z.cells.size:=by rw [E.zs];exact E.pos
  have hq:q % z.cells.size < z.cells.size:=Nat.mod_lt _ hp
  rw [getElem!_pos z.cells _ hq]
  exact hz1 _ (Array.getElem_mem hq)
 have hst:=run_storeCells_cells (P:=P) g o (Builtin.zeroCells z.cells n).toList 0 w (fun j hj=>by rw [hlen] at hj;simpa using hc j hj) (fun j hj=>by rw [hlen] at hj;simpa using hf j hj) h1
 simp only [Nat.add_zero] at hst
 obtain ⟨m,rfl⟩:∃ m,n=m+1:=⟨n - 1,by omega⟩
 simp [Builtin.clear_,run_underlying E.ut,zeroValue,typeInfo,hi,hz,hst]
section
variable {α:Type} [RowT α] [RowB α] {w0 w:World} {base n c:Nat} {e:TypeId} {A:Option Addr} {d:Array α}
theorem RowS.cutClear (h:RowS w0 w base e A n c d) {g:Nat} (hA:A=some ⟨g,0,none⟩) {k:Nat} (hk:k≤n) (ys:List Value):RowS w0 (w.setCells g (k * RowT.sz α) ys) base e A k c (d.toList.take k).toArray:=by
 have ho:=h.own
 subst hA
 obtain ⟨xs',k1,k2,k3⟩:=own_over ys (k * RowT.sz α) w (gcs d.toList) ho
 have h2:=own_cut k1 hk (by simp)
 rw [k2,gcs_take] at h2
 exact ⟨h2,fun x hx=>RowB.kept _ _ _ _ _ _ _ _ _ _ _ (h.ow x (List.mem_of_mem_take hx)) ho h.ne k3,Grown.trans h.gr k3,h.ne⟩
theorem RowS.clearOk (h:RowS w0 w base e A n c d) {g:Nat} (hA:A=some ⟨g,0,none⟩) {k:Nat} (hk:k≤n):(∀ j,j < (n - k) * RowT.sz α→(w.cell? ⟨g,k * RowT.sz α+j,none⟩).isSome=true)∧∀ j,j < (n - k) * RowT.sz α→w.frozen? ⟨g,k * RowT.sz α+j,none⟩=false:=by
 have hl:=h.own.1
 have ho:=h.own
 have he:k * RowT.sz α+(n - k) * RowT.sz α=n * RowT.sz α:=by rw [← Nat.add_mul];congr 1;omega
 subst hA
 exact ⟨fun j hj=>by rw [ho.cellAt (k * RowT.sz α+j) (by omega),List.getElem?_eq_getElem (by omega)];rfl,fun j hj=>ho.frozenAt _⟩
end
end Go.Proofs.YtohmmcahpakokaaGreat
namespace Go.Proofs.YtohmmcahpakokaaGreat
open Go.RowKit
end Go.Proofs.YtohmmcahpakokaaGreat
namespace Go.Proofs.YtohmmcahpakokaaGreat
open Go.RowKit
def OpLens (L:List OpR):Prop:=∀ R,R ∈ L→R.pre.length=R.n1∧R.prf.length=R.n2
def TxLens (T:TxR):Prop:=OpLens T.L∧T.sig.length=T.m
theorem lens_of {T:TxR} {w:World} (h:T.ok w):TxLens T:=⟨fun R hR=>⟨((h.ops.ok R hR).pre).len,((h.ops.ok R hR).prf).len⟩,h.sig.len⟩
end Go.Proofs.YtohmmcahpakokaaGreat
namespace Go.Proofs.YtohmmcahpakokaaGreat
open Go.RowKit
attribute [local go_sem ↓] Go.wp_at_zero Go.wp_at_succ
def x5 (v:VtR):List Int:=[v.sl,v.ro,v.k,v.si,v.ch]
end Go.Proofs.YtohmmcahpakokaaGreat
namespace Go.Proofs.YtohmmcahpakokaaGreat
open Go.RowKit
structure St3 where
 C:List DeR
 Q:List Int
 P:List UInt64
def StV.s3 (S:StV):St3:=⟨S.C,S.Q,S.P⟩
section
variable {α β:Type} [RowT α] [DecidableEq β] {V:α→β} {lt0:α→α→Bool} {lt:β→β→Bool} {d d':Array α} {n:Nat}
theorem wsc_of (hlt:∀ x y,lt0 x y=lt (V x) (V y)) (hn:d'.size=n) (hs:Sort.SortedIn lt0 0 n d'):Wsc lt (d'.toList.map V):=by
 unfold Wsc
 rw [List.pairwise_iff_getElem]
 intro i j hi hj hij
 simp only [List.length_map,Array.length_toList] at hi hj
 have:=hs i j (Nat.zero_le _) hij (by omega)
 rw [hlt,getElem!_pos d' i hi,getElem!_pos d' j hj] at this
 simpa using this
theorem mem_of_perm (hd:d.size=n) (hp:Sort.PermIn 0 n d d') (y:β):y ∈ d'.toList.map V ↔ y ∈ d.toList.map V:=by
 obtain ⟨h1,h2,h3⟩:=hp
 have e1:d'.extract 0 n=d':=by rw [← hd,← h1];exact Array.extract_size
 have e2:d.extract 0 n=d:=by rw [← hd];exact Array.extract_size
 rw [e1,e2] at h3
 exact (h3.map V).mem_iff
theorem canon_of_sorted (hS:STO lt) (hlt:∀ x y,lt0 x y=lt (V x) (V y)) (hd:d.size=n) (hp:Sort.PermIn 0 n d d') (hs:Sort.SortedIn lt0 0 n d'):compO (d'.toList.map V)=canonO lt (d.toList.map V) :=
 compO_canon hS (wsc_of hlt (by rw [hp.1,hd]) hs) (mem_of_perm hd hp)
end
def bgnE (okG:Bool) (na:Nat) (sg:Bool) (S:StV) (ac sq:Int) (L:List OpR):Int :=
 if vTx ac sq L=false ∨ okG=false ∨ (na:Int)≤ac ∨ S.Q.length ≠ na then 1
 else if sg=false then 8
 else if txNm ac sq L ∈ S.P then 7
 else if sq ≠ S.Q.getD ac.toNat 0 then 101
 else 0
def exeC (chk:OpR→StV→Int) (okG:Bool) (na:Nat) (sg:Bool) (S:StV) (ac sq:Int) (L:List OpR):Int :=
 if bgnE okG na sg S ac sq L ≠ 0 then bgnE okG na sg S ac sq L else errN chk ac sq L S L.length
def exeT (S:StV) (ac sq:Int) (L:List OpR):StV :=
 ⟨(doN ac sq L S L.length).C,(doN ac sq L S L.length).Q.set ac.toNat (sq+1),(doN ac sq L S L.length).K,markP (doN ac sq L S L.length).P (txNm ac sq L),(doN ac sq L S L.length).G⟩
def exeS (chk:OpR→StV→Int) (okG:Bool) (na:Nat) (sg:Bool) (S:StV) (ac sq:Int) (L:List OpR):StV :=
 if exeC chk okG na sg S ac sq L=0 then exeT S ac sq L else S
section
variable {chk:OpR→StV→Int} {okG:Bool} {na:Nat} {sg:Bool} {S:StV} {ac sq:Int} {L:List OpR}
theorem bgnE_ok (h:bgnE okG na sg S ac sq L=0):vTx ac sq L=true∧okG=true∧ac < (na:Int)∧S.Q.length=na∧sg=true∧txNm ac sq L ∉ S.P∧sq=S.Q.getD ac.toNat 0:=by
 unfold bgnE at h
 split at h
 ·cases h
 ·rename_i h1
  split at h
  ·cases h
  ·rename_i h2
   split at h
   ·cases h
   ·rename_i h3
    split at h
    ·cases h
    ·rename_i h4
     simp only [not_or,Bool.not_eq_false,Decidable.not_not] at h1 h2 h4
     exact ⟨h1.1,h1.2.1,by omega,h1.2.2.2,h2,h3,h4⟩
end
end Go.Proofs.YtohmmcahpakokaaGreat
