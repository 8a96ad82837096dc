/- Cells, entries, locks, names and numbers as elements of rows: what they are in memory, how they are loaded, stored and compared. -/
import Derived.Lib.Overlaps
import Derived.Lib.AppendZerosOnto
import Derived.Lib.SliceRun
import Derived.Deep.Cut
import Derived.ArgAppend
import Derived.Test.YtohmmcahpakokaaGreatD16
set_option maxRecDepth 100000
set_option maxHeartbeats 8000000
set_option linter.unusedVariables false
set_option linter.unusedSimpArgs false
namespace Go.Proofs.YtohmmcahpakokaaGreat
section
open Go.RowKit
theorem wfI_in {z:Int}:wfI z ↔ in64 z:=by
 unfold wfI in64 Lit.wf
 simp [IntKind.signed,IntKind.bits]
 intro _
 exact Iff.rfl
structure RowP (α:Type) [RowT α] (ty:TypeId) (arr:α→Array Value):Prop where
 eq:∀ x,(RowT.enc x).toArray=arr x
 info:(Tryz.prog.info? ty).map (·.size)=some (RowT.sz α)
 und:∃ d,Tryz.prog.underlying ty=some d∧d.isRow=true
section
variable {α:Type} [RowT α] {ty:TypeId} {arr:α→Array Value} {o:Oper} {a:Act} {w:World} {ops:Array Oper} {rest:List Oper} {Q:Exit→Act→World→Prop} {K:Act→World→Prop} {X:Prop}
theorem RowP.toL (h:RowP α ty arr) (x:α):(arr x).toList=RowT.enc x:=by rw [← h.eq]
theorem RowP.size (h:RowP α ty arr) (x:α):(arr x).size=RowT.sz α:=by rw [← h.eq];simp [RowT.len]
theorem RowP.all (h:RowP α ty arr) (x:α):(arr x).all (·.oneCell')=true:=by rw [← h.eq];exact all_oneCell_toArray (RowT.one x)
theorem wL (h:RowP α ty arr) (hgd:o.guard=none) (x:Operand) (ho:o.op=.load ty x) (b of:Nat) (hx:a.eval x=.pointer (some ⟨b,of,none⟩)) (R:α) (v:Value) (hv:Value.agg (arr R)=v) (hc:w.rangeAt b of (RowT.enc R))
  (hn:wpList Tryz.prog ops Q rest (a.put o.dst v) w):wpList Tryz.prog ops Q (o :: rest) a w:=by
 obtain ⟨d,h1,h2⟩:=h.und
 refine wpList_load_mid hgd ty x ho b of hx (RowT.enc R) d hc h1 h2 (by rw [h.info,RowT.len]) ?_
 rw [h.eq,hv];exact hn
theorem wpList_storeG (h:RowP α ty arr) (hgd:o.guard=none) (x y:Operand) (ho:o.op=.store ty x y) (b of:Nat) (hx:a.eval x=.pointer (some ⟨b,of,none⟩)) (R:α) (v:Value) (hv:Value.agg (arr R)=v) (hy:a.eval y=v) (ht:w.there b of (RowT.sz α))
  (hn:wpList Tryz.prog ops Q rest (a.put o.dst undef) (w.setCells b of (RowT.enc R))):wpList Tryz.prog ops Q (o :: rest) a w:=by
 rw [← h.toL R] at hn
 exact wpList_store_mid hgd ty x y ho b of (arr R) hx (by rw [hy,hv]) (by rw [h.size];exact ht) (by rw [h.info,h.size]) (h.all R) hn
theorem wpList_newG (h:RowP α ty arr) (hgd:o.guard=none) (x y:Operand) (ho:o.op=.store ty x y) (cs:Array Value) (hcs:cs.size=RowT.sz α) (R:α) (v:Value) (hv:Value.agg (arr R)=v) (hx:a.eval x=.pointer (some ⟨w.heap.size,0,none⟩)) (hy:a.eval y=v)
  (hn:∀ W2,Hid (w.alloc (.cells (arr R) ty)=W2)→wpList Tryz.prog ops Q rest (a.put o.dst undef) W2):wpList Tryz.prog ops Q (o :: rest) a (w.alloc (.cells cs ty)):=by
 refine wpList_storeG h hgd x y ho w.heap.size 0 hx R v hv hy (by rw [← hcs];exact tB (Blk.new w ty cs)) ?_
 rw [← h.toL,setCells_whole w ty cs (arr R) (by rw [hcs,h.size])]
 exact hn _ (zh rfl)
theorem yL {S:World→Prop} (h:RowP α ty arr) (hw:Region.wanted o (yielded ops a.tmps)=true) (x:Operand) (ho:o.op=.load ty x) (b of:Nat) (hx:a.eval x=.pointer (some ⟨b,of,none⟩)) (R:α) (v:Value) (hv:Value.agg (arr R)=v) (hS:∀ w,S w→w.rangeAt b of (RowT.enc R)):YieldsIf Tryz.prog ops S o v a:=by
 obtain ⟨d,h1,h2⟩:=h.und
 have:=yieldsIf_load_mid (P:=Tryz.prog) hw ty x ho b of hx (RowT.enc R) d hS h1 h2 (by rw [h.info,RowT.len])
 rwa [h.eq,hv] at this
theorem wp_loadG (h:RowP α ty arr) (x:Operand) (ho:o.op=.load ty x) (b of:Nat) (hx:a.eval x=.pointer (some ⟨b,of,none⟩)) (R:α) (v:Value) (hv:Value.agg (arr R)=v) (hc:w.rangeAt b of (RowT.enc R))
  (hn:K (a.put o.dst v) w):o.wp Tryz.prog a w K Q:=by
 obtain ⟨d,h1,h2⟩:=h.und
 have:=wp_load_mid (P:=Tryz.prog) (Q:=Q) (op:=o) (K:=K) ty x ho b of hx (RowT.enc R) d hc h1 h2 (by rw [h.info,RowT.len])
 rw [h.eq,hv] at this
 exact this hn
theorem step_storeG (h:RowP α ty arr) (hgd:o.guard=none) (x y:Operand) (ho:o.op=.store ty x y) (b of:Nat) (hx:a.eval x=.pointer (some ⟨b,of,none⟩)) (R:α) (v:Value) (hv:Value.agg (arr R)=v) (hy:a.eval y=v) (ht:w.there b of (RowT.sz α))
  (hn:K (a.put o.dst undef) (w.setCells b of (RowT.enc R))):if Region.wanted o (yielded ops a.tmps)=true then Oper.wp Tryz.prog o a w K Q else X:=by
 have hw:Region.wanted o (yielded ops a.tmps)=true:=by simp [Region.wanted,hgd]
 rw [if_pos hw]
 rw [← h.toL R] at hn
 exact wp_store_mid (P:=Tryz.prog) (Q:=Q) (op:=o) (K:=K) ty x y ho b of (arr R) hx (by rw [hy,hv]) (by rw [h.size];exact ht) (by rw [h.info,h.size]) (h.all R) hn
end
theorem eqIn_K {α:Type} [RowT α] [DecidableEq α] {ty:TypeId} {arr:α→Array Value} (hp:RowP α ty arr) (f:Nat) (hf:f≤9990) (hE:∀ w:World,∀ v v':Value,∀ k k':List Lit,v.formed Tryz.prog ty=true→v'.formed Tryz.prog ty=true→Tryz.prog.keyLits f ty v.cells.toList=some k→Tryz.prog.keyLits f ty v'.cells.toList=some k'→∃ r,(Op.equalIn 10000 ty v v').run Tryz.prog w=.ok r w∧(r=true ↔ k=k'))
  (ok:α→Prop) (ky:α→List Lit) (hfm:∀ x,(Value.agg (arr x)).formed Tryz.prog ty=true) (hk:∀ x,ok x→Tryz.prog.keyLits f ty (RowT.enc x)=some (ky x)) (hi:∀ x y,ky x=ky y→x=y) (a b:α) (ha:ok a) (hb:ok b) (w:World) :
  (Op.equalIn 10000 ty (.agg (arr a)) (.agg (arr b))).run Tryz.prog w=.ok (decide (a=b)) w:=by
 obtain ⟨r,hr,hiff⟩:=hE w _ _ _ _ (hfm a) (hfm b) (by show Tryz.prog.keyLits f ty (arr a).toList=_;rw [hp.toL];exact hk a ha) (by show Tryz.prog.keyLits f ty (arr b).toList=_;rw [hp.toL];exact hk b hb)
 rw [hr]
 have:r=decide (a=b):=by
  by_cases h:a=b
  ·subst h;simp [hiff.2 rfl]
  have:r ≠ true:=fun e=>h (hi a b (hiff.1 e))
  simp [h,this]
 rw [this]
abbrev ceA (C:CeR):Array Value:=#[.int .i64 C.k,.int .i64 C.id,.int .u8 (nb8 C.lk 0),.int .u8 (nb8 C.lk 1),.int .u8 (nb8 C.lk 2),.int .u8 (nb8 C.lk 3),.int .u8 (nb8 C.lk 4),.int .u8 (nb8 C.lk 5),.int .u8 (nb8 C.lk 6),.int .u8 (nb8 C.lk 7)]
def ceL (C:CeR):List Value:=(ceA C).toList
theorem ceL_one (C:CeR):∀ u ∈ ceL C,u.oneCell'=true:=by
 intro u hu
 simp only [ceL,List.mem_cons,List.not_mem_nil,or_false] at hu
 rcases hu with rfl | rfl | rfl | rfl | rfl | rfl | rfl | rfl | rfl | rfl <;> rfl
def ceW (C:CeR):Prop:=wfI C.k∧wfI C.id
instance:RowT CeR where
 sz:=10
 z:=⟨0,0,0⟩
 enc:=ceL
 ok C _:=ceW C
 pos:=by decide
 len _:=rfl
 one:=ceL_one
 ext _ _ _ h _:=h
abbrev ce0:Array Value:=#[.int .i64 0,.int .i64 0,.int .u8 0,.int .u8 0,.int .u8 0,.int .u8 0,.int .u8 0,.int .u8 0,.int .u8 0,.int .u8 0]
theorem ceE:Elem Tryz.prog 96 32 (.agg ce0) 10 24:=⟨Tryz.underlying96,by kernel_rfl,rfl,by decide⟩
theorem ceP:RowP CeR 32 ceA:=⟨fun _=>rfl,by kernel_rfl,_,Tryz.underlying32,rfl⟩
theorem ceF (C:CeR):(Value.agg (ceA C)).formed Tryz.prog 32=true:=by
 have c:Tryz.prog.cellsOf 32=10:=by kernel_rfl
 simp [Value.formed,Tryz.underlying32,c]
abbrev deA (C:DeR):Array Value:=#[.int .i64 C.c.k,.int .i64 C.c.id,.int .u8 (nb8 C.c.lk 0),.int .u8 (nb8 C.c.lk 1),.int .u8 (nb8 C.c.lk 2),.int .u8 (nb8 C.c.lk 3),.int .u8 (nb8 C.c.lk 4),.int .u8 (nb8 C.c.lk 5),.int .u8 (nb8 C.c.lk 6),.int .u8 (nb8 C.c.lk 7),.int .i64 C.a]
def deL (C:DeR):List Value:=(deA C).toList
theorem deL_one (C:DeR):∀ u ∈ deL C,u.oneCell'=true:=by
 intro u hu
 simp only [deL,List.mem_cons,List.not_mem_nil,or_false] at hu
 rcases hu with rfl | rfl | rfl | rfl | rfl | rfl | rfl | rfl | rfl | rfl | rfl <;> rfl
def deW (C:DeR):Prop:=ceW C.c∧wfI C.a
instance:RowT DeR where
 sz:=11
 z:=⟨⟨0,0,0⟩,0⟩
 enc:=deL
 ok C _:=deW C
 pos:=by decide
 len _:=rfl
 one:=deL_one
 ext _ _ _ h _:=h
abbrev de0:Array Value:=#[.int .i64 0,.int .i64 0,.int .u8 0,.int .u8 0,.int .u8 0,.int .u8 0,.int .u8 0,.int .u8 0,.int .u8 0,.int .u8 0,.int .i64 0]
theorem deE:Elem Tryz.prog 27 34 (.agg de0) 11 32:=⟨Tryz.underlying27,by kernel_rfl,rfl,by decide⟩
theorem deP:RowP DeR 34 deA:=⟨fun _=>rfl,by kernel_rfl,_,Tryz.underlying34,rfl⟩
theorem deF (C:DeR):(Value.agg (deA C)).formed Tryz.prog 34=true:=by
 have c:Tryz.prog.cellsOf 34=11:=by kernel_rfl
 simp [Value.formed,Tryz.underlying34,c]
abbrev lkA (C:LkR):Array Value:=#[.int .u8 (nb8 C.nm 0),.int .u8 (nb8 C.nm 1),.int .u8 (nb8 C.nm 2),.int .u8 (nb8 C.nm 3),.int .u8 (nb8 C.nm 4),.int .u8 (nb8 C.nm 5),.int .u8 (nb8 C.nm 6),.int .u8 (nb8 C.nm 7),.int .u8 (nb8 C.hs 0),.int .u8 (nb8 C.hs 1),.int .u8 (nb8 C.hs 2),.int .u8 (nb8 C.hs 3),.int .u8 (nb8 C.hs 4),.int .u8 (nb8 C.hs 5),.int .u8 (nb8 C.hs 6),.int .u8 (nb8 C.hs 7),.int .i64 C.ow,.int .i64 C.tO,.int .i64 C.ul]
def lkL (C:LkR):List Value:=(lkA C).toList
theorem lkL_one (C:LkR):∀ u ∈ lkL C,u.oneCell'=true:=by
 intro u hu
 simp only [lkL,List.mem_cons,List.not_mem_nil,or_false] at hu
 rcases hu with rfl | rfl | rfl | rfl | rfl | rfl | rfl | rfl | rfl | rfl | rfl | rfl | rfl | rfl | rfl | rfl | rfl | rfl | rfl <;> rfl
def lkW (C:LkR):Prop:=wfI C.ow∧wfI C.tO∧wfI C.ul
instance:RowT LkR where
 sz:=19
 z:=⟨0,0,0,0,0⟩
 enc:=lkL
 ok C _:=lkW C
 pos:=by decide
 len _:=rfl
 one:=lkL_one
 ext _ _ _ h _:=h
abbrev lk0:Array Value:=#[.int .u8 0,.int .u8 0,.int .u8 0,.int .u8 0,.int .u8 0,.int .u8 0,.int .u8 0,.int .u8 0,.int .u8 0,.int .u8 0,.int .u8 0,.int .u8 0,.int .u8 0,.int .u8 0,.int .u8 0,.int .u8 0,.int .i64 0,.int .i64 0,.int .i64 0]
theorem lkE:Elem Tryz.prog 41 94 (.agg lk0) 19 40:=⟨Tryz.underlying41,by kernel_rfl,rfl,by decide⟩
theorem lkP:RowP LkR 94 lkA:=⟨fun _=>rfl,by kernel_rfl,_,Tryz.underlying94,rfl⟩
theorem lkF (C:LkR):(Value.agg (lkA C)).formed Tryz.prog 94=true:=by
 have c:Tryz.prog.cellsOf 94=19:=by kernel_rfl
 simp [Value.formed,Tryz.underlying94,c]
def ceK (C:CeR):List Lit:=[.int .i64 C.k,.int .i64 C.id] ++ (nmb C.lk).map litB
def deK (C:DeR):List Lit:=ceK C.c ++ [.int .i64 C.a]
def lkK (C:LkR):List Lit:=(nmb C.nm).map litB ++ ((nmb C.hs).map litB ++ [.int .i64 C.ow,.int .i64 C.tO,.int .i64 C.ul])
theorem ceL_C (C:CeR):ceL C=[.int .i64 C.k,.int .i64 C.id] ++ bcs (nmb C.lk):=by rw [bcs_nb8];rfl
theorem deL_C (C:DeR):deL C=ceL C.c ++ [.int .i64 C.a]:=rfl
theorem lkL_C (C:LkR):lkL C=bcs (nmb C.nm) ++ (bcs (nmb C.hs) ++ [.int .i64 C.ow,.int .i64 C.tO,.int .i64 C.ul]):=by rw [bcs_nb8,bcs_nb8];rfl
theorem litK_length (n:UInt64):((nmb n).map litB).length=8:=by simp [nL]
theorem ceK_length (C:CeR):(ceK C).length=10:=by simp [ceK,nL]
theorem ceK_inj (a b:CeR) (h:ceK a=ceK b):a=b:=by
 unfold ceK at h
 simp only [List.cons_append,List.nil_append,List.cons.injEq,Lit.int.injEq,true_and] at h
 obtain ⟨h1,h2,h3⟩:=h
 have:=litB_inj h3
 cases a;cases b
 simp only at *
 subst h1;subst h2;subst this;rfl
theorem deK_inj (a b:DeR) (h:deK a=deK b):a=b:=by
 unfold deK at h
 obtain ⟨h1,h2⟩:=List.append_inj h (by rw [ceK_length,ceK_length])
 have:=ceK_inj _ _ h1
 simp only [List.cons.injEq,Lit.int.injEq,true_and,and_true] at h2
 cases a;cases b
 simp only at *
 subst h2;subst this;rfl
theorem lkK_inj (a b:LkR) (h:lkK a=lkK b):a=b:=by
 unfold lkK at h
 obtain ⟨h1,h2⟩:=List.append_inj h (by rw [litK_length,litK_length])
 obtain ⟨h3,h4⟩:=List.append_inj h2 (by rw [litK_length,litK_length])
 simp only [List.cons.injEq,Lit.int.injEq,true_and,and_true] at h4
 obtain ⟨h5,h6,h7⟩:=h4
 have e1:=litB_inj h1
 have e2:=litB_inj h3
 cases a;cases b
 simp only at *
 subst h5;subst h6;subst h7;subst e1;subst e2;rfl
theorem wfI_keyM (m:Nat) (x:Int) (hx:wfI x):Tryz.prog.keyLits (m+1) 3 [.int .i64 x]=some [.int .i64 x]:=by
 unfold Program.keyLits
 rw [Tryz.underlying3]
 simp only
 rw [if_pos ⟨trivial,hx⟩]
theorem keyByteM (m:Nat) (c:UInt8):Tryz.prog.keyLits (m+1) 5 [.int .u8 (c.toNat:Int)]=some [litB c]:=by
 unfold Program.keyLits
 rw [Tryz.underlying5]
 simp only
 rw [if_pos ⟨trivial,litB_wf c⟩];rfl
theorem keyNameM (m:Nat) (n:UInt64):Tryz.prog.keyLits (m+2) 30 (bcs (nmb n))=some ((nmb n).map litB):=by
 unfold Program.keyLits
 rw [Tryz.underlying30]
 simp only
 rw [if_pos (by rw [bL,nL,cellsN]),cellsU8']
 rw [nmb_list n]
 generalize (nmb n).getD 0 0=x0
 generalize (nmb n).getD 1 0=x1
 generalize (nmb n).getD 2 0=x2
 generalize (nmb n).getD 3 0=x3
 generalize (nmb n).getD 4 0=x4
 generalize (nmb n).getD 5 0=x5
 generalize (nmb n).getD 6 0=x6
 generalize (nmb n).getD 7 0=x7
 rw [show List.range 8=[0,1,2,3,4,5,6,7] from rfl]
 simp only [bcs,bv,List.map_cons,List.map_nil,List.mapM_cons,List.mapM_nil,Nat.zero_mul,Nat.one_mul,Nat.mul_one,List.drop_zero,List.drop_succ_cons,List.take_succ_cons,List.take_zero,keyByteM m]
 rfl
theorem keyCe (m:Nat) (C:CeR) (h:ceW C):Tryz.prog.keyLits (m+3) 32 (ceL C)=some (ceK C):=by
 obtain ⟨h1,h2⟩:=h
 have c1:Tryz.prog.cellsOf 3=1:=by kernel_rfl
 have c10:Tryz.prog.cellsOf 32=10:=by kernel_rfl
 have t8:(bcs (nmb C.lk)).take 8=bcs (nmb C.lk):=List.take_of_length_le (by rw [bL,nL];exact Nat.le_refl _)
 have hl:(ceL C).length=10:=rfl
 rw [ceL_C] at hl ⊢
 unfold Program.keyLits
 rw [Tryz.underlying32]
 simp only
 rw [if_pos ⟨by rw [hl,c10],by kernel_rfl⟩]
 simp only [List.mapM_cons,List.mapM_nil,c1,cellsN,List.cons_append,List.nil_append,List.drop_zero,List.drop_succ_cons,List.take_succ_cons,List.take_zero,wfI_keyM (m+1) _ h1,wfI_keyM (m+1) _ h2,t8,keyNameM m]
 simp [ceK]
theorem keyDe (m:Nat) (C:DeR) (h:deW C):Tryz.prog.keyLits (m+4) 34 (deL C)=some (deK C):=by
 obtain ⟨h1,h2⟩:=h
 have c1:Tryz.prog.cellsOf 3=1:=by kernel_rfl
 have c10:Tryz.prog.cellsOf 32=10:=by kernel_rfl
 have c11:Tryz.prog.cellsOf 34=11:=by kernel_rfl
 have hl:(deL C).length=11:=rfl
 have t10:(ceL C.c ++ [Value.int .i64 C.a]).take 10=ceL C.c:=rfl
 have d10:(ceL C.c ++ [Value.int .i64 C.a]).drop 10=[Value.int .i64 C.a]:=rfl
 rw [deL_C] at hl ⊢
 unfold Program.keyLits
 rw [Tryz.underlying34]
 simp only
 rw [if_pos ⟨by rw [hl,c11],by kernel_rfl⟩]
 simp only [List.mapM_cons,List.mapM_nil,c1,c10,List.drop_zero,t10,d10,List.take_succ_cons,List.take_zero,wfI_keyM (m+2) _ h2,keyCe m _ h1]
 simp [deK]
theorem keyLk (m:Nat) (C:LkR) (h:lkW C):Tryz.prog.keyLits (m+3) 94 (lkL C)=some (lkK C):=by
 obtain ⟨h1,h2,h3⟩:=h
 have c1:Tryz.prog.cellsOf 3=1:=by kernel_rfl
 have c19:Tryz.prog.cellsOf 94=19:=by kernel_rfl
 have hp:(bcs (nmb C.nm)).length=8:=by rw [bL,nL]
 have hq:(bcs (nmb C.hs)).length=8:=by rw [bL,nL]
 have hl:(lkL C).length=19:=rfl
 rw [lkL_C] at hl ⊢
 have t1:(bcs (nmb C.nm) ++ (bcs (nmb C.hs) ++ [Value.int .i64 C.ow,.int .i64 C.tO,.int .i64 C.ul])).take 8=bcs (nmb C.nm):=by rw [← hp];exact List.take_left
 have d1:(bcs (nmb C.nm) ++ (bcs (nmb C.hs) ++ [Value.int .i64 C.ow,.int .i64 C.tO,.int .i64 C.ul])).drop 8=bcs (nmb C.hs) ++ [Value.int .i64 C.ow,.int .i64 C.tO,.int .i64 C.ul]:=by rw [← hp];exact List.drop_left
 have t2:(bcs (nmb C.hs) ++ [Value.int .i64 C.ow,.int .i64 C.tO,.int .i64 C.ul]).take 8=bcs (nmb C.hs):=by rw [← hq];exact List.take_left
 have d2:(bcs (nmb C.hs) ++ [Value.int .i64 C.ow,.int .i64 C.tO,.int .i64 C.ul]).drop 8=[Value.int .i64 C.ow,.int .i64 C.tO,.int .i64 C.ul]:=by rw [← hq];exact List.drop_left
 have d16:(bcs (nmb C.nm) ++ (bcs (nmb C.hs) ++ [Value.int .i64 C.ow,.int .i64 C.tO,.int .i64 C.ul])).drop 16=[Value.int .i64 C.ow,.int .i64 C.tO,.int .i64 C.ul]:=by rw [show 16=8+8 from rfl,← List.drop_drop,d1,d2]
 have d17:(bcs (nmb C.nm) ++ (bcs (nmb C.hs) ++ [Value.int .i64 C.ow,.int .i64 C.tO,.int .i64 C.ul])).drop 17=[Value.int .i64 C.tO,.int .i64 C.ul]:=by rw [show 17=16+1 from rfl,← List.drop_drop,d16];rfl
 have d18:(bcs (nmb C.nm) ++ (bcs (nmb C.hs) ++ [Value.int .i64 C.ow,.int .i64 C.tO,.int .i64 C.ul])).drop 18=[Value.int .i64 C.ul]:=by rw [show 18=16+2 from rfl,← List.drop_drop,d16];rfl
 unfold Program.keyLits
 rw [Tryz.underlying94]
 simp only
 rw [if_pos ⟨by rw [hl,c19],by kernel_rfl⟩]
 simp only [List.mapM_cons,List.mapM_nil,c1,cellsN,List.drop_zero,t1,d1,t2,d2,d16,d17,d18,List.drop_succ_cons,List.take_succ_cons,List.take_zero,wfI_keyM (m+1) _ h1,wfI_keyM (m+1) _ h2,wfI_keyM (m+1) _ h3,keyNameM m]
 simp [lkK]
theorem eqIn_Ce (a b:CeR) (ha:ceW a) (hb:ceW b) (w:World):(Op.equalIn 10000 32 (.agg (ceA a)) (.agg (ceA b))).run Tryz.prog w=.ok (decide (a=b)) w :=
 eqIn_K ceP 3 (by decide) (fun w v v' k k' h1 h2 h3 h4=>run_equalIn_deep (P:=Tryz.prog) 9997 3 32 (by kernel_rfl) w 3 3 _ _ _ _ h1 h2 h3 h4) ceW ceK ceF (fun C h=>keyCe 0 C h) ceK_inj a b ha hb w
theorem eqIn_De (a b:DeR) (ha:deW a) (hb:deW b) (w:World):(Op.equalIn 10000 34 (.agg (deA a)) (.agg (deA b))).run Tryz.prog w=.ok (decide (a=b)) w :=
 eqIn_K deP 4 (by decide) (fun w v v' k k' h1 h2 h3 h4=>run_equalIn_deep (P:=Tryz.prog) 9996 4 34 (by kernel_rfl) w 4 4 _ _ _ _ h1 h2 h3 h4) deW deK deF (fun C h=>keyDe 0 C h) deK_inj a b ha hb w
theorem eqIn_Lk (a b:LkR) (ha:lkW a) (hb:lkW b) (w:World):(Op.equalIn 10000 94 (.agg (lkA a)) (.agg (lkA b))).run Tryz.prog w=.ok (decide (a=b)) w :=
 eqIn_K lkP 3 (by decide) (fun w v v' k k' h1 h2 h3 h4=>run_equalIn_deep (P:=Tryz.prog) 9997 3 94 (by kernel_rfl) w 3 3 _ _ _ _ h1 h2 h3 h4) lkW lkK lkF (fun C h=>keyLk 0 C h) lkK_inj a b ha hb w
theorem run_eqCe (a b:CeR) (ha:ceW a) (hb:ceW b) (w:World):(binOp .eql 32 (.agg (ceA a)) (.agg (ceA b))).run Tryz.prog w=.ok (.bool (decide (a=b))) w:=by rw [run_eql_struct,eqIn_Ce a b ha hb w];rfl
theorem run_neqCe (a b:CeR) (ha:ceW a) (hb:ceW b) (w:World):(binOp .neq 32 (.agg (ceA a)) (.agg (ceA b))).run Tryz.prog w=.ok (.bool (!decide (a=b))) w:=by rw [run_neq_struct,eqIn_Ce a b ha hb w];rfl
theorem guard_Ce (op:BinOp) (x y:Operand) (a b:CeR) (w:World):(eqGuard op 32 x y (.agg (ceA a)) (.agg (ceA b))).run Tryz.prog w=.ok () w:=run_eqGuard_agg w op _ x y _ _ (by kernel_rfl)
theorem run_neqDe (a b:DeR) (ha:deW a) (hb:deW b) (w:World):(binOp .neq 34 (.agg (deA a)) (.agg (deA b))).run Tryz.prog w=.ok (.bool (!decide (a=b))) w:=by rw [run_neq_struct,eqIn_De a b ha hb w];rfl
theorem guard_De (op:BinOp) (x y:Operand) (a b:DeR) (w:World):(eqGuard op 34 x y (.agg (deA a)) (.agg (deA b))).run Tryz.prog w=.ok () w:=run_eqGuard_agg w op _ x y _ _ (by kernel_rfl)
theorem run_neqLk (a b:LkR) (ha:lkW a) (hb:lkW b) (w:World):(binOp .neq 94 (.agg (lkA a)) (.agg (lkA b))).run Tryz.prog w=.ok (.bool (!decide (a=b))) w:=by rw [run_neq_struct,eqIn_Lk a b ha hb w];rfl
theorem guard_Lk (op:BinOp) (x y:Operand) (a b:LkR) (w:World):(eqGuard op 94 x y (.agg (lkA a)) (.agg (lkA b))).run Tryz.prog w=.ok () w:=run_eqGuard_agg w op _ x y _ _ (by kernel_rfl)
def nmL (n:UInt64):List Value:=bcs (nmb n)
instance:RowT UInt64 where
 sz:=8
 z:=0
 enc:=nmL
 ok _ _:=True
 pos:=by decide
 len _:=by rw [nmL,bL,nL]
 one _:=bcs_one _
 ext _ _ _ _ _:=trivial
theorem guard_Nm (op:BinOp) (x y:Operand) (a b:UInt64) (w:World):(eqGuard op 30 x y (.agg (nmc a)) (.agg (nmc b))).run Tryz.prog w=.ok () w:=run_eqGuard_agg w op _ x y _ _ (by kernel_rfl)
theorem nmP:RowP UInt64 30 nmc:=⟨fun _=>rfl,by kernel_rfl,_,Tryz.underlying30,rfl⟩
theorem SlN.g {w:World} {A:Option Addr} {n c:Nat} {L:List UInt64} (h:SlN w A n c L):SlG w A n c L:=⟨h.len,h.le,h.cap,h.rd,fun _ _=>trivial⟩
theorem SlG.n {w:World} {A:Option Addr} {n c:Nat} {L:List UInt64} (h:SlG w A n c L):SlN w A n c L:=⟨h.len,h.le,h.cap,h.rd⟩
theorem yields_cmp {P:Program} {ops:Array Oper} {S:World→Prop} {o:Oper} {a:Act} {op:BinOp} {ty ty':TypeId} (hw:Region.wanted o (yielded ops a.tmps)=true) (x y:Operand) (ho:o.op=.binOp op ty x y ty') {vx vy:Value} {b:Bool} (hx:a.eval x=vx) (hy:a.eval y=vy)
  (hg:∀ w,(eqGuard op ty x y vx vy).run P w=.ok () w) (hq:∀ w,(binOp op ty vx vy).run P w=.ok (.bool b) w):YieldsIf P ops S o (.bool b) a :=
 .inl ⟨hw,fun w _=>by
  unfold execOp
  simp only [ho,hx,hy,Sem.run_bind,hg,hq,Result.andThen_ok,Sem.run_pure]⟩
theorem run_neqN (a b:UInt64) (w:World):(binOp .neq 30 (.agg (nmc a)) (.agg (nmc b))).run Tryz.prog w=.ok (.bool (!decide (a=b))) w:=by
 have h:=run_eqN a b w
 rw [run_eql_struct] at h
 rw [run_neq_struct]
 generalize (Op.equalIn 10000 30 (.agg (nmc a)) (.agg (nmc b))).run Tryz.prog w=r at *
 cases r with
 | ok v w'=>simp [Result.andThen] at h ⊢;obtain ⟨h1,h2⟩:=h;exact ⟨by rw [h1],h2⟩
 | _=>simp [Result.andThen] at h
def inL (z:Int):List Value:=[.int .i64 z]
instance:RowT Int where
 sz:=1
 z:=0
 enc:=inL
 ok z _:=wfI z
 pos:=by decide
 len _:=rfl
 one z u hu:=by rw [List.mem_singleton.1 hu];rfl
 ext _ _ _ h _:=h
theorem inE:Elem Tryz.prog 38 3 (.int .i64 0) 1 8:=⟨Tryz.underlying38,by kernel_rfl,rfl,by decide⟩
end
section
open Go.RowKit
attribute [local go_sem ↓] Go.wp_at_zero Go.wp_at_succ
theorem gcs_none {α:Type} [RowT α] {L:List α} (h:gcs L=[]):L=[]:=by
 have:=congrArg List.length h
 rw [gL] at this
 rcases Nat.mul_eq_zero.1 this with h | h
 ·exact List.length_eq_zero_iff.1 h
 exact absurd h (Nat.ne_of_gt RowT.pos)
theorem cloneDe_any (A:Option Addr) (n c:Nat) (L:List DeR) (w:World) (h:SlG w A n c L) (hn:n≤1000000000) :
  Calls Tryz.prog 90 #[.slice A n c] w fun e w'=>∃ A' c',e=.returned (.slice A' n c')∧w'.ownsRow w.heap.size 34 11 (.slice A' n c') n (gcs L)∧Ext w w':=by
 rcases A with _ | ad
 ·have hl:L=[]:=by
   rcases h.rd with h | ⟨b,o,h,_⟩
   ·exact gcs_none h
   cases h
  subst hl
  obtain rfl:n=0:=by have:=h.len;simpa using this.symm
  have hq:=run_eql_slice_nil (P:=Tryz.prog) w 27 34 none 0 c Tryz.underlying27
  go_enter Tryz.func90,Tryz.ntmps90
  go_wp2_with fail
  go_ret
  exact ⟨_,_,rfl,World.ownsRow_nil _ _ _ _,Ext.refl _⟩
 have hq:=run_eql_slice_nil (P:=Tryz.prog) w 27 34 (some ad) n c Tryz.underlying27
 have HO0:=zh (show (w.alloc (.cells #[] 34)).ownsRow w.heap.size 34 11 (.slice (some ⟨w.heap.size,0,none⟩) 0 0) 0 [] from World.ownsRow_made w #[] 0 (Nat.le_refl _) (Nat.zero_le _) rfl)
 have HS:=zh (h.ext ((Ext.refl w).alloc' (.cells #[] 34)))
 have HX:=zh ((Ext.refl w).alloc' (.cells #[] 34))
 have HL:=zh (show (gcs L).length=n * 11 by rw [gL,h.len];rfl)
 clear h
 go_enter Tryz.func90,Tryz.ntmps90
 go_wp2_with (at_builtin;go_must (refine wpList_appGG deE rfl (.tmp 5) (.tmp 6) rfl w.heap.size _ _ _ [] rfl HO0.out _ n c (gcs L) rfl HS.out.rd HL.out (gcs_cell L) (by omega) (by omega) HX.out.size ?_;intro A' c' w' hO hg))
 go_ret
 exact ⟨_,_,rfl,by simpa using hO,Below.grown HX.out hg HX.out.size (fun k hk=>(World.ownsRow.lt HO0.out k hk).1)⟩
theorem cloneIn_any (A:Option Addr) (n c:Nat) (L:List Int) (w:World) (h:SlG w A n c L) (hn:n≤1000000000) :
  Calls Tryz.prog 91 #[.slice A n c] w fun e w'=>∃ A' c',e=.returned (.slice A' n c')∧w'.ownsRow w.heap.size 3 1 (.slice A' n c') n (gcs L)∧Ext w w':=by
 rcases A with _ | ad
 ·have hl:L=[]:=by
   rcases h.rd with h | ⟨b,o,h,_⟩
   ·exact gcs_none h
   cases h
  subst hl
  obtain rfl:n=0:=by have:=h.len;simpa using this.symm
  have hq:=run_eql_slice_nil (P:=Tryz.prog) w 38 3 none 0 c Tryz.underlying38
  go_enter Tryz.func91,Tryz.ntmps91
  go_wp2_with fail
  go_ret
  exact ⟨_,_,rfl,World.ownsRow_nil _ _ _ _,Ext.refl _⟩
 have hq:=run_eql_slice_nil (P:=Tryz.prog) w 38 3 (some ad) n c Tryz.underlying38
 have HO0:=zh (show (w.alloc (.cells #[] 3)).ownsRow w.heap.size 3 1 (.slice (some ⟨w.heap.size,0,none⟩) 0 0) 0 [] from World.ownsRow_made w #[] 0 (Nat.le_refl _) (Nat.zero_le _) rfl)
 have HS:=zh (h.ext ((Ext.refl w).alloc' (.cells #[] 3)))
 have HX:=zh ((Ext.refl w).alloc' (.cells #[] 3))
 have HL:=zh (show (gcs L).length=n * 1 by rw [gL,h.len];rfl)
 clear h
 go_enter Tryz.func91,Tryz.ntmps91
 go_wp2_with (at_builtin;go_must (refine wpList_appGG inE rfl (.tmp 5) (.tmp 6) rfl w.heap.size _ _ _ [] rfl HO0.out _ n c (gcs L) rfl HS.out.rd HL.out (gcs_cell L) (by omega) (by omega) HX.out.size ?_;intro A' c' w' hO hg))
 go_ret
 exact ⟨_,_,rfl,by simpa using hO,Below.grown HX.out hg HX.out.size (fun k hk=>(World.ownsRow.lt HO0.out k hk).1)⟩
theorem cloneLk_any (A:Option Addr) (n c:Nat) (L:List LkR) (w:World) (h:SlG w A n c L) (hn:n≤1000000000) :
  Calls Tryz.prog 92 #[.slice A n c] w fun e w'=>∃ A' c',e=.returned (.slice A' n c')∧w'.ownsRow w.heap.size 94 19 (.slice A' n c') n (gcs L)∧Ext w w':=by
 rcases A with _ | ad
 ·have hl:L=[]:=by
   rcases h.rd with h | ⟨b,o,h,_⟩
   ·exact gcs_none h
   cases h
  subst hl
  obtain rfl:n=0:=by have:=h.len;simpa using this.symm
  have hq:=run_eql_slice_nil (P:=Tryz.prog) w 41 94 none 0 c Tryz.underlying41
  go_enter Tryz.func92,Tryz.ntmps92
  go_wp2_with fail
  go_ret
  exact ⟨_,_,rfl,World.ownsRow_nil _ _ _ _,Ext.refl _⟩
 have hq:=run_eql_slice_nil (P:=Tryz.prog) w 41 94 (some ad) n c Tryz.underlying41
 have HO0:=zh (show (w.alloc (.cells #[] 94)).ownsRow w.heap.size 94 19 (.slice (some ⟨w.heap.size,0,none⟩) 0 0) 0 [] from World.ownsRow_made w #[] 0 (Nat.le_refl _) (Nat.zero_le _) rfl)
 have HS:=zh (h.ext ((Ext.refl w).alloc' (.cells #[] 94)))
 have HX:=zh ((Ext.refl w).alloc' (.cells #[] 94))
 have HL:=zh (show (gcs L).length=n * 19 by rw [gL,h.len];rfl)
 clear h
 go_enter Tryz.func92,Tryz.ntmps92
 go_wp2_with (at_builtin;go_must (refine wpList_appGG lkE rfl (.tmp 5) (.tmp 6) rfl w.heap.size _ _ _ [] rfl HO0.out _ n c (gcs L) rfl HS.out.rd HL.out (gcs_cell L) (by omega) (by omega) HX.out.size ?_;intro A' c' w' hO hg))
 go_ret
 exact ⟨_,_,rfl,by simpa using hO,Below.grown HX.out hg HX.out.size (fun k hk=>(World.ownsRow.lt HO0.out k hk).1)⟩
theorem cloneNm_any (A:Option Addr) (n c:Nat) (L:List UInt64) (w:World) (h:SlG w A n c L) (hn:n≤1000000000) :
  Calls Tryz.prog 93 #[.slice A n c] w fun e w'=>∃ A' c',e=.returned (.slice A' n c')∧w'.ownsRow w.heap.size 30 8 (.slice A' n c') n (gcs L)∧Ext w w':=by
 rcases A with _ | ad
 ·have hl:L=[]:=by
   rcases h.rd with h | ⟨b,o,h,_⟩
   ·exact gcs_none h
   cases h
  subst hl
  obtain rfl:n=0:=by have:=h.len;simpa using this.symm
  have hq:=run_eql_slice_nil (P:=Tryz.prog) w 37 30 none 0 c Tryz.underlying37
  go_enter Tryz.func93,Tryz.ntmps93
  go_wp2_with fail
  go_ret
  exact ⟨_,_,rfl,World.ownsRow_nil _ _ _ _,Ext.refl _⟩
 have hq:=run_eql_slice_nil (P:=Tryz.prog) w 37 30 (some ad) n c Tryz.underlying37
 have HO0:=zh (show (w.alloc (.cells #[] 30)).ownsRow w.heap.size 30 8 (.slice (some ⟨w.heap.size,0,none⟩) 0 0) 0 [] from World.ownsRow_made w #[] 0 (Nat.le_refl _) (Nat.zero_le _) rfl)
 have HS:=zh (h.ext ((Ext.refl w).alloc' (.cells #[] 30)))
 have HX:=zh ((Ext.refl w).alloc' (.cells #[] 30))
 have HL:=zh (show (gcs L).length=n * 8 by rw [gL,h.len];rfl)
 clear h
 go_enter Tryz.func93,Tryz.ntmps93
 go_wp2_with (at_builtin;go_must (refine wpList_appGG namesE rfl (.tmp 5) (.tmp 6) rfl w.heap.size _ _ _ [] rfl HO0.out _ n c (gcs L) rfl HS.out.rd HL.out (gcs_cell L) (by omega) (by omega) HX.out.size ?_;intro A' c' w' hO hg))
 go_ret
 exact ⟨_,_,rfl,by simpa using hO,Below.grown HX.out hg HX.out.size (fun k hk=>(World.ownsRow.lt HO0.out k hk).1)⟩
structure StR where
 A1:Option Addr
 n1:Nat
 c1:Nat
 C:List DeR
 A2:Option Addr
 n2:Nat
 c2:Nat
 Q:List Int
 A3:Option Addr
 n3:Nat
 c3:Nat
 K:List LkR
 A4:Option Addr
 n4:Nat
 c4:Nat
 P:List UInt64
 G:Int
def StR.V (s:StR):StV:=⟨s.C,s.Q,s.K,s.P,s.G⟩
abbrev ssA (s:StR):Array Value:=#[.slice s.A1 s.n1 s.c1,.slice s.A2 s.n2 s.c2,.slice s.A3 s.n3 s.c3,.slice s.A4 s.n4 s.c4,.int .i64 s.G]
structure StR.ok (s:StR) (w:World):Prop where
 s1:SlG w s.A1 s.n1 s.c1 s.C
 s2:SlG w s.A2 s.n2 s.c2 s.Q
 s3:SlG w s.A3 s.n3 s.c3 s.K
 s4:SlG w s.A4 s.n4 s.c4 s.P
 g:wfI s.G
theorem StR.ok.ext {s:StR} {w w':World} (h:s.ok w) (e:Ext w w'):s.ok w':=⟨h.s1.ext e,h.s2.ext e,h.s3.ext e,h.s4.ext e,h.g⟩
structure OwnS (w:World) (base:Nat) (s:StR):Prop where
 o1:w.ownsRow base 34 11 (.slice s.A1 s.n1 s.c1) s.n1 (gcs s.C)
 o2:w.ownsRow base 3 1 (.slice s.A2 s.n2 s.c2) s.n2 (gcs s.Q)
 o3:w.ownsRow base 94 19 (.slice s.A3 s.n3 s.c3) s.n3 (gcs s.K)
 o4:w.ownsRow base 30 8 (.slice s.A4 s.n4 s.c4) s.n4 (gcs s.P)
 k1:∀ d ∈ s.C,deW d
 k2:∀ z ∈ s.Q,wfI z
 k3:∀ l ∈ s.K,lkW l
 g:wfI s.G
theorem OwnS.ok {w:World} {base:Nat} {s:StR} (h:OwnS w base s):s.ok w :=
 ⟨OwnG.sl (e:=34) h.o1 h.k1,OwnG.sl (e:=3) h.o2 h.k2,OwnG.sl (e:=94) h.o3 h.k3,OwnG.sl (e:=30) h.o4 (fun _ _=>trivial),h.g⟩
theorem OwnS.ext {w w':World} {base:Nat} {s:StR} (h:OwnS w base s) (e:Ext w w'):OwnS w' base s:=⟨own_ext h.o1 e,own_ext h.o2 e,own_ext h.o3 e,own_ext h.o4 e,h.k1,h.k2,h.k3,h.g⟩
theorem OwnS.mono {w:World} {base base':Nat} {s:StR} (h:OwnS w base s) (hb:base'≤base):OwnS w base' s:=⟨own_mono h.o1 hb,own_mono h.o2 hb,own_mono h.o3 hb,own_mono h.o4 hb,h.k1,h.k2,h.k3,h.g⟩
theorem OwnS.kept {w w':World} {base:Nat} {s:StR} {X:Nat} {t:TypeId} {cs:Array Value} (h:OwnS w base s) (hg:w.grownBy w' (some X)) (hb:Blk w X t cs) (h1:t ≠ 34) (h2:t ≠ 3) (h3:t ≠ 94) (h4:t ≠ 30):OwnS w' base s :=
 ⟨h.o1.kept hg (.inr (Ne.symm (oO h.o1 hb h1))),h.o2.kept hg (.inr (Ne.symm (oO h.o2 hb h2))),h.o3.kept hg (.inr (Ne.symm (oO h.o3 hb h3))),h.o4.kept hg (.inr (Ne.symm (oO h.o4 hb h4))),h.k1,h.k2,h.k3,h.g⟩
theorem OwnS.l1 {w:World} {base:Nat} {s:StR} (h:OwnS w base s):s.C.length=s.n1:=OwnG.len (e:=34) h.o1
theorem OwnS.l2 {w:World} {base:Nat} {s:StR} (h:OwnS w base s):s.Q.length=s.n2:=OwnG.len (e:=3) h.o2
theorem OwnS.l3 {w:World} {base:Nat} {s:StR} (h:OwnS w base s):s.K.length=s.n3:=OwnG.len (e:=94) h.o3
theorem OwnS.l4 {w:World} {base:Nat} {s:StR} (h:OwnS w base s):s.P.length=s.n4:=OwnG.len (e:=30) h.o4
theorem sF {w:World} {g:Nat} {t:TypeId} {s:StR} (h:Blk w g t (ssA s)):w.cell? ⟨g,0,none⟩=some (.slice s.A1 s.n1 s.c1)∧w.cell? ⟨g,1,none⟩=some (.slice s.A2 s.n2 s.c2)∧w.cell? ⟨g,2,none⟩=some (.slice s.A3 s.n3 s.c3)∧w.cell? ⟨g,3,none⟩=some (.slice s.A4 s.n4 s.c4)∧w.cell? ⟨g,4,none⟩=some (.int .i64 s.G) :=
 ⟨h.cell 0,h.cell 1,h.cell 2,h.cell 3,h.cell 4⟩
def ss0:StR:=⟨none,0,0,[],none,0,0,[],none,0,0,[],none,0,0,[],0⟩
def StOut (w:World) (V:StV) (e:Ending) (w':World):Prop:=∃ s,e=.returned (.agg (ssA s))∧OwnS w' w.heap.size s∧s.V=V∧Ext w w'
end
section
open Go.RowKit
structure StB (w0 w:World) (g:Nat) (s:StR):Prop where
 blk:Blk w g 44 (ssA s)
 own:OwnS w w0.heap.size s
 low:Ext w0 w
 hg:w0.heap.size≤g
section
variable {w0 w w':World} {g:Nat} {s:StR}
theorem StB.ext (h:StB w0 w g s) (e:Ext w w'):StB w0 w' g s:=⟨h.blk.ext e,h.own.ext e,h.low.trans e,h.hg⟩
theorem StB.start {z:StR} (ho:OwnS w w0.heap.size z) (hbl:Blk w g 44 (ssA s)) (hl:Ext w0 w) (hg:w0.heap.size≤g):StB w0 (w.setCells g 0 (ssA z).toList) g z :=
 ⟨bW (ds:=ssA z) hbl rfl,ho.kept (gS _ _ _ _) hbl (by decide) (by decide) (by decide) (by decide),Below.setCells' hl hg _ _,hg⟩
theorem StB.row1 (h:StB w0 w g s) (hg:w.grownBy w' (Value.ownBlock (.slice s.A1 s.n1 s.c1))) {A:Option Addr} {n c:Nat} {C:List DeR} (ho:w'.ownsRow w0.heap.size 34 11 (.slice A n c) n (gcs C)) (hk:∀ d ∈ C,deW d) :
  StB w0 (w'.setCell ⟨g,0,none⟩ (.slice A n c)) g { s with A1:=A,n1:=n,c1:=c,C:=C }:=by
 have hb:Blk w' g 44 (ssA s):=h.blk.grown hg (oO h.own.o1 h.blk (by decide))
 have hs:=grown_set w' g 0 (.slice A n c)
 have o2:=World.ownsRow.kept h.own.o2 hg (own_ne h.own.o2 h.own.o1 (by decide))
 have o3:=World.ownsRow.kept h.own.o3 hg (own_ne h.own.o3 h.own.o1 (by decide))
 have o4:=World.ownsRow.kept h.own.o4 hg (own_ne h.own.o4 h.own.o1 (by decide))
 exact ⟨hb.set 0 _,OwnS.kept (s:={ s with A1:=A,n1:=n,c1:=c,C:=C }) ⟨ho,o2,o3,o4,hk,h.own.k2,h.own.k3,h.own.g⟩ hs hb (by decide) (by decide) (by decide) (by decide),
  (Below.grown h.low hg h.low.size (fun k hk=>(World.ownsRow.lt h.own.o1 k hk).1)).setCell (p:=⟨g,0,none⟩) h.hg _,h.hg⟩
theorem StB.row3 (h:StB w0 w g s) (hg:w.grownBy w' (Value.ownBlock (.slice s.A3 s.n3 s.c3))) {A:Option Addr} {n c:Nat} {C:List LkR} (ho:w'.ownsRow w0.heap.size 94 19 (.slice A n c) n (gcs C)) (hk:∀ d ∈ C,lkW d) :
  StB w0 (w'.setCell ⟨g,2,none⟩ (.slice A n c)) g { s with A3:=A,n3:=n,c3:=c,K:=C }:=by
 have hb:Blk w' g 44 (ssA s):=h.blk.grown hg (oO h.own.o3 h.blk (by decide))
 have hs:=grown_set w' g 2 (.slice A n c)
 have o1:=World.ownsRow.kept h.own.o1 hg (own_ne h.own.o1 h.own.o3 (by decide))
 have o2:=World.ownsRow.kept h.own.o2 hg (own_ne h.own.o2 h.own.o3 (by decide))
 have o4:=World.ownsRow.kept h.own.o4 hg (own_ne h.own.o4 h.own.o3 (by decide))
 exact ⟨hb.set 2 _,OwnS.kept (s:={ s with A3:=A,n3:=n,c3:=c,K:=C }) ⟨o1,o2,ho,o4,h.own.k1,h.own.k2,hk,h.own.g⟩ hs hb (by decide) (by decide) (by decide) (by decide),
  (Below.grown h.low hg h.low.size (fun k hk=>(World.ownsRow.lt h.own.o3 k hk).1)).setCell (p:=⟨g,2,none⟩) h.hg _,h.hg⟩
theorem StB.row4 (h:StB w0 w g s) (hg:w.grownBy w' (Value.ownBlock (.slice s.A4 s.n4 s.c4))) {A:Option Addr} {n c:Nat} {C:List UInt64} (ho:w'.ownsRow w0.heap.size 30 8 (.slice A n c) n (gcs C)) :
  StB w0 (w'.setCell ⟨g,3,none⟩ (.slice A n c)) g { s with A4:=A,n4:=n,c4:=c,P:=C }:=by
 have hb:Blk w' g 44 (ssA s):=h.blk.grown hg (oO h.own.o4 h.blk (by decide))
 have hs:=grown_set w' g 3 (.slice A n c)
 have o1:=World.ownsRow.kept h.own.o1 hg (own_ne h.own.o1 h.own.o4 (by decide))
 have o2:=World.ownsRow.kept h.own.o2 hg (own_ne h.own.o2 h.own.o4 (by decide))
 have o3:=World.ownsRow.kept h.own.o3 hg (own_ne h.own.o3 h.own.o4 (by decide))
 exact ⟨hb.set 3 _,OwnS.kept (s:={ s with A4:=A,n4:=n,c4:=c,P:=C }) ⟨o1,o2,o3,ho,h.own.k1,h.own.k2,h.own.k3,h.own.g⟩ hs hb (by decide) (by decide) (by decide) (by decide),
  (Below.grown h.low hg h.low.size (fun k hk=>(World.ownsRow.lt h.own.o4 k hk).1)).setCell (p:=⟨g,3,none⟩) h.hg _,h.hg⟩
theorem StB.cell1 (h:StB w0 w g s) {b:Nat} (hA:s.A1=some ⟨b,0,none⟩) (j:Nat) (v:Value) {C:List DeR} (hc:(gcs s.C).set j v=gcs C) (hk:∀ d ∈ C,deW d) :
  StB w0 (w.setCell ⟨b,j,none⟩ v) g { s with C:=C }:=by
 obtain ⟨A1,n1,c1,C1,A2,n2,c2,Q1,A3,n3,c3,K1,A4,n4,c4,P1,G1⟩:=s
 simp only at hA hc
 subst hA
 obtain ⟨k1,k2⟩:=World.ownsRow.stored h.own.o1 j v
 rw [hc] at k1
 have hg:w.grownBy (w.setCell ⟨b,j,none⟩ v) (some b):=k2
 have hb:Blk (w.setCell ⟨b,j,none⟩ v) g 44 _:=h.blk.grown hg (oO h.own.o1 h.blk (by decide))
 have o2:=World.ownsRow.kept h.own.o2 hg (own_ne h.own.o2 h.own.o1 (by decide))
 have o3:=World.ownsRow.kept h.own.o3 hg (own_ne h.own.o3 h.own.o1 (by decide))
 have o4:=World.ownsRow.kept h.own.o4 hg (own_ne h.own.o4 h.own.o1 (by decide))
 exact ⟨hb,⟨k1,o2,o3,o4,hk,h.own.k2,h.own.k3,h.own.g⟩,Below.grown h.low hg h.low.size (fun k hk=>(World.ownsRow.lt h.own.o1 k hk).1),h.hg⟩
theorem StB.cell2 (h:StB w0 w g s) {b:Nat} (hA:s.A2=some ⟨b,0,none⟩) (j:Nat) (z:Int) (hz:wfI z) (hj:j < s.n2) :
  StB w0 (w.setCell ⟨b,j,none⟩ (.int .i64 z)) g { s with Q:=s.Q.set j z }:=by
 obtain ⟨A1,n1,c1,C1,A2,n2,c2,Q1,A3,n3,c3,K1,A4,n4,c4,P1,G1⟩:=s
 simp only at hA hj
 subst hA
 have hl:=h.own.l2
 obtain ⟨k1,k2⟩:=World.ownsRow.stored h.own.o2 j (.int .i64 z)
 have hc:(gcs Q1).set j (.int .i64 z)=gcs (Q1.set j z):=by
  have e:∀ L:List Int,gcs L=L.map fun z=>Value.int .i64 z:=fun L=>by
   induction L with
   | nil=>rfl
   | cons x r ih=>rw [gcs_cons,ih];rfl
  rw [e,e,List.map_set]
 simp only at k1
 rw [hc] at k1
 have hg:w.grownBy (w.setCell ⟨b,j,none⟩ (.int .i64 z)) (some b):=k2
 have hb:Blk (w.setCell ⟨b,j,none⟩ (.int .i64 z)) g 44 _:=h.blk.grown hg (oO h.own.o2 h.blk (by decide))
 have o1:=World.ownsRow.kept h.own.o1 hg (own_ne h.own.o1 h.own.o2 (by decide))
 have o3:=World.ownsRow.kept h.own.o3 hg (own_ne h.own.o3 h.own.o2 (by decide))
 have o4:=World.ownsRow.kept h.own.o4 hg (own_ne h.own.o4 h.own.o2 (by decide))
 exact ⟨hb,⟨o1,k1,o3,o4,h.own.k1,fun y hy=>by
  rcases List.mem_or_eq_of_mem_set hy with hy | rfl
  ·exact h.own.k2 _ hy
  exact hz,h.own.k3,h.own.g⟩,Below.grown h.low hg h.low.size (fun k hk=>(World.ownsRow.lt h.own.o2 k hk).1),h.hg⟩
theorem StB.guilty (h:StB w0 w g s) (z:Int) (hz:wfI z):StB w0 (w.setCell ⟨g,4,none⟩ (.int .i64 z)) g { s with G:=z }:=by
 have hs:=grown_set w g 4 (.int .i64 z)
 have:=OwnS.kept h.own hs h.blk (by decide) (by decide) (by decide) (by decide)
 exact ⟨h.blk.set 4 _,⟨this.o1,this.o2,this.o3,this.o4,this.k1,this.k2,this.k3,hz⟩,h.low.setCell (p:=⟨g,4,none⟩) h.hg _,h.hg⟩
theorem StB.far (h:StB w0 w g s) (hg:w.grownBy w' (Value.ownBlock (.slice s.A1 s.n1 s.c1))) {X:Nat} {t:TypeId} {cs:Array Value} (hb:Blk w X t cs) (ht:t ≠ 34):Blk w' X t cs:=hb.grown hg (oO h.own.o1 hb ht)
end
section
variable {C:List DeR} {c:CeR}
theorem fd_none (h:∀ k,k < C.length→decide ((nthG C k).c=c)=false):fdC C c=none:=by
 refine fdC_none.2 (fun d hd e=>?_)
 obtain ⟨k,hk,rfl⟩:=List.getElem_of_mem hd
 have:=h k hk
 rw [← nthG_eq hk] at this
 exact (of_decide_eq_false this) e
theorem fd_some:∀ {C:List DeR} {k:Nat},k < C.length→decide ((nthG C k).c=c)=true→(∀ j,j < k→decide ((nthG C j).c=c)=false)→fdC C c=some (nthG C k)
 | [],k,hk,_,_=>by simp at hk
 | d :: r,0,_,h1,_=>by rw [fdC_cons,if_pos (show d.c=c from of_decide_eq_true h1)];rfl
 | d :: r,k+1,hk,h1,h2=>by
  have:=h2 0 (by omega)
  rw [fdC_cons,if_neg (show ¬ d.c=c from of_decide_eq_false this)]
  exact fd_some (C:=r) (by simpa using hk) h1 (fun j hj=>h2 (j+1) (by omega))
theorem setC_at (n:Int):∀ {C:List DeR} {k:Nat},k < C.length→decide ((nthG C k).c=c)=true→(∀ j,j < k→decide ((nthG C j).c=c)=false)→setC c n C=if n=0 then C.take k ++ C.drop (k+1) else C.set k ⟨(nthG C k).c,n⟩
 | [],k,hk,_,_=>by simp at hk
 | d :: r,0,_,h1,_=>by
  have h1':d.c=c:=of_decide_eq_true h1
  unfold setC
  rw [if_pos h1']
  split
  ·rfl
  rfl
 | d :: r,k+1,hk,h1,h2=>by
  have:=h2 0 (by omega)
  have h0:¬ d.c=c:=of_decide_eq_false this
  unfold setC
  rw [if_neg h0,setC_at n (C:=r) (by simpa using hk) h1 (fun j hj=>h2 (j+1) (by omega))]
  split
  ·rfl
  rfl
theorem gcs_amt:∀ {C:List DeR} {k:Nat} (n:Int),k < C.length→(gcs C).set (k * 11+10) (.int .i64 n)=gcs (C.set k ⟨(nthG C k).c,n⟩)
 | [],k,n,hk=>by simp at hk
 | d :: r,0,n,_=>by
  rw [gcs_cons,List.set_cons_zero,gcs_cons,List.set_append_left _ _ (by show 10 < 11;omega)]
  rfl
 | d :: r,k+1,n,hk=>by
  rw [gcs_cons,List.set_cons_succ,gcs_cons,List.set_append_right _ _ (by show 11≤_;omega)]
  have:=gcs_amt (C:=r) (k:=k) n (by simpa using hk)
  rw [show (k+1) * 11+10 - (RowT.enc d).length=k * 11+10 from by show (k+1) * 11+10 - 11=_;omega,this]
  rfl
theorem addC_len (C:List DeR) (c:CeR) (a:Int):(addC C c a).length≤C.length+1:=by
 have hi:∀ (p:DeR→Bool) (x:DeR) (L:List DeR),(insB p x L).length=L.length+1:=fun p x L=>by
  induction L with
  | nil=>rfl
  | cons y r ih=>unfold insB;split <;> simp [ih]
 have hs:∀ (n:Int) (L:List DeR),(setC c n L).length≤L.length:=fun n L=>by
  induction L with
  | nil=>exact Nat.le_refl _
  | cons y r ih=>unfold setC;split <;> (try split) <;> simp <;> omega
 unfold addC
 split
 ·split
  ·omega
  rw [hi];exact Nat.le_refl _
 exact Nat.le_trans (hs _ _) (Nat.le_succ _)
theorem addL_len (l:List DeR):∀ (C:List DeR),(addL C l).length≤C.length+l.length:=by
 induction l with
 | nil=>intro C;exact Nat.le_refl _
 | cons d r ih =>
  intro C
  show (addL (addC C d.c d.a) r).length≤_
  have h1:=ih (addC C d.c d.a)
  have h2:=addC_len C d.c d.a
  rw [List.length_cons];omega
theorem addL_take {l:List DeR} {k:Nat} (hk:k < l.length) (C:List DeR):addL C (l.take (k+1))=addC (addL C (l.take k)) (nthG l k).c (nthG l k).a:=by
 rw [take_nthG hk];unfold addL;rw [List.foldl_append];rfl
end
end
end Go.Proofs.YtohmmcahpakokaaGreat
