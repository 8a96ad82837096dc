/- A state in a variable, its rows one's own: what stores and calls on its rows leave of it. -/
import Derived.Lib.Overlaps
import Derived.Lib.AppendZerosOnto
import Derived.Lib.SliceRun
import Derived.Deep.Cut
import Derived.ArgAppend
import Derived.Test.YtohmmcahpakokaaGreatJ22
import Derived.Test.YtohmmcahpakokaaGreatJ24
set_option maxRecDepth 100000
set_option maxHeartbeats 8000000
set_option linter.unusedVariables false
set_option linter.unusedSimpArgs false
namespace Go.Proofs.YtohmmcahpakokaaGreat
section
open Go.RowKit
structure StB (w0 w:World) (g:Nat) (s:StR):Prop where
 blk:Blk w g 44 (ssA s)
 own:OwnS w w0.heap.size s
 low:Ext w0 w
 hg:w0.heap.size≤g
section
variable {w0 w w':World} {g:Nat} {s:StR}
theorem StB.ext (h:StB w0 w g s) (e:Ext w w'):StB w0 w' g s:=⟨h.blk.ext e,h.own.ext e,h.low.trans e,h.hg⟩
theorem StB.start {z:StR} (ho:OwnS w w0.heap.size z) (hbl:Blk w g 44 (ssA s)) (hl:Ext w0 w) (hg:w0.heap.size≤g):StB w0 (w.setCells g 0 (ssA z).toList) g z :=
 ⟨aR (ds:=ssA z) hbl rfl,ho.kept (aC _ _ _ _) hbl (by decide) (by decide) (by decide) (by decide),Below.setCells' hl hg _ _,hg⟩
theorem StB.row1 (h:StB w0 w g s) (hg:w.grownBy w' (Value.ownBlock (.slice s.A1 s.n1 s.c1))) {A:Option Addr} {n c:Nat} {C:List DeR} (ho:w'.ownsRow w0.heap.size 34 11 (.slice A n c) n (gcs C)) (hk:∀ d ∈ C,deW d) :
  StB w0 (w'.setCell ⟨g,0,none⟩ (.slice A n c)) g { s with A1:=A,n1:=n,c1:=c,C:=C }:=by
 have hb:Blk w' g 44 (ssA s):=h.blk.grown hg (aI h.own.o1 h.blk (by decide))
 have hs:=kY w' g 0 (.slice A n c)
 have o2:=World.ownsRow.kept h.own.o2 hg (dB h.own.o2 h.own.o1 (by decide))
 have o3:=World.ownsRow.kept h.own.o3 hg (dB h.own.o3 h.own.o1 (by decide))
 have o4:=World.ownsRow.kept h.own.o4 hg (dB h.own.o4 h.own.o1 (by decide))
 exact ⟨hb.set 0 _,OwnS.kept (s:={ s with A1:=A,n1:=n,c1:=c,C:=C }) ⟨ho,o2,o3,o4,hk,h.own.k2,h.own.k3,h.own.g⟩ hs hb (by decide) (by decide) (by decide) (by decide),
  (Below.grown h.low hg h.low.size (fun k hk=>(World.ownsRow.lt h.own.o1 k hk).1)).setCell (p:=⟨g,0,none⟩) h.hg _,h.hg⟩
theorem StB.row3 (h:StB w0 w g s) (hg:w.grownBy w' (Value.ownBlock (.slice s.A3 s.n3 s.c3))) {A:Option Addr} {n c:Nat} {C:List LkR} (ho:w'.ownsRow w0.heap.size 94 19 (.slice A n c) n (gcs C)) (hk:∀ d ∈ C,lkW d) :
  StB w0 (w'.setCell ⟨g,2,none⟩ (.slice A n c)) g { s with A3:=A,n3:=n,c3:=c,K:=C }:=by
 have hb:Blk w' g 44 (ssA s):=h.blk.grown hg (aI h.own.o3 h.blk (by decide))
 have hs:=kY w' g 2 (.slice A n c)
 have o1:=World.ownsRow.kept h.own.o1 hg (dB h.own.o1 h.own.o3 (by decide))
 have o2:=World.ownsRow.kept h.own.o2 hg (dB h.own.o2 h.own.o3 (by decide))
 have o4:=World.ownsRow.kept h.own.o4 hg (dB h.own.o4 h.own.o3 (by decide))
 exact ⟨hb.set 2 _,OwnS.kept (s:={ s with A3:=A,n3:=n,c3:=c,K:=C }) ⟨o1,o2,ho,o4,h.own.k1,h.own.k2,hk,h.own.g⟩ hs hb (by decide) (by decide) (by decide) (by decide),
  (Below.grown h.low hg h.low.size (fun k hk=>(World.ownsRow.lt h.own.o3 k hk).1)).setCell (p:=⟨g,2,none⟩) h.hg _,h.hg⟩
theorem StB.row4 (h:StB w0 w g s) (hg:w.grownBy w' (Value.ownBlock (.slice s.A4 s.n4 s.c4))) {A:Option Addr} {n c:Nat} {C:List UInt64} (ho:w'.ownsRow w0.heap.size 30 8 (.slice A n c) n (gcs C)) :
  StB w0 (w'.setCell ⟨g,3,none⟩ (.slice A n c)) g { s with A4:=A,n4:=n,c4:=c,P:=C }:=by
 have hb:Blk w' g 44 (ssA s):=h.blk.grown hg (aI h.own.o4 h.blk (by decide))
 have hs:=kY w' g 3 (.slice A n c)
 have o1:=World.ownsRow.kept h.own.o1 hg (dB h.own.o1 h.own.o4 (by decide))
 have o2:=World.ownsRow.kept h.own.o2 hg (dB h.own.o2 h.own.o4 (by decide))
 have o3:=World.ownsRow.kept h.own.o3 hg (dB h.own.o3 h.own.o4 (by decide))
 exact ⟨hb.set 3 _,OwnS.kept (s:={ s with A4:=A,n4:=n,c4:=c,P:=C }) ⟨o1,o2,o3,ho,h.own.k1,h.own.k2,h.own.k3,h.own.g⟩ hs hb (by decide) (by decide) (by decide) (by decide),
  (Below.grown h.low hg h.low.size (fun k hk=>(World.ownsRow.lt h.own.o4 k hk).1)).setCell (p:=⟨g,3,none⟩) h.hg _,h.hg⟩
theorem StB.cell1 (h:StB w0 w g s) {b:Nat} (hA:s.A1=some ⟨b,0,none⟩) (j:Nat) (v:Value) {C:List DeR} (hc:(gcs s.C).set j v=gcs C) (hk:∀ d ∈ C,deW d) :
  StB w0 (w.setCell ⟨b,j,none⟩ v) g { s with C:=C }:=by
 obtain ⟨A1,n1,c1,C1,A2,n2,c2,Q1,A3,n3,c3,K1,A4,n4,c4,P1,G1⟩:=s
 simp only at hA hc
 subst hA
 obtain ⟨k1,k2⟩:=World.ownsRow.stored h.own.o1 j v
 rw [hc] at k1
 have hg:w.grownBy (w.setCell ⟨b,j,none⟩ v) (some b):=k2
 have hb:Blk (w.setCell ⟨b,j,none⟩ v) g 44 _:=h.blk.grown hg (aI h.own.o1 h.blk (by decide))
 have o2:=World.ownsRow.kept h.own.o2 hg (dB h.own.o2 h.own.o1 (by decide))
 have o3:=World.ownsRow.kept h.own.o3 hg (dB h.own.o3 h.own.o1 (by decide))
 have o4:=World.ownsRow.kept h.own.o4 hg (dB h.own.o4 h.own.o1 (by decide))
 exact ⟨hb,⟨k1,o2,o3,o4,hk,h.own.k2,h.own.k3,h.own.g⟩,Below.grown h.low hg h.low.size (fun k hk=>(World.ownsRow.lt h.own.o1 k hk).1),h.hg⟩
theorem StB.cell2 (h:StB w0 w g s) {b:Nat} (hA:s.A2=some ⟨b,0,none⟩) (j:Nat) (z:Int) (hz:wfI z) (hj:j < s.n2) :
  StB w0 (w.setCell ⟨b,j,none⟩ (.int .i64 z)) g { s with Q:=s.Q.set j z }:=by
 obtain ⟨A1,n1,c1,C1,A2,n2,c2,Q1,A3,n3,c3,K1,A4,n4,c4,P1,G1⟩:=s
 simp only at hA hj
 subst hA
 have hl:=h.own.l2
 obtain ⟨k1,k2⟩:=World.ownsRow.stored h.own.o2 j (.int .i64 z)
 have hc:(gcs Q1).set j (.int .i64 z)=gcs (Q1.set j z):=by
  have e:∀ L:List Int,gcs L=L.map fun z=>Value.int .i64 z:=fun L=>by
   induction L with
   | nil=>rfl
   | cons x r ih=>rw [cW,ih];rfl
  rw [e,e,List.map_set]
 simp only at k1
 rw [hc] at k1
 have hg:w.grownBy (w.setCell ⟨b,j,none⟩ (.int .i64 z)) (some b):=k2
 have hb:Blk (w.setCell ⟨b,j,none⟩ (.int .i64 z)) g 44 _:=h.blk.grown hg (aI h.own.o2 h.blk (by decide))
 have o1:=World.ownsRow.kept h.own.o1 hg (dB h.own.o1 h.own.o2 (by decide))
 have o3:=World.ownsRow.kept h.own.o3 hg (dB h.own.o3 h.own.o2 (by decide))
 have o4:=World.ownsRow.kept h.own.o4 hg (dB h.own.o4 h.own.o2 (by decide))
 exact ⟨hb,⟨o1,k1,o3,o4,h.own.k1,fun y hy=>by
  rcases List.mem_or_eq_of_mem_set hy with hy | rfl
  ·exact h.own.k2 _ hy
  exact hz,h.own.k3,h.own.g⟩,Below.grown h.low hg h.low.size (fun k hk=>(World.ownsRow.lt h.own.o2 k hk).1),h.hg⟩
theorem StB.guilty (h:StB w0 w g s) (z:Int) (hz:wfI z):StB w0 (w.setCell ⟨g,4,none⟩ (.int .i64 z)) g { s with G:=z }:=by
 have hs:=kY w g 4 (.int .i64 z)
 have:=OwnS.kept h.own hs h.blk (by decide) (by decide) (by decide) (by decide)
 exact ⟨h.blk.set 4 _,⟨this.o1,this.o2,this.o3,this.o4,this.k1,this.k2,this.k3,hz⟩,h.low.setCell (p:=⟨g,4,none⟩) h.hg _,h.hg⟩
theorem StB.far (h:StB w0 w g s) (hg:w.grownBy w' (Value.ownBlock (.slice s.A1 s.n1 s.c1))) {X:Nat} {t:TypeId} {cs:Array Value} (hb:Blk w X t cs) (ht:t ≠ 34):Blk w' X t cs:=hb.grown hg (aI h.own.o1 hb ht)
end
section
variable {C:List DeR} {c:CeR}
theorem sZ (h:∀ k,k < C.length→decide ((nthG C k).c=c)=false):fdC C c=none:=by
 refine vJ.2 (fun d hd e=>?_)
 obtain ⟨k,hk,rfl⟩:=List.getElem_of_mem hd
 have:=h k hk
 rw [← cC hk] at this
 exact (of_decide_eq_false this) e
theorem qE:∀ {C:List DeR} {k:Nat},k < C.length→decide ((nthG C k).c=c)=true→(∀ j,j < k→decide ((nthG C j).c=c)=false)→fdC C c=some (nthG C k)
 | [],k,hk,_,_=>by simp at hk
 | d :: r,0,_,h1,_=>by rw [cX,if_pos (show d.c=c from of_decide_eq_true h1)];rfl
 | d :: r,k+1,hk,h1,h2=>by
  have:=h2 0 (by omega)
  rw [cX,if_neg (show ¬ d.c=c from of_decide_eq_false this)]
  exact qE (C:=r) (by simpa using hk) h1 (fun j hj=>h2 (j+1) (by omega))
theorem zB (n:Int):∀ {C:List DeR} {k:Nat},k < C.length→decide ((nthG C k).c=c)=true→(∀ j,j < k→decide ((nthG C j).c=c)=false)→lF c n C=if n=0 then C.take k ++ C.drop (k+1) else C.set k ⟨(nthG C k).c,n⟩
 | [],k,hk,_,_=>by simp at hk
 | d :: r,0,_,h1,_=>by
  have h1':d.c=c:=of_decide_eq_true h1
  unfold lF
  rw [if_pos h1']
  split
  ·rfl
  rfl
 | d :: r,k+1,hk,h1,h2=>by
  have:=h2 0 (by omega)
  have h0:¬ d.c=c:=of_decide_eq_false this
  unfold lF
  rw [if_neg h0,zB n (C:=r) (by simpa using hk) h1 (fun j hj=>h2 (j+1) (by omega))]
  split
  ·rfl
  rfl
theorem aAl:∀ {C:List DeR} {k:Nat} (n:Int),k < C.length→(gcs C).set (k * 11+10) (.int .i64 n)=gcs (C.set k ⟨(nthG C k).c,n⟩)
 | [],k,n,hk=>by simp at hk
 | d :: r,0,n,_=>by
  rw [cW,List.set_cons_zero,cW,List.set_append_left _ _ (by show 10 < 11;omega)]
  rfl
 | d :: r,k+1,n,hk=>by
  rw [cW,List.set_cons_succ,cW,List.set_append_right _ _ (by show 11≤_;omega)]
  have:=aAl (C:=r) (k:=k) n (by simpa using hk)
  rw [show (k+1) * 11+10 - (RowT.enc d).length=k * 11+10 from by show (k+1) * 11+10 - 11=_;omega,this]
  rfl
theorem wD (C:List DeR) (c:CeR) (a:Int):(dK C c a).length≤C.length+1:=by
 have hi:∀ (p:DeR→Bool) (x:DeR) (L:List DeR),(eB p x L).length=L.length+1:=fun p x L=>by
  induction L with
  | nil=>rfl
  | cons y r ih=>unfold eB;split <;> simp [ih]
 have hs:∀ (n:Int) (L:List DeR),(lF c n L).length≤L.length:=fun n L=>by
  induction L with
  | nil=>exact Nat.le_refl _
  | cons y r ih=>unfold lF;split <;> (try split) <;> simp <;> omega
 unfold dK
 split
 ·split
  ·omega
  rw [hi];exact Nat.le_refl _
 exact Nat.le_trans (hs _ _) (Nat.le_succ _)
theorem qP (l:List DeR):∀ (C:List DeR),(addL C l).length≤C.length+l.length:=by
 induction l with
 | nil=>intro C;exact Nat.le_refl _
 | cons d r ih =>
  intro C
  show (addL (dK C d.c d.a) r).length≤_
  have h1:=ih (dK C d.c d.a)
  have h2:=wD C d.c d.a
  rw [List.length_cons];omega
theorem yR {l:List DeR} {k:Nat} (hk:k < l.length) (C:List DeR):addL C (l.take (k+1))=dK (addL C (l.take k)) (nthG l k).c (nthG l k).a:=by
 rw [fX hk];unfold addL;rw [List.foldl_append];rfl
end
end
section
open Go.RowKit
attribute [local go_sem ↓] Go.wp_at_zero Go.wp_at_succ
theorem nK (k i:Int):ceA ⟨k,i,0⟩=#[.int .i64 k,.int .i64 i,.int .u8 0,.int .u8 0,.int .u8 0,.int .u8 0,.int .u8 0,.int .u8 0,.int .u8 0,.int .u8 0]:=by
 unfold ceA;simp only [cN 0 (by omega),cN 1 (by omega),cN 2 (by omega),cN 3 (by omega),cN 4 (by omega),cN 5 (by omega),cN 6 (by omega),cN 7 (by omega)]
theorem eF (i:Int) (w:World):Calls Tryz.prog 82 #[.int .i64 i] w fun e w'=>e=.returned (.agg (ceA (aZ i)))∧Ext w w':=by
 have HB:=zh (Blk.new w 32 ce0)
 have HX:=zh ((Ext.refl w).alloc' (.cells ce0 32))
 have ht:(w.alloc (.cells ce0 32)).there w.heap.size 0 (RowT.sz CeR):=aT HB.out
 have HV:=zh (show Value.agg (ceA (aZ i))=.agg #[.int .i64 1,.int .i64 i,.int .u8 0,.int .u8 0,.int .u8 0,.int .u8 0,.int .u8 0,.int .u8 0,.int .u8 0,.int .u8 0] by unfold aZ;rw [nK])
 go_enter Tryz.func82,Tryz.ntmps82
 go_wp2_with ((with_reducible refine bK ceP rfl (.tmp 2) (.tmp 4) rfl w.heap.size 0 rfl (aZ i) _ HV.out rfl ht ?_))
 have hst:=aR (ds:=ceA (aZ i)) HB.out rfl
 exact bodyPost_ret (gB rfl _ _ w.heap.size _ rfl (run_loadVar_row _ _ _ _ _ (0,0) _ hst Tryz.underlying32 rfl (by kernel_rfl))) rfl ⟨rfl,Below.setCells' HX.out (Nat.le_refl _) _ _⟩
theorem qS (i:Int) (w:World):Calls Tryz.prog 80 #[.int .i64 i] w fun e w'=>e=.returned (.agg (ceA (cK i)))∧Ext w w':=by
 have HB:=zh (Blk.new w 32 ce0)
 have HX:=zh ((Ext.refl w).alloc' (.cells ce0 32))
 have ht:(w.alloc (.cells ce0 32)).there w.heap.size 0 (RowT.sz CeR):=aT HB.out
 have HV:=zh (show Value.agg (ceA (cK i))=.agg #[.int .i64 3,.int .i64 i,.int .u8 0,.int .u8 0,.int .u8 0,.int .u8 0,.int .u8 0,.int .u8 0,.int .u8 0,.int .u8 0] by unfold cK;rw [nK])
 go_enter Tryz.func80,Tryz.ntmps80
 go_wp2_with ((with_reducible refine bK ceP rfl (.tmp 2) (.tmp 4) rfl w.heap.size 0 rfl (cK i) _ HV.out rfl ht ?_))
 have hst:=aR (ds:=ceA (cK i)) HB.out rfl
 exact bodyPost_ret (gB rfl _ _ w.heap.size _ rfl (run_loadVar_row _ _ _ _ _ (0,0) _ hst Tryz.underlying32 rfl (by kernel_rfl))) rfl ⟨rfl,Below.setCells' HX.out (Nat.le_refl _) _ _⟩
theorem pO (w:World):Calls Tryz.prog 68 #[] w fun e w'=>e=.returned (.agg (ceA bU))∧Ext w w':=by
 have HB:=zh (Blk.new w 32 ce0)
 have HX:=zh ((Ext.refl w).alloc' (.cells ce0 32))
 have ht:(w.alloc (.cells ce0 32)).there w.heap.size 0 (RowT.sz CeR):=aT HB.out
 have HV:=zh (show Value.agg (ceA bU)=.agg #[.int .i64 4,.int .i64 0,.int .u8 0,.int .u8 0,.int .u8 0,.int .u8 0,.int .u8 0,.int .u8 0,.int .u8 0,.int .u8 0] by unfold bU;rw [nK])
 go_enter Tryz.func68,Tryz.ntmps68
 go_wp2_with ((with_reducible refine bK ceP rfl (.tmp 0) (.tmp 1) rfl w.heap.size 0 rfl bU _ HV.out rfl ht ?_))
 have hst:=aR (ds:=ceA bU) HB.out rfl
 exact bodyPost_ret (gB rfl _ _ w.heap.size _ rfl (run_loadVar_row _ _ _ _ _ (0,0) _ hst Tryz.underlying32 rfl (by kernel_rfl))) rfl ⟨rfl,Below.setCells' HX.out (Nat.le_refl _) _ _⟩
section
variable {ops:Array Oper} {rest:List Oper} {o:Oper} {a:Act} {w:World} {K:Act→World→Prop} {Q:Exit→Act→World→Prop} {S:World→Prop}
theorem kZ {ty:TypeId} {i j:Nat} (x y:Operand) (ho:o.op=.build ty #[(i,x),(j,y)]) {vx vy v:Value} (hx:a.eval x=vx) (hy:a.eval y=vy) (hr:∀ w,(Instr.build ty #[(i,vx),(j,vy)]).run Tryz.prog w=.ok v w) (w:World):(execOp a.eval o).run Tryz.prog w=.ok (.value v) w:=by
 unfold execOp
 simp only [ho,List.map_toArray,List.map_cons,List.map_nil,hx,hy,Sem.run_bind,hr,Result.andThen_ok,Sem.run_pure]
theorem gU (hgd:o.guard=none) {v:Value} (hr:∀ w,(execOp a.eval o).run Tryz.prog w=.ok (.value v) w) (h:wpList Tryz.prog ops Q rest (a.put o.dst v) w):wpList Tryz.prog ops Q (o :: rest) a w :=
 wpList_plain hgd fun K hK=>by
  unfold Oper.wp
  rw [hr w]
  exact hK _ _ h
theorem aCd {ty:TypeId} (x y:Operand) (ho:o.op=.buildSlice ty 2 #[(0,x),(1,y)]) {vx vy v:Value} {w2:World} (hx:a.eval x=vx) (hy:a.eval y=vy) (hr:(Instr.buildSlice ty 2 #[(0,vx),(1,vy)]).run Tryz.prog w=.ok v w2):(execOp a.eval o).run Tryz.prog w=.ok (.value v) w2:=by
 unfold execOp
 simp only [ho,List.map_toArray,List.map_cons,List.map_nil,hx,hy,Sem.run_bind,hr,Result.andThen_ok,Sem.run_pure]
theorem oA (hgd:o.guard=none) {v:Value} {w2:World} (hr:(execOp a.eval o).run Tryz.prog w=.ok (.value v) w2) (h:wpList Tryz.prog ops Q rest (a.put o.dst v) w2):wpList Tryz.prog ops Q (o :: rest) a w :=
 wpList_plain hgd fun K hK=>by
  unfold Oper.wp
  rw [hr]
  exact hK _ _ h
theorem aCC (hw:Region.wanted o (yielded ops a.tmps)=true) {v:Value} (hr:∀ w,(execOp a.eval o).run Tryz.prog w=.ok (.value v) w):YieldsIf Tryz.prog ops S o v a:=.inl ⟨hw,fun w _=>hr w⟩
end
theorem aDb (n:UInt64) (w:World):(Instr.build 32 #[(0,.int .i64 2),(2,.agg (nmc n))]).run Tryz.prog w=.ok (.agg (ceA (dS n))) w:=by
 rw [← gH n];kernel_rfl
theorem lN (n:UInt64) (w:World):Calls Tryz.prog 83 #[.agg (nmc n)] w fun e w'=>e=.returned (.agg (ceA (dS n)))∧Ext w w':=by
 obtain ⟨W,hW⟩:∃ W,(w.alloc (.cells (nmc n) 30)).alloc (.cells ce0 32)=W:=⟨_,rfl⟩
 have HB:=zh (show Blk W (w.heap.size+1) 32 ce0 from by rw [← hW];exact Blk.newAt _ _ _ _ (by simp))
 have HX:=zh (show Ext w W from by rw [← hW];exact ((Ext.refl w).alloc' _).alloc' _)
 have ht:W.there (w.heap.size+1) 0 (RowT.sz CeR):=aT HB.out
 have r0:W.rangeAt w.heap.size 0 (RowT.enc n):=bM (show Blk W w.heap.size 30 (nmc n) from by rw [← hW];exact (Blk.new w 30 (nmc n)).alloc _)
 obtain ⟨v,hv⟩:∃ v,Value.agg (ceA (dS n))=v:=⟨_,rfl⟩
 have HR:=zh (fun W=>aDb n W)
 rw [hv] at HR ⊢
 have HV:=zh hv
 clear hv
 go_enter Tryz.func83,Tryz.ntmps83
 go_wp2_with (first | (with_reducible refine aB nmP rfl (.tmp 1) rfl w.heap.size 0 rfl n _ rfl r0 ?_) | (with_reducible refine gU rfl (kZ (vx:=.int .i64 2) (vy:=.agg (nmc n)) (.const (.int .i64 2)) (.tmp 3) rfl rfl rfl HR.out) ?_) | (with_reducible refine bK ceP rfl (.tmp 2) (.tmp 4) rfl (w.heap.size+1) 0 rfl (dS n) v HV.out rfl ht ?_))
 have hst:=aR (ds:=ceA (dS n)) HB.out rfl
 exact bodyPost_ret (gB rfl _ _ (w.heap.size+1) _ rfl (run_loadVar_row _ _ _ _ _ (0,0) _ hst Tryz.underlying32 rfl (by kernel_rfl))) rfl ⟨by rw [HV.out],Below.setCells' HX.out (Nat.le_succ _) _ _⟩
def aJL (w:World) (l:List DeR) (e:Ending) (w':World):Prop:=∃ A n c,e=.returned (.slice A n c)∧SlG w' A n c l∧Ext w w'
theorem nB (c:CeR) (z:Int) (w:World):(Instr.build 34 #[(0,.agg (ceA c)),(1,.int .i64 z)]).run Tryz.prog w=.ok (.agg (deA ⟨c,z⟩)) w:=by kernel_rfl
theorem zD (a b:DeR) (w:World):(Instr.buildSlice 27 2 #[(0,.agg (deA a)),(1,.agg (deA b))]).run Tryz.prog w=.ok (.slice (some ⟨w.heap.size,0,none⟩) 2 2) (w.alloc (.cells (deA a ++ deA b) 34)):=by kernel_rfl
theorem aBD {x y:CeR} {n:Int} (hx:ceW x) (hy:ceW y) (hn:wfI n):∀ d ∈ dQ x y n,deW d:=by
 intro d hd
 simp only [dQ,List.mem_cons,List.not_mem_nil,or_false] at hd
 rcases hd with rfl | rfl
 ·exact ⟨hx,fH.2 (aAO _)⟩
 exact ⟨hy,hn⟩
theorem xK (x:Int):IntKind.i64.wrap x=wrap64 x:=by rw [IntKind.wrap_i64,wrap64]
theorem aLh {w:World} {g:Nat} {x y:CeR} {n:Int} (hx:ceW x) (hy:ceW y) (hn:wfI n) (hb:Blk w g 34 (deA ⟨x,IntKind.i64.wrap (-n)⟩ ++ deA ⟨y,n⟩)):SlG w (some ⟨g,0,none⟩) 2 2 (dQ x y n) :=
 ⟨rfl,Nat.le_refl _,by omega,by
  have:=Rd.of_blk hb
  rw [show (deA ⟨x,IntKind.i64.wrap (-n)⟩ ++ deA ⟨y,n⟩).toList=gcs (dQ x y n) from by
   rw [Array.toList_append]
   unfold dQ
   rw [cW,cW,aEq,List.append_nil];rfl] at this
  exact this,fun d hd=>aBD hx hy hn d hd⟩
theorem iQ (x y:CeR) (n:Int) (w:World) (hx:ceW x) (hy:ceW y) (hn:wfI n):Calls Tryz.prog 69 #[.agg (ceA x),.agg (ceA y),.int .i64 n] w (aJL w (dQ x y n)):=by
 obtain ⟨W,hW⟩:∃ W,(w.alloc (.cells (ceA x) 32)).alloc (.cells (ceA y) 32)=W:=⟨_,rfl⟩
 have HX:=zh (show Ext w W from by rw [← hW];exact ((Ext.refl w).alloc' _).alloc' _)
 have r0:W.rangeAt w.heap.size 0 (RowT.enc x):=aD (show Blk W w.heap.size 32 (ceA x) from by rw [← hW];exact (Blk.new w 32 (ceA x)).alloc _)
 have r1:W.rangeAt (w.heap.size+1) 0 (RowT.enc y):=aD (show Blk W (w.heap.size+1) 32 (ceA y) from by rw [← hW];exact Blk.newAt _ _ _ _ (by simp))
 obtain ⟨vx,hvx⟩:∃ v,Value.agg (ceA x)=v:=⟨_,rfl⟩
 obtain ⟨vy,hvy⟩:∃ v,Value.agg (ceA y)=v:=⟨_,rfl⟩
 obtain ⟨va,hva⟩:∃ v,Value.agg (deA ⟨x,wrap64 (-n)⟩)=v:=⟨_,rfl⟩
 obtain ⟨vb,hvb⟩:∃ v,Value.agg (deA ⟨y,n⟩)=v:=⟨_,rfl⟩
 have HRA:=zh (fun W=>nB x (wrap64 (-n)) W)
 have HRB:=zh (fun W=>nB y n W)
 have HR2:=zh (zD ⟨x,wrap64 (-n)⟩ ⟨y,n⟩ W)
 have HVX:=zh hvx
 have HVY:=zh hvy
 rw [hvx,hva] at HRA
 rw [hvy,hvb] at HRB
 rw [hva,hvb] at HR2
 obtain ⟨W2,hW2⟩:∃ W2,W.alloc (.cells (deA ⟨x,wrap64 (-n)⟩ ++ deA ⟨y,n⟩) 34)=W2:=⟨_,rfl⟩
 have HB2:=zh (show Blk W2 W.heap.size 34 (deA ⟨x,wrap64 (-n)⟩ ++ deA ⟨y,n⟩) from by rw [← hW2];exact Blk.new W 34 _)
 have HX2:=zh (show Ext w W2 from by rw [← hW2];exact HX.out.alloc' _)
 have HSL:=zh (aLh hx hy hn (by rw [xK];exact HB2.out))
 rw [hW2] at HR2
 clear hva hvb hvx hvy hW2 HB2 hx hy hn
 go_enter Tryz.func69,Tryz.ntmps69
 go_wp2_with (first | (with_reducible refine aB ceP rfl (.tmp 3) rfl w.heap.size 0 rfl x vx HVX.out r0 ?_) | (with_reducible refine aB ceP rfl (.tmp 4) rfl (w.heap.size+1) 0 rfl y vy HVY.out r1 ?_) | (with_reducible refine gU rfl (kZ (vx:=vx) (vy:=.int .i64 (wrap64 (-n))) (.tmp 7) (.tmp 9) rfl rfl rfl HRA.out) ?_) | (with_reducible refine gU rfl (kZ (vx:=vy) (vy:=.int .i64 n) (.tmp 11) (.tmp 12) rfl rfl rfl HRB.out) ?_) | (with_reducible refine oA rfl (aCd (vx:=va) (vy:=vb) (.tmp 10) (.tmp 13) rfl rfl rfl HR2.out) ?_))
 go_ret
 exact ⟨_,_,_,rfl,HSL.out,HX2.out⟩
end
end Go.Proofs.YtohmmcahpakokaaGreat
