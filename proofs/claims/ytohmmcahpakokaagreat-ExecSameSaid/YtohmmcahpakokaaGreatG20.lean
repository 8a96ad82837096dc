/- A state in a variable, its rows one's own: what stores and calls on its rows leave of it. -/
import Derived.Test.YtohmmcahpakokaaGreatG19
set_option maxRecDepth 100000
set_option maxHeartbeats 8000000
set_option linter.unusedVariables false
set_option linter.unusedSimpArgs false
namespace Go.Proofs.YtohmmcahpakokaaGreat
section
open Go.RowKit
structure StB (w0 w:World) (g:Nat) (s:StR):Prop where
 blk:Blk w g 44 (ssA s)
 own:OwnS w w0.heap.size s
 low:Ext w0 w
 hg:w0.heap.size≤g
section
variable {w0 w w':World} {g:Nat} {s:StR}
theorem StB.ext (h:StB w0 w g s) (e:Ext w w'):StB w0 w' g s:=⟨h.blk.ext e,h.own.ext e,h.low.trans e,h.hg⟩
theorem StB.start {z:StR} (ho:OwnS w w0.heap.size z) (hbl:Blk w g 44 (ssA s)) (hl:Ext w0 w) (hg:w0.heap.size≤g):StB w0 (w.setCells g 0 (ssA z).toList) g z :=
 ⟨aQ (ds:=ssA z) hbl rfl,ho.kept (aD _ _ _ _) hbl (by decide) (by decide) (by decide) (by decide),Below.setCells' hl hg _ _,hg⟩
theorem StB.row1 (h:StB w0 w g s) (hg:w.grownBy w' (Value.ownBlock (.slice s.A1 s.n1 s.c1))) {A:Option Addr} {n c:Nat} {C:List DeR} (ho:w'.ownsRow w0.heap.size 34 11 (.slice A n c) n (gcs C)) (hk:∀ d ∈ C,deW d) :
  StB w0 (w'.setCell ⟨g,0,none⟩ (.slice A n c)) g { s with A1:=A,n1:=n,c1:=c,C:=C }:=by
 have hb:Blk w' g 44 (ssA s):=h.blk.grown hg (aM h.own.o1 h.blk (by decide))
 have hs:=lA w' g 0 (.slice A n c)
 have o2:=World.ownsRow.kept h.own.o2 hg (dP h.own.o2 h.own.o1 (by decide))
 have o3:=World.ownsRow.kept h.own.o3 hg (dP h.own.o3 h.own.o1 (by decide))
 have o4:=World.ownsRow.kept h.own.o4 hg (dP h.own.o4 h.own.o1 (by decide))
 exact ⟨hb.set 0 _,OwnS.kept (s:={ s with A1:=A,n1:=n,c1:=c,C:=C }) ⟨ho,o2,o3,o4,hk,h.own.k2,h.own.k3,h.own.g⟩ hs hb (by decide) (by decide) (by decide) (by decide),
  (Below.grown h.low hg h.low.size (fun k hk=>(World.ownsRow.lt h.own.o1 k hk).1)).setCell (p:=⟨g,0,none⟩) h.hg _,h.hg⟩
theorem StB.row3 (h:StB w0 w g s) (hg:w.grownBy w' (Value.ownBlock (.slice s.A3 s.n3 s.c3))) {A:Option Addr} {n c:Nat} {C:List LkR} (ho:w'.ownsRow w0.heap.size 94 19 (.slice A n c) n (gcs C)) (hk:∀ d ∈ C,lkW d) :
  StB w0 (w'.setCell ⟨g,2,none⟩ (.slice A n c)) g { s with A3:=A,n3:=n,c3:=c,K:=C }:=by
 have hb:Blk w' g 44 (ssA s):=h.blk.grown hg (aM h.own.o3 h.blk (by decide))
 have hs:=lA w' g 2 (.slice A n c)
 have o1:=World.ownsRow.kept h.own.o1 hg (dP h.own.o1 h.own.o3 (by decide))
 have o2:=World.ownsRow.kept h.own.o2 hg (dP h.own.o2 h.own.o3 (by decide))
 have o4:=World.ownsRow.kept h.own.o4 hg (dP h.own.o4 h.own.o3 (by decide))
 exact ⟨hb.set 2 _,OwnS.kept (s:={ s with A3:=A,n3:=n,c3:=c,K:=C }) ⟨o1,o2,ho,o4,h.own.k1,h.own.k2,hk,h.own.g⟩ hs hb (by decide) (by decide) (by decide) (by decide),
  (Below.grown h.low hg h.low.size (fun k hk=>(World.ownsRow.lt h.own.o3 k hk).1)).setCell (p:=⟨g,2,none⟩) h.hg _,h.hg⟩
theorem StB.row4 (h:StB w0 w g s) (hg:w.grownBy w' (Value.ownBlock (.slice s.A4 s.n4 s.c4))) {A:Option Addr} {n c:Nat} {C:List UInt64} (ho:w'.ownsRow w0.heap.size 30 8 (.slice A n c) n (gcs C)) :
  StB w0 (w'.setCell ⟨g,3,none⟩ (.slice A n c)) g { s with A4:=A,n4:=n,c4:=c,P:=C }:=by
 have hb:Blk w' g 44 (ssA s):=h.blk.grown hg (aM h.own.o4 h.blk (by decide))
 have hs:=lA w' g 3 (.slice A n c)
 have o1:=World.ownsRow.kept h.own.o1 hg (dP h.own.o1 h.own.o4 (by decide))
 have o2:=World.ownsRow.kept h.own.o2 hg (dP h.own.o2 h.own.o4 (by decide))
 have o3:=World.ownsRow.kept h.own.o3 hg (dP h.own.o3 h.own.o4 (by decide))
 exact ⟨hb.set 3 _,OwnS.kept (s:={ s with A4:=A,n4:=n,c4:=c,P:=C }) ⟨o1,o2,o3,ho,h.own.k1,h.own.k2,h.own.k3,h.own.g⟩ hs hb (by decide) (by decide) (by decide) (by decide),
  (Below.grown h.low hg h.low.size (fun k hk=>(World.ownsRow.lt h.own.o4 k hk).1)).setCell (p:=⟨g,3,none⟩) h.hg _,h.hg⟩
theorem StB.cell1 (h:StB w0 w g s) {b:Nat} (hA:s.A1=some ⟨b,0,none⟩) (j:Nat) (v:Value) {C:List DeR} (hc:(gcs s.C).set j v=gcs C) (hk:∀ d ∈ C,deW d) :
  StB w0 (w.setCell ⟨b,j,none⟩ v) g { s with C:=C }:=by
 obtain ⟨A1,n1,c1,C1,A2,n2,c2,Q1,A3,n3,c3,K1,A4,n4,c4,P1,G1⟩:=s
 simp only at hA hc
 subst hA
 obtain ⟨k1,k2⟩:=World.ownsRow.stored h.own.o1 j v
 rw [hc] at k1
 have hg:w.grownBy (w.setCell ⟨b,j,none⟩ v) (some b):=k2
 have hb:Blk (w.setCell ⟨b,j,none⟩ v) g 44 _:=h.blk.grown hg (aM h.own.o1 h.blk (by decide))
 have o2:=World.ownsRow.kept h.own.o2 hg (dP h.own.o2 h.own.o1 (by decide))
 have o3:=World.ownsRow.kept h.own.o3 hg (dP h.own.o3 h.own.o1 (by decide))
 have o4:=World.ownsRow.kept h.own.o4 hg (dP h.own.o4 h.own.o1 (by decide))
 exact ⟨hb,⟨k1,o2,o3,o4,hk,h.own.k2,h.own.k3,h.own.g⟩,Below.grown h.low hg h.low.size (fun k hk=>(World.ownsRow.lt h.own.o1 k hk).1),h.hg⟩
theorem StB.cell2 (h:StB w0 w g s) {b:Nat} (hA:s.A2=some ⟨b,0,none⟩) (j:Nat) (z:Int) (hz:wfI z) (hj:j < s.n2) :
  StB w0 (w.setCell ⟨b,j,none⟩ (.int .i64 z)) g { s with Q:=s.Q.set j z }:=by
 obtain ⟨A1,n1,c1,C1,A2,n2,c2,Q1,A3,n3,c3,K1,A4,n4,c4,P1,G1⟩:=s
 simp only at hA hj
 subst hA
 have hl:=h.own.l2
 obtain ⟨k1,k2⟩:=World.ownsRow.stored h.own.o2 j (.int .i64 z)
 have hc:(gcs Q1).set j (.int .i64 z)=gcs (Q1.set j z):=by
  have e:∀ L:List Int,gcs L=L.map fun z=>Value.int .i64 z:=fun L=>by
   induction L with
   | nil=>rfl
   | cons x r ih=>rw [dD,ih];rfl
  rw [e,e,List.map_set]
 simp only at k1
 rw [hc] at k1
 have hg:w.grownBy (w.setCell ⟨b,j,none⟩ (.int .i64 z)) (some b):=k2
 have hb:Blk (w.setCell ⟨b,j,none⟩ (.int .i64 z)) g 44 _:=h.blk.grown hg (aM h.own.o2 h.blk (by decide))
 have o1:=World.ownsRow.kept h.own.o1 hg (dP h.own.o1 h.own.o2 (by decide))
 have o3:=World.ownsRow.kept h.own.o3 hg (dP h.own.o3 h.own.o2 (by decide))
 have o4:=World.ownsRow.kept h.own.o4 hg (dP h.own.o4 h.own.o2 (by decide))
 exact ⟨hb,⟨o1,k1,o3,o4,h.own.k1,fun y hy=>by
  rcases List.mem_or_eq_of_mem_set hy with hy | rfl
  ·exact h.own.k2 _ hy
  exact hz,h.own.k3,h.own.g⟩,Below.grown h.low hg h.low.size (fun k hk=>(World.ownsRow.lt h.own.o2 k hk).1),h.hg⟩
theorem StB.guilty (h:StB w0 w g s) (z:Int) (hz:wfI z):StB w0 (w.setCell ⟨g,4,none⟩ (.int .i64 z)) g { s with G:=z }:=by
 have hs:=lA w g 4 (.int .i64 z)
 have:=OwnS.kept h.own hs h.blk (by decide) (by decide) (by decide) (by decide)
 exact ⟨h.blk.set 4 _,⟨this.o1,this.o2,this.o3,this.o4,this.k1,this.k2,this.k3,hz⟩,h.low.setCell (p:=⟨g,4,none⟩) h.hg _,h.hg⟩
theorem StB.far (h:StB w0 w g s) (hg:w.grownBy w' (Value.ownBlock (.slice s.A1 s.n1 s.c1))) {X:Nat} {t:TypeId} {cs:Array Value} (hb:Blk w X t cs) (ht:t ≠ 34):Blk w' X t cs:=hb.grown hg (aM h.own.o1 hb ht)
end
section
variable {C:List DeR} {c:CeR}
theorem tJ (h:∀ k,k < C.length→decide ((aH C k).c=c)=false):fdC C c=none:=by
 refine wD.2 (fun d hd e=>?_)
 obtain ⟨k,hk,rfl⟩:=List.getElem_of_mem hd
 have:=h k hk
 rw [← cF hk] at this
 exact (of_decide_eq_false this) e
theorem qH:∀ {C:List DeR} {k:Nat},k < C.length→decide ((aH C k).c=c)=true→(∀ j,j < k→decide ((aH C j).c=c)=false)→fdC C c=some (aH C k)
 | [],k,hk,_,_=>by simp at hk
 | d :: r,0,_,h1,_=>by rw [dE,if_pos (show d.c=c from of_decide_eq_true h1)];rfl
 | d :: r,k+1,hk,h1,h2=>by
  have:=h2 0 (by omega)
  rw [dE,if_neg (show ¬ d.c=c from of_decide_eq_false this)]
  exact qH (C:=r) (by simpa using hk) h1 (fun j hj=>h2 (j+1) (by omega))
theorem aAa (n:Int):∀ {C:List DeR} {k:Nat},k < C.length→decide ((aH C k).c=c)=true→(∀ j,j < k→decide ((aH C j).c=c)=false)→lG c n C=if n=0 then C.take k ++ C.drop (k+1) else C.set k ⟨(aH C k).c,n⟩
 | [],k,hk,_,_=>by simp at hk
 | d :: r,0,_,h1,_=>by
  have h1':d.c=c:=of_decide_eq_true h1
  unfold lG
  rw [if_pos h1']
  split
  ·rfl
  rfl
 | d :: r,k+1,hk,h1,h2=>by
  have:=h2 0 (by omega)
  have h0:¬ d.c=c:=of_decide_eq_false this
  unfold lG
  rw [if_neg h0,aAa n (C:=r) (by simpa using hk) h1 (fun j hj=>h2 (j+1) (by omega))]
  split
  ·rfl
  rfl
theorem aAF:∀ {C:List DeR} {k:Nat} (n:Int),k < C.length→(gcs C).set (k * 11+10) (.int .i64 n)=gcs (C.set k ⟨(aH C k).c,n⟩)
 | [],k,n,hk=>by simp at hk
 | d :: r,0,n,_=>by
  rw [dD,List.set_cons_zero,dD,List.set_append_left _ _ (by show 10 < 11;omega)]
  rfl
 | d :: r,k+1,n,hk=>by
  rw [dD,List.set_cons_succ,dD,List.set_append_right _ _ (by show 11≤_;omega)]
  have:=aAF (C:=r) (k:=k) n (by simpa using hk)
  rw [show (k+1) * 11+10 - (RowT.enc d).length=k * 11+10 from by show (k+1) * 11+10 - 11=_;omega,this]
  rfl
theorem wW (C:List DeR) (c:CeR) (a:Int):(dM C c a).length≤C.length+1:=by
 have hi:∀ (p:DeR→Bool) (x:DeR) (L:List DeR),(eS p x L).length=L.length+1:=fun p x L=>by
  induction L with
  | nil=>rfl
  | cons y r ih=>unfold eS;split <;> simp [ih]
 have hs:∀ (n:Int) (L:List DeR),(lG c n L).length≤L.length:=fun n L=>by
  induction L with
  | nil=>exact Nat.le_refl _
  | cons y r ih=>unfold lG;split <;> (try split) <;> simp <;> omega
 unfold dM
 split
 ·split
  ·omega
  rw [hi];exact Nat.le_refl _
 exact Nat.le_trans (hs _ _) (Nat.le_succ _)
theorem qR (l:List DeR):∀ (C:List DeR),(addL C l).length≤C.length+l.length:=by
 induction l with
 | nil=>intro C;exact Nat.le_refl _
 | cons d r ih =>
  intro C
  show (addL (dM C d.c d.a) r).length≤_
  have h1:=ih (dM C d.c d.a)
  have h2:=wW C d.c d.a
  rw [List.length_cons];omega
theorem zJ {l:List DeR} {k:Nat} (hk:k < l.length) (C:List DeR):addL C (l.take (k+1))=dM (addL C (l.take k)) (aH l k).c (aH l k).a:=by
 rw [gJ hk];unfold addL;rw [List.foldl_append];rfl
end
end
section
open Go.RowKit
attribute [local go_sem ↓] Go.wp_at_zero Go.wp_at_succ
theorem nK (k i:Int):ceA ⟨k,i,0⟩=#[.int .i64 k,.int .i64 i,.int .u8 0,.int .u8 0,.int .u8 0,.int .u8 0,.int .u8 0,.int .u8 0,.int .u8 0,.int .u8 0]:=by
 unfold ceA;simp only [bC 0 (by omega),bC 1 (by omega),bC 2 (by omega),bC 3 (by omega),bC 4 (by omega),bC 5 (by omega),bC 6 (by omega),bC 7 (by omega)]
theorem eK (i:Int) (w:World):Calls Tryz.prog 82 #[.int .i64 i] w fun e w'=>e=.returned (.agg (ceA (aY i)))∧Ext w w':=by
 have HB:=zh (Blk.new w 32 ce0)
 have HX:=zh ((Ext.refl w).alloc' (.cells ce0 32))
 have ht:(w.alloc (.cells ce0 32)).there w.heap.size 0 (RowT.sz CeR):=aK HB.out
 have HV:=zh (show Value.agg (ceA (aY i))=.agg #[.int .i64 1,.int .i64 i,.int .u8 0,.int .u8 0,.int .u8 0,.int .u8 0,.int .u8 0,.int .u8 0,.int .u8 0,.int .u8 0] by unfold aY;rw [nK])
 go_enter Tryz.func82,Tryz.ntmps82
 go_wp2_with ((with_reducible refine bT ceP rfl (.tmp 2) (.tmp 4) rfl w.heap.size 0 rfl (aY i) _ HV.out rfl ht ?_))
 have hst:=aQ (ds:=ceA (aY i)) HB.out rfl
 exact bodyPost_ret (gM rfl _ _ w.heap.size _ rfl (run_loadVar_row _ _ _ _ _ (0,0) _ hst Tryz.underlying32 rfl (by kernel_rfl))) rfl ⟨rfl,Below.setCells' HX.out (Nat.le_refl _) _ _⟩
theorem qT (i:Int) (w:World):Calls Tryz.prog 80 #[.int .i64 i] w fun e w'=>e=.returned (.agg (ceA (cN i)))∧Ext w w':=by
 have HB:=zh (Blk.new w 32 ce0)
 have HX:=zh ((Ext.refl w).alloc' (.cells ce0 32))
 have ht:(w.alloc (.cells ce0 32)).there w.heap.size 0 (RowT.sz CeR):=aK HB.out
 have HV:=zh (show Value.agg (ceA (cN i))=.agg #[.int .i64 3,.int .i64 i,.int .u8 0,.int .u8 0,.int .u8 0,.int .u8 0,.int .u8 0,.int .u8 0,.int .u8 0,.int .u8 0] by unfold cN;rw [nK])
 go_enter Tryz.func80,Tryz.ntmps80
 go_wp2_with ((with_reducible refine bT ceP rfl (.tmp 2) (.tmp 4) rfl w.heap.size 0 rfl (cN i) _ HV.out rfl ht ?_))
 have hst:=aQ (ds:=ceA (cN i)) HB.out rfl
 exact bodyPost_ret (gM rfl _ _ w.heap.size _ rfl (run_loadVar_row _ _ _ _ _ (0,0) _ hst Tryz.underlying32 rfl (by kernel_rfl))) rfl ⟨rfl,Below.setCells' HX.out (Nat.le_refl _) _ _⟩
theorem pT (w:World):Calls Tryz.prog 68 #[] w fun e w'=>e=.returned (.agg (ceA bW))∧Ext w w':=by
 have HB:=zh (Blk.new w 32 ce0)
 have HX:=zh ((Ext.refl w).alloc' (.cells ce0 32))
 have ht:(w.alloc (.cells ce0 32)).there w.heap.size 0 (RowT.sz CeR):=aK HB.out
 have HV:=zh (show Value.agg (ceA bW)=.agg #[.int .i64 4,.int .i64 0,.int .u8 0,.int .u8 0,.int .u8 0,.int .u8 0,.int .u8 0,.int .u8 0,.int .u8 0,.int .u8 0] by unfold bW;rw [nK])
 go_enter Tryz.func68,Tryz.ntmps68
 go_wp2_with ((with_reducible refine bT ceP rfl (.tmp 0) (.tmp 1) rfl w.heap.size 0 rfl bW _ HV.out rfl ht ?_))
 have hst:=aQ (ds:=ceA bW) HB.out rfl
 exact bodyPost_ret (gM rfl _ _ w.heap.size _ rfl (run_loadVar_row _ _ _ _ _ (0,0) _ hst Tryz.underlying32 rfl (by kernel_rfl))) rfl ⟨rfl,Below.setCells' HX.out (Nat.le_refl _) _ _⟩
section
variable {ops:Array Oper} {rest:List Oper} {o:Oper} {a:Act} {w:World} {K:Act→World→Prop} {Q:Exit→Act→World→Prop} {S:World→Prop}
theorem jG {ty:TypeId} {i j:Nat} (x y:Operand) (ho:o.op=.build ty #[(i,x),(j,y)]) {vx vy v:Value} (hx:a.eval x=vx) (hy:a.eval y=vy) (hr:∀ w,(Instr.build ty #[(i,vx),(j,vy)]).run Tryz.prog w=.ok v w) (w:World):(execOp a.eval o).run Tryz.prog w=.ok (.value v) w:=by
 unfold execOp
 simp only [ho,List.map_toArray,List.map_cons,List.map_nil,hx,hy,Sem.run_bind,hr,Result.andThen_ok,Sem.run_pure]
theorem fW (hgd:o.guard=none) {v:Value} (hr:∀ w,(execOp a.eval o).run Tryz.prog w=.ok (.value v) w) (h:wpList Tryz.prog ops Q rest (a.put o.dst v) w):wpList Tryz.prog ops Q (o :: rest) a w :=
 wpList_plain hgd fun K hK=>by
  unfold Oper.wp
  rw [hr w]
  exact hK _ _ h
theorem aCL {ty:TypeId} (x y:Operand) (ho:o.op=.buildSlice ty 2 #[(0,x),(1,y)]) {vx vy v:Value} {w2:World} (hx:a.eval x=vx) (hy:a.eval y=vy) (hr:(Instr.buildSlice ty 2 #[(0,vx),(1,vy)]).run Tryz.prog w=.ok v w2):(execOp a.eval o).run Tryz.prog w=.ok (.value v) w2:=by
 unfold execOp
 simp only [ho,List.map_toArray,List.map_cons,List.map_nil,hx,hy,Sem.run_bind,hr,Result.andThen_ok,Sem.run_pure]
theorem oE (hgd:o.guard=none) {v:Value} {w2:World} (hr:(execOp a.eval o).run Tryz.prog w=.ok (.value v) w2) (h:wpList Tryz.prog ops Q rest (a.put o.dst v) w2):wpList Tryz.prog ops Q (o :: rest) a w :=
 wpList_plain hgd fun K hK=>by
  unfold Oper.wp
  rw [hr]
  exact hK _ _ h
theorem aDk (hw:Region.wanted o (yielded ops a.tmps)=true) {v:Value} (hr:∀ w,(execOp a.eval o).run Tryz.prog w=.ok (.value v) w):YieldsIf Tryz.prog ops S o v a:=.inl ⟨hw,fun w _=>hr w⟩
end
theorem aDL (n:UInt64) (w:World):(Instr.build 32 #[(0,.int .i64 2),(2,.agg (nmc n))]).run Tryz.prog w=.ok (.agg (ceA (dQ n))) w:=by
 rw [← fJ n];kernel_rfl
theorem lN (n:UInt64) (w:World):Calls Tryz.prog 83 #[.agg (nmc n)] w fun e w'=>e=.returned (.agg (ceA (dQ n)))∧Ext w w':=by
 obtain ⟨W,hW⟩:∃ W,(w.alloc (.cells (nmc n) 30)).alloc (.cells ce0 32)=W:=⟨_,rfl⟩
 have HB:=zh (show Blk W (w.heap.size+1) 32 ce0 from by rw [← hW];exact Blk.newAt _ _ _ _ (by simp))
 have HX:=zh (show Ext w W from by rw [← hW];exact ((Ext.refl w).alloc' _).alloc' _)
 have ht:W.there (w.heap.size+1) 0 (RowT.sz CeR):=aK HB.out
 have r0:W.rangeAt w.heap.size 0 (RowT.enc n):=bZ (show Blk W w.heap.size 30 (nmc n) from by rw [← hW];exact (Blk.new w 30 (nmc n)).alloc _)
 obtain ⟨v,hv⟩:∃ v,Value.agg (ceA (dQ n))=v:=⟨_,rfl⟩
 have HR:=zh (fun W=>aDL n W)
 rw [hv] at HR ⊢
 have HV:=zh hv
 clear hv
 go_enter Tryz.func83,Tryz.ntmps83
 go_wp2_with (first | (with_reducible refine aB nmP rfl (.tmp 1) rfl w.heap.size 0 rfl n _ rfl r0 ?_) | (with_reducible refine fW rfl (jG (vx:=.int .i64 2) (vy:=.agg (nmc n)) (.const (.int .i64 2)) (.tmp 3) rfl rfl rfl HR.out) ?_) | (with_reducible refine bT ceP rfl (.tmp 2) (.tmp 4) rfl (w.heap.size+1) 0 rfl (dQ n) v HV.out rfl ht ?_))
 have hst:=aQ (ds:=ceA (dQ n)) HB.out rfl
 exact bodyPost_ret (gM rfl _ _ (w.heap.size+1) _ rfl (run_loadVar_row _ _ _ _ _ (0,0) _ hst Tryz.underlying32 rfl (by kernel_rfl))) rfl ⟨by rw [HV.out],Below.setCells' HX.out (Nat.le_succ _) _ _⟩
def aKO (w:World) (l:List DeR) (e:Ending) (w':World):Prop:=∃ A n c,e=.returned (.slice A n c)∧SlG w' A n c l∧Ext w w'
theorem nG (c:CeR) (z:Int) (w:World):(Instr.build 34 #[(0,.agg (ceA c)),(1,.int .i64 z)]).run Tryz.prog w=.ok (.agg (deA ⟨c,z⟩)) w:=by kernel_rfl
theorem aAc (a b:DeR) (w:World):(Instr.buildSlice 27 2 #[(0,.agg (deA a)),(1,.agg (deA b))]).run Tryz.prog w=.ok (.slice (some ⟨w.heap.size,0,none⟩) 2 2) (w.alloc (.cells (deA a ++ deA b) 34)):=by kernel_rfl
theorem aCn {x y:CeR} {n:Int} (hx:ceW x) (hy:ceW y) (hn:wfI n):∀ d ∈ dF x y n,deW d:=by
 intro d hd
 simp only [dF,List.mem_cons,List.not_mem_nil,or_false] at hd
 rcases hd with rfl | rfl
 ·exact ⟨hx,fY.2 (aBj _)⟩
 exact ⟨hy,hn⟩
theorem yE (x:Int):IntKind.i64.wrap x=wrap64 x:=by rw [IntKind.wrap_i64,wrap64]
theorem aMp {w:World} {g:Nat} {x y:CeR} {n:Int} (hx:ceW x) (hy:ceW y) (hn:wfI n) (hb:Blk w g 34 (deA ⟨x,IntKind.i64.wrap (-n)⟩ ++ deA ⟨y,n⟩)):SlG w (some ⟨g,0,none⟩) 2 2 (dF x y n) :=
 ⟨rfl,Nat.le_refl _,by omega,by
  have:=Rd.of_blk hb
  rw [show (deA ⟨x,IntKind.i64.wrap (-n)⟩ ++ deA ⟨y,n⟩).toList=gcs (dF x y n) from by
   rw [Array.toList_append]
   unfold dF
   rw [dD,dD,aFa,List.append_nil];rfl] at this
  exact this,fun d hd=>aCn hx hy hn d hd⟩
theorem iS (x y:CeR) (n:Int) (w:World) (hx:ceW x) (hy:ceW y) (hn:wfI n):Calls Tryz.prog 69 #[.agg (ceA x),.agg (ceA y),.int .i64 n] w (aKO w (dF x y n)):=by
 obtain ⟨W,hW⟩:∃ W,(w.alloc (.cells (ceA x) 32)).alloc (.cells (ceA y) 32)=W:=⟨_,rfl⟩
 have HX:=zh (show Ext w W from by rw [← hW];exact ((Ext.refl w).alloc' _).alloc' _)
 have r0:W.rangeAt w.heap.size 0 (RowT.enc x):=aC (show Blk W w.heap.size 32 (ceA x) from by rw [← hW];exact (Blk.new w 32 (ceA x)).alloc _)
 have r1:W.rangeAt (w.heap.size+1) 0 (RowT.enc y):=aC (show Blk W (w.heap.size+1) 32 (ceA y) from by rw [← hW];exact Blk.newAt _ _ _ _ (by simp))
 obtain ⟨vx,hvx⟩:∃ v,Value.agg (ceA x)=v:=⟨_,rfl⟩
 obtain ⟨vy,hvy⟩:∃ v,Value.agg (ceA y)=v:=⟨_,rfl⟩
 obtain ⟨va,hva⟩:∃ v,Value.agg (deA ⟨x,wrap64 (-n)⟩)=v:=⟨_,rfl⟩
 obtain ⟨vb,hvb⟩:∃ v,Value.agg (deA ⟨y,n⟩)=v:=⟨_,rfl⟩
 have HRA:=zh (fun W=>nG x (wrap64 (-n)) W)
 have HRB:=zh (fun W=>nG y n W)
 have HR2:=zh (aAc ⟨x,wrap64 (-n)⟩ ⟨y,n⟩ W)
 have HVX:=zh hvx
 have HVY:=zh hvy
 rw [hvx,hva] at HRA
 rw [hvy,hvb] at HRB
 rw [hva,hvb] at HR2
 obtain ⟨W2,hW2⟩:∃ W2,W.alloc (.cells (deA ⟨x,wrap64 (-n)⟩ ++ deA ⟨y,n⟩) 34)=W2:=⟨_,rfl⟩
 have HB2:=zh (show Blk W2 W.heap.size 34 (deA ⟨x,wrap64 (-n)⟩ ++ deA ⟨y,n⟩) from by rw [← hW2];exact Blk.new W 34 _)
 have HX2:=zh (show Ext w W2 from by rw [← hW2];exact HX.out.alloc' _)
 have HSL:=zh (aMp hx hy hn (by rw [yE];exact HB2.out))
 rw [hW2] at HR2
 clear hva hvb hvx hvy hW2 HB2 hx hy hn
 go_enter Tryz.func69,Tryz.ntmps69
 go_wp2_with (first | (with_reducible refine aB ceP rfl (.tmp 3) rfl w.heap.size 0 rfl x vx HVX.out r0 ?_) | (with_reducible refine aB ceP rfl (.tmp 4) rfl (w.heap.size+1) 0 rfl y vy HVY.out r1 ?_) | (with_reducible refine fW rfl (jG (vx:=vx) (vy:=.int .i64 (wrap64 (-n))) (.tmp 7) (.tmp 9) rfl rfl rfl HRA.out) ?_) | (with_reducible refine fW rfl (jG (vx:=vy) (vy:=.int .i64 n) (.tmp 11) (.tmp 12) rfl rfl rfl HRB.out) ?_) | (with_reducible refine oE rfl (aCL (vx:=va) (vy:=vb) (.tmp 10) (.tmp 13) rfl rfl rfl HR2.out) ?_))
 go_ret
 exact ⟨_,_,_,rfl,HSL.out,HX2.out⟩
end
section
open Go.RowKit
theorem aIa (v i:Nat):gE (2 ^ v) i=decide (i=v):=by
 unfold gE
 congr 1
 rw [eq_iff_iff]
 have hp:∀ k:Nat,(0:Int) < 2 ^ k:=fun k=>Int.pow_pos (by decide)
 by_cases h:i≤v
 ·obtain ⟨k, rfl⟩ : ∃ k, v = i + k := ⟨v - i, by omega⟩
  rw [Int.pow_add,Int.mul_ediv_cancel_left _ (by have:=hp i;omega)]
  cases k with
  | zero=>simp
  | succ k =>
   rw [Int.pow_succ]
   have:(2:Int) ^ k * 2 % 2=0:=by omega
   constructor
   ·intro h;omega
   intro h;omega
 obtain ⟨k,rfl⟩:∃ k,i=v+(k+1):=⟨i - v - 1,by omega⟩
 have e:(2:Int) ^ v / 2 ^ (v+(k+1))=0:=by
  refine Int.ediv_eq_zero_of_lt (by have:=hp v;omega) ?_
  rw [Int.pow_add,Int.pow_succ]
  have h1:=hp v
  have h2:=hp k
  have:(2:Int) ^ v * 1 < 2 ^ v * (2 ^ k * 2):=Int.mul_lt_mul_of_pos_left (by omega) h1
  omega
 rw [e]
 constructor
 ·intro h;omega
 intro h;omega
theorem aIi {g:Int} {S:StV} {v:Nat} (hg:∀ i,i ≠ v→gE g i=false):∀ n,expN g S n=if v < n then mA g S v else S:=by
 intro n
 induction n with
 | zero=>rfl
 | succ n ih =>
  rw [iE,ih]
  by_cases e:v=n
  ·subst e
   rw [if_neg (by omega),if_pos (by omega)]
  have e1:∀ T,mA g T n=T:=fun T=>if_neg (fun h=>by rw [hg n (Ne.symm e)] at h;cases h.1)
  rw [e1]
  by_cases h:v < n
  ·rw [if_pos h,if_pos (by omega)]
  rw [if_neg h,if_neg (by omega)]
theorem aJB (S:StV) {v:Nat} (h:v < 10):xV (2 ^ v) S=mA (2 ^ v) S v:=by
 unfold xV
 rw [aIi (v:=v) (fun i hi=>by rw [aIa,decide_eq_false hi]) 10,if_pos h]
structure Sol (C:List DeR) (B:Int):Prop where
 asc:AscC C
 nz:nzC C
 bd:∀ c,0≤getC C c∧getC C c≤B
theorem Sol.more {C:List DeR} {B:Int} (h:Sol C B):Sol C (2 * B):=⟨h.asc,h.nz,fun c=>⟨(h.bd c).1,by have:=h.bd c;omega⟩⟩
theorem Sol.mov {C:List DeR} {B:Int} (h:Sol C B) (hb:B≤2305843009213693952) {x y:CeR} {n:Int} (h0:0≤n) (h1:n≤getC C x) :
  Sol (addL C (dF x y n)) (2 * B)∧∀ c,c ≠ x→getC C c≤getC (addL C (dF x y n)) c:=by
 have:=aLk h.asc h.nz (y:=y) h0 h1 h.bd hb
 exact ⟨⟨aGE _ h.asc,aHK _ h.nz,this.1⟩,this.2⟩
theorem Sol.exp {S:StV} {B:Int} (h:Sol S.C B) (hb:B≤2305843009213693952) {v:Nat} (hv:v < 10) :
  Sol (xV (2 ^ v) S).C (2 * B)∧∀ j,getC S.C (aY j)≤getC (xV (2 ^ v) S).C (aY j):=by
 rw [aJB S hv]
 unfold mA
 split
 ·have := h.mov hb (x := cN (v : Int)) (y := bW) (n := getC S.C (cN (v : Int))) (h.bd _).1 (Int.le_refl _)
  exact ⟨this.1,fun j=>this.2 _ (by intro e;have:=congrArg CeR.k e;simp [aY,cN] at this)⟩
 exact ⟨h.more,fun j=>Int.le_refl _⟩
theorem aHc {na nv:Nat} {ht:Int} {H:List UInt8→UInt64} {ev:OpR→Bool} {ac sq:Int} {L:List OpR} {S:StV} {i:Nat} {B:Int}
  (h:Sol S.C B) (hb:B≤2305843009213693952) (hk:1≤(bI L i).k∧(bI L i).k≤6) (ha:0≤(bI L i).am) (hva:0≤(bI L i).va∧(bI L i).va≤9)
  (hc:dA na nv ht H ev ac (bI L i) S=0) :
  Sol (doO ac sq L S i).C (2 * B)∧∀ j,j ≠ ac→getC S.C (aY j)≤getC (doO ac sq L S i).C (aY j):=by
 have bal:∀ {x y:CeR} {n:Int},0≤n→n≤getC S.C x→(∀ j,j ≠ ac→aY j ≠ x)→Sol (addL S.C (dF x y n)) (2 * B)∧∀ j,j ≠ ac→getC S.C (aY j)≤getC (addL S.C (dF x y n)) (aY j):=by
  intro x y n h0 h1 hx
  have:=h.mov hb (x:=x) (y:=y) h0 h1
  exact ⟨this.1,fun j hj=>this.2 _ (hx j hj)⟩
 have b1:∀ j,j ≠ ac→aY j ≠ aY ac:=fun j hj e=>hj (congrArg CeR.id e)
 have b2:∀ n j,j ≠ ac→aY j ≠ dQ n:=fun n j hj e=>by have:=congrArg CeR.k e;simp [aY,dQ] at this
 unfold dA at hc
 have funds:∀ {p q r s:Prop} [Decidable p] [Decidable q] [Decidable r] [Decidable s],(if p then (1:Int) else if q then 7 else if r then 1 else if s then 102 else if getC S.C (aY ac) < (bI L i).am then 100 else 0)=0→(bI L i).am≤getC S.C (aY ac):=by
  intro p q r s _ _ _ _ hh
  split at hh
  ·cases hh
  split at hh
  ·cases hh
  split at hh
  ·cases hh
  split at hh
  ·cases hh
  split at hh
  ·cases hh
  omega
 unfold doO kN
 by_cases k2:(bI L i).k=2
 ·rw [if_pos k2]
  rw [if_neg (by omega),if_neg (by omega),if_neg (by omega)] at hc
  have e:cQ ac sq L i=dF (aY ac) (dQ (dG ac sq L (i:Int))) (bI L i).am:=by unfold cQ;rw [if_neg (by omega),if_pos k2]
  show Sol (addL S.C (cQ ac sq L i)) _∧∀ j,_→_≤getC (addL S.C (cQ ac sq L i)) _
  rw [e];exact bal ha (funds hc) b1
 rw [if_neg k2]
 by_cases k3:(bI L i).k=3 ∨ (bI L i).k=4
 ·rw [if_pos k3]
  have e:cQ ac sq L i=dF (dQ (bI L i).lk) (aY (bI L i).tO) (bI L i).am:=by unfold cQ;rw [if_neg (by omega),if_neg (by omega),if_pos k3]
  have hle:(bI L i).am≤getC S.C (dQ (bI L i).lk):=by
   split at hc
   ·split at hc
    ·cases hc
    split at hc
    ·cases hc
    rename_i hh;simp only [not_or,Decidable.not_not] at hh;omega
   split at hc
   ·split at hc
    ·cases hc
    split at hc
    ·cases hc
    rename_i hh;simp only [not_or,Decidable.not_not] at hh;omega
   omega
  show Sol (addL S.C (cQ ac sq L i)) _∧∀ j,_→_≤getC (addL S.C (cQ ac sq L i)) _
  rw [e];exact bal ha hle (b2 _)
 rw [if_neg k3]
 by_cases k6:(bI L i).k=6
 ·rw [if_pos k6]
  have e:cQ ac sq L i=[]:=by unfold cQ;rw [if_neg (by omega),if_neg (by omega),if_neg (by omega),if_neg (by omega)]
  rw [e]
  have:=h.exp hb (S:=S) (v:=(bI L i).va.toNat) (by omega)
  exact ⟨this.1,fun j _=>this.2 j⟩
 rw [if_neg k6]
 rw [if_neg (by omega),if_neg (by omega),if_neg (by omega)] at hc
 have hf:=funds hc
 by_cases k1:(bI L i).k=1
 ·have e : cQ ac sq L i = dF (aY ac) (aY (bI L i).tO) (bI L i).am := by unfold cQ; rw [if_pos k1]
  show Sol (addL S.C (cQ ac sq L i)) _∧∀ j,_→_≤getC (addL S.C (cQ ac sq L i)) _
  rw [e];exact bal ha hf b1
 have e:cQ ac sq L i=dF (aY ac) (cN (bI L i).va) (bI L i).am:=by unfold cQ;rw [if_neg k1,if_neg k2,if_neg k3,if_pos (by omega)]
 show Sol (addL S.C (cQ ac sq L i)) _∧∀ j,_→_≤getC (addL S.C (cQ ac sq L i)) _
 rw [e];exact bal ha hf b1
def lE (okG:Bool) (na:Nat) (sg:Bool) (S:StV) (ac sq:Int) (L:List OpR):Int :=
 if vTx ac sq L=false ∨ okG=false ∨ (na:Int)≤ac ∨ S.Q.length ≠ na then 1
 else if sg=false then 8
 else if cB ac sq L ∈ S.P then 7
 else if sq ≠ S.Q.getD ac.toNat 0 then 101
 else 0
def gX (chk:OpR→StV→Int) (okG:Bool) (na:Nat) (sg:Bool) (S:StV) (ac sq:Int) (L:List OpR):Int :=
 if lE okG na sg S ac sq L ≠ 0 then lE okG na sg S ac sq L else errN chk ac sq L S L.length
def xW (S:StV) (ac sq:Int) (L:List OpR):StV :=
 ⟨(doN ac sq L S L.length).C,(doN ac sq L S L.length).Q.set ac.toNat (sq+1),(doN ac sq L S L.length).K,eR (doN ac sq L S L.length).P (cB ac sq L),(doN ac sq L S L.length).G⟩
def lQ (chk:OpR→StV→Int) (okG:Bool) (na:Nat) (sg:Bool) (S:StV) (ac sq:Int) (L:List OpR):StV :=
 if gX chk okG na sg S ac sq L=0 then xW S ac sq L else S
section
variable {chk:OpR→StV→Int} {okG:Bool} {na:Nat} {sg:Bool} {S:StV} {ac sq:Int} {L:List OpR}
theorem qN (h:lE okG na sg S ac sq L=0):vTx ac sq L=true∧okG=true∧ac < (na:Int)∧S.Q.length=na∧sg=true∧cB ac sq L ∉ S.P∧sq=S.Q.getD ac.toNat 0:=by
 unfold lE at h
 split at h
 ·cases h
 rename_i h1
 split at h
 ·cases h
 rename_i h2
 split at h
 ·cases h
 rename_i h3
 split at h
 ·cases h
 rename_i h4
 simp only [not_or,Bool.not_eq_false,Decidable.not_not] at h1 h2 h4
 exact ⟨h1.1,h1.2.1,by omega,h1.2.2.2,h2,h3,h4⟩
theorem tK (h:gX chk okG na sg S ac sq L=0):lE okG na sg S ac sq L=0∧errN chk ac sq L S L.length=0:=by
 unfold gX at h
 split at h
 ·rename_i h1;exact absurd h h1
 rename_i h1;exact ⟨Decidable.not_not.1 h1,h⟩
theorem aJD (h:gX chk okG na sg S ac sq L=0):iP S ac sq L=xW S ac sq L:=by
 obtain ⟨h1,h2⟩:=tK h
 obtain ⟨a1,a2,a3,a4,a5,a6,a7⟩:=qN h1
 have hn:¬ (vTx ac sq L=false ∨ cB ac sq L ∈ S.P):=by
  rintro (e | e)
  ·rw [a1] at e;cases e
  exact a6 e
 unfold iP xW
 rw [if_neg hn]
 have hq:sX (doN ac sq L S L.length).Q ac sq=(doN ac sq L S L.length).Q.set ac.toNat (sq+1):=by
  rw [(lR ac sq L S L.length).1]
  unfold sX
  rw [if_pos (by omega)]
  congr 1;omega
 rw [hq]
theorem aCM:cB ac sq L ∈ (xW S ac sq L).P:=(aGd _ _ _).2 (.inl rfl)
theorem aGr (h:gX chk okG na sg S ac sq L=0):gX chk okG na sg (xW S ac sq L) ac sq L=7:=by
 obtain ⟨h1,h2⟩:=tK h
 obtain ⟨a1,a2,a3,a4,a5,a6,a7⟩:=qN h1
 have hl:(xW S ac sq L).Q.length=na:=by
  show ((doN ac sq L S L.length).Q.set ac.toNat (sq+1)).length=na
  rw [List.length_set,(lR ac sq L S L.length).1];exact a4
 have e:lE okG na sg (xW S ac sq L) ac sq L=7:=by
  unfold lE
  rw [if_neg (by rw [a1,a2,hl];simp;omega),if_neg (by rw [a5];simp),if_pos aCM]
 unfold gX
 rw [e];rfl
end
theorem aKT {R:OpR} (h:vOp R=true):(1≤R.k∧R.k≤6)∧0≤R.am∧R.am≤1099511627776∧0≤R.va∧R.va≤9:=by
 unfold vOp aW at h
 simp only [Bool.and_eq_true,decide_eq_true_eq] at h
 obtain ⟨h1,h2,h3,h4,h5,_⟩:=h
 refine ⟨h1,?_⟩
 split at h3 <;> split at h5 <;> simp only [decide_eq_true_eq] at h3 h5 <;> omega
theorem aJN {na nv:Nat} {ht:Int} {H:List UInt8→UInt64} {ev:OpR→Bool} {ac sq:Int} {L:List OpR} {S:StV} (hv:vTx ac sq L=true)
  (h:Sol S.C 1125899906842624):∀ n,n≤L.length→errN (dA na nv ht H ev ac) ac sq L S n=0→Sol (doN ac sq L S n).C (1125899906842624 * 2 ^ n)∧∀ j,j ≠ ac→getC S.C (aY j)≤getC (doN ac sq L S n).C (aY j):=by
 obtain ⟨⟨q1,q2,q3,q4,q5,q6⟩,hop⟩:=eW hv
 intro n
 induction n with
 | zero=>intro _ _;exact ⟨by rw [Int.pow_zero,Int.mul_one];exact h,fun j _=>Int.le_refl _⟩
 | succ n ih =>
  intro hn he
  obtain ⟨e1,e2⟩:=aIk he n (by omega)
  obtain ⟨i1,i2⟩:=ih (by omega) e2
  obtain ⟨v1,v2,v3,v4,v5⟩:=aKT (hop n (by omega))
  have hb:(1125899906842624:Int) * 2 ^ n≤2305843009213693952:=by
   have:n=0 ∨ n=1 ∨ n=2 ∨ n=3:=by omega
   rcases this with rfl | rfl | rfl | rfl <;> decide
  obtain ⟨s1,s2⟩:=aHc (L:=L) (sq:=sq) i1 hb v1 v2 ⟨v4,v5⟩ e1
  rw [mY]
  have e3:(1125899906842624:Int) * 2 ^ (n+1)=2 * (1125899906842624 * 2 ^ n):=by rw [Int.pow_succ];omega
  rw [e3]
  exact ⟨s1,fun j hj=>Int.le_trans (i2 j hj) (s2 j hj)⟩
end
section
open Go.RowKit
attribute [local go_sem ↓] Go.wp_at_zero Go.wp_at_succ
theorem qF {w:World} {A:Option Addr} {n c:Nat} {C:List DeR} (h:SlG w A n c C) {k:Nat} (hk:k < n):∃ b o,A=some ⟨b,o,none⟩∧w.cell? ⟨b,o+k * 11+10,none⟩=some (.int .i64 (aH C k).a):=by
 obtain ⟨b,o,rfl,hr,-⟩:=h.at (by omega)
 have h1:w.rangeAt b (o+k * 11) (RowT.enc (aH C k)):=cO hr (by rw [h.len];exact hk)
 exact ⟨b,o,rfl,h1 10 _ rfl⟩
theorem hI (s:StR) (c:CeR) (w:World) (h:s.ok w) (hc:ceW c):Calls Tryz.prog 67 #[.agg (ssA s),.agg (ceA c)] w fun e w'=>e=.returned (.int .i64 (getC s.C c))∧Ext w w':=by
 obtain ⟨W,hW⟩:∃ W,((w.alloc (.cells (ssA s) 44)).alloc (.cells (ceA c) 32))=W:=⟨_,rfl⟩
 have HB:=zh (show Blk W w.heap.size 44 (ssA s) from by rw [← hW];exact (Blk.new w 44 (ssA s)).alloc _)
 have HC:=zh (show Blk W (w.heap.size+1) 32 (ceA c) from by rw [← hW];exact Blk.newAt _ _ _ _ (by simp))
 have HE:=zh (show Ext w W from by rw [← hW];exact ((Ext.refl w).alloc' _).alloc' _)
 have q0:=HB.out.cell 0
 have q1:=HB.out.cell 1
 have q2:=HB.out.cell 2
 have q3:=HB.out.cell 3
 have q4:=HB.out.cell 4
 have r1:W.rangeAt (w.heap.size+1) 0 (RowT.enc c):=aC HC.out
 have HS:=zh h
 have hl1:=h.s1.len
 have hle:=h.s1.le
 have hcap:=h.s1.cap
 have HCW:=zh hc
 obtain ⟨v1,hv1⟩:∃ v,Value.agg (ceA c)=v:=⟨_,rfl⟩
 have HV1:=zh hv1
 have HL:=zh hl1
 rcases iU (fun x:DeR=>decide (x.c=c)) s.C with hno | ⟨k,hk,h1,h2⟩
 ·have HF := zh (wB s c W (h.ext HE.out) hc (-1) (.inl ⟨rfl, hno⟩))
  have HG:=zh (dS (tJ hno))
  rw [hv1] at HF
  clear hno h hc hv1 hl1
  go_enter Tryz.func67,Tryz.ntmps67
  go_wp2_with (first | (with_reducible refine aB ceP rfl (.tmp 3) rfl (w.heap.size+1) 0 rfl c v1 HV1.out r1 ?_) | fail "A")
  refine HF.out.mono ?_
  rintro e w5 ⟨rfl,he5⟩
  have HX:=zh (HE.out.trans he5)
  clear hW
  clear he5 r1 q0 q1 q2 q3 q4
  go_wp2_with fail
  go_ret
  exact ⟨by rw [HG.out];rfl,HX.out⟩
 have HF:=zh (wB s c W (h.ext HE.out) hc (k:Int) (.inr ⟨k,rfl,hk,h1,h2⟩))
 have HG:=zh (dS (qH hk h1 h2))
 have hk':k < s.n1:=by omega
 rw [hv1] at HF
 clear h1 h2 h hc hv1 hl1 hk
 go_enter Tryz.func67,Tryz.ntmps67
 go_wp2_with (first | (with_reducible refine aB ceP rfl (.tmp 3) rfl (w.heap.size+1) 0 rfl c v1 HV1.out r1 ?_) | fail "A")
 refine HF.out.mono ?_
 rintro e w5 ⟨rfl,he5⟩
 have HX:=zh (HE.out.trans he5)
 clear hW
 have p0:w5.cell? ⟨w.heap.size,0,none⟩=some (.slice s.A1 s.n1 s.c1):=(HB.out.ext he5).cell 0
 obtain ⟨b,o,hA,hcell⟩:=qF (HS.out.ext HX.out).s1 hk'
 rw [hA] at p0
 have i0:(0:Int)≤(k:Int):=by omega
 have i1:(k:Int) < (s.n1:Int):=by omega
 clear he5 r1 q0 q1 q2 q3 q4 hA
 go_wp2_with fail
 go_ret
 exact ⟨by rw [HG.out];rfl,HX.out⟩
theorem aHT {L:List UInt64} {x:UInt64}:(∃ k,k < L.length∧aH L k=x) ↔ x ∈ L:=by
 constructor
 ·rintro ⟨k,hk,rfl⟩;exact iR hk
 intro h
 obtain ⟨k,hk,rfl⟩:=List.getElem_of_mem h
 exact ⟨k,hk,(cF hk).symm⟩
def aLP (L:List UInt64) (x:UInt64) (w:World) (e:Ending) (w':World):Prop:=∃ r:Int,e=.returned (.int .i64 r)∧(decide (r ≥ 0)=decide (x ∈ L))∧Ext w w'
theorem aGo (A:Option Addr) (n c:Nat) (L:List UInt64) (x:UInt64) (w:World) (h:SlG w A n c L):Calls Tryz.prog 181 #[.slice A n c,.agg (nmc x)] w (aLP L x w):=by
 have HS:=zh (h.ext ((Ext.refl w).alloc' (.cells (nmc x) 30)))
 have HB:=zh (Blk.new w 30 (nmc x))
 have HE:=zh ((Ext.refl w).alloc' (.cells (nmc x) 30))
 have hle:=h.le
 have hcap:=h.cap
 have HL:=zh h.len
 obtain ⟨W,hW⟩:∃ W,w.alloc (.cells (nmc x) 30)=W:=⟨_,rfl⟩
 rw [hW] at HS HB HE
 clear h
 go_enter Tryz.func181,Tryz.ntmps181
 go_wp2_with fail
 clear hW
 go_loopw [8] (fun vi wr=>∃ k:Nat,vi=.int .i64 (k:Int)∧k≤n∧Hid (∀ j,j < k→aH L j ≠ x)∧Hid (Ext W wr)) (fun i _=>n - (intOf i).toNat)
 case atStart=>exact ⟨0,rfl,Nat.zero_le _,zh (fun j hj=>absurd hj (Nat.not_lt_zero _)),zh (Ext.refl W)⟩
 case round =>
  obtain ⟨k,rfl,hk,HN,HX⟩:=hrel
  by_cases hlt:k < n
  ·have i0 : (0 : Int) ≤ (k : Int) := by omega
   have i1:(k:Int) < (n:Int):=by omega
   have HS2:=zh (HS.out.ext HX.out)
   obtain ⟨b,o,rfl,hrow,-⟩:=HS2.out.at (by omega)
   have hr:wr.rangeAt b (o+k * 8) (RowT.enc (aH L k)):=cO hrow (by rw [HL.out];exact hlt)
   have HR:=zh hr
   have HB2:=zh (HB.out.ext HX.out)
   by_cases he:x=aH L k
   ·have HM := zh (aHT.1 ⟨k, by rw [HL.out]; exact hlt, he.symm⟩)
    obtain ⟨b,hb⟩:∃ b,decide (x=aH L k)=b:=⟨_,rfl⟩
    have HD:=zh hb
    obtain rfl:true=b:=by rw [← hb,decide_eq_true he]
    clear hb he hr hrow
    go_wp2_with fail
    refine wp_region_held_drew (S:=fun V=>Blk V w.heap.size 30 (nmc x)∧V.rangeAt b (o+k * 8) (RowT.enc (aH L k))) (by kernel_rfl) (⟨HB2.out.drew,HR.out⟩) (fun aA=>?_)
    refine zu 0 (v:=.agg (nmc x)) aA ?_ (hy:=by exact aF nmP (by rfl) (.tmp 3) rfl w.heap.size 0 rfl x _ rfl (fun V h=>bZ h.1))
    refine zzr [1,2,3] ?_
    refine zu 4 (v:=.agg (nmc (aH L k))) aA ?_ (hy:=by exact aF nmP (by rfl) (.tmp 14) rfl b (o+k * 8) rfl (aH L k) _ rfl (fun V h=>h.2))
    refine zu 5 (v:=.bool true) aA ?_ (hy:=by exact cS (vx:=.agg (nmc x)) (vy:=.agg (nmc (aH L k))) (by rfl) (.tmp 11) (.tmp 15) rfl rfl rfl (fun w=>iV _ _ _ _ _ w) (fun w=>by rw [bX,HD.out]))
    refine wpAnyH_done (by kernel_rfl) ?_ _
    clear aA
    go_wp2_with fail
    go_ret
    exact ⟨_,rfl,by rw [decide_eq_true HM.out,decide_eq_true (by omega)],HE.out.trans (HX.out.trans ((Ext.refl wr).drew'))⟩
   have HN2:=zh (show ∀ j,j < k+1→aH L j ≠ x from fun j hj e=>by
    by_cases e2:j=k
    ·rw [e2] at e;exact he e.symm
    exact HN.out j (by omega) e)
   obtain ⟨b,hb⟩:∃ b,decide (x=aH L k)=b:=⟨_,rfl⟩
   have HD:=zh hb
   obtain rfl:false=b:=by rw [← hb,decide_eq_false he]
   clear hb he hr hrow
   go_wp2_with fail
   refine wp_region_held_drew (S:=fun V=>Blk V w.heap.size 30 (nmc x)∧V.rangeAt b (o+k * 8) (RowT.enc (aH L k))) (by kernel_rfl) (⟨HB2.out.drew,HR.out⟩) (fun aA=>?_)
   refine zu 0 (v:=.agg (nmc x)) aA ?_ (hy:=by exact aF nmP (by rfl) (.tmp 3) rfl w.heap.size 0 rfl x _ rfl (fun V h=>bZ h.1))
   refine zzr [1,2,3] ?_
   refine zu 4 (v:=.agg (nmc (aH L k))) aA ?_ (hy:=by exact aF nmP (by rfl) (.tmp 14) rfl b (o+k * 8) rfl (aH L k) _ rfl (fun V h=>h.2))
   refine zu 5 (v:=.bool false) aA ?_ (hy:=by exact cS (vx:=.agg (nmc x)) (vy:=.agg (nmc (aH L k))) (by rfl) (.tmp 11) (.tmp 15) rfl rfl rfl (fun w=>iV _ _ _ _ _ w) (fun w=>by rw [bX,HD.out]))
   refine wpAnyH_done (by kernel_rfl) ?_ _
   clear aA
   have HX2:=zh (HX.out.trans ((Ext.refl wr).drew'))
   go_wp2_with fail
   go_roundw
   case rel=>exact ⟨k+1,by go_num,hlt,HN2,HX2⟩
   case measure=>simp [intOf];omega
  have i1:¬ (k:Int) < (n:Int):=by omega
  have HM:=zh (show ¬ x ∈ L from fun h=>by
   obtain ⟨j,hj,e⟩:=aHT.2 h
   exact HN.out j (by rw [HL.out] at hj;omega) e)
  go_wp2_with fail
  go_ret
  exact ⟨-1,rfl,by rw [decide_eq_false HM.out];rfl,HE.out.trans HX.out⟩
theorem aGp (A:Option Addr) (n c:Nat) (L:List UInt64) (x:UInt64) (w:World) (h:SlG w A n c L):Calls Tryz.prog 123 #[.slice A n c,.agg (nmc x)] w fun e w'=>e=.returned (.bool (decide (x ∈ L)))∧Ext w w':=by
 have HE:=zh ((Ext.refl w).alloc' (.cells (nmc x) 30))
 have HS:=zh (h.ext HE.out)
 have r0:(w.alloc (.cells (nmc x) 30)).rangeAt w.heap.size 0 (RowT.enc x):=bZ (Blk.new w 30 (nmc x))
 clear h
 go_enter Tryz.func123,Tryz.ntmps123
 go_wp2_with (first | (with_reducible refine aB nmP rfl (.tmp 3) rfl w.heap.size 0 rfl x _ rfl r0 ?_) | fail "A")
 refine (aGo A n c L x _ HS.out).mono ?_
 rintro e w5 ⟨r,rfl,hr,he5⟩
 have HR:=zh hr
 have HX:=zh (HE.out.trans he5)
 clear hr he5 r0
 go_wp2_with fail
 go_ret
 exact ⟨by rw [← HR.out];rfl,HX.out⟩
theorem fT (s:StR) (x:UInt64) (w:World) (h:s.ok w):Calls Tryz.prog 63 #[.agg (ssA s),.agg (nmc x)] w fun e w'=>e=.returned (.bool (decide (x ∈ s.P)))∧Ext w w':=by
 obtain ⟨W,hW⟩:∃ W,((w.alloc (.cells (ssA s) 44)).alloc (.cells (nmc x) 30))=W:=⟨_,rfl⟩
 have HB:=zh (show Blk W w.heap.size 44 (ssA s) from by rw [← hW];exact (Blk.new w 44 (ssA s)).alloc _)
 have HC:=zh (show Blk W (w.heap.size+1) 30 (nmc x) from by rw [← hW];exact Blk.newAt _ _ _ _ (by simp))
 have HE:=zh (show Ext w W from by rw [← hW];exact ((Ext.refl w).alloc' _).alloc' _)
 have q3:W.cell? ⟨w.heap.size,3,none⟩=some (.slice s.A4 s.n4 s.c4):=HB.out.cell 3
 have r1:W.rangeAt (w.heap.size+1) 0 (RowT.enc x):=bZ HC.out
 have HS:=zh (h.ext HE.out).s4
 clear h
 go_enter Tryz.func63,Tryz.ntmps63
 go_wp2_with (first | (with_reducible refine aB nmP rfl (.tmp 3) rfl (w.heap.size+1) 0 rfl x _ rfl r1 ?_) | fail "A")
 refine (aGp s.A4 s.n4 s.c4 s.P x _ HS.out).mono ?_
 rintro e w5 ⟨rfl,he5⟩
 have HX:=zh (HE.out.trans he5)
 clear he5 q3 r1 hW
 go_wp2_with fail
 go_ret
 exact ⟨rfl,HX.out⟩
def lkO:Option LkR→LkR
 | none=>⟨0,0,0,0,0⟩
 | some l=>l
theorem aFb {K:List LkR} {n:UInt64} (h:∀ k,k < K.length→decide ((aH K k).nm=n)=false):fdK K n=none:=by
 unfold fdK
 rw [List.find?_eq_none]
 intro l hl
 obtain ⟨k,hk,rfl⟩:=List.getElem_of_mem hl
 rw [cF hk,h k hk];decide
theorem aAH:∀ {K:List LkR} {n:UInt64} {k:Nat},k < K.length→decide ((aH K k).nm=n)=true→(∀ j,j < k→decide ((aH K j).nm=n)=false)→fdK K n=some (aH K k)
 | [],n,k,hk,_,_=>by simp at hk
 | d :: r,n,0,_,h1,_=>by unfold fdK;rw [List.find?_cons,show decide (d.nm=n)=true from h1];rfl
 | d :: r,n,k+1,hk,h1,h2=>by
  have h0:=h2 0 (by omega)
  unfold fdK
  rw [List.find?_cons,show decide (d.nm=n)=false from h0]
  exact aAH (K:=r) (by simpa using hk) h1 (fun j hj=>h2 (j+1) (by omega))
theorem aJq:lkA (⟨0,0,0,0,0⟩:LkR)=lk0:=by unfold lkA lk0;simp only [bC 0 (by omega),bC 1 (by omega),bC 2 (by omega),bC 3 (by omega),bC 4 (by omega),bC 5 (by omega),bC 6 (by omega),bC 7 (by omega)]
end
end Go.Proofs.YtohmmcahpakokaaGreat
