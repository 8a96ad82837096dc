/- exec.balance, stake, locked, pool, move. -/
import Derived.Test.YtohmmcahpakokaaGreatK27
set_option maxRecDepth 100000
set_option maxHeartbeats 8000000
set_option linter.unusedVariables false
set_option linter.unusedSimpArgs false
namespace Go.Proofs.YtohmmcahpakokaaGreat
open Go.RowKit
attribute [local go_sem ↓] Go.wp_at_zero Go.wp_at_succ
theorem ce_zero (k i:Int):ceA ⟨k,i,0⟩=#[.int .i64 k,.int .i64 i,.int .u8 0,.int .u8 0,.int .u8 0,.int .u8 0,.int .u8 0,.int .u8 0,.int .u8 0,.int .u8 0]:=by
 unfold ceA;simp only [nb8_nil 0 (by omega),nb8_nil 1 (by omega),nb8_nil 2 (by omega),nb8_nil 3 (by omega),nb8_nil 4 (by omega),nb8_nil 5 (by omega),nb8_nil 6 (by omega),nb8_nil 7 (by omega)]
theorem balance_any (i:Int) (w:World):Calls Tryz.prog 82 #[.int .i64 i] w fun e w'=>e=.returned (.agg (ceA (balC i)))∧Ext w w':=by
 have HB:=zh (Blk.new w 32 ce0)
 have HX:=zh ((Ext.refl w).alloc' (.cells ce0 32))
 have ht:(w.alloc (.cells ce0 32)).there w.heap.size 0 (RowT.sz CeR):=there_of_blk HB.out
 have HV:=zh (show Value.agg (ceA (balC i))=.agg #[.int .i64 1,.int .i64 i,.int .u8 0,.int .u8 0,.int .u8 0,.int .u8 0,.int .u8 0,.int .u8 0,.int .u8 0,.int .u8 0] by unfold balC;rw [ce_zero])
 go_enter Tryz.func82,Tryz.ntmps82
 go_wp2_with ((with_reducible refine wpList_storeG ceP rfl (.tmp 2) (.tmp 4) rfl w.heap.size 0 rfl (balC i) _ HV.out rfl ht ?_))
 have hst:=blk_whole (ds:=ceA (balC i)) HB.out rfl
 exact bodyPost_ret (retC rfl _ _ w.heap.size _ rfl (run_loadVar_row _ _ _ _ _ (0,0) _ hst Tryz.underlying32 rfl (by kernel_rfl))) rfl ⟨rfl,Below.setCells' HX.out (Nat.le_refl _) _ _⟩
theorem stake_any (i:Int) (w:World):Calls Tryz.prog 80 #[.int .i64 i] w fun e w'=>e=.returned (.agg (ceA (stkC i)))∧Ext w w':=by
 have HB:=zh (Blk.new w 32 ce0)
 have HX:=zh ((Ext.refl w).alloc' (.cells ce0 32))
 have ht:(w.alloc (.cells ce0 32)).there w.heap.size 0 (RowT.sz CeR):=there_of_blk HB.out
 have HV:=zh (show Value.agg (ceA (stkC i))=.agg #[.int .i64 3,.int .i64 i,.int .u8 0,.int .u8 0,.int .u8 0,.int .u8 0,.int .u8 0,.int .u8 0,.int .u8 0,.int .u8 0] by unfold stkC;rw [ce_zero])
 go_enter Tryz.func80,Tryz.ntmps80
 go_wp2_with ((with_reducible refine wpList_storeG ceP rfl (.tmp 2) (.tmp 4) rfl w.heap.size 0 rfl (stkC i) _ HV.out rfl ht ?_))
 have hst:=blk_whole (ds:=ceA (stkC i)) HB.out rfl
 exact bodyPost_ret (retC rfl _ _ w.heap.size _ rfl (run_loadVar_row _ _ _ _ _ (0,0) _ hst Tryz.underlying32 rfl (by kernel_rfl))) rfl ⟨rfl,Below.setCells' HX.out (Nat.le_refl _) _ _⟩
theorem pool_any (w:World):Calls Tryz.prog 68 #[] w fun e w'=>e=.returned (.agg (ceA polC))∧Ext w w':=by
 have HB:=zh (Blk.new w 32 ce0)
 have HX:=zh ((Ext.refl w).alloc' (.cells ce0 32))
 have ht:(w.alloc (.cells ce0 32)).there w.heap.size 0 (RowT.sz CeR):=there_of_blk HB.out
 have HV:=zh (show Value.agg (ceA polC)=.agg #[.int .i64 4,.int .i64 0,.int .u8 0,.int .u8 0,.int .u8 0,.int .u8 0,.int .u8 0,.int .u8 0,.int .u8 0,.int .u8 0] by unfold polC;rw [ce_zero])
 go_enter Tryz.func68,Tryz.ntmps68
 go_wp2_with ((with_reducible refine wpList_storeG ceP rfl (.tmp 0) (.tmp 1) rfl w.heap.size 0 rfl polC _ HV.out rfl ht ?_))
 have hst:=blk_whole (ds:=ceA polC) HB.out rfl
 exact bodyPost_ret (retC rfl _ _ w.heap.size _ rfl (run_loadVar_row _ _ _ _ _ (0,0) _ hst Tryz.underlying32 rfl (by kernel_rfl))) rfl ⟨rfl,Below.setCells' HX.out (Nat.le_refl _) _ _⟩
section
variable {ops:Array Oper} {rest:List Oper} {o:Oper} {a:Act} {w:World} {K:Act→World→Prop} {Q:Exit→Act→World→Prop} {S:World→Prop}
theorem exec_bld2 {ty:TypeId} {i j:Nat} (x y:Operand) (ho:o.op=.build ty #[(i,x),(j,y)]) {vx vy v:Value} (hx:a.eval x=vx) (hy:a.eval y=vy) (hr:∀ w,(Instr.build ty #[(i,vx),(j,vy)]).run Tryz.prog w=.ok v w) (w:World):(execOp a.eval o).run Tryz.prog w=.ok (.value v) w:=by
 unfold execOp
 simp only [ho,List.map_toArray,List.map_cons,List.map_nil,hx,hy,Sem.run_bind,hr,Result.andThen_ok,Sem.run_pure]
theorem wpList_val (hgd:o.guard=none) {v:Value} (hr:∀ w,(execOp a.eval o).run Tryz.prog w=.ok (.value v) w) (h:wpList Tryz.prog ops Q rest (a.put o.dst v) w):wpList Tryz.prog ops Q (o :: rest) a w :=
 wpList_plain hgd fun K hK=>by
  unfold Oper.wp
  rw [hr w]
  exact hK _ _ h
theorem exec_bs2 {ty:TypeId} (x y:Operand) (ho:o.op=.buildSlice ty 2 #[(0,x),(1,y)]) {vx vy v:Value} {w2:World} (hx:a.eval x=vx) (hy:a.eval y=vy) (hr:(Instr.buildSlice ty 2 #[(0,vx),(1,vy)]).run Tryz.prog w=.ok v w2):(execOp a.eval o).run Tryz.prog w=.ok (.value v) w2:=by
 unfold execOp
 simp only [ho,List.map_toArray,List.map_cons,List.map_nil,hx,hy,Sem.run_bind,hr,Result.andThen_ok,Sem.run_pure]
theorem wpList_run (hgd:o.guard=none) {v:Value} {w2:World} (hr:(execOp a.eval o).run Tryz.prog w=.ok (.value v) w2) (h:wpList Tryz.prog ops Q rest (a.put o.dst v) w2):wpList Tryz.prog ops Q (o :: rest) a w :=
 wpList_plain hgd fun K hK=>by
  unfold Oper.wp
  rw [hr]
  exact hK _ _ h
theorem yields_val (hw:Region.wanted o (yielded ops a.tmps)=true) {v:Value} (hr:∀ w,(execOp a.eval o).run Tryz.prog w=.ok (.value v) w):YieldsIf Tryz.prog ops S o v a:=.inl ⟨hw,fun w _=>hr w⟩
end
theorem run_bldLck (n:UInt64) (w:World):(Instr.build 32 #[(0,.int .i64 2),(2,.agg (nmc n))]).run Tryz.prog w=.ok (.agg (ceA (lckC n))) w:=by
 rw [← nmc_nb8 n];kernel_rfl
theorem locked_any (n:UInt64) (w:World):Calls Tryz.prog 83 #[.agg (nmc n)] w fun e w'=>e=.returned (.agg (ceA (lckC n)))∧Ext w w':=by
 obtain ⟨W,hW⟩:∃ W,(w.alloc (.cells (nmc n) 30)).alloc (.cells ce0 32)=W:=⟨_,rfl⟩
 have HB:=zh (show Blk W (w.heap.size+1) 32 ce0 from by rw [← hW];exact Blk.newAt _ _ _ _ (by simp))
 have HX:=zh (show Ext w W from by rw [← hW];exact ((Ext.refl w).alloc' _).alloc' _)
 have ht:W.there (w.heap.size+1) 0 (RowT.sz CeR):=there_of_blk HB.out
 have r0:W.rangeAt w.heap.size 0 (RowT.enc n):=nm_range (show Blk W w.heap.size 30 (nmc n) from by rw [← hW];exact (Blk.new w 30 (nmc n)).alloc _)
 obtain ⟨v,hv⟩:∃ v,Value.agg (ceA (lckC n))=v:=⟨_,rfl⟩
 have HR:=zh (fun W=>run_bldLck n W)
 rw [hv] at HR ⊢
 have HV:=zh hv
 clear hv
 go_enter Tryz.func83,Tryz.ntmps83
 go_wp2_with (first | (with_reducible refine wpList_loadG nmP rfl (.tmp 1) rfl w.heap.size 0 rfl n _ rfl r0 ?_) | (with_reducible refine wpList_val rfl (exec_bld2 (vx:=.int .i64 2) (vy:=.agg (nmc n)) (.const (.int .i64 2)) (.tmp 3) rfl rfl rfl HR.out) ?_) | (with_reducible refine wpList_storeG ceP rfl (.tmp 2) (.tmp 4) rfl (w.heap.size+1) 0 rfl (lckC n) v HV.out rfl ht ?_))
 have hst:=blk_whole (ds:=ceA (lckC n)) HB.out rfl
 exact bodyPost_ret (retC rfl _ _ (w.heap.size+1) _ rfl (run_loadVar_row _ _ _ _ _ (0,0) _ hst Tryz.underlying32 rfl (by kernel_rfl))) rfl ⟨by rw [HV.out],Below.setCells' HX.out (Nat.le_succ _) _ _⟩
def MvOut (w:World) (l:List DeR) (e:Ending) (w':World):Prop:=∃ A n c,e=.returned (.slice A n c)∧SlG w' A n c l∧Ext w w'
theorem run_bldDe (c:CeR) (z:Int) (w:World):(Instr.build 34 #[(0,.agg (ceA c)),(1,.int .i64 z)]).run Tryz.prog w=.ok (.agg (deA ⟨c,z⟩)) w:=by kernel_rfl
theorem run_buildDe2 (a b:DeR) (w:World):(Instr.buildSlice 27 2 #[(0,.agg (deA a)),(1,.agg (deA b))]).run Tryz.prog w=.ok (.slice (some ⟨w.heap.size,0,none⟩) 2 2) (w.alloc (.cells (deA a ++ deA b) 34)):=by kernel_rfl
theorem mv_wf {x y:CeR} {n:Int} (hx:ceW x) (hy:ceW y) (hn:wfI n):∀ d ∈ movC x y n,deW d:=by
 intro d hd
 simp only [movC,List.mem_cons,List.not_mem_nil,or_false] at hd
 rcases hd with rfl | rfl
 ·exact ⟨hx,wfI_in.2 (wr_in _)⟩
 ·exact ⟨hy,hn⟩
theorem wrapE (x:Int):IntKind.i64.wrap x=wrap64 x:=by rw [IntKind.wrap_i64,wrap64]
theorem mv_sl {w:World} {g:Nat} {x y:CeR} {n:Int} (hx:ceW x) (hy:ceW y) (hn:wfI n) (hb:Blk w g 34 (deA ⟨x,IntKind.i64.wrap (-n)⟩ ++ deA ⟨y,n⟩)):SlG w (some ⟨g,0,none⟩) 2 2 (movC x y n) :=
 ⟨rfl,Nat.le_refl _,by omega,by
  have:=Rd.of_blk hb
  rw [show (deA ⟨x,IntKind.i64.wrap (-n)⟩ ++ deA ⟨y,n⟩).toList=gcs (movC x y n) from by
   rw [Array.toList_append]
   unfold movC
   rw [gcs_cons,gcs_cons,gcs_nil,List.append_nil];rfl] at this
  exact this,fun d hd=>mv_wf hx hy hn d hd⟩
theorem move_any (x y:CeR) (n:Int) (w:World) (hx:ceW x) (hy:ceW y) (hn:wfI n):Calls Tryz.prog 69 #[.agg (ceA x),.agg (ceA y),.int .i64 n] w (MvOut w (movC x y n)):=by
 obtain ⟨W,hW⟩:∃ W,(w.alloc (.cells (ceA x) 32)).alloc (.cells (ceA y) 32)=W:=⟨_,rfl⟩
 have HX:=zh (show Ext w W from by rw [← hW];exact ((Ext.refl w).alloc' _).alloc' _)
 have r0:W.rangeAt w.heap.size 0 (RowT.enc x):=rangeAt_of_blk (show Blk W w.heap.size 32 (ceA x) from by rw [← hW];exact (Blk.new w 32 (ceA x)).alloc _)
 have r1:W.rangeAt (w.heap.size+1) 0 (RowT.enc y):=rangeAt_of_blk (show Blk W (w.heap.size+1) 32 (ceA y) from by rw [← hW];exact Blk.newAt _ _ _ _ (by simp))
 obtain ⟨vx,hvx⟩:∃ v,Value.agg (ceA x)=v:=⟨_,rfl⟩
 obtain ⟨vy,hvy⟩:∃ v,Value.agg (ceA y)=v:=⟨_,rfl⟩
 obtain ⟨va,hva⟩:∃ v,Value.agg (deA ⟨x,wrap64 (-n)⟩)=v:=⟨_,rfl⟩
 obtain ⟨vb,hvb⟩:∃ v,Value.agg (deA ⟨y,n⟩)=v:=⟨_,rfl⟩
 have HRA:=zh (fun W=>run_bldDe x (wrap64 (-n)) W)
 have HRB:=zh (fun W=>run_bldDe y n W)
 have HR2:=zh (run_buildDe2 ⟨x,wrap64 (-n)⟩ ⟨y,n⟩ W)
 have HVX:=zh hvx
 have HVY:=zh hvy
 rw [hvx,hva] at HRA
 rw [hvy,hvb] at HRB
 rw [hva,hvb] at HR2
 obtain ⟨W2,hW2⟩:∃ W2,W.alloc (.cells (deA ⟨x,wrap64 (-n)⟩ ++ deA ⟨y,n⟩) 34)=W2:=⟨_,rfl⟩
 have HB2:=zh (show Blk W2 W.heap.size 34 (deA ⟨x,wrap64 (-n)⟩ ++ deA ⟨y,n⟩) from by rw [← hW2];exact Blk.new W 34 _)
 have HX2:=zh (show Ext w W2 from by rw [← hW2];exact HX.out.alloc' _)
 have HSL:=zh (mv_sl hx hy hn (by rw [wrapE];exact HB2.out))
 rw [hW2] at HR2
 clear hva hvb hvx hvy hW2 HB2 hx hy hn
 go_enter Tryz.func69,Tryz.ntmps69
 go_wp2_with (first | (with_reducible refine wpList_loadG ceP rfl (.tmp 3) rfl w.heap.size 0 rfl x vx HVX.out r0 ?_) | (with_reducible refine wpList_loadG ceP rfl (.tmp 4) rfl (w.heap.size+1) 0 rfl y vy HVY.out r1 ?_) | (with_reducible refine wpList_val rfl (exec_bld2 (vx:=vx) (vy:=.int .i64 (wrap64 (-n))) (.tmp 7) (.tmp 9) rfl rfl rfl HRA.out) ?_) | (with_reducible refine wpList_val rfl (exec_bld2 (vx:=vy) (vy:=.int .i64 n) (.tmp 11) (.tmp 12) rfl rfl rfl HRB.out) ?_) | (with_reducible refine wpList_run rfl (exec_bs2 (vx:=va) (vy:=vb) (.tmp 10) (.tmp 13) rfl rfl rfl HR2.out) ?_))
 go_ret
 exact ⟨_,_,_,rfl,HSL.out,HX2.out⟩
theorem get_cell {w:World} {A:Option Addr} {n c:Nat} {C:List DeR} (h:SlG w A n c C) {k:Nat} (hk:k < n):∃ b o,A=some ⟨b,o,none⟩∧w.cell? ⟨b,o+k * 11+10,none⟩=some (.int .i64 (nthG C k).a):=by
 obtain ⟨b,o,rfl,hr,-⟩:=h.at (by omega)
 have h1:w.rangeAt b (o+k * 11) (RowT.enc (nthG C k)):=el_at hr (by rw [h.len];exact hk)
 exact ⟨b,o,rfl,h1 10 _ rfl⟩
theorem stGet_any (s:StR) (c:CeR) (w:World) (h:s.ok w) (hc:ceW c):Calls Tryz.prog 67 #[.agg (ssA s),.agg (ceA c)] w fun e w'=>e=.returned (.int .i64 (getC s.C c))∧Ext w w':=by
 obtain ⟨W,hW⟩:∃ W,((w.alloc (.cells (ssA s) 44)).alloc (.cells (ceA c) 32))=W:=⟨_,rfl⟩
 have HB:=zh (show Blk W w.heap.size 44 (ssA s) from by rw [← hW];exact (Blk.new w 44 (ssA s)).alloc _)
 have HC:=zh (show Blk W (w.heap.size+1) 32 (ceA c) from by rw [← hW];exact Blk.newAt _ _ _ _ (by simp))
 have HE:=zh (show Ext w W from by rw [← hW];exact ((Ext.refl w).alloc' _).alloc' _)
 have q0:=HB.out.cell 0
 have q1:=HB.out.cell 1
 have q2:=HB.out.cell 2
 have q3:=HB.out.cell 3
 have q4:=HB.out.cell 4
 have r1:W.rangeAt (w.heap.size+1) 0 (RowT.enc c):=rangeAt_of_blk HC.out
 have HS:=zh h
 have hl1:=h.s1.len
 have hle:=h.s1.le
 have hcap:=h.s1.cap
 have HCW:=zh hc
 obtain ⟨v1,hv1⟩:∃ v,Value.agg (ceA c)=v:=⟨_,rfl⟩
 have HV1:=zh hv1
 have HL:=zh hl1
 rcases ix_cases (fun x:DeR=>decide (x.c=c)) s.C with hno | ⟨k,hk,h1,h2⟩
 ·have HF := zh (find_any s c W (h.ext HE.out) hc (-1) (.inl ⟨rfl, hno⟩))
  have HG:=zh (getC_of (fd_none hno))
  rw [hv1] at HF
  clear hno h hc hv1 hl1
  go_enter Tryz.func67,Tryz.ntmps67
  go_wp2_with (first | (with_reducible refine wpList_loadG ceP rfl (.tmp 3) rfl (w.heap.size+1) 0 rfl c v1 HV1.out r1 ?_) | fail "A")
  refine HF.out.mono ?_
  rintro e w5 ⟨rfl,he5⟩
  have HX:=zh (HE.out.trans he5)
  clear hW
  clear he5 r1 q0 q1 q2 q3 q4
  go_wp2_with fail
  go_ret
  exact ⟨by rw [HG.out];rfl,HX.out⟩
 ·have HF := zh (find_any s c W (h.ext HE.out) hc (k : Int) (.inr ⟨k, rfl, hk, h1, h2⟩))
  have HG:=zh (getC_of (fd_some hk h1 h2))
  have hk':k < s.n1:=by omega
  rw [hv1] at HF
  clear h1 h2 h hc hv1 hl1 hk
  go_enter Tryz.func67,Tryz.ntmps67
  go_wp2_with (first | (with_reducible refine wpList_loadG ceP rfl (.tmp 3) rfl (w.heap.size+1) 0 rfl c v1 HV1.out r1 ?_) | fail "A")
  refine HF.out.mono ?_
  rintro e w5 ⟨rfl,he5⟩
  have HX:=zh (HE.out.trans he5)
  clear hW
  have p0:w5.cell? ⟨w.heap.size,0,none⟩=some (.slice s.A1 s.n1 s.c1):=(HB.out.ext he5).cell 0
  obtain ⟨b,o,hA,hcell⟩:=get_cell (HS.out.ext HX.out).s1 hk'
  rw [hA] at p0
  have i0:(0:Int)≤(k:Int):=by omega
  have i1:(k:Int) < (s.n1:Int):=by omega
  clear he5 r1 q0 q1 q2 q3 q4 hA
  go_wp2_with fail
  go_ret
  exact ⟨by rw [HG.out];rfl,HX.out⟩
theorem mem_ix {L:List UInt64} {x:UInt64}:(∃ k,k < L.length∧nthG L k=x) ↔ x ∈ L:=by
 constructor
 ·rintro ⟨k,hk,rfl⟩;exact nthG_mem hk
 ·intro h
  obtain ⟨k,hk,rfl⟩:=List.getElem_of_mem h
  exact ⟨k,hk,(nthG_eq hk).symm⟩
def IdxOut (L:List UInt64) (x:UInt64) (w:World) (e:Ending) (w':World):Prop:=∃ r:Int,e=.returned (.int .i64 r)∧(decide (r ≥ 0)=decide (x ∈ L))∧Ext w w'
theorem idxNm_any (A:Option Addr) (n c:Nat) (L:List UInt64) (x:UInt64) (w:World) (h:SlG w A n c L):Calls Tryz.prog 181 #[.slice A n c,.agg (nmc x)] w (IdxOut L x w):=by
 have HS:=zh (h.ext ((Ext.refl w).alloc' (.cells (nmc x) 30)))
 have HB:=zh (Blk.new w 30 (nmc x))
 have HE:=zh ((Ext.refl w).alloc' (.cells (nmc x) 30))
 have hle:=h.le
 have hcap:=h.cap
 have HL:=zh h.len
 obtain ⟨W,hW⟩:∃ W,w.alloc (.cells (nmc x) 30)=W:=⟨_,rfl⟩
 rw [hW] at HS HB HE
 clear h
 go_enter Tryz.func181,Tryz.ntmps181
 go_wp2_with fail
 clear hW
 go_loopw [8] (fun vi wr=>∃ k:Nat,vi=.int .i64 (k:Int)∧k≤n∧Hid (∀ j,j < k→nthG L j ≠ x)∧Hid (Ext W wr)) (fun i _=>n - (intOf i).toNat)
 case atStart=>exact ⟨0,rfl,Nat.zero_le _,zh (fun j hj=>absurd hj (Nat.not_lt_zero _)),zh (Ext.refl W)⟩
 case round =>
  obtain ⟨k,rfl,hk,HN,HX⟩:=hrel
  by_cases hlt:k < n
  ·have i0 : (0 : Int) ≤ (k : Int) := by omega
   have i1:(k:Int) < (n:Int):=by omega
   have HS2:=zh (HS.out.ext HX.out)
   obtain ⟨b,o,rfl,hrow,-⟩:=HS2.out.at (by omega)
   have hr:wr.rangeAt b (o+k * 8) (RowT.enc (nthG L k)):=el_at hrow (by rw [HL.out];exact hlt)
   have HR:=zh hr
   have HB2:=zh (HB.out.ext HX.out)
   by_cases he:x=nthG L k
   ·have HM := zh (mem_ix.1 ⟨k, by rw [HL.out]; exact hlt, he.symm⟩)
    obtain ⟨b,hb⟩:∃ b,decide (x=nthG L k)=b:=⟨_,rfl⟩
    have HD:=zh hb
    obtain rfl:true=b:=by rw [← hb,decide_eq_true he]
    clear hb he hr hrow
    go_wp2_with fail
    refine wp_region_held_drew (S:=fun V=>Blk V w.heap.size 30 (nmc x)∧V.rangeAt b (o+k * 8) (RowT.enc (nthG L k))) (by kernel_rfl) (⟨HB2.out.drew,HR.out⟩) (fun hHeld=>?_)
    refine zu 0 (v:=.agg (nmc x)) hHeld ?_ (hy:=by exact yields_loadG nmP (by rfl) (.tmp 3) rfl w.heap.size 0 rfl x _ rfl (fun V h=>nm_range h.1))
    refine zt 1 hHeld ?_
    refine zt 2 hHeld ?_
    refine zt 3 hHeld ?_
    refine zu 4 (v:=.agg (nmc (nthG L k))) hHeld ?_ (hy:=by exact yields_loadG nmP (by rfl) (.tmp 14) rfl b (o+k * 8) rfl (nthG L k) _ rfl (fun V h=>h.2))
    refine zu 5 (v:=.bool true) hHeld ?_ (hy:=by exact yields_cmp (vx:=.agg (nmc x)) (vy:=.agg (nmc (nthG L k))) (by rfl) (.tmp 11) (.tmp 15) rfl rfl rfl (fun w=>guard_Nm _ _ _ _ _ w) (fun w=>by rw [run_eqN,HD.out]))
    refine wpAnyH_done (by kernel_rfl) ?_ _
    clear hHeld
    go_wp2_with fail
    go_ret
    exact ⟨_,rfl,by rw [decide_eq_true HM.out,decide_eq_true (by omega)],HE.out.trans (HX.out.trans ((Ext.refl wr).drew'))⟩
   ·have HN2:=zh (show ∀ j,j < k+1→nthG L j ≠ x from fun j hj e=>by
     by_cases e2:j=k
     ·rw [e2] at e;exact he e.symm
     ·exact HN.out j (by omega) e)
    obtain ⟨b,hb⟩:∃ b,decide (x=nthG L k)=b:=⟨_,rfl⟩
    have HD:=zh hb
    obtain rfl:false=b:=by rw [← hb,decide_eq_false he]
    clear hb he hr hrow
    go_wp2_with fail
    refine wp_region_held_drew (S:=fun V=>Blk V w.heap.size 30 (nmc x)∧V.rangeAt b (o+k * 8) (RowT.enc (nthG L k))) (by kernel_rfl) (⟨HB2.out.drew,HR.out⟩) (fun hHeld=>?_)
    refine zu 0 (v:=.agg (nmc x)) hHeld ?_ (hy:=by exact yields_loadG nmP (by rfl) (.tmp 3) rfl w.heap.size 0 rfl x _ rfl (fun V h=>nm_range h.1))
    refine zt 1 hHeld ?_
    refine zt 2 hHeld ?_
    refine zt 3 hHeld ?_
    refine zu 4 (v:=.agg (nmc (nthG L k))) hHeld ?_ (hy:=by exact yields_loadG nmP (by rfl) (.tmp 14) rfl b (o+k * 8) rfl (nthG L k) _ rfl (fun V h=>h.2))
    refine zu 5 (v:=.bool false) hHeld ?_ (hy:=by exact yields_cmp (vx:=.agg (nmc x)) (vy:=.agg (nmc (nthG L k))) (by rfl) (.tmp 11) (.tmp 15) rfl rfl rfl (fun w=>guard_Nm _ _ _ _ _ w) (fun w=>by rw [run_eqN,HD.out]))
    refine wpAnyH_done (by kernel_rfl) ?_ _
    clear hHeld
    have HX2:=zh (HX.out.trans ((Ext.refl wr).drew'))
    go_wp2_with fail
    go_roundw
    case rel=>exact ⟨k+1,by go_num,hlt,HN2,HX2⟩
    case measure=>simp [intOf];omega
  ·have i1 : ¬ (k : Int) < (n : Int) := by omega
   have HM:=zh (show ¬ x ∈ L from fun h=>by
    obtain ⟨j,hj,e⟩:=mem_ix.2 h
    exact HN.out j (by rw [HL.out] at hj;omega) e)
   go_wp2_with fail
   go_ret
   exact ⟨-1,rfl,by rw [decide_eq_false HM.out];rfl,HE.out.trans HX.out⟩
theorem hasNm_any (A:Option Addr) (n c:Nat) (L:List UInt64) (x:UInt64) (w:World) (h:SlG w A n c L):Calls Tryz.prog 123 #[.slice A n c,.agg (nmc x)] w fun e w'=>e=.returned (.bool (decide (x ∈ L)))∧Ext w w':=by
 have HE:=zh ((Ext.refl w).alloc' (.cells (nmc x) 30))
 have HS:=zh (h.ext HE.out)
 have r0:(w.alloc (.cells (nmc x) 30)).rangeAt w.heap.size 0 (RowT.enc x):=nm_range (Blk.new w 30 (nmc x))
 clear h
 go_enter Tryz.func123,Tryz.ntmps123
 go_wp2_with (first | (with_reducible refine wpList_loadG nmP rfl (.tmp 3) rfl w.heap.size 0 rfl x _ rfl r0 ?_) | fail "A")
 refine (idxNm_any A n c L x _ HS.out).mono ?_
 rintro e w5 ⟨r,rfl,hr,he5⟩
 have HR:=zh hr
 have HX:=zh (HE.out.trans he5)
 clear hr he5 r0
 go_wp2_with fail
 go_ret
 exact ⟨by rw [← HR.out];rfl,HX.out⟩
theorem stApplied_any (s:StR) (x:UInt64) (w:World) (h:s.ok w):Calls Tryz.prog 63 #[.agg (ssA s),.agg (nmc x)] w fun e w'=>e=.returned (.bool (decide (x ∈ s.P)))∧Ext w w':=by
 obtain ⟨W,hW⟩:∃ W,((w.alloc (.cells (ssA s) 44)).alloc (.cells (nmc x) 30))=W:=⟨_,rfl⟩
 have HB:=zh (show Blk W w.heap.size 44 (ssA s) from by rw [← hW];exact (Blk.new w 44 (ssA s)).alloc _)
 have HC:=zh (show Blk W (w.heap.size+1) 30 (nmc x) from by rw [← hW];exact Blk.newAt _ _ _ _ (by simp))
 have HE:=zh (show Ext w W from by rw [← hW];exact ((Ext.refl w).alloc' _).alloc' _)
 have q3:W.cell? ⟨w.heap.size,3,none⟩=some (.slice s.A4 s.n4 s.c4):=HB.out.cell 3
 have r1:W.rangeAt (w.heap.size+1) 0 (RowT.enc x):=nm_range HC.out
 have HS:=zh (h.ext HE.out).s4
 clear h
 go_enter Tryz.func63,Tryz.ntmps63
 go_wp2_with (first | (with_reducible refine wpList_loadG nmP rfl (.tmp 3) rfl (w.heap.size+1) 0 rfl x _ rfl r1 ?_) | fail "A")
 refine (hasNm_any s.A4 s.n4 s.c4 s.P x _ HS.out).mono ?_
 rintro e w5 ⟨rfl,he5⟩
 have HX:=zh (HE.out.trans he5)
 clear he5 q3 r1 hW
 go_wp2_with fail
 go_ret
 exact ⟨rfl,HX.out⟩
def lkO:Option LkR→LkR
 | none=>⟨0,0,0,0,0⟩
 | some l=>l
theorem fk_none {K:List LkR} {n:UInt64} (h:∀ k,k < K.length→decide ((nthG K k).nm=n)=false):fdK K n=none:=by
 unfold fdK
 rw [List.find?_eq_none]
 intro l hl
 obtain ⟨k,hk,rfl⟩:=List.getElem_of_mem hl
 rw [nthG_eq hk,h k hk];decide
theorem fk_some:∀ {K:List LkR} {n:UInt64} {k:Nat},k < K.length→decide ((nthG K k).nm=n)=true→(∀ j,j < k→decide ((nthG K j).nm=n)=false)→fdK K n=some (nthG K k)
 | [],n,k,hk,_,_=>by simp at hk
 | d :: r,n,0,_,h1,_=>by unfold fdK;rw [List.find?_cons,show decide (d.nm=n)=true from h1];rfl
 | d :: r,n,k+1,hk,h1,h2=>by
  have h0:=h2 0 (by omega)
  unfold fdK
  rw [List.find?_cons,show decide (d.nm=n)=false from h0]
  exact fk_some (K:=r) (by simpa using hk) h1 (fun j hj=>h2 (j+1) (by omega))
theorem lk_zero:lkA (⟨0,0,0,0,0⟩:LkR)=lk0:=by unfold lkA lk0;simp only [nb8_nil 0 (by omega),nb8_nil 1 (by omega),nb8_nil 2 (by omega),nb8_nil 3 (by omega),nb8_nil 4 (by omega),nb8_nil 5 (by omega),nb8_nil 6 (by omega),nb8_nil 7 (by omega)]
end Go.Proofs.YtohmmcahpakokaaGreat
