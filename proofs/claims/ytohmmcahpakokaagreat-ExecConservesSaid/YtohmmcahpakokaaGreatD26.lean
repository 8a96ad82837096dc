/- The bytes of votes and of signed votes (the program's Encode). -/
import Derived.Test.YtohmmcahpakokaaGreatD24
import Derived.Test.YtohmmcahpakokaaGreatD25
set_option maxRecDepth 100000
set_option maxHeartbeats 8000000
set_option linter.unusedSectionVars false
set_option linter.unusedVariables false
set_option linter.unusedSimpArgs false
namespace Go.Proofs.YtohmmcahpakokaaGreat
section
open Go.RowKit
attribute [local go_sem ↓] Go.wp_at_zero Go.wp_at_succ
theorem hmk23 (w:World):(Instr.makeSlice 45 (.int .i64 0) (.int .i64 23)).run Tryz.prog w=.ok (.slice (some ⟨w.heap.size,0,none⟩) 0 23) (w.alloc (.cells (madeCells (Value.int .u8 0).cells 23) 5)):=by
 obtain ⟨i,hi,hz,hs,hby⟩:=bytesE.get
 have h:=run_make (P:=Tryz.prog) w 45 5 i (.int .u8 0) bytesE.ut hi hz .i64 .i64 0 23 (by omega) (by omega) (by rw [hby];omega) (by omega)
 simpa [hs] using h
theorem appV2 (A:Option Addr) (n c:Nat) (l:List UInt8) (z:Int) (w:World) (h:SlB w A n c l) (hn:n≤140737488351232):Calls Tryz.prog 220 #[.slice A n c,.int .u64 (un (uI z)),.int .i64 2] w fun e w'=>∃ A' c',e=.returned (.slice A' (n+2) c')∧OwnB w' w.heap.size 5 A' (n+2) c' (l ++ beI 2 z)∧Ext w w' :=
 appendUI_any A n c l z 2 (by omega) w h hn
theorem slB_new5 (w:World) (t:TypeId) (x y z u v:Int) (a b c d e:UInt8) (hx:x=(a.toNat:Int)) (hy:y=(b.toNat:Int)) (hz:z=(c.toNat:Int)) (hu:u=(d.toNat:Int)) (hv:v=(e.toNat:Int)) (g:Nat) (hg:w.heap.size=g):SlB (w.alloc (.cells #[.int .u8 x,.int .u8 y,.int .u8 z,.int .u8 u,.int .u8 v] t)) (some ⟨g,0,none⟩) 5 5 [a,b,c,d,e] :=
 SlB.new hg [a,b,c,d,e] (by rw [hx,hy,hz,hu,hv];rfl) (by simp)
theorem slB_at {w:World} {b o:Nat} {l:List UInt8} (h:w.rangeAt b o (bcs l)) {n c:Nat} (hl:l.length=n) (hc:n≤c) (hm:c≤9223372036854775807):SlB w (some ⟨b,o,none⟩) n c l:=⟨hl,hc,hm,.inr ⟨b,o,rfl,h⟩⟩
theorem voteEnc_yes (v:VtR) (h:vldVt v=true) (w:World):Calls Tryz.prog 266 #[.agg (vtA v)] w fun e w'=>∃ A' c',e=.returned (.tuple #[.slice A' 23 c',.bool true])∧OwnB w' w.heap.size 5 A' 23 c' (encVt v)∧Ext w w':=by
 have HE:=zh ((Ext.refl w).alloc' (.cells (vtA v) 134))
 have HB:=zh (Blk.new w 134 (vtA v))
 obtain ⟨W0,hW0⟩:∃ W0,w.alloc (.cells (vtA v) 134)=W0:=⟨_,rfl⟩
 rw [hW0] at HE HB
 have hr:W0.rangeAt w.heap.size 0 (vtL v):=rB HB.out
 have HV:=zh (fun (W:World)=>voteValid_any v W)
 rw [h] at HV
 have hmk:=hmk23
 have u_su:=uI_un v.su
 clear h
 go_enter Tryz.func266,Tryz.ntmps266
 go_wp2_with (first | (with_reducible refine wpList_loadVt rfl (.tmp 1) rfl w.heap.size 0 rfl v hr ?_))
 refine (HV.out _).mono ?_
 rintro e w1 ⟨rfl,he1⟩
 have HX:=zh (HE.out.trans he1)
 have HB1:=zh (HB.out.ext he1)
 obtain ⟨a0,a1,a2,a3,a4,a5,a6,a7⟩:=vt_facts HB1.out
 have glt:w.heap.size < w1.heap.size:=by have:=HB1.out.lt;omega
 clear he1 hr hW0 a6 a7
 go_wp2_with (at_builtin;go_must (refine wpList_appB bytesE rfl (.tmp 9) (.tmp 25) rfl w1.heap.size _ _ _ [] rfl ((OwnB.made w1 w1.heap.size _ 23 w1.heap.size rfl (Nat.le_refl _) (by omega) (size_madeCells _ _)).alloc _) _ _ _ [toB v.k,toB v.sl,toB v.ro,toB v.ch,toB v.si] rfl ?r1 (by omega) ?b1 w1 ?w1 ?_))
 case r1=>exact slB_new5 _ _ _ _ _ _ _ _ _ _ _ _ (by first | exact toB_eq _ | (rw [← toB_eq];omega)) (by first | exact toB_eq _ | (rw [← toB_eq];omega)) (by first | exact toB_eq _ | (rw [← toB_eq];omega)) (by first | exact toB_eq _ | (rw [← toB_eq];omega)) (by first | exact toB_eq _ | (rw [← toB_eq];omega)) _ (by simp)
 case b1=>simp;omega
 case w1=>exact Below.alloc (Below.alloc (Below.refl _ _) (Nat.le_refl _) _) (by simp) _
 intro A1 c1 w2 ho2 hw2 hs2
 have HX2:=zh (Below.mono hw2 (Nat.le_refl _):Ext w1 w2)
 have HB2:=zh (HB1.out.ext HX2.out)
 have HO2:=zh ho2
 obtain ⟨a0,a1,a2,a3,a4,a5,a6,a7⟩:=vt_facts HB2.out
 clear ho2 hw2 hs2 hmk a0 a1 a2 a3 a4 a6 a7
 go_wp2_with fail
 refine (appV2 A1 5 c1 _ v.su w2 HO2.out.sl (by omega)).mono ?_
 rintro e w3 ⟨A3,c3,rfl,hO3,he3⟩
 have HX3:=zh (Ext.trans HX2.out he3)
 have HB3:=zh (HB1.out.ext HX3.out)
 have HO3:=zh hO3
 have HS3:=zh he3.size
 clear hO3 he3 a5 u_su
 go_wp2_with (at_builtin;go_must (refine wpList_appB bytesE rfl (.tmp 32) (.tmp 34) rfl w2.heap.size _ _ _ _ rfl HO3.out _ 8 8 (nmb v.pa) rfl (slB_at (vt_pa HB3.out) (nL _) (by omega) (by omega)) (by omega) HS3.out w3 ((Below.refl _ _)) ?_))
 intro A4 c4 w4 ho4 hw4 hs4
 have HX4:=zh (Below.trans (Below.mono HX3.out (Nat.le_refl _)) (Below.mono hw4 HX2.out.size):Ext w1 w4)
 have HB4:=zh (HB1.out.ext HX4.out)
 have HO4:=zh ho4
 have HS4:=zh (show w2.heap.size≤w4.heap.size from Nat.le_trans HS3.out hs4)
 clear ho4 hw4 hs4
 go_wp2_with (at_builtin;go_must (refine wpList_appB bytesE rfl (.tmp 36) (.tmp 38) rfl w2.heap.size _ _ _ _ rfl HO4.out _ 8 8 (nmb v.va) rfl (slB_at (vt_va HB4.out) (nL _) (by omega) (by omega)) (by omega) HS4.out w4 ((Below.refl _ _)) ?_))
 intro A5 c5 w5 ho5 hw5 hs5
 have HF:=zh (show OwnB w5 w.heap.size 5 A5 23 c5 (encVt v) from by
  have h1:OwnB w5 w.heap.size 5 A5 23 c5 _:=own_mono (base':=w.heap.size) ho5 (by have:=HX.out.size;have:=HX2.out.size;omega)
  have e:encVt v=[toB v.k,toB v.sl,toB v.ro,toB v.ch,toB v.si] ++ beI 2 v.su ++ nmb v.pa ++ nmb v.va:=by simp [encVt]
  rw [e]
  exact h1)
 have HG:=zh (HX.out.trans (Below.trans (Below.mono HX4.out (Nat.le_refl _)) (Below.mono hw5 HX2.out.size):Ext w1 w5))
 clear ho5 hw5 hs5
 go_wp2_with fail
 go_ret2
 exact ⟨A5,c5,rfl,HF.out,HG.out⟩
abbrev SgV:=VtR × List UInt8
def SgR.V (S:SgR):SgV:=(S.v,S.sig)
end
section
open Go.RowKit
structure St3 where
 C:List DeR
 Q:List Int
 P:List UInt64
def StV.s3 (S:StV):St3:=⟨S.C,S.Q,S.P⟩
def cov1 (C:List DeR) (c:CeR):List DeR :=
 if getC C polC≤0 ∨ 0≤getC C c then C
 else addL C (movC polC c (if - getC C polC < getC C c then - getC C c else getC C polC))
def kindB (c:CeR):Bool:=decide (1≤c.k∧c.k≤3)
def covL (C:List DeR):List CeR:=canonO ltCe ((C.map DeR.c).filter kindB)
def covC (C:List DeR):List DeR:=(covL C).foldl cov1 C
def covS (S:StV):StV:=⟨covC S.C,S.Q,S.K,S.P,S.G⟩
section
variable {α β:Type} [RowT α] [DecidableEq β] {V:α→β} {lt0:α→α→Bool} {lt:β→β→Bool} {d d':Array α} {n:Nat}
theorem wsc_of (hlt:∀ x y,lt0 x y=lt (V x) (V y)) (hn:d'.size=n) (hs:Sort.SortedIn lt0 0 n d'):Wsc lt (d'.toList.map V):=by
 unfold Wsc
 rw [List.pairwise_iff_getElem]
 intro i j hi hj hij
 simp only [List.length_map,Array.length_toList] at hi hj
 have:=hs i j (Nat.zero_le _) hij (by omega)
 rw [hlt,getElem!_pos d' i hi,getElem!_pos d' j hj] at this
 simpa using this
theorem mem_of_perm (hd:d.size=n) (hp:Sort.PermIn 0 n d d') (y:β):y ∈ d'.toList.map V ↔ y ∈ d.toList.map V:=by
 obtain ⟨h1,h2,h3⟩:=hp
 have e1:d'.extract 0 n=d':=by rw [← hd,← h1];exact Array.extract_size
 have e2:d.extract 0 n=d:=by rw [← hd];exact Array.extract_size
 rw [e1,e2] at h3
 exact (h3.map V).mem_iff
theorem canon_of_sorted (hS:STO lt) (hlt:∀ x y,lt0 x y=lt (V x) (V y)) (hd:d.size=n) (hp:Sort.PermIn 0 n d d') (hs:Sort.SortedIn lt0 0 n d'):compO (d'.toList.map V)=canonO lt (d.toList.map V) :=
 compO_canon hS (wsc_of hlt (by rw [hp.1,hd]) hs) (mem_of_perm hd hp)
end
def bgnE (okG:Bool) (na:Nat) (sg:Bool) (S:StV) (ac sq:Int) (L:List OpR):Int :=
 if vTx ac sq L=false ∨ okG=false ∨ (na:Int)≤ac ∨ S.Q.length ≠ na then 1
 else if sg=false then 8
 else if txNm ac sq L ∈ S.P then 7
 else if sq ≠ S.Q.getD ac.toNat 0 then 101
 else 0
def exeC (chk:OpR→StV→Int) (okG:Bool) (na:Nat) (sg:Bool) (S:StV) (ac sq:Int) (L:List OpR):Int :=
 if bgnE okG na sg S ac sq L ≠ 0 then bgnE okG na sg S ac sq L else errN chk ac sq L S L.length
def exeT (S:StV) (ac sq:Int) (L:List OpR):StV :=
 ⟨(doN ac sq L S L.length).C,(doN ac sq L S L.length).Q.set ac.toNat (sq+1),(doN ac sq L S L.length).K,markP (doN ac sq L S L.length).P (txNm ac sq L),(doN ac sq L S L.length).G⟩
def exeS (chk:OpR→StV→Int) (okG:Bool) (na:Nat) (sg:Bool) (S:StV) (ac sq:Int) (L:List OpR):StV :=
 if exeC chk okG na sg S ac sq L=0 then exeT S ac sq L else S
section
variable {chk:OpR→StV→Int} {okG:Bool} {na:Nat} {sg:Bool} {S:StV} {ac sq:Int} {L:List OpR}
theorem bgnE_ok (h:bgnE okG na sg S ac sq L=0):vTx ac sq L=true∧okG=true∧ac < (na:Int)∧S.Q.length=na∧sg=true∧txNm ac sq L ∉ S.P∧sq=S.Q.getD ac.toNat 0:=by
 unfold bgnE at h
 split at h
 ·cases h
 rename_i h1
 split at h
 ·cases h
 rename_i h2
 split at h
 ·cases h
 rename_i h3
 split at h
 ·cases h
 rename_i h4
 simp only [not_or,Bool.not_eq_false,Decidable.not_not] at h1 h2 h4
 exact ⟨h1.1,h1.2.1,by omega,h1.2.2.2,h2,h3,h4⟩
theorem exeS_tot:totC (exeS chk okG na sg S ac sq L).C=totC S.C:=by
 unfold exeS;split
 ·exact doN_tot ac sq L S L.length
 rfl
end
end
section
open Go.RowKit
attribute [local go_sem ↓] Go.wp_at_zero Go.wp_at_succ
theorem ce_zero (k i:Int):ceA ⟨k,i,0⟩=#[.int .i64 k,.int .i64 i,.int .u8 0,.int .u8 0,.int .u8 0,.int .u8 0,.int .u8 0,.int .u8 0,.int .u8 0,.int .u8 0]:=by
 unfold ceA;simp only [nb8_nil 0 (by omega),nb8_nil 1 (by omega),nb8_nil 2 (by omega),nb8_nil 3 (by omega),nb8_nil 4 (by omega),nb8_nil 5 (by omega),nb8_nil 6 (by omega),nb8_nil 7 (by omega)]
theorem balance_any (i:Int) (w:World):Calls Tryz.prog 82 #[.int .i64 i] w fun e w'=>e=.returned (.agg (ceA (balC i)))∧Ext w w':=by
 have HB:=zh (Blk.new w 32 ce0)
 have HX:=zh ((Ext.refl w).alloc' (.cells ce0 32))
 have ht:(w.alloc (.cells ce0 32)).there w.heap.size 0 (RowT.sz CeR):=tB HB.out
 have HV:=zh (show Value.agg (ceA (balC i))=.agg #[.int .i64 1,.int .i64 i,.int .u8 0,.int .u8 0,.int .u8 0,.int .u8 0,.int .u8 0,.int .u8 0,.int .u8 0,.int .u8 0] by unfold balC;rw [ce_zero])
 go_enter Tryz.func82,Tryz.ntmps82
 go_wp2_with ((with_reducible refine wpList_storeG ceP rfl (.tmp 2) (.tmp 4) rfl w.heap.size 0 rfl (balC i) _ HV.out rfl ht ?_))
 have hst:=bW (ds:=ceA (balC i)) HB.out rfl
 exact bodyPost_ret (retC rfl _ _ w.heap.size _ rfl (run_loadVar_row _ _ _ _ _ (0,0) _ hst Tryz.underlying32 rfl (by kernel_rfl))) rfl ⟨rfl,Below.setCells' HX.out (Nat.le_refl _) _ _⟩
theorem stake_any (i:Int) (w:World):Calls Tryz.prog 80 #[.int .i64 i] w fun e w'=>e=.returned (.agg (ceA (stkC i)))∧Ext w w':=by
 have HB:=zh (Blk.new w 32 ce0)
 have HX:=zh ((Ext.refl w).alloc' (.cells ce0 32))
 have ht:(w.alloc (.cells ce0 32)).there w.heap.size 0 (RowT.sz CeR):=tB HB.out
 have HV:=zh (show Value.agg (ceA (stkC i))=.agg #[.int .i64 3,.int .i64 i,.int .u8 0,.int .u8 0,.int .u8 0,.int .u8 0,.int .u8 0,.int .u8 0,.int .u8 0,.int .u8 0] by unfold stkC;rw [ce_zero])
 go_enter Tryz.func80,Tryz.ntmps80
 go_wp2_with ((with_reducible refine wpList_storeG ceP rfl (.tmp 2) (.tmp 4) rfl w.heap.size 0 rfl (stkC i) _ HV.out rfl ht ?_))
 have hst:=bW (ds:=ceA (stkC i)) HB.out rfl
 exact bodyPost_ret (retC rfl _ _ w.heap.size _ rfl (run_loadVar_row _ _ _ _ _ (0,0) _ hst Tryz.underlying32 rfl (by kernel_rfl))) rfl ⟨rfl,Below.setCells' HX.out (Nat.le_refl _) _ _⟩
theorem pool_any (w:World):Calls Tryz.prog 68 #[] w fun e w'=>e=.returned (.agg (ceA polC))∧Ext w w':=by
 have HB:=zh (Blk.new w 32 ce0)
 have HX:=zh ((Ext.refl w).alloc' (.cells ce0 32))
 have ht:(w.alloc (.cells ce0 32)).there w.heap.size 0 (RowT.sz CeR):=tB HB.out
 have HV:=zh (show Value.agg (ceA polC)=.agg #[.int .i64 4,.int .i64 0,.int .u8 0,.int .u8 0,.int .u8 0,.int .u8 0,.int .u8 0,.int .u8 0,.int .u8 0,.int .u8 0] by unfold polC;rw [ce_zero])
 go_enter Tryz.func68,Tryz.ntmps68
 go_wp2_with ((with_reducible refine wpList_storeG ceP rfl (.tmp 0) (.tmp 1) rfl w.heap.size 0 rfl polC _ HV.out rfl ht ?_))
 have hst:=bW (ds:=ceA polC) HB.out rfl
 exact bodyPost_ret (retC rfl _ _ w.heap.size _ rfl (run_loadVar_row _ _ _ _ _ (0,0) _ hst Tryz.underlying32 rfl (by kernel_rfl))) rfl ⟨rfl,Below.setCells' HX.out (Nat.le_refl _) _ _⟩
section
variable {ops:Array Oper} {rest:List Oper} {o:Oper} {a:Act} {w:World} {K:Act→World→Prop} {Q:Exit→Act→World→Prop} {S:World→Prop}
theorem exec_bld2 {ty:TypeId} {i j:Nat} (x y:Operand) (ho:o.op=.build ty #[(i,x),(j,y)]) {vx vy v:Value} (hx:a.eval x=vx) (hy:a.eval y=vy) (hr:∀ w,(Instr.build ty #[(i,vx),(j,vy)]).run Tryz.prog w=.ok v w) (w:World):(execOp a.eval o).run Tryz.prog w=.ok (.value v) w:=by
 unfold execOp
 simp only [ho,List.map_toArray,List.map_cons,List.map_nil,hx,hy,Sem.run_bind,hr,Result.andThen_ok,Sem.run_pure]
theorem wpList_val (hgd:o.guard=none) {v:Value} (hr:∀ w,(execOp a.eval o).run Tryz.prog w=.ok (.value v) w) (h:wpList Tryz.prog ops Q rest (a.put o.dst v) w):wpList Tryz.prog ops Q (o :: rest) a w :=
 wpList_plain hgd fun K hK=>by
  unfold Oper.wp
  rw [hr w]
  exact hK _ _ h
theorem exec_bs2 {ty:TypeId} (x y:Operand) (ho:o.op=.buildSlice ty 2 #[(0,x),(1,y)]) {vx vy v:Value} {w2:World} (hx:a.eval x=vx) (hy:a.eval y=vy) (hr:(Instr.buildSlice ty 2 #[(0,vx),(1,vy)]).run Tryz.prog w=.ok v w2):(execOp a.eval o).run Tryz.prog w=.ok (.value v) w2:=by
 unfold execOp
 simp only [ho,List.map_toArray,List.map_cons,List.map_nil,hx,hy,Sem.run_bind,hr,Result.andThen_ok,Sem.run_pure]
theorem wpList_run (hgd:o.guard=none) {v:Value} {w2:World} (hr:(execOp a.eval o).run Tryz.prog w=.ok (.value v) w2) (h:wpList Tryz.prog ops Q rest (a.put o.dst v) w2):wpList Tryz.prog ops Q (o :: rest) a w :=
 wpList_plain hgd fun K hK=>by
  unfold Oper.wp
  rw [hr]
  exact hK _ _ h
theorem yields_val (hw:Region.wanted o (yielded ops a.tmps)=true) {v:Value} (hr:∀ w,(execOp a.eval o).run Tryz.prog w=.ok (.value v) w):YieldsIf Tryz.prog ops S o v a:=.inl ⟨hw,fun w _=>hr w⟩
end
theorem run_bldLck (n:UInt64) (w:World):(Instr.build 32 #[(0,.int .i64 2),(2,.agg (nmc n))]).run Tryz.prog w=.ok (.agg (ceA (lckC n))) w:=by
 rw [← nmc_nb8 n];kernel_rfl
theorem locked_any (n:UInt64) (w:World):Calls Tryz.prog 83 #[.agg (nmc n)] w fun e w'=>e=.returned (.agg (ceA (lckC n)))∧Ext w w':=by
 obtain ⟨W,hW⟩:∃ W,(w.alloc (.cells (nmc n) 30)).alloc (.cells ce0 32)=W:=⟨_,rfl⟩
 have HB:=zh (show Blk W (w.heap.size+1) 32 ce0 from by rw [← hW];exact Blk.newAt _ _ _ _ (by simp))
 have HX:=zh (show Ext w W from by rw [← hW];exact ((Ext.refl w).alloc' _).alloc' _)
 have ht:W.there (w.heap.size+1) 0 (RowT.sz CeR):=tB HB.out
 have r0:W.rangeAt w.heap.size 0 (RowT.enc n):=nm_range (show Blk W w.heap.size 30 (nmc n) from by rw [← hW];exact (Blk.new w 30 (nmc n)).alloc _)
 obtain ⟨v,hv⟩:∃ v,Value.agg (ceA (lckC n))=v:=⟨_,rfl⟩
 have HR:=zh (fun W=>run_bldLck n W)
 rw [hv] at HR ⊢
 have HV:=zh hv
 clear hv
 go_enter Tryz.func83,Tryz.ntmps83
 go_wp2_with (first | (with_reducible refine wL nmP rfl (.tmp 1) rfl w.heap.size 0 rfl n _ rfl r0 ?_) | (with_reducible refine wpList_val rfl (exec_bld2 (vx:=.int .i64 2) (vy:=.agg (nmc n)) (.const (.int .i64 2)) (.tmp 3) rfl rfl rfl HR.out) ?_) | (with_reducible refine wpList_storeG ceP rfl (.tmp 2) (.tmp 4) rfl (w.heap.size+1) 0 rfl (lckC n) v HV.out rfl ht ?_))
 have hst:=bW (ds:=ceA (lckC n)) HB.out rfl
 exact bodyPost_ret (retC rfl _ _ (w.heap.size+1) _ rfl (run_loadVar_row _ _ _ _ _ (0,0) _ hst Tryz.underlying32 rfl (by kernel_rfl))) rfl ⟨by rw [HV.out],Below.setCells' HX.out (Nat.le_succ _) _ _⟩
def MvOut (w:World) (l:List DeR) (e:Ending) (w':World):Prop:=∃ A n c,e=.returned (.slice A n c)∧SlG w' A n c l∧Ext w w'
theorem run_bldDe (c:CeR) (z:Int) (w:World):(Instr.build 34 #[(0,.agg (ceA c)),(1,.int .i64 z)]).run Tryz.prog w=.ok (.agg (deA ⟨c,z⟩)) w:=by kernel_rfl
theorem run_buildDe2 (a b:DeR) (w:World):(Instr.buildSlice 27 2 #[(0,.agg (deA a)),(1,.agg (deA b))]).run Tryz.prog w=.ok (.slice (some ⟨w.heap.size,0,none⟩) 2 2) (w.alloc (.cells (deA a ++ deA b) 34)):=by kernel_rfl
theorem mv_wf {x y:CeR} {n:Int} (hx:ceW x) (hy:ceW y) (hn:wfI n):∀ d ∈ movC x y n,deW d:=by
 intro d hd
 simp only [movC,List.mem_cons,List.not_mem_nil,or_false] at hd
 rcases hd with rfl | rfl
 ·exact ⟨hx,wfI_in.2 (wr_in _)⟩
 exact ⟨hy,hn⟩
theorem wrapE (x:Int):IntKind.i64.wrap x=wrap64 x:=by rw [IntKind.wrap_i64,wrap64]
theorem mv_sl {w:World} {g:Nat} {x y:CeR} {n:Int} (hx:ceW x) (hy:ceW y) (hn:wfI n) (hb:Blk w g 34 (deA ⟨x,IntKind.i64.wrap (-n)⟩ ++ deA ⟨y,n⟩)):SlG w (some ⟨g,0,none⟩) 2 2 (movC x y n) :=
 ⟨rfl,Nat.le_refl _,by omega,by
  have:=Rd.of_blk hb
  rw [show (deA ⟨x,IntKind.i64.wrap (-n)⟩ ++ deA ⟨y,n⟩).toList=gcs (movC x y n) from by
   rw [Array.toList_append]
   unfold movC
   rw [gcs_cons,gcs_cons,gcs_nil,List.append_nil];rfl] at this
  exact this,fun d hd=>mv_wf hx hy hn d hd⟩
theorem move_any (x y:CeR) (n:Int) (w:World) (hx:ceW x) (hy:ceW y) (hn:wfI n):Calls Tryz.prog 69 #[.agg (ceA x),.agg (ceA y),.int .i64 n] w (MvOut w (movC x y n)):=by
 obtain ⟨W,hW⟩:∃ W,(w.alloc (.cells (ceA x) 32)).alloc (.cells (ceA y) 32)=W:=⟨_,rfl⟩
 have HX:=zh (show Ext w W from by rw [← hW];exact ((Ext.refl w).alloc' _).alloc' _)
 have r0:W.rangeAt w.heap.size 0 (RowT.enc x):=rB (show Blk W w.heap.size 32 (ceA x) from by rw [← hW];exact (Blk.new w 32 (ceA x)).alloc _)
 have r1:W.rangeAt (w.heap.size+1) 0 (RowT.enc y):=rB (show Blk W (w.heap.size+1) 32 (ceA y) from by rw [← hW];exact Blk.newAt _ _ _ _ (by simp))
 obtain ⟨vx,hvx⟩:∃ v,Value.agg (ceA x)=v:=⟨_,rfl⟩
 obtain ⟨vy,hvy⟩:∃ v,Value.agg (ceA y)=v:=⟨_,rfl⟩
 obtain ⟨va,hva⟩:∃ v,Value.agg (deA ⟨x,wrap64 (-n)⟩)=v:=⟨_,rfl⟩
 obtain ⟨vb,hvb⟩:∃ v,Value.agg (deA ⟨y,n⟩)=v:=⟨_,rfl⟩
 have HRA:=zh (fun W=>run_bldDe x (wrap64 (-n)) W)
 have HRB:=zh (fun W=>run_bldDe y n W)
 have HR2:=zh (run_buildDe2 ⟨x,wrap64 (-n)⟩ ⟨y,n⟩ W)
 have HVX:=zh hvx
 have HVY:=zh hvy
 rw [hvx,hva] at HRA
 rw [hvy,hvb] at HRB
 rw [hva,hvb] at HR2
 obtain ⟨W2,hW2⟩:∃ W2,W.alloc (.cells (deA ⟨x,wrap64 (-n)⟩ ++ deA ⟨y,n⟩) 34)=W2:=⟨_,rfl⟩
 have HB2:=zh (show Blk W2 W.heap.size 34 (deA ⟨x,wrap64 (-n)⟩ ++ deA ⟨y,n⟩) from by rw [← hW2];exact Blk.new W 34 _)
 have HX2:=zh (show Ext w W2 from by rw [← hW2];exact HX.out.alloc' _)
 have HSL:=zh (mv_sl hx hy hn (by rw [wrapE];exact HB2.out))
 rw [hW2] at HR2
 clear hva hvb hvx hvy hW2 HB2 hx hy hn
 go_enter Tryz.func69,Tryz.ntmps69
 go_wp2_with (first | (with_reducible refine wL ceP rfl (.tmp 3) rfl w.heap.size 0 rfl x vx HVX.out r0 ?_) | (with_reducible refine wL ceP rfl (.tmp 4) rfl (w.heap.size+1) 0 rfl y vy HVY.out r1 ?_) | (with_reducible refine wpList_val rfl (exec_bld2 (vx:=vx) (vy:=.int .i64 (wrap64 (-n))) (.tmp 7) (.tmp 9) rfl rfl rfl HRA.out) ?_) | (with_reducible refine wpList_val rfl (exec_bld2 (vx:=vy) (vy:=.int .i64 n) (.tmp 11) (.tmp 12) rfl rfl rfl HRB.out) ?_) | (with_reducible refine wpList_run rfl (exec_bs2 (vx:=va) (vy:=vb) (.tmp 10) (.tmp 13) rfl rfl rfl HR2.out) ?_))
 go_ret
 exact ⟨_,_,_,rfl,HSL.out,HX2.out⟩
end
end Go.Proofs.YtohmmcahpakokaaGreat
