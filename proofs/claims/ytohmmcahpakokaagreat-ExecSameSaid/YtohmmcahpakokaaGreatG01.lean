import Derived.Test.YtohmmcahpakokaaGreatG00
import Derived.Test.YtohmmcahpakokaaGreatGL
set_option maxRecDepth 100000
set_option maxHeartbeats 8000000
set_option linter.unusedVariables false
set_option linter.unusedSimpArgs false
namespace Go.Proofs.YtohmmcahpakokaaGreat
section
open Go.RowKit
attribute [local go_sem ↓] Go.wp_at_zero Go.wp_at_succ
attribute [local go_sem] fH
theorem aLa (x:UInt64) (w:World) :
  Calls Tryz.prog 226 #[.int .u64 (un x),.int .u64 13] w fun e w'=>e=.returned (.int .u64 (un (pP x)))∧w=w':=by
 have h:=zh (aBE x)
 have h0:=fH x
 go_enter Tryz.func226,Tryz.ntmps226
 go_wp2
 go_ret
 exact ⟨by rw [← h.out];rfl,rfl⟩
theorem aKZ (x:UInt64) (w:World) :
  Calls Tryz.prog 226 #[.int .u64 (un x),.int .u64 32] w fun e w'=>e=.returned (.int .u64 (un (pO x)))∧w=w':=by
 have h:=zh (aBD x)
 have h0:=fH x
 go_enter Tryz.func226,Tryz.ntmps226
 go_wp2
 go_ret
 exact ⟨by rw [← h.out];rfl,rfl⟩
theorem aAf (x:UInt64) (w:World) :
  Calls Tryz.prog 241 #[.int .u64 (un x),.int .i64 13] w fun e w'=>e=.returned (.int .u64 (un (pP x)))∧w=w':=by
 have h:=zh (aBE x)
 have h0:=fH x
 have hb:bits .and .u64 13 63=13:=by decide
 go_enter Tryz.func241,Tryz.ntmps241
 go_wp2
 go_ret
 exact ⟨by rw [← h.out];rfl,rfl⟩
theorem aAe (x:UInt64) (w:World) :
  Calls Tryz.prog 241 #[.int .u64 (un x),.int .i64 32] w fun e w'=>e=.returned (.int .u64 (un (pO x)))∧w=w':=by
 have h:=zh (aBD x)
 have h0:=fH x
 have hb:bits .and .u64 32 63=32:=by decide
 go_enter Tryz.func241,Tryz.ntmps241
 go_wp2
 go_ret
 exact ⟨by rw [← h.out];rfl,rfl⟩
theorem aDP (x y:UInt64) (w:World) :
  Calls Tryz.prog 175 #[.int .u64 (un x),.int .u64 (un y)] w fun e w'=>e=.returned (.tuple #[.int .u64 (un (aGc x y)),.int .u64 (un (aGb x y))])∧w=w':=by
 have h1:=aGZ x y
 have h2:=mK (pP y) (mG x y)
 have h3:=aEG (pO (mG x y))
 go_enter Tryz.func175,Tryz.ntmps175
 go_wp2_with fail
 refine (aLa y _).mono ?_
 rintro e w' ⟨rfl,rfl⟩
 go_wp2_with fail
 refine (aKZ (mG x y) _).mono ?_
 rintro e w' ⟨rfl,rfl⟩
 go_wp2_with fail
 go_ret2
 exact ⟨rfl,rfl⟩
theorem aDV (n:Nat) (x y:UInt64):dC (n+1) x y=(aHS (pO (mG (dC n x y).1 (dC n x y).2)),eI (pP (dC n x y).2) (mG (dC n x y).1 (dC n x y).2)):=by rw [dC];unfold aGc aGb;rfl
theorem aEW (n:Nat) (hn:n≤100) (g:Nat) (T:TypeId) (x y:UInt64) (w:World) (hg:Blk w g T #[.int .u64 (un x),.int .u64 (un y)]) :
  Calls Tryz.prog 206 #[.pointer (some ⟨g,0,none⟩),.int .i64 n] w fun e w'=>e=.returned (.tuple #[])∧Blk w' g T #[.int .u64 (un (dC n x y).1),.int .u64 (un (dC n x y).2)]∧Only g w w':=by
 go_enter Tryz.func206,Tryz.ntmps206
 go_wp2
 go_loopw [5] (fun i wr=>∃ (k:Nat),k≤n∧i=.int .i64 k∧Blk wr g T #[.int .u64 (un (dC k x y).1),.int .u64 (un (dC k x y).2)]∧Only g w wr) (fun i _=>n - (intOf i).toNat)
 case atStart=>exact ⟨0,by omega,rfl,hg,Only.refl _ _⟩
 case round =>
  obtain ⟨k,hk,rfl,hgk,hon⟩:=hrel
  by_cases hlt:k < n
  ·have hs := zh (aDV k x y)
   generalize (dC k x y).1=a at *
   generalize (dC k x y).2=b at *
   have hc0:=hgk.cell 0
   have hc1:=hgk.cell 1
   have hf0:=hgk.frozen 0
   have hf1:=hgk.frozen 1
   have h1:=aGZ a b
   go_wp2
   go_region
   have hg1:=(hgk.set 0 (.int .u64 (un (mG a b)))).drew
   have ho1:=(hon.set 0 (.int .u64 (un (mG a b)))).drew
   simp at hg1
   generalize (wr.setCell ⟨g,0,none⟩ (.int .u64 (un (mG a b)))).drew=w1 at *
   clear hc0 hc1 hf0 hf1 h1 hgk hon
   have hc0:=hg1.cell 0
   have hc1:=hg1.cell 1
   have hf0:=hg1.frozen 0
   have hf1:=hg1.frozen 1
   have h2:=mK (pP b) (mG a b)
   go_wp2
   go_still_tail 11,(by kernel_rfl)
   still_call ((aAf _ _).mono fun _ _ h=>⟨h.1,h.2.symm⟩)
   repeat still_step
   refine wpStill_nil ?_
   have h3:=aEG (pO (mG a b))
   go_wp2_with (go_at_call 241;refine (aAe _ _).mono ?_;rintro e w' ⟨rfl,rfl⟩)
   have hg2:=((hg1.set 1 (.int .u64 (un (eI (pP b) (mG a b))))).set 0 (.int .u64 (un (aHS (pO (mG a b)))))).drew
   have ho2:=((ho1.set 1 (.int .u64 (un (eI (pP b) (mG a b))))).set 0 (.int .u64 (un (aHS (pO (mG a b)))))).drew
   simp at hg2
   go_roundw
   case rel=>exact ⟨k+1,by omega,by go_num,by rw [hs.out];exact hg2,ho2⟩
   case measure=>simp [intOf];omega
  go_wp2
  go_end0
  obtain rfl:k=n:=by omega
  exact ⟨rfl,hgk,hon⟩
end
section
open Go.RowKit
attribute [local go_sem ↓] Go.wp_at_zero Go.wp_at_succ
theorem eO (n:UInt64):(Tryz.prog.info? 30).map (·.size)=some (nmc n).size:=by rw [cU];kernel_rfl
theorem tE (n:UInt64):(Tryz.prog.info? 30).map (·.size)=some (bcs (nmb n)).length:=by rw [aJ,aG];kernel_rfl
section
variable {ops:Array Oper} {rest:List Oper} {o:Oper} {a:Act} {w:World} {Q:Exit→Act→World→Prop}
theorem aT (hgd:o.guard=none) (x:Operand) (ho:o.op=.load 30 x) (b of:Nat) (hx:a.eval x=.pointer (some ⟨b,of,none⟩)) (n:UInt64) (hc:w.rangeAt b of (bcs (nmb n)))
  (h:wpList Tryz.prog ops Q rest (a.put o.dst (.agg (nmc n))) w):wpList Tryz.prog ops Q (o :: rest) a w :=
 wpList_load_mid hgd 30 x ho b of hx (bcs (nmb n)) _ hc Tryz.underlying30 rfl (tE n) h
theorem bG (hgd:o.guard=none) (x y:Operand) (ho:o.op=.store 30 x y) (b of:Nat) (n:UInt64) (hx:a.eval x=.pointer (some ⟨b,of,none⟩)) (hy:a.eval y=.agg (nmc n)) (ht:w.there b of 8)
  (h:wpList Tryz.prog ops Q rest (a.put o.dst undef) (w.setCells b of (nmc n).toList)):wpList Tryz.prog ops Q (o :: rest) a w :=
 wpList_store_mid hgd 30 x y ho b of (nmc n) hx hy (by rw [cU];exact ht) (eO n) (gQ n) h
theorem lW (hgd:o.guard=none) (x y:Operand) (ho:o.op=.store 30 x y) (g:Nat) (n:UInt64) (hx:a.eval x=.pointer (some ⟨g,0,none⟩)) (hy:a.eval y=.agg (nmc n)) (hg:w.heap.size=g)
  (h:wpList Tryz.prog ops Q rest (a.put o.dst undef) (w.alloc (.cells (nmc n) 30))):wpList Tryz.prog ops Q (o :: rest) a (w.alloc (.cells zcs.toArray 30)):=by
 subst hg
 refine bG hgd x y ho w.heap.size 0 n hx hy (aK (Blk.new w _ zcs.toArray)) ?_
 rw [dO _ _ _ _ (by rw [cU];rfl)]
 exact h
end
theorem fI {fn:Func} {p:Tmp} (hres:fn.results=#[.cell p 30]) (tmps:Array Value) (w1:World) (g:Nat) (r:UInt64) (hp:tmps.getD p undef=.pointer (some ⟨g,0,none⟩)) (hb:Blk w1 g 30 (nmc r)) :
  (results fn tmps).run Tryz.prog w1=.ok (.agg (nmc r)) w1 :=
 results_cell_row hres tmps w1 g 30 (nmc r) (0,0) _ hp hb Tryz.underlying30 rfl (eO r)
theorem lF {w:World} {g:Nat} {t:TypeId} (h:Blk w g t zcs.toArray) (r:UInt64):w.there g 0 (nmc r).size:=by rw [cU];exact aK h
theorem blkN {w:World} {g:Nat} {t:TypeId} (h:Blk w g t zcs.toArray) (r:UInt64):Blk (w.setCells g 0 (nmc r).toList) g t (nmc r):=aQ h (by rw [cU];rfl)
theorem cC {w:World} {g:Nat} {t:TypeId} (h:Blk w g t zcs.toArray) (r:UInt64):(storeCells ⟨g,0,none⟩ (nmc r).toList).run Tryz.prog w=.ok () (w.setCells g 0 (nmc r).toList):=by
 have ht:=lF h r
 have:=run_storeCells_cells (P:=Tryz.prog) g 0 (nmc r).toList 0 w (fun j hj=>by simpa using (ht j (by simpa using hj)).1) (fun j hj=>by simpa using (ht j (by simpa using hj)).2) (by rw [bJ];exact dT _)
 simpa using this
theorem aLf (x:UInt64) (w:World) :
  Calls Tryz.prog 207 #[.int .u64 (un x)] w fun e w'=>e=.returned (.agg (nmc x))∧Ext w w':=by
 have h0:=fH x
 go_enter Tryz.func207,Tryz.ntmps207
 go_wp2
 refine bodyPost_ret (v:=.agg (nmc x)) ?_ rfl ⟨rfl,(Ext.refl w).alloc' _⟩
 rw [aHO];exact results_cell_row rfl _ _ w.heap.size 30 _ (0,0) _ rfl (heap_alloc_new w _) Tryz.underlying30 rfl (by kernel_rfl)
theorem aFM (x:UInt64) (w:World) :
  Calls Tryz.prog 176 #[.int .u64 (un x)] w fun e w'=>e=.returned (.agg (nmc x))∧Ext w w':=by
 have h0:=fH x
 go_enter Tryz.func176,Tryz.ntmps176
 go_wp2
 refine bodyPost_ret (v:=.agg (nmc x)) ?_ rfl ⟨rfl,(Ext.refl w).alloc' _⟩
 rw [aHO];exact results_cell_row rfl _ _ w.heap.size 30 _ (0,0) _ rfl (heap_alloc_new w _) Tryz.underlying30 rfl (by kernel_rfl)
theorem jL (n:UInt64) (k:Nat) (hk:k < 8) (w:World) :
  (Instr.index 30 (.agg (nmc n)) (.int .i64 (k:Int))).run Tryz.prog w=.ok (.int .u8 (((nmb n).getD k 0).toNat:Int)) w:=by
 have h:(nmc n)[k]?=some (.int .u8 (((nmb n).getD k 0).toNat:Int)):=by
  have hl:=aG n
  simp [nmc,bcs,bv,hl,hk]
 have h2:k < (nmc n).size:=by rw [cU];exact hk
 have hi:(sizeOf 5).run Tryz.prog w=.ok 1 w:=by kernel_rfl
 have ha:(isAgg 5).run Tryz.prog w=.ok false w:=by kernel_rfl
 simp [Instr.index,asIntOf,run_underlying Tryz.underlying30,part,hi,ha,hk,h]
theorem tH (a:Nat) (c:UInt8) (ha:a < 72057594037927936):bits .or .u64 (IntKind.u64.wrap ((a:Int) * 256)) (c.toNat:Int)=((a * 256+c.toNat:Nat):Int):=by
 have hc:c.toNat < 256:=c.toNat_lt
 have e:IntKind.u64.wrap ((a:Int) * 256)=((a * 256:Nat):Int):=by rw [IntKind.wrap_u64];omega
 rw [e,u64_or_nat _ _ (by omega) (by omega),show a * 256=a * 2 ^ 8 from rfl,aCi _ _ 8 (by omega)]
theorem mL (l:List UInt8) (k:Nat) (h:k < l.length):l.take (k+1)=l.take k ++ [l.getD k 0]:=by
 rw [List.take_succ_eq_append_getElem h];simp [h]
theorem iC (x:UInt64) (w:World) :
  Calls Tryz.prog 167 #[.agg (nmc x)] w fun e w'=>e=.returned (.int .u64 (un x))∧Ext w w':=by
 have hs:=cU x
 have hl:=aG x
 go_enter Tryz.func167,Tryz.ntmps167
 go_wp2_with (refine wpList_load_row rfl 30 _ rfl _ rfl 30 _ (0,0) _ (heap_alloc_new w _) Tryz.underlying30 rfl (eO x) ?_)
 go_loop [3,7] (fun v i=>∃ k:Nat,k≤8∧i=.int .i64 k∧v=.int .u64 (bP ((nmb x).take k))) (fun _ i=>8 - (intOf i).toNat)
 case atStart=>exact ⟨0,by omega,rfl,rfl⟩
 case round =>
  obtain ⟨k,hk,rfl,rfl⟩:=hrel
  by_cases hlt:k < 8
  ·have hix := jL x k hlt
   have hb:=iY ((nmb x).take k)
   rw [List.length_take,hl,Nat.min_eq_left (by omega)] at hb
   have hb7:bP ((nmb x).take k) < 72057594037927936:=Nat.lt_of_lt_of_le hb (Nat.pow_le_pow_right (n:=256) (j:=7) (by omega) (by omega))
   have hor:=tH _ ((nmb x).getD k 0) hb7
   have HS:=zh (show bP ((nmb x).take (k+1))=bP ((nmb x).take k) * 256+((nmb x).getD k 0).toNat by rw [mL _ _ (by omega),gG])
   clear hb hb7 hl hs
   generalize bP ((nmb x).take k)=a at *
   generalize (nmb x).getD k 0=c at *
   go_wp2
   go_round
   case rel=>exact ⟨k+1,by omega,by go_num,by rw [HS.out];go_num⟩
   case measure=>simp [intOf];omega
  have HS:=zh (show (bP ((nmb x).take k):Int)=un x by rw [List.take_of_length_le (by omega),nM];rfl)
  clear hl hs
  generalize bP ((nmb x).take k)=a at *
  go_wp2
  go_ret
  exact ⟨by rw [← HS.out];rfl,(Ext.refl w).alloc' _⟩
theorem aKz (l:List UInt8) (h:8≤l.length):∃ c0 c1 c2 c3 c4 c5 c6 c7 r,l=c0 :: c1 :: c2 :: c3 :: c4 :: c5 :: c6 :: c7 :: r:=by
 match l,h with
 | c0 :: c1 :: c2 :: c3 :: c4 :: c5 :: c6 :: c7 :: r,_=>exact ⟨c0,c1,c2,c3,c4,c5,c6,c7,r,rfl⟩
theorem aBn (c0 c1 c2 c3 c4 c5 c6 c7:UInt8) (r:List UInt8):aGM c0 c1 c2 c3 c4 c5 c6 c7=un (fA (c0 :: c1 :: c2 :: c3 :: c4 :: c5 :: c6 :: c7 :: r)):=by
 rw [aGL,aBC,aDo _ (by simp)];simp
theorem aFr (A:Option Addr) (c:Nat) (l:List UInt8) (w:World) (hr:Rd w A (bcs l)) (h8:8≤l.length) (hm:l.length≤9223372036854775807) :
  Calls Tryz.prog 205 #[.slice A l.length c] w fun e w'=>e=.returned (.int .u64 (un (fA l)))∧Ext w w':=by
 obtain ⟨c0,c1,c2,c3,c4,c5,c6,c7,r,rfl⟩:=aKz l h8
 obtain ⟨b,o,rfl,hra,hb⟩:=hr.at (by simp [bcs])
 have HW:=zh (aBn c0 c1 c2 c3 c4 c5 c6 c7 r)
 have g0:=hra 0 _ rfl
 have g1:=hra 1 _ rfl
 have g2:=hra 2 _ rfl
 have g3:=hra 3 _ rfl
 have g4:=hra 4 _ rfl
 have g5:=hra 5 _ rfl
 have g6:=hra 6 _ rfl
 have g7:=hra 7 _ rfl
 rw [Nat.add_zero] at g0
 unfold bv at g0 g1 g2 g3 g4 g5 g6 g7
 generalize hn:(c0 :: c1 :: c2 :: c3 :: c4 :: c5 :: c6 :: c7 :: r).length=n at *
 have k0:0 < n:=by omega
 have k1:(1:Int) < (n:Int):=by omega
 have k2:(2:Int) < (n:Int):=by omega
 have k3:(3:Int) < (n:Int):=by omega
 have k4:(4:Int) < (n:Int):=by omega
 have k5:(5:Int) < (n:Int):=by omega
 have k6:(6:Int) < (n:Int):=by omega
 have k7:(7:Int) < (n:Int):=by omega
 have h8':(8:Int)≤(n:Int):=by omega
 clear hr hra hn
 go_enter Tryz.func205,Tryz.ntmps205
 go_wp2
 go_quiet (fail)
 go_wp2
 go_ret
 exact ⟨by rw [← HW.out];rfl,below_drewN (Ext.refl w) _⟩
theorem aAg (A:Option Addr) (c:Nat) (l:List UInt8) (w:World) (hr:Rd w A (bcs l)) (h8:8≤l.length) (hm:l.length≤9223372036854775807) :
  Calls Tryz.prog 174 #[.slice A l.length c] w fun e w'=>e=.returned (.int .u64 (un (fA l)))∧Ext w w':=by
 obtain ⟨c0,c1,c2,c3,c4,c5,c6,c7,r,rfl⟩:=aKz l h8
 obtain ⟨b,o,rfl,hra,hb⟩:=hr.at (by simp [bcs])
 have HW:=zh (aBn c0 c1 c2 c3 c4 c5 c6 c7 r)
 have g0:=hra 0 _ rfl
 have g1:=hra 1 _ rfl
 have g2:=hra 2 _ rfl
 have g3:=hra 3 _ rfl
 have g4:=hra 4 _ rfl
 have g5:=hra 5 _ rfl
 have g6:=hra 6 _ rfl
 have g7:=hra 7 _ rfl
 rw [Nat.add_zero] at g0
 unfold bv at g0 g1 g2 g3 g4 g5 g6 g7
 generalize hn:(c0 :: c1 :: c2 :: c3 :: c4 :: c5 :: c6 :: c7 :: r).length=n at *
 have k0:0 < n:=by omega
 have k1:(1:Int) < (n:Int):=by omega
 have k2:(2:Int) < (n:Int):=by omega
 have k3:(3:Int) < (n:Int):=by omega
 have k4:(4:Int) < (n:Int):=by omega
 have k5:(5:Int) < (n:Int):=by omega
 have k6:(6:Int) < (n:Int):=by omega
 have k7:(7:Int) < (n:Int):=by omega
 have h8':(8:Int)≤(n:Int):=by omega
 clear hr hra hn
 go_enter Tryz.func174,Tryz.ntmps174
 go_wp2
 go_quiet (fail)
 go_wp2
 go_ret
 exact ⟨by rw [← HW.out];rfl,below_drewN (Ext.refl w) _⟩
theorem aGI (l:List UInt8) (h:l.length < 8):rG (l ++ List.replicate (8 - l.length) 0)=fA l:=by
 unfold rG fA rW
 rw [List.take_append,List.take_of_length_le (by omega),List.take_replicate,Nat.min_eq_left (by omega)]
theorem aDj (l:List UInt8) (h:l.length < 8):(splice zcs 0 (bcs l)).toArray=nmc (fA l):=by
 rw [← aGI l h,← aLi _ (by simp;omega),eQ]
 rw [aKR]
 simp only [splice,List.take_zero,List.nil_append,List.drop_replicate,aJ,Nat.zero_add]
 congr 2
 simp [bcs,bv]
theorem aDn (A:Option Addr) (c:Nat) (l:List UInt8) (w:World) (hr:Rd w A (bcs l)) (h8:l.length < 8) :
  Calls Tryz.prog 205 #[.slice A l.length c] w fun e w'=>e=.returned (.int .u64 (un (fA l)))∧Ext w w':=by
 have hlt:decide ((8:Int)≤(l.length:Int))=false:=by simp;omega
 have hr1:=hr.ext ((Ext.refl w).alloc' (.cells zcs.toArray 30))
 have hsp:=zh (aDj l h8)
 go_enter Tryz.func205,Tryz.ntmps205
 go_wp2_with (with_reducible refine wpList_copy_splice rfl _ _ _ _ rfl 5 Tryz.underlying45 (by kernel_rfl) _ _ _ _ _ _ rfl rfl w.heap.size 0 zcs 30 (heap_alloc_new w _) (bcs l) ?c1 ?c2 ?c3 (dT l) w.heap.size w ((Ext.refl w).alloc' _) (Nat.le_refl _) ?_)
 case c1=>rw [aJ];exact (Nat.min_eq_left (by omega)).symm
 case c2=>exact fun hp=>hr1.src hp
 case c3=>rw [aJ];show _≤8;omega
 intro w1 hb1 he1
 rw [hsp.out] at hb1
 go_wp2_with (first | (refine wpList_load_row rfl 30 _ rfl _ rfl 30 _ (0,0) _ hb1.out Tryz.underlying30 rfl (eO _) ?_) | (go_at_call 167;refine (iC _ _).mono ?_;rintro e w2 ⟨rfl,he2⟩))
 go_ret
 exact ⟨rfl,Ext.trans he1 he2⟩
theorem aGJ (A:Option Addr) (n c:Nat) (l:List UInt8) (w:World) (h:SlB w A n c l) :
  Calls Tryz.prog 205 #[.slice A n c] w fun e w'=>e=.returned (.int .u64 (un (fA l)))∧Ext w w':=by
 obtain ⟨rfl,h2,h3,hr⟩:=h
 rcases Nat.lt_or_ge l.length 8 with h | h
 ·exact aDn A c l w hr h
 exact aFr A c l w hr h (by omega)
theorem aHv (a k:Nat) (c:UInt8) (hk:k < 8) (ha:a < 256 ^ k) :
  bits .or .u64 ((a * 256 ^ (8 - k):Nat):Int) (IntKind.u64.wrap ((c.toNat:Int) * ((256 ^ (7 - k):Nat):Int)))=(((a * 256+c.toNat) * 256 ^ (7 - k):Nat):Int):=by
 have hc:c.toNat < 256:=c.toNat_lt
 have e1:256 ^ (8 - k)=2 ^ ((56 - 8 * k)+8):=by rw [show (256:Nat)=2 ^ 8 from rfl,← Nat.pow_mul];congr 1;omega
 have e2:256 ^ (7 - k)=2 ^ (56 - 8 * k):=by rw [show (256:Nat)=2 ^ 8 from rfl,← Nat.pow_mul];congr 1;omega
 have hb:a * 2 ^ ((56 - 8 * k)+8)+c.toNat * 2 ^ (56 - 8 * k) < 18446744073709551616:=by
  rw [fC,← e2]
  have h1:(a * 256+c.toNat)+1≤256 ^ (k+1):=by rw [Nat.pow_succ];omega
  have h2:=Nat.mul_le_mul_right (256 ^ (7 - k)) h1
  rw [← Nat.pow_add,show k+1+(7 - k)=8 from by omega,Nat.add_mul] at h2
  have h3:0 < 256 ^ (7 - k):=Nat.pow_pos (by omega)
  have h4:(256:Nat) ^ 8=18446744073709551616:=by decide
  omega
 rw [e1,e2,sC a (56 - 8 * k) c (by omega) hb,fC]
theorem aFU (a k:Nat) (c:UInt8) (hk:k < 8) (ha:a < 256 ^ k) :
  bits .or .u64 ((a:Int) * 256 ^ (8 - k)) (IntKind.u64.wrap ((c.toNat:Int) * 2 ^ (56 - 8 * k)))=(((a * 256+c.toNat) * 256 ^ (8 - (k+1)):Nat):Int):=by
 have h:=aHv a k c hk ha
 have e2:256 ^ (7 - k)=2 ^ (56 - 8 * k):=by rw [show (256:Nat)=2 ^ 8 from rfl,← Nat.pow_mul];congr 1;omega
 rw [show 8 - (k+1)=7 - k from by omega]
 rw [← h,e2];simp
theorem aEI (l:List UInt8) (k:Nat) (h:k < l.length):l.take (k+1)=l.take k ++ [l[k]]:=List.take_succ_eq_append_getElem h
theorem kO (l:List UInt8) (k:Nat) (h:k≤l.length):bP (l.take k) < 256 ^ k:=by
 have:=iY (l.take k);rwa [List.length_take,Nat.min_eq_left h] at this
theorem xB (A:Option Addr) (c:Nat) (l:List UInt8) (w:World) (hr:Rd w A (bcs l)) (h8:l.length < 8) :
  Calls Tryz.prog 174 #[.slice A l.length c] w fun e w'=>e=.returned (.int .u64 (un (fA l)))∧Ext w w':=by
 have hlt:decide ((8:Int)≤(l.length:Int))=false:=by simp;omega
 go_enter Tryz.func174,Tryz.ntmps174
 go_wp2
 go_loop [3,4] (fun v i=>∃ k:Nat,k≤l.length∧i=.int .i64 k∧v=.int .u64 ((bP (l.take k) * 256 ^ (8 - k):Nat):Int)) (fun _ i=>l.length - (intOf i).toNat)
 case atStart=>exact ⟨0,by omega,rfl,by simp [bP]⟩
 case round =>
  obtain ⟨k,hk,rfl,rfl⟩:=hrel
  by_cases hlt':k < l.length
  ·obtain ⟨b, o, rfl, hra, hb⟩ := hr.at (by intro e; have := congrArg List.length e; simp [bcs] at this; subst this; simp at hlt')
   have hcell:=aFm hra k hlt'
   have HS:=zh (show bP (l.take (k+1))=bP (l.take k) * 256+l[k].toNat by rw [aEI _ _ hlt',gG])
   have HO:=zh (aFU (bP (l.take k)) k l[k] (by omega) (kO l k hk))
   generalize bP (l.take k)=a at *
   go_wp2
   go_round
   case rel=>exact ⟨k+1,by omega,by go_num,by rw [HS.out,HO.out]⟩
   case measure=>simp [intOf];omega
  obtain rfl:k=l.length:=by omega
  have HS:=zh (show ((bP (l.take l.length):Int) * 256 ^ (8 - l.length))=un (fA l) by rw [aBC,aBm l (by omega),List.take_length];simp)
  generalize bP (l.take l.length)=a at *
  go_wp2
  go_ret
  exact ⟨by rw [← HS.out];rfl,Ext.refl w⟩
theorem aBZ (A:Option Addr) (n c:Nat) (l:List UInt8) (w:World) (h:SlB w A n c l) :
  Calls Tryz.prog 174 #[.slice A n c] w fun e w'=>e=.returned (.int .u64 (un (fA l)))∧Ext w w':=by
 obtain ⟨rfl,h2,h3,hr⟩:=h
 rcases Nat.lt_or_ge l.length 8 with h | h
 ·exact xB A c l w hr h
 exact aAg A c l w hr h (by omega)
def dI (l:List UInt8):Nat→UInt64 × UInt64
 | 0=>(2611923443488327891,1376283091369227076)
 | k+1=>dC 2 (eI (dI l k).1 (fA (l.drop (8 * k)))) (dI l k).2
def oI (n:Nat) (x y:UInt64):UInt64:=eI (dC 4 x (eI y (UInt64.ofNat n))).1 (dC 4 x (eI y (UInt64.ofNat n))).2
def cM (l:List UInt8):UInt64:=oI l.length (dI l ((l.length+7) / 8)).1 (dI l ((l.length+7) / 8)).2
theorem aGX (n:Nat) (h:n < 18446744073709551616):(n:Int)=un (UInt64.ofNat n):=by
 unfold un;rw [UInt64.toNat_ofNat_of_lt' (by simpa [UInt64.size] using h)]
theorem aDy (l:List UInt8) (k:Nat):dI l (k+1)=(aGc (aGc (eI (dI l k).1 (fA (l.drop (8 * k)))) (dI l k).2) (aGb (eI (dI l k).1 (fA (l.drop (8 * k)))) (dI l k).2),aGb (aGc (eI (dI l k).1 (fA (l.drop (8 * k)))) (dI l k).2) (aGb (eI (dI l k).1 (fA (l.drop (8 * k)))) (dI l k).2)):=by
 rw [dI];simp only [dC]
theorem aEZ (n:Nat) (h:n≤140737488355328):IntKind.u64.wrap (n:Int)=un (UInt64.ofNat n):=by
 rw [← aGX n (by omega),IntKind.wrap_u64];omega
theorem uQ (A:Option Addr) (n c:Nat) (l:List UInt8) (w:World) (h:SlB w A n c l) (hm:n≤140737488355328) :
  Calls Tryz.prog 114 #[.slice A n c] w fun e w'=>e=.returned (.agg (nmc (cM l)))∧Ext w w':=by
 have hx0:(2611923443488327891:Int)=un 2611923443488327891:=by decide
 have hy0:(1376283091369227076:Int)=un 1376283091369227076:=by decide
 have Hx:=zh hx0
 have Hy:=zh hy0
 have hle:=h.le
 clear hx0 hy0
 go_enter Tryz.func114,Tryz.ntmps114
 go_wp2
 go_loopw [3,4,5] (fun x y i wr=>∃ k:Nat,8 * k≤n+7∧i=.int .i64 ((8 * k:Nat):Int)∧x=.int .u64 (un (dI l k).1)∧y=.int .u64 (un (dI l k).2)∧Ext (w.alloc (.cells zcs.toArray 30)) wr) (fun _ _ i _=>n+8 - (intOf i).toNat)
 case atStart=>exact ⟨0,by omega,rfl,by rw [Hx.out];rfl,by rw [Hy.out];rfl,Ext.refl _⟩
 case round =>
  obtain ⟨k,hk,rfl,rfl,rfl,hE⟩:=hrel
  by_cases hlt:8 * k < n
  ·have hrk := (h.ext (((Ext.refl w).alloc' (.cells zcs.toArray 30)).trans hE)).cut (k := 8 * k) (by omega) (by omega)
   have HS:=zh (aDy l k)
   generalize (dI l k).1=x at *
   generalize (dI l k).2=y at *
   have hx:=mK x (fA (l.drop (8 * k)))
   go_wp2_with fail
   refine (aBZ _ _ _ _ _ hrk).mono ?_
   rintro e w1 ⟨rfl,he1⟩
   go_wp2_with fail
   refine (aDP _ _ _).mono ?_
   rintro e w2 ⟨rfl,rfl⟩
   go_wp2_with fail
   refine (aDP _ _ _).mono ?_
   rintro e w2 ⟨rfl,rfl⟩
   go_wp2_with fail
   go_roundw
   case rel=>exact ⟨k+1,by omega,by go_num,by rw [HS.out],by rw [HS.out],hE.trans he1⟩
   case measure=>simp [intOf];omega
  have hkk:k=(n+7) / 8:=by omega
  have HK:=zh hkk
  have HF:Hid (cM l=oI n (dI l k).1 (dI l k).2):=zh (by rw [hkk];unfold cM;rw [h.len])
  clear hkk
  generalize (dI l k).1=x at *
  generalize (dI l k).2=y at *
  have hn64:=aEZ n hm
  have hdk:decide ((8:Int) * (k:Int) < (n:Int))=false:=by simp;omega
  have hxy:=mK y (UInt64.ofNat n)
  go_wp2_with fail
  go_loopw [3,4,6] (fun x' y' i ws=>∃ j:Nat,j≤4∧i=.int .i64 (j:Int)∧x'=.int .u64 (un (dC j x (eI y (UInt64.ofNat n))).1)∧y'=.int .u64 (un (dC j x (eI y (UInt64.ofNat n))).2)∧ws=wr) (fun _ _ i _=>4 - (intOf i).toNat)
  case atStart=>exact ⟨0,by omega,rfl,rfl,rfl,rfl⟩
  case round =>
   obtain ⟨j,hj,rfl,rfl,rfl,rfl⟩:=hrel
   by_cases hlt4:j < 4
   ·have HM := zh (show dC (j + 1) x (eI y (UInt64.ofNat n)) = _ from rfl)
    go_wp2_with fail
    refine (aDP _ _ _).mono ?_
    rintro e w2 ⟨rfl,rfl⟩
    go_wp2_with fail
    go_roundw
    case rel=>first | exact ⟨j+1,by omega,by go_num,rfl,rfl,rfl⟩ | ((repeat apply Exists.intro);exact ⟨⟨j+1,by omega,by go_num,rfl,rfl,trivial⟩,rfl⟩)
    case measure=>simp [intOf];omega
   obtain rfl:j=4:=by omega
   have hxx:=mK (dC 4 x (eI y (UInt64.ofNat n))).1 (dC 4 x (eI y (UInt64.ofNat n))).2
   have HX:=zh (HF.out.trans (show oI n x y=eI (dC 4 x (eI y (UInt64.ofNat n))).1 (dC 4 x (eI y (UInt64.ofNat n))).2 from by unfold oI;rfl))
   generalize (dC 4 x (eI y (UInt64.ofNat n))).1=a at *
   generalize (dC 4 x (eI y (UInt64.ofNat n))).2=b at *
   go_wp2_with fail
   refine (aFM _ _).mono ?_
   rintro e w2 ⟨rfl,he2⟩
   have hb0:Blk w2 w.heap.size 30 zcs.toArray:=((Blk.new w _ _).ext hE).ext he2
   go_wp2_with (refine wpList_store_mid rfl 30 _ _ rfl w.heap.size 0 (nmc (eI a b)) rfl rfl (lF hb0 _) (eO _) (gQ _) ?_)
   refine bodyPost_ret (v:=.agg (nmc (eI a b))) (fI rfl _ _ w.heap.size _ rfl (blkN hb0 _)) rfl ⟨by rw [HX.out],Below.setCells' ((((Ext.refl w).alloc' _).trans hE).trans he2) (Nat.le_refl _) _ _⟩
theorem aEJ (A:Option Addr) (n c:Nat) (l:List UInt8) (w:World) (h:SlB w A n c l) (hm:n≤140737488355328) :
  Calls Tryz.prog 149 #[.slice A n c] w fun e w'=>e=.returned (.agg (nmc (cM l)))∧Ext w w':=by
 have hx0:(2611923443488327891:Int)=un 2611923443488327891:=by decide
 have hy0:(1376283091369227076:Int)=un 1376283091369227076:=by decide
 have Hx:=zh hx0
 have Hy:=zh hy0
 have hle:=h.le
 clear hx0 hy0
 go_enter Tryz.func149,Tryz.ntmps149
 go_wp2
 go_loopw [4] (fun v wr=>∃ k i:Nat,Hid (i=8 * k)∧i≤n+7∧v=.int .i64 (i:Int)∧Blk wr (w.heap.size+1) 215 #[.int .u64 (un (dI l k).1),.int .u64 (un (dI l k).2)]∧Ext (w.alloc (.cells zcs.toArray 30)) wr) (fun i _=>n+8 - (intOf i).toNat)
 case atStart=>exact ⟨0,0,rfl,by omega,rfl,by have:=Blk.new (w.alloc (.cells zcs.toArray 30)) 215 #[.int .u64 (un 2611923443488327891),.int .u64 (un 1376283091369227076)];rw [← Hx.out,← Hy.out,World.size_alloc] at this;rw [dI,← Hx.out,← Hy.out];exact this,(Ext.refl _).alloc' _⟩
 case round =>
  obtain ⟨k,i,Hi,hk,rfl,hB,hE⟩:=hrel
  by_cases hlt:i < n
  ·have HS : Hid (dI l (k + 1) = dC 2 (eI (dI l k).1 (fA (l.drop i))) (dI l k).2) := zh (by rw [Hi.out]; rfl)
   generalize (dI l k).1=x at *
   generalize (dI l k).2=y at *
   have hrk:=((h.ext (((Ext.refl w).alloc' (.cells zcs.toArray 30)).trans hE)).cut (k:=i) (by omega) (by omega)).ext (Ext.refl wr).drew'
   have hx:=mK x (fA (l.drop i))
   have c0:=hB.cell 0
   have c1:=hB.cell 1
   have f0:=hB.frozen 0
   have hin:i≤n:=by omega
   have hic:¬ c=i:=by omega
   go_wp2_with fail
   go_region_law ((go_simp;go_at_call 205;refine (aGJ _ _ _ _ _ hrk).mono ?_;rintro e w1 ⟨rfl,he1⟩;have hB1:=hB.drew.ext he1;have d0:=hB1.cell 0;have d1:=hB1.cell 1;have g0:=hB1.frozen 0))
   all_goals
    have hB2:=hB1.set 0 (.int .u64 (un (eI x (fA (l.drop i)))))
    simp at hB2
    have hE2:Ext (w.alloc (.cells zcs.toArray 30)) (w1.setCell ⟨w.heap.size+1,0,none⟩ (.int .u64 (un (eI x (fA (l.drop i)))))):=Below.setCell (hE.drew'.trans he1) (by simp) _
    go_wp2_with fail
    refine (aEW 2 (by omega) _ _ _ _ _ hB2).mono ?_
    rintro e w3 ⟨rfl,hB3,hO3⟩
    go_wp2_with fail
    go_roundw
    case rel=>exact ⟨k+1,i+8,by have:=Hi.out;exact zh (by omega),by omega,by go_num,by rw [HS.out];exact hB3,Below.trans hE2 (hO3.below (by simp))⟩
    case measure=>simp [intOf];omega
  have HK:Hid (k=(n+7) / 8):=by have:=Hi.out;exact zh (by omega)
  have HF:Hid (cM l=oI n (dI l k).1 (dI l k).2):=zh (by rw [HK.out];unfold cM;rw [h.len])
  generalize (dI l k).1=x at *
  generalize (dI l k).2=y at *
  have hn64:=aEZ n hm
  have hxy:=mK y (UInt64.ofNat n)
  have c0:=hB.cell 0
  have c1:=hB.cell 1
  have f1:=hB.frozen 1
  have hB2:=hB.set 1 (.int .u64 (un (eI y (UInt64.ofNat n))))
  simp at hB2
  have hE2:Ext (w.alloc (.cells zcs.toArray 30)) (wr.setCell ⟨w.heap.size+1,1,none⟩ (.int .u64 (un (eI y (UInt64.ofNat n))))):=Below.setCell hE (by simp) _
  go_wp2_with fail
  refine (aEW 4 (by omega) _ _ _ _ _ hB2).mono ?_
  rintro e w3 ⟨rfl,hB3,hO3⟩
  have hE3:=Below.trans hE2 (hO3.below (by simp))
  have HX:=zh (HF.out.trans (show oI n x y=eI (dC 4 x (eI y (UInt64.ofNat n))).1 (dC 4 x (eI y (UInt64.ofNat n))).2 from by unfold oI;rfl))
  have hxx:=mK (dC 4 x (eI y (UInt64.ofNat n))).1 (dC 4 x (eI y (UInt64.ofNat n))).2
  generalize (dC 4 x (eI y (UInt64.ofNat n))).1=a at *
  generalize (dC 4 x (eI y (UInt64.ofNat n))).2=b at *
  clear c0 c1 f1
  have c0:=hB3.cell 0
  have c1:=hB3.cell 1
  go_wp2_with fail
  refine (aLf _ _).mono ?_
  rintro e w4 ⟨rfl,he4⟩
  have hb0:Blk w4 w.heap.size 30 zcs.toArray:=((Blk.new w _ _).ext hE3).ext he4
  go_wp2_with (refine wpList_store_mid rfl 30 _ _ rfl w.heap.size 0 (nmc (eI a b)) rfl rfl (lF hb0 _) (eO _) (gQ _) ?_)
  refine bodyPost_ret (v:=.agg (nmc (eI a b))) (fI rfl _ _ w.heap.size _ rfl (blkN hb0 _)) rfl ⟨by rw [HX.out],Below.setCells' ((((Ext.refl w).alloc' _).trans hE3).trans he4) (Nat.le_refl _) _ _⟩
end
section
open Go
section
variable {P:Program} {ops:Array Oper} {Q:Exit→Act→World→Prop} {md:Region.Mode} {S:World→Prop}
def sS (P:Program) (o:Oper) (a:Act) (w:World) (R:Value→World→Prop):Prop :=
 match (execOp a.eval o).run P w with
 | .ok (.value u) w'=>R u w'
 | .ok .skip w'=>R undef w'
 | .ok (.enter f args) w'=>Calls P f args w' fun e w''=>∃ u,e=.returned u∧R u w''
 | .ok (.row row args) w'=>Rows P row args w' fun u w''=>R u w''
 | _=>False
theorem pS {a:Act} {x:Option Tmp} {u v:Value} (hd:∀ d,x=some d→d < a.tmps.size) (h:a.put x u=a.put x v):x ≠ none→v=u:=by
 intro hn
 cases x with
 | none=>exact absurd rfl hn
 | some d =>
  have h1:=congrArg (fun b:Act=>b.tmps[d]?) h
  simp only [Act.put,Array.getElem?_setIfInBounds_self_of_lt (hd d rfl)] at h1
  exact (Option.some.inj h1).symm
theorem sO {o:Oper} {a:Act} {w:World} {R:Value→World→Prop} (hd:∀ d,o.dst=some d→d < a.tmps.size)
  (h:∀ K:Act→World→Prop,Shut (∀ u w',R u w'→K (a.put o.dst u) w')→o.wp P a w K (fun _ _ _=>False)):sS P o a w (fun u w'=>∃ v,(o.dst ≠ none→v=u)∧R v w'):=by
 have:=h (fun a' w'=>∃ u,a'=a.put o.dst u∧R u w') (fun u w' hR=>⟨u,rfl,hR⟩)
 unfold Oper.wp at this
 unfold sS
 generalize (execOp a.eval o).run P w=r at *
 cases r with
 | ok n w' =>
  cases n <;> simp only [Oper.upon] at this ⊢
  case value u=>obtain ⟨v,h1,h2⟩:=this;exact ⟨v,pS hd h1,h2⟩
  case skip=>obtain ⟨v,h1,h2⟩:=this;exact ⟨v,pS hd h1,h2⟩
  case defer d =>
   obtain ⟨v,h1,h2⟩:=this
   have h3:=congrArg Act.defers h1
   rw [lL,lL] at h3
   have:=congrArg List.length h3
   simp at this
  case enter f args =>
   refine Calls.mono this fun e w'' he=>?_
   cases e with
   | returned u=>obtain ⟨v,h1,h2⟩:=he;exact ⟨u,rfl,v,pS hd h1,h2⟩
   | panicked c=>exact he.elim
   | outgrown=>obtain ⟨_,_,hh⟩:=he;exact hh.elim
  case row row args=>exact Rows.mono this fun u w'' he=>by obtain ⟨v,h1,h2⟩:=he;exact ⟨v,pS hd h1,h2⟩
 | halt x w'=>cases x <;> simp only [Oper.upon] at this
theorem rT {o:Oper} {a:Act} {w:World} {R:Value→World→Prop} {K:Act→World→Prop} (h:sS P o a w R) (hK:∀ u w',R u w'→K (a.put o.dst u) w'):o.wp P a w K Q:=by
 unfold sS at h
 unfold Oper.wp
 generalize (execOp a.eval o).run P w=r at *
 cases r with
 | ok n w' =>
  cases n <;> simp only [Oper.upon] at h ⊢
  case value u=>exact hK _ _ h
  case skip=>exact hK _ _ h
  case enter f args =>
   refine Calls.mono h fun e w'' he=>?_
   obtain ⟨u,rfl,hR⟩:=he
   exact hK _ _ hR
  case row row args=>exact Rows.mono h fun u w'' he=>hK _ _ he
 | halt x w'=>cases x <;> simp only at h
theorem yZ {o:Oper} {a b:Act} (hs:∀ cs z,o.op ≠ .select cs z) (h:∀ t ∈ o.looksAt ops,a.tmps.getD t undef=b.tmps.getD t undef) :
  execOp a.eval o=execOp b.eval o∧Region.wanted o (yielded ops a.tmps)=Region.wanted o (yielded ops b.tmps):=by
 refine ⟨execOp_congr o hs fun x hx=>?_,?_⟩
 ·cases x with
  | tmp t=>exact h t (List.mem_append_left _ (List.mem_filterMap.2 ⟨.tmp t,by simpa using hx,rfl⟩))
  | _=>rfl
 unfold Region.wanted
 cases hg:o.guard with
 | none=>rfl
 | some gw =>
  obtain ⟨g,want⟩:=gw
  have hy:yielded ops a.tmps g=yielded ops b.tmps g:=by
   unfold yielded
   cases ht:(ops[g]?).bind (·.dst) with
   | none=>rfl
   | some t =>
    have:=h t (by unfold Oper.looksAt;rw [hg];exact List.mem_append_right _ (by simp [ht]))
    have key:∀ x:Option Value,(match x with | some (.bool z)=>some z | _=>none)=(match x.getD undef with | .bool z=>some z | _=>none):=fun x=>by
     cases x with
     | none=>rfl
     | some v=>cases v <;> rfl
    have h2:a.tmps[t]?.getD undef=b.tmps[t]?.getD undef:=by simpa using this
    refine (key _).trans (Eq.trans ?_ (key _).symm)
    simp only [Option.bind_some,h2]
  simp only [hy]
def zX (ops:Array Oper) (j:Nat):Option Tmp:=(ops[j]?).bind (·.dst)
def bH (a:Act) (J:List (Nat × Option Tmp)) (env:Nat→Value):Act:=J.foldl (fun a p=>a.put p.2 (env p.1)) a
def fD (l:Array Bool) (J:List (Nat × Option Tmp)):Array Bool:=J.foldl (fun l p=>l.setIfInBounds p.1 true) l
theorem rY (J:List (Nat × Option Tmp)):∀ l:Array Bool,(fD l J).size=l.size:=by
 induction J with
 | nil=>intro l;rfl
 | cons p r ih=>intro l;show (fD (l.setIfInBounds p.1 true) r).size=_;rw [ih];simp
theorem uG (J:List (Nat × Option Tmp)):∀ (l:Array Bool) (i:Nat),i < l.size→(fD l J)[i]?=if (J.any fun p=>p.1 == i)=true then some true else l[i]?:=by
 induction J with
 | nil=>intro l i hi;rfl
 | cons p r ih =>
  intro l i hi
  show (fD (l.setIfInBounds p.1 true) r)[i]?=_
  rw [ih _ _ (by rw [Array.size_setIfInBounds];exact hi),List.any_cons]
  by_cases h:p.1=i
  ·subst h;simp [hi]
  rw [Array.getElem?_setIfInBounds_ne h,beq_false_of_ne h,Bool.false_or]
theorem nY (J:List (Nat × Option Tmp)) (env:Nat→Value):∀ a:Act,(bH a J env).defers=a.defers:=by
 induction J with
 | nil=>intro a;rfl
 | cons p r ih=>intro a;show (bH (a.put p.2 (env p.1)) r env).defers=_;rw [ih,lL]
theorem pR (a:Act) (x:Option Tmp) (v:Value):(a.put x v).tmps.size=a.tmps.size:=by cases x <;> simp [Act.put]
theorem kC (J:List (Nat × Option Tmp)) (env:Nat→Value):∀ a:Act,(bH a J env).tmps.size=a.tmps.size:=by
 induction J with
 | nil=>intro a;rfl
 | cons p r ih=>intro a;show (bH (a.put p.2 (env p.1)) r env).tmps.size=_;rw [ih,pR]
theorem kW (a:Act) (x:Option Tmp) (v:Value) (t:Tmp):(a.put x v).tmps.getD t undef=if x=some t∧t < a.tmps.size then v else a.tmps.getD t undef:=by
 cases x with
 | none=>simp [Act.put]
 | some d =>
  simp only [Act.put,Option.some.injEq]
  by_cases h:d=t
  ·subst h
   by_cases hl:d < a.tmps.size
   ·simp [hl]
   simp [hl]
  simp [h,Array.getElem?_setIfInBounds_ne h]
theorem gK (env:Nat→Value) (t:Tmp):∀ (J:List (Nat × Option Tmp)) (a:Act),(∀ p ∈ J,p.2 ≠ some t)→(bH a J env).tmps.getD t undef=a.tmps.getD t undef
 | [],a,_=>rfl
 | p :: r,a,h=>by
  show (bH (a.put p.2 (env p.1)) r env).tmps.getD t undef=_
  rw [gK env t r _ (fun q hq=>h q (List.mem_cons_of_mem _ hq)),kW,if_neg (fun hh=>h p (List.mem_cons_self ..) hh.1)]
theorem jP (env:Nat→Value) (t:Tmp) (i:Nat):∀ (J:List (Nat × Option Tmp)) (a:Act),t < a.tmps.size→(i,some t) ∈ J→(∀ p ∈ J,p.2=some t→p.1=i)→(bH a J env).tmps.getD t undef=env i
 | [],a,_,h,_=>by cases h
 | p :: r,a,hl,h,hu=>by
  show (bH (a.put p.2 (env p.1)) r env).tmps.getD t undef=_
  by_cases hr:(i,some t) ∈ r
  ·exact jP env t i r _ (by rw [pR];exact hl) hr (fun q hq=>hu q (List.mem_cons_of_mem _ hq))
  have hp:p=(i,some t):=by
   rcases List.mem_cons.1 h with h | h
   ·exact h.symm
   exact absurd h hr
  subst hp
  rw [gK env t r _ (fun q hq e=>hr (by have h1:=hu q (List.mem_cons_of_mem _ hq) e;obtain ⟨q1,q2⟩:=q;simp only at e h1;subst e;subst h1;exact hq)),kW,if_pos ⟨rfl,hl⟩]
def aDz:List (Nat × Option Tmp)→List (List (Nat × Option Tmp))
 | []=>[[]]
 | x :: r=>aDz r ++ (aDz r).map (x :: ·)
theorem kI (f:Nat × Option Tmp→Bool):∀ J,J.filter f ∈ aDz J
 | []=>by simp [aDz]
 | x :: r=>by
  rw [List.filter_cons]
  unfold aDz
  split
  ·exact List.mem_append_right _ (List.mem_map.2 ⟨_,kI f r,rfl⟩)
  exact List.mem_append_left _ (kI f r)
def depB (md:Region.Mode) (ops:Array Oper) (p q:Nat):Bool:=match ops[p]? with
 | some o=>o.after.toList.any fun e=>Region.binds md e && e.on == q
 | none=>false
def gD (md:Region.Mode) (ops:Array Oper) (listed:Array Bool) (n:Nat) (J:List (Nat × Option Tmp)):Bool :=
 decide (J.map (·.1)).Nodup && (
 J.all (fun p=>decide (p.1 < listed.size) && (listed.getD p.1 true == false) && (zX ops p.1 == p.2) && (match p.2 with | some d=>decide (d < n) | none=>true)) &&
 J.all (fun p=>J.all fun q=>p.1 == q.1 || p.2 == none || !(p.2 == q.2)) &&
 ((aDz J).all fun D=>D.length == J.length || !(D.all fun p=>J.all fun q=>!(depB md ops p.1 q.1) || D.contains q) || (!(Region.ready md ops (fD listed D)).isEmpty && (Region.ready md ops (fD listed D)).all fun i=>J.any fun p=>p.1 == i)))
def kF (md:Region.Mode) (ops:Array Oper) (J D:List (Nat × Option Tmp)) (o:Oper):Bool :=
 (o.looksAt ops).all (fun t=>J.all fun p=>!(p.2 == some t) || (D.contains p && o.after.toList.any fun e=>Region.binds md e && e.on == p.1)) &&
 D.all (fun p=>J.contains p && (o.looksAt ops).any (fun t=>p.2 == some t))
def Member (P:Program) (md:Region.Mode) (ops:Array Oper) (S:World→Prop) (V:Nat→Value→World→Prop) (J:List (Nat × Option Tmp)) (a0:Act) (w0:World) (j:Nat):Prop :=
 ∃ (o:Oper) (D:List (Nat × Option Tmp)),ops[j]?=some o∧kF md ops J D o=true ∧
  ∀ env w,Ext w0 w→S w→(∀ p ∈ D,V p.1 (env p.1) w) →
   (Region.wanted o (yielded ops (bH a0 D env).tmps)=true→∀ K:Act→World→Prop,Shut (∀ u w',Ext w w'→V j u w'→K ((bH a0 D env).put o.dst u) w')→o.wp P (bH a0 D env) w K (fun _ _ _=>False)) ∧
   (Region.wanted o (yielded ops (bH a0 D env).tmps)=false→V j undef w)
structure JI (md:Region.Mode) (ops:Array Oper) (S:World→Prop) (V:Nat→Value→World→Prop) (J:List (Nat × Option Tmp)) (a0:Act) (l0:Array Bool) (w0:World) (env:Nat→Value) (l:Array Bool) (a:Act) (w:World):Prop where
 ext:Ext w0 w
 s:S w
 lsz:l.size=l0.size
 lout:∀ i,(∀ p ∈ J,p.1 ≠ i)→l[i]?=l0[i]?
 dfr:a.defers=a0.defers
 tsz:a.tmps.size=a0.tmps.size
 val:∀ p ∈ J,l.getD p.1 true=true→V p.1 (env p.1) w
 hit:∀ p ∈ J,l.getD p.1 true=true→∀ t,p.2=some t→a.tmps.getD t undef=env p.1
 miss:∀ t,(∀ p ∈ J,l.getD p.1 true=true→p.2 ≠ some t)→a.tmps.getD t undef=a0.tmps.getD t undef
 cl:∀ p ∈ J,l.getD p.1 true=true→∀ q ∈ J,depB md ops p.1 q.1=true→l.getD q.1 true=true
theorem aBi {a b:Act} (hd:a.defers=b.defers) (hz:a.tmps.size=b.tmps.size) (h:∀ t,a.tmps.getD t undef=b.tmps.getD t undef):a=b:=by
 obtain ⟨ta,da⟩:=a
 obtain ⟨tb,db⟩:=b
 simp only at hd hz h
 subst hd
 have:ta=tb:=by
  apply Array.ext hz
  intro i h1 h2
  have:=h i
  simpa [h1,h2] using this
 rw [this]
section
variable {V:Nat→Value→World→Prop} {J:List (Nat × Option Tmp)} {a0:Act} {l0:Array Bool} {w0:World}
theorem yT {n:Nat} (h:gD md ops l0 n J=true):(J.map (·.1)).Nodup:=by
 unfold gD at h
 rw [Bool.and_eq_true,decide_eq_true_eq] at h
 exact h.1
theorem eC {n:Nat} (h:gD md ops l0 n J=true) :
  (∀ p ∈ J,p.1 < l0.size∧l0.getD p.1 true=false∧zX ops p.1=p.2∧∀ d,p.2=some d→d < n) ∧
  (∀ p ∈ J,∀ q ∈ J,p.1 ≠ q.1→∀ t,p.2=some t→q.2 ≠ some t) ∧
  (∀ D ∈ aDz J,D.length ≠ J.length→(∀ p ∈ D,∀ q ∈ J,depB md ops p.1 q.1=true→q ∈ D)→Region.ready md ops (fD l0 D) ≠ []∧∀ i ∈ Region.ready md ops (fD l0 D),∃ p ∈ J,p.1=i):=by
 unfold gD at h
 rw [Bool.and_eq_true] at h
 replace h:=h.2
 simp only [Bool.and_eq_true,List.all_eq_true,decide_eq_true_eq,beq_iff_eq,Bool.or_eq_true,Bool.not_eq_true',List.any_eq_true] at h
 obtain ⟨⟨h1,h2⟩,h3⟩:=h
 refine ⟨fun p hp=>?_,fun p hp q hq hne t ht e=>?_,fun D hD hne hcl=>?_⟩
 ·obtain ⟨⟨⟨a1, a2⟩, a3⟩, a4⟩ := h1 p hp
  refine ⟨a1,a2,a3,fun d hd=>?_⟩
  rw [hd] at a4;simpa using a4
 ·rcases h2 p hp q hq with (h | h) | h
  ·exact hne h
  ·rw [ht] at h;cases h
  rw [ht,e] at h;simp at h
 rcases h3 D hD with (h | h) | ⟨h,h'⟩
 ·exact absurd h hne
 ·have:(D.all fun p=>J.all fun q=>!(depB md ops p.1 q.1) || D.contains q)=true:=by
   rw [List.all_eq_true]
   intro p hp
   rw [List.all_eq_true]
   intro q hq
   cases hd:depB md ops p.1 q.1 with
   | false=>rfl
   | true=>simpa using hcl p hp q hq hd
  rw [this] at h;cases h
 exact ⟨fun e=>by rw [e] at h;simp at h,h'⟩
theorem JI.eqL {env:Nat→Value} {l:Array Bool} {a:Act} {w:World} {n:Nat} (hB:gD md ops l0 n J=true) (h:JI md ops S V J a0 l0 w0 env l a w) :
  l=fD l0 (J.filter fun p=>l.getD p.1 true):=by
 obtain ⟨b1,b2,b3⟩:=eC hB
 apply Array.ext_getElem?
 intro i
 by_cases hi:i < l0.size
 ·rw [uG _ _ _ hi]
  by_cases hJ:∃ p ∈ J,p.1=i
  ·obtain ⟨p, hp, rfl⟩ := hJ
   have hl:p.1 < l.size:=by rw [h.lsz];exact hi
   cases hv:l.getD p.1 true with
   | true =>
    rw [if_pos (List.any_eq_true.2 ⟨p,List.mem_filter.2 ⟨hp,hv⟩,by simp⟩)]
    simp [hl] at hv ⊢;exact hv
   | false =>
    rw [if_neg (by
     simp only [List.any_eq_true,List.mem_filter,beq_iff_eq,not_exists,not_and]
     rintro q ⟨hq,hq1⟩ e
     rw [e,hv] at hq1;cases hq1)]
    have:=(b1 p hp).2.1
    simp [hl,hi] at hv this ⊢;rw [hv,this]
  have hne:∀ p ∈ J,p.1 ≠ i:=fun p hp e=>hJ ⟨p,hp,e⟩
  rw [if_neg (by
   simp only [List.any_eq_true,List.mem_filter,beq_iff_eq,not_exists,not_and]
   rintro q ⟨hq,_⟩ e
   exact hne q hq e)]
  exact h.lout i hne
 rw [Array.getElem?_eq_none (by rw [h.lsz];omega),Array.getElem?_eq_none (by rw [rY];omega)]
theorem JI.full {env:Nat→Value} {l:Array Bool} {a:Act} {w:World} (hB:gD md ops l0 a0.tmps.size J=true) (h:JI md ops S V J a0 l0 w0 env l a w) (hf:∀ p ∈ J,l.getD p.1 true=true) :
  l=fD l0 J∧a=bH a0 J env:=by
 obtain ⟨b1,b2,b3⟩:=eC hB
 refine ⟨(h.eqL hB).trans (by rw [List.filter_eq_self.2 hf]),?_⟩
 refine aBi (by rw [h.dfr,nY]) (by rw [h.tsz,kC]) (fun t=>?_)
 by_cases ht:∃ p ∈ J,p.2=some t
 ·obtain ⟨p, hp, e⟩ := ht
  rw [h.hit p hp (hf p hp) t e,jP env t p.1 J a0 ((b1 p hp).2.2.2 t e) (by rw [← e];exact hp) (fun q hq e2=>Classical.byContradiction fun hne=>b2 p hp q hq (Ne.symm hne) t e e2)]
 rw [h.miss t (fun p hp _ e=>ht ⟨p,hp,e⟩),gK env t J a0 (fun p hp e=>ht ⟨p,hp,e⟩)]
theorem sE {D:List (Nat × Option Tmp)} {o:Oper} (h:kF md ops J D o=true) :
  (∀ t ∈ o.looksAt ops,∀ p ∈ J,p.2=some t→p ∈ D∧∃ e ∈ o.after,Region.binds md e=true∧e.on=p.1)∧(∀ p ∈ D,p ∈ J∧∃ t ∈ o.looksAt ops,p.2=some t):=by
 unfold kF at h
 simp only [Bool.and_eq_true,List.all_eq_true,Bool.or_eq_true,Bool.not_eq_true',beq_iff_eq,List.contains_iff_mem,List.any_eq_true,Array.mem_toList_iff] at h
 obtain ⟨h1,h2⟩:=h
 refine ⟨fun t ht p hp e=>?_,fun p hp=>h2 p hp⟩
 rcases h1 t ht p hp with h | h
 ·rw [e] at h;simp at h
 exact h
theorem JI.comes {env:Nat→Value} {l:Array Bool} {a:Act} {w:World} (hs:Region.noSelect ops=true) (hB:gD md ops l0 a0.tmps.size J=true) (hM:∀ p ∈ J,Member P md ops S V J a0 w0 p.1)
  (h:JI md ops S V J a0 l0 w0 env l a w) {p:Nat × Option Tmp} (hp:p ∈ J) (hr:p.1 ∈ Region.ready md ops l) :
  ∃ o,ops[p.1]?=some o∧o.dst=p.2∧(Region.wanted o (yielded ops a.tmps)=true→sS P o a w fun u w'=>∃ v,(o.dst ≠ none→v=u)∧Ext w w'∧V p.1 v w')∧(Region.wanted o (yielded ops a.tmps)=false→V p.1 undef w):=by
 obtain ⟨b1,b2,b3⟩:=eC hB
 obtain ⟨o,D,ho,hm,hstep⟩:=hM p hp
 obtain ⟨m1,m2⟩:=sE hm
 obtain ⟨hun,o',ho',hall⟩:=mem_ready.1 hr
 rw [ho] at ho';cases ho'
 have hds:o.dst=p.2:=by have:=(b1 p hp).2.2.1;unfold zX at this;rw [ho] at this;exact this
 have hdone:∀ q ∈ D,l.getD q.1 true=true:=fun q hq=>by
  obtain ⟨hqJ,t,ht,e⟩:=m2 q hq
  obtain ⟨_,ed,hed,hb,heq⟩:=m1 t ht q hqJ e
  have h1:=hall ed hed hb
  rw [heq] at h1
  have hl:q.1 < l.size:=by rw [h.lsz];exact (b1 q hqJ).1
  simp only [Array.getD_eq_getD_getElem?] at h1 ⊢
  rw [Array.getElem?_eq_getElem hl] at h1 ⊢
  exact h1
 have hag:∀ t ∈ o.looksAt ops,a.tmps.getD t undef=(bH a0 D env).tmps.getD t undef:=fun t ht=>by
  by_cases hq:∃ q ∈ J,q.2=some t
  ·obtain ⟨q, hqJ, e⟩ := hq
   have hqD:=(m1 t ht q hqJ e).1
   rw [h.hit q hqJ (hdone q hqD) t e,jP env t q.1 D a0 ((b1 q hqJ).2.2.2 t e) (by rw [← e];exact hqD) (fun r hr' e2=>Classical.byContradiction fun hne=>b2 q hqJ r (m2 r hr').1 (Ne.symm hne) t e e2)]
  rw [h.miss t (fun q hq1 _ e=>hq ⟨q,hq1,e⟩),gK env t D a0 (fun q hq1 e=>hq ⟨q,(m2 q hq1).1,e⟩)]
 obtain ⟨e1,e2⟩:=yZ (ops:=ops) (fun cs z=>Region.noSelect_spec hs p.1 o cs z ho) hag
 obtain ⟨s1,s2⟩:=hstep env w h.ext h.s (fun q hq=>h.val q (m2 q hq).1 (hdone q hq))
 refine ⟨o,ho,hds,fun hw=>?_,fun hw=>s2 (by rw [← e2];exact hw)⟩
 have:=sO (R:=fun u w'=>Ext w w'∧V p.1 u w') (by rw [kC];intro d hd;exact (b1 p hp).2.2.2 d (by rw [← hds];exact hd)) (fun K hK=>s1 (by rw [← e2];exact hw) K (fun u w' h1 h2=>hK.out u w' ⟨h1,h2⟩))
 unfold sS at this ⊢
 rw [e1];exact this
theorem rO (f:Nat→Bool) (i:Nat):∀ J:List (Nat × Option Tmp),(J.map (·.1)).Nodup→(∃ p ∈ J,p.1=i)→f i=false→(J.filter fun q=>!(if q.1=i then true else f q.1)).length+1=(J.filter fun q=>!f q.1).length
 | [],_,h,_=>by obtain ⟨p,hp,_⟩:=h;cases hp
 | p :: r,hd,h,hf=>by
  rw [List.map_cons,List.nodup_cons] at hd
  by_cases e:p.1=i
  ·have hr : (r.filter fun q => !(if q.1 = i then true else f q.1)) = r.filter fun q => !f q.1 := List.filter_congr (fun q hq => by rw [if_neg (fun e2 => hd.1 (by rw [e, ← e2]; exact List.mem_map.2 ⟨q, hq, rfl⟩))])
   rw [List.filter_cons,List.filter_cons,if_neg (by simp [e]),if_pos (by rw [e,hf];rfl),hr,List.length_cons]
  have ih:=rO f i r hd.2 (by
   obtain ⟨q,hq,e2⟩:=h
   rcases List.mem_cons.1 hq with rfl | hq
   ·exact absurd e2 e
   exact ⟨q,hq,e2⟩) hf
  rw [List.filter_cons,List.filter_cons,if_neg e]
  split <;> (try simp only [List.length_cons]) <;> omega
theorem kM (hs:Region.noSelect ops=true) (hB:gD md ops l0 a0.tmps.size J=true)
  (hSE:∀ w w',S w→Ext w w'→S w') (hVE:∀ j v w w',V j v w→Ext w w'→V j v w') (hM:∀ p ∈ J,Member P md ops S V J a0 w0 p.1) {fuel:Nat}
  (hE:∀ env w,Ext w0 w→S w→(∀ p ∈ J,V p.1 (env p.1) w)→wpAnyH P md ops Q S fuel (fD l0 J) (bH a0 J env) w) :
  ∀ (m:Nat) (env:Nat→Value) (l:Array Bool) (a:Act) (w:World),JI md ops S V J a0 l0 w0 env l a w→(J.filter fun p=>!l.getD p.1 true).length=m→wpAnyH P md ops Q S (fuel+m) l a w:=by
 obtain ⟨b1,b2,b3⟩:=eC hB
 intro m
 induction m with
 | zero =>
  intro env l a w h hm
  have hf:∀ p ∈ J,l.getD p.1 true=true:=fun p hp=>by
   have:=List.length_eq_zero_iff.1 hm
   rw [List.filter_eq_nil_iff] at this
   simpa using this p hp
  obtain ⟨rfl,rfl⟩:=h.full hB hf
  exact hE env w h.ext h.s (fun p hp=>h.val p hp (hf p hp))
 | succ m ih =>
  intro env l a w h hm
  have hlen:(J.filter fun p=>l.getD p.1 true).length ≠ J.length:=fun e=>by
   have h2:=List.length_filter_eq_length_iff.1 e
   have:(J.filter fun p=>!l.getD p.1 true)=[]:=List.filter_eq_nil_iff.2 (fun p hp=>by simp [h2 p hp])
   rw [this] at hm;cases hm
  obtain ⟨r1,r2⟩:=b3 _ (kI (fun p=>l.getD p.1 true) J) hlen (fun p hp q hq hd=>List.mem_filter.2 ⟨hq,h.cl p (List.mem_filter.1 hp).1 (List.mem_filter.1 hp).2 q hq hd⟩)
  rw [← h.eqL hB] at r1 r2
  refine ⟨fun e=>absurd e r1,fun i hi=>?_⟩
  obtain ⟨p,hp,rfl⟩:=r2 i hi
  obtain ⟨o,ho,hds,c1,c2⟩:=h.comes hs hB hM hp hi
  have hun:=(mem_ready.1 hi).1
  have hpl:p.1 < l.size:=by rw [h.lsz];exact (b1 p hp).1
  have key:∀ v u w',(o.dst ≠ none→v=u)→Ext w w'→V p.1 v w'→S w'∧wpAnyH P md ops Q S (fuel+m) (l.setIfInBounds p.1 true) (a.put o.dst u) w':=by
   intro v u w' hvu he hv
   refine ⟨hSE _ _ h.s he,ih (fun i=>if i=p.1 then v else env i) _ _ _ ?_ ?_⟩
   ·have hg:∀ q,q ∈ J→(l.setIfInBounds p.1 true).getD q.1 true=true→q.1=p.1 ∨ (q.1 ≠ p.1∧l.getD q.1 true=true):=fun q hq hh=>by
     by_cases e:q.1=p.1
     ·exact .inl e
     rw [getD_set_ne true (Ne.symm e)] at hh;exact .inr ⟨e,hh⟩
    have hsame:∀ q,q ∈ J→q.1=p.1→q.2=p.2:=fun q hq e=>by rw [← (b1 q hq).2.2.1,e,(b1 p hp).2.2.1]
    refine ⟨h.ext.trans he,hSE _ _ h.s he,by rw [Array.size_setIfInBounds];exact h.lsz,fun i hi'=>?_,by rw [lL];exact h.dfr,by rw [pR];exact h.tsz,fun q hq hh=>?_,fun q hq hh t ht=>?_,fun t ht=>?_,fun q hq hh r hr hd=>?_⟩
    ·rw [Array.getElem?_setIfInBounds_ne (hi' p hp)];exact h.lout i hi'
    ·rcases hg q hq hh with e | ⟨e, h2⟩
     ·simp only [e,if_true];exact hv
     simp only [e,if_false];exact hVE _ _ _ _ (h.val q hq h2) he
    ·rw [kW]
     rcases hg q hq hh with e | ⟨e,h2⟩
     ·have h3 := hsame q hq e
      rw [if_pos ⟨by rw [hds,← h3];exact ht,by rw [h.tsz];exact (b1 q hq).2.2.2 t ht⟩]
      simp only [e,if_true]
      exact (hvu (by rw [hds,← h3,ht];simp)).symm
     rw [if_neg (fun hh=>b2 q hq p hp e t ht (by rw [← hds];exact hh.1)),h.hit q hq h2 t ht]
     simp only [e,if_false]
    ·rw [kW, if_neg (fun hh => ht p hp (by simp [hpl]) (by rw [← hds]; exact hh.1))]
     refine h.miss t (fun q hq h2=>ht q hq ?_)
     by_cases e:q.1=p.1
     ·rw [e];simp [hpl]
     rw [getD_set_ne true (Ne.symm e)];exact h2
    have hlr:l.getD r.1 true=true:=by
     rcases hg q hq hh with e | ⟨e,h2⟩
     ·rw [e] at hd
      unfold depB at hd
      rw [ho] at hd
      simp only [List.any_eq_true,Bool.and_eq_true,beq_iff_eq,Array.mem_toList_iff] at hd
      obtain ⟨ed,hed,hb,heq⟩:=hd
      obtain ⟨_,o',ho',hall⟩:=mem_ready.1 hi
      rw [ho] at ho';cases ho'
      have h3:=hall ed hed hb
      rw [heq] at h3
      have hrl:r.1 < l.size:=by rw [h.lsz];exact (b1 r hr).1
      simp only [Array.getD_eq_getD_getElem?] at h3 ⊢
      rw [Array.getElem?_eq_getElem hrl] at h3 ⊢
      exact h3
     exact h.cl q hq h2 r hr hd
    by_cases e:r.1=p.1
    ·rw [e];simp [hpl]
    rw [getD_set_ne true (Ne.symm e)];exact hlr
   have hc:(J.filter fun q=>!(l.setIfInBounds p.1 true).getD q.1 true)=J.filter fun q=>!(if q.1=p.1 then true else l.getD q.1 true):=by
    apply List.filter_congr
    intro q hq
    by_cases e:q.1=p.1
    ·rw [e];simp [hpl]
    rw [getD_set_ne true (Ne.symm e),if_neg e]
   rw [hc]
   have:=rO (fun i=>l.getD i true) p.1 J (yT hB) ⟨p,hp,rfl⟩ hun
   omega
  unfold wpOp
  rw [ho]
  simp only
  split
  ·rename_i hw
   exact .inl (rT (c1 hw) (fun u w' hR=>by obtain ⟨v,h1,h2,h3⟩:=hR;exact key v u w' h1 h2 h3))
  rename_i hw
  exact key undef undef w (fun _=>rfl) (Ext.refl w) (c2 (by simpa using hw))
def VV (j0:Nat) (A:Value→World→Prop) (R:Nat→Value→World→Prop):Nat→Value→World→Prop:=fun j v w=>if j=j0 then A v w else R j v w
def VN:Nat→Value→World→Prop:=fun _ _ _=>True
theorem VN.ext:∀ j v w w',VN j v w→Ext w w'→VN j v w':=fun _ _ _ _ _ _=>trivial
theorem VV.ext {j0:Nat} {A:Value→World→Prop} {R:Nat→Value→World→Prop} (hA:∀ v w w',A v w→Ext w w'→A v w') (hR:∀ j v w w',R j v w→Ext w w'→R j v w'):∀ j v w w',VV j0 A R j v w→Ext w w'→VV j0 A R j v w':=fun j v w w' h e=>by
 unfold VV at *
 split at h
 ·rename_i hj;rw [if_pos hj];exact hA _ _ _ h e
 rename_i hj;rw [if_neg hj];exact hR _ _ _ _ h e
theorem Member.mk' {j:Nat} (o:Oper) (D:List (Nat × Option Tmp)) (ho:ops[j]?=some o) (hg:o.guard=none) (hm:kF md ops J D o=true)
  (h:∀ env w,Ext w0 w→S w→(∀ p ∈ D,V p.1 (env p.1) w)→∀ K:Act→World→Prop,Shut (∀ u w',Ext w w'→V j u w'→K ((bH a0 D env).put o.dst u) w')→o.wp P (bH a0 D env) w K (fun _ _ _=>False)):Member P md ops S V J a0 w0 j :=
 ⟨o,D,ho,hm,fun env w h1 h2 h3=>⟨fun _ K hK=>h env w h1 h2 h3 K hK,fun hw=>by simp [Region.wanted,hg] at hw⟩⟩
theorem Members.nil (F:Nat→Prop):∀ p ∈ ([]:List (Nat × Option Tmp)),F p.1:=fun p hp=>by cases hp
theorem Members.cons {F:Nat→Prop} {p:Nat × Option Tmp} {r:List (Nat × Option Tmp)} (h:F p.1) (hr:∀ q ∈ r,F q.1):∀ q ∈ p :: r,F q.1:=fun q hq=>by
 rcases List.mem_cons.1 hq with rfl | hq
 ·exact h
 exact hr q hq
theorem cP (V:Nat→Value→World→Prop) (J:List (Nat × Option Tmp)) (hs:Region.noSelect ops=true) (hB:gD md ops l0 a0.tmps.size J=true)
  (hSE:∀ w w',S w→Ext w w'→S w') (hVE:∀ j v w w',V j v w→Ext w w'→V j v w') (h0:S w0) (hM:∀ p ∈ J,Member P md ops S V J a0 w0 p.1) {fuel m:Nat} (hm:m=fuel+J.length)
  (hE:∀ env w,Ext w0 w→S w→(∀ p ∈ J,V p.1 (env p.1) w)→wpAnyH P md ops Q S fuel (fD l0 J) (bH a0 J env) w):wpAnyH P md ops Q S m l0 a0 w0:=by
 obtain ⟨b1,b2,b3⟩:=eC hB
 subst hm
 refine kM hs hB hSE hVE hM hE J.length (fun _=>undef) l0 a0 w0 ⟨Ext.refl _,h0,rfl,fun _ _=>rfl,rfl,rfl,fun p hp h=>?_,fun p hp h=>?_,fun _ _=>rfl,fun p hp h=>?_⟩ ?_
 ·rw [(b1 p hp).2.1] at h;cases h
 ·rw [(b1 p hp).2.1] at h;cases h
 ·rw [(b1 p hp).2.1] at h;cases h
 congr 1
 exact List.filter_eq_self.2 (fun p hp=>by rw [(b1 p hp).2.1];rfl)
end
end
theorem zm {P:Program} {md:Region.Mode} {ops:Array Oper} {S:World→Prop} {V:Nat→Value→World→Prop} {J:List (Nat × Option Tmp)} {a0:Act} {w0:World} {j:Nat} {o:Oper} (D:List (Nat × Option Tmp))
    (h:∀ env w,Ext w0 w→S w→(∀ p ∈ D,V p.1 (env p.1) w)→∀ K:Act→World→Prop,Shut (∀ u w',Ext w w'→V j u w'→K ((bH a0 D env).put o.dst u) w')→o.wp P (bH a0 D env) w K (fun _ _ _=>False))
    (ho:ops[j]?=some o:=by (simp only [List.getElem?_toArray,List.getElem?_cons_succ,List.getElem?_cons_zero];rfl)) (hg:o.guard=none:=by rfl) (hm:kF md ops J D o=true:=by kernel_rfl):Member P md ops S V J a0 w0 j:=Member.mk' o D ho hg hm h
theorem aV:(∀ (a:Act) (J:List (Nat × Option Tmp)) (env:Nat→Value),bH a J env=J.foldl (fun a p=>a.put p.2 (env p.1)) a)∧(∀ (f:Act→(Nat × Option Tmp)→Act) (a:Act),List.foldl f a []=a)∧(∀ (f:Act→(Nat × Option Tmp)→Act) (a:Act) (x:Nat × Option Tmp) (l:List (Nat × Option Tmp)),List.foldl f a (x :: l)=List.foldl f (f a x) l)∧(∀ (a:Act) (v:Value),a.put none v=a)∧(∀ (a:Act) (d:Tmp) (v:Value),a.put (some d) v={ a with tmps:=a.tmps.setIfInBounds d v })∧(∀ (l:List Value) (i:Nat) (x:Value),l.toArray.setIfInBounds i x=(l.set i x).toArray)∧(∀ (x:Value) (l:List Value) (y:Value),(x :: l).set 0 y=y :: l)∧(∀ (x:Value) (l:List Value) (n:Nat) (y:Value),(x :: l).set (n+1) y=x :: l.set n y) :=
  ⟨fun _ _ _=>rfl,fun _ _=>rfl,fun _ _ _ _=>rfl,fun _ _=>rfl,fun _ _ _=>rfl,fun _ _ _=>by simp,fun _ _ _=>rfl,fun _ _ _ _=>rfl⟩
theorem zzp {P:Program} {md:Region.Mode} {ops:Array Oper} {S:World→Prop} {V:Nat→Value→World→Prop} {J:List (Nat × Option Tmp)} {a0:Act} {w0:World} {j:Nat} {o:Oper}
    (h:∀ w,Ext w0 w→S w→∀ K:Act→World→Prop,Shut (∀ u w',Ext w w'→V j u w'→K (a0.put o.dst u) w')→o.wp P a0 w K (fun _ _ _=>False))
    (ho:ops[j]?=some o:=by (simp only [List.getElem?_toArray,List.getElem?_cons_succ,List.getElem?_cons_zero];rfl)) (hg:o.guard=none:=by rfl) (hm:kF md ops J [] o=true:=by kernel_rfl):Member P md ops S V J a0 w0 j:=zm [] (fun _ w h1 h2 _ K hK=>h w h1 h2 K hK) ho hg hm
abbrev VE (j0:Nat) (X:Value) (R:Nat→Value→World→Prop):Nat→Value→World→Prop:=VV j0 (fun v _=>v=X) R
theorem ve {j0:Nat} {X:Value} {R:Nat→Value→World→Prop} (hR:∀ j v w w',R j v w→Ext w w'→R j v w'):∀ j v w w',VE j0 X R j v w→Ext w w'→VE j0 X R j v w':=VV.ext (fun _ _ _ h _=>h) hR
theorem zzV {p q:Prop} (h:p) (t:p→q:=by (intro h9;simp +decide only [List.forall_mem_cons,VE,VV,if_true,if_false] at h9;exact h9)):q:=t h
theorem zzc {F:Nat→Prop} {p:Nat × Option Tmp} {r:List (Nat × Option Tmp)} (h:F p.1) (hr:∀ q ∈ r,F q.1):∀ q ∈ p :: r,F q.1:=Members.cons h hr
theorem zzn {F:Nat→Prop}:∀ p ∈ ([]:List (Nat × Option Tmp)),F p.1:=Members.nil F
theorem zzF {w:World} {R:Value→World→Prop} {G:Value→World→Prop} {q:Prop} (hK:Shut (∀ u w',Ext w w'→R u w'→G u w')) (v:Value) (h:R v w:=by exact rfl) (t:G v w→q:=by (intro h9;(try simp only [aV] at h9);exact h9)):q:=t (hK.out v w (Ext.refl _) h)
theorem zzK {p q:Prop} (h:p) (t:p→q:=by (intro h9;(try simp only [aV] at h9);exact h9)):q:=t h
theorem zzj {P:Program} {md:Region.Mode} {ops:Array Oper} {Q:Exit→Act→World→Prop} {S:World→Prop} {l0:Array Bool} {a0:Act} {w0:World} (V:Nat→Value→World→Prop) (J:List (Nat × Option Tmp)) (fuel:Nat)
    (hSE:∀ w w',S w→Ext w w'→S w') (hVE:∀ j v w w',V j v w→Ext w w'→V j v w') (hM:∀ p ∈ J,Member P md ops S V J a0 w0 p.1)
    (hE:∀ env w,Ext w0 w→S w→(∀ p ∈ J,V p.1 (env p.1) w)→wpAnyH P md ops Q S fuel (fD l0 J) (bH a0 J env) w) {m:Nat} (hs:Region.noSelect ops=true:=by kernel_rfl) (hB:gD md ops l0 a0.tmps.size J=true:=by kernel_rfl) (h0:S w0:=by exact aA) (hm:m=fuel+J.length:=by rfl):wpAnyH P md ops Q S m l0 a0 w0 :=
  cP V J hs hB hSE hVE h0 hM hm hE
end
end Go.Proofs.YtohmmcahpakokaaGreat
