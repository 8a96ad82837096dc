import Derived.Test.YtohmmcahpakokaaGreatJ00
set_option maxRecDepth 100000
set_option maxHeartbeats 8000000
set_option linter.unusedVariables false
set_option linter.unusedSimpArgs false
namespace Go.Proofs.YtohmmcahpakokaaGreat
section
open Go.RowKit
attribute [local go_sem ↓] Go.wp_at_zero Go.wp_at_succ
attribute [local go_sem] fD
theorem aJT (x:UInt64) (w:World) :
  Calls Tryz.prog 226 #[.int .u64 (un x),.int .u64 13] w fun e w'=>e=.returned (.int .u64 (un (pK x)))∧w=w':=by
 have h:=zh (aBa x)
 have h0:=fD x
 go_enter Tryz.func226,Tryz.ntmps226
 go_wp2
 go_ret
 exact ⟨by rw [← h.out];rfl,rfl⟩
theorem aJS (x:UInt64) (w:World) :
  Calls Tryz.prog 226 #[.int .u64 (un x),.int .u64 32] w fun e w'=>e=.returned (.int .u64 (un (pJ x)))∧w=w':=by
 have h:=zh (aAZ x)
 have h0:=fD x
 go_enter Tryz.func226,Tryz.ntmps226
 go_wp2
 go_ret
 exact ⟨by rw [← h.out];rfl,rfl⟩
theorem zH (x:UInt64) (w:World) :
  Calls Tryz.prog 241 #[.int .u64 (un x),.int .i64 13] w fun e w'=>e=.returned (.int .u64 (un (pK x)))∧w=w':=by
 have h:=zh (aBa x)
 have h0:=fD x
 have hb:bits .and .u64 13 63=13:=by decide
 go_enter Tryz.func241,Tryz.ntmps241
 go_wp2
 go_ret
 exact ⟨by rw [← h.out];rfl,rfl⟩
theorem zG (x:UInt64) (w:World) :
  Calls Tryz.prog 241 #[.int .u64 (un x),.int .i64 32] w fun e w'=>e=.returned (.int .u64 (un (pJ x)))∧w=w':=by
 have h:=zh (aAZ x)
 have h0:=fD x
 have hb:bits .and .u64 32 63=32:=by decide
 go_enter Tryz.func241,Tryz.ntmps241
 go_wp2
 go_ret
 exact ⟨by rw [← h.out];rfl,rfl⟩
theorem aDf (x y:UInt64) (w:World) :
  Calls Tryz.prog 175 #[.int .u64 (un x),.int .u64 (un y)] w fun e w'=>e=.returned (.tuple #[.int .u64 (un (aFt x y)),.int .u64 (un (aFs x y))])∧w=w':=by
 have h1:=aGo x y
 have h2:=mF (pK y) (mC x y)
 have h3:=aDV (pJ (mC x y))
 go_enter Tryz.func175,Tryz.ntmps175
 go_wp2_with fail
 refine (aJT y _).mono ?_
 rintro e w' ⟨rfl,rfl⟩
 go_wp2_with fail
 refine (aJS (mC x y) _).mono ?_
 rintro e w' ⟨rfl,rfl⟩
 go_wp2_with fail
 go_ret2
 exact ⟨rfl,rfl⟩
theorem aDm (n:Nat) (x y:UInt64):cV (n+1) x y=(aHf (pJ (mC (cV n x y).1 (cV n x y).2)),eD (pK (cV n x y).2) (mC (cV n x y).1 (cV n x y).2)):=by rw [cV];unfold aFt aFs;rfl
theorem aEn (n:Nat) (hn:n≤100) (g:Nat) (T:TypeId) (x y:UInt64) (w:World) (hg:Blk w g T #[.int .u64 (un x),.int .u64 (un y)]) :
  Calls Tryz.prog 206 #[.pointer (some ⟨g,0,none⟩),.int .i64 n] w fun e w'=>e=.returned (.tuple #[])∧Blk w' g T #[.int .u64 (un (cV n x y).1),.int .u64 (un (cV n x y).2)]∧Only g w w':=by
 go_enter Tryz.func206,Tryz.ntmps206
 go_wp2
 go_loopw [5] (fun i wr=>∃ (k:Nat),k≤n∧i=.int .i64 k∧Blk wr g T #[.int .u64 (un (cV k x y).1),.int .u64 (un (cV k x y).2)]∧Only g w wr) (fun i _=>n - (intOf i).toNat)
 case atStart=>exact ⟨0,by omega,rfl,hg,Only.refl _ _⟩
 case round =>
  obtain ⟨k,hk,rfl,hgk,hon⟩:=hrel
  by_cases hlt:k < n
  ·have hs := zh (aDm k x y)
   generalize (cV k x y).1=a at *
   generalize (cV k x y).2=b at *
   have hc0:=hgk.cell 0
   have hc1:=hgk.cell 1
   have hf0:=hgk.frozen 0
   have hf1:=hgk.frozen 1
   have h1:=aGo a b
   go_wp2
   go_region
   have hg1:=(hgk.set 0 (.int .u64 (un (mC a b)))).drew
   have ho1:=(hon.set 0 (.int .u64 (un (mC a b)))).drew
   simp at hg1
   generalize (wr.setCell ⟨g,0,none⟩ (.int .u64 (un (mC a b)))).drew=w1 at *
   clear hc0 hc1 hf0 hf1 h1 hgk hon
   have hc0:=hg1.cell 0
   have hc1:=hg1.cell 1
   have hf0:=hg1.frozen 0
   have hf1:=hg1.frozen 1
   have h2:=mF (pK b) (mC a b)
   go_wp2
   go_still_tail 11,(by kernel_rfl)
   still_call ((zH _ _).mono fun _ _ h=>⟨h.1,h.2.symm⟩)
   repeat still_step
   refine wpStill_nil ?_
   have h3:=aDV (pJ (mC a b))
   go_wp2_with (go_at_call 241;refine (zG _ _).mono ?_;rintro e w' ⟨rfl,rfl⟩)
   have hg2:=((hg1.set 1 (.int .u64 (un (eD (pK b) (mC a b))))).set 0 (.int .u64 (un (aHf (pJ (mC a b)))))).drew
   have ho2:=((ho1.set 1 (.int .u64 (un (eD (pK b) (mC a b))))).set 0 (.int .u64 (un (aHf (pJ (mC a b)))))).drew
   simp at hg2
   go_roundw
   case rel=>exact ⟨k+1,by omega,by go_num,by rw [hs.out];exact hg2,ho2⟩
   case measure=>simp [intOf];omega
  go_wp2
  go_end0
  obtain rfl:k=n:=by omega
  exact ⟨rfl,hgk,hon⟩
end
section
open Go.RowKit
attribute [local go_sem ↓] Go.wp_at_zero Go.wp_at_succ
theorem eI (n:UInt64):(Tryz.prog.info? 30).map (·.size)=some (nmc n).size:=by rw [cP];kernel_rfl
theorem sU (n:UInt64):(Tryz.prog.info? 30).map (·.size)=some (bcs (nmb n)).length:=by rw [aJ,aG];kernel_rfl
section
variable {ops:Array Oper} {rest:List Oper} {o:Oper} {a:Act} {w:World} {Q:Exit→Act→World→Prop}
theorem bE (hgd:o.guard=none) (x:Operand) (ho:o.op=.load 30 x) (b of:Nat) (hx:a.eval x=.pointer (some ⟨b,of,none⟩)) (n:UInt64) (hc:w.rangeAt b of (bcs (nmb n)))
  (h:wpList Tryz.prog ops Q rest (a.put o.dst (.agg (nmc n))) w):wpList Tryz.prog ops Q (o :: rest) a w :=
 wpList_load_mid hgd 30 x ho b of hx (bcs (nmb n)) _ hc Tryz.underlying30 rfl (sU n) h
theorem aW (hgd:o.guard=none) (x y:Operand) (ho:o.op=.store 30 x y) (b of:Nat) (n:UInt64) (hx:a.eval x=.pointer (some ⟨b,of,none⟩)) (hy:a.eval y=.agg (nmc n)) (ht:w.there b of 8)
  (h:wpList Tryz.prog ops Q rest (a.put o.dst undef) (w.setCells b of (nmc n).toList)):wpList Tryz.prog ops Q (o :: rest) a w :=
 wpList_store_mid hgd 30 x y ho b of (nmc n) hx hy (by rw [cP];exact ht) (eI n) (gG n) h
theorem lS (hgd:o.guard=none) (x y:Operand) (ho:o.op=.store 30 x y) (g:Nat) (n:UInt64) (hx:a.eval x=.pointer (some ⟨g,0,none⟩)) (hy:a.eval y=.agg (nmc n)) (hg:w.heap.size=g)
  (h:wpList Tryz.prog ops Q rest (a.put o.dst undef) (w.alloc (.cells (nmc n) 30))):wpList Tryz.prog ops Q (o :: rest) a (w.alloc (.cells zcs.toArray 30)):=by
 subst hg
 refine aW hgd x y ho w.heap.size 0 n hx hy (aT (Blk.new w _ zcs.toArray)) ?_
 rw [eU _ _ _ _ (by rw [cP];rfl)]
 exact h
end
theorem eL {fn:Func} {p:Tmp} (hres:fn.results=#[.cell p 30]) (tmps:Array Value) (w1:World) (g:Nat) (r:UInt64) (hp:tmps.getD p undef=.pointer (some ⟨g,0,none⟩)) (hb:Blk w1 g 30 (nmc r)) :
  (results fn tmps).run Tryz.prog w1=.ok (.agg (nmc r)) w1 :=
 results_cell_row hres tmps w1 g 30 (nmc r) (0,0) _ hp hb Tryz.underlying30 rfl (eI r)
theorem lE {w:World} {g:Nat} {t:TypeId} (h:Blk w g t zcs.toArray) (r:UInt64):w.there g 0 (nmc r).size:=by rw [cP];exact aT h
theorem blkN {w:World} {g:Nat} {t:TypeId} (h:Blk w g t zcs.toArray) (r:UInt64):Blk (w.setCells g 0 (nmc r).toList) g t (nmc r):=aR h (by rw [cP];rfl)
theorem cA {w:World} {g:Nat} {t:TypeId} (h:Blk w g t zcs.toArray) (r:UInt64):(storeCells ⟨g,0,none⟩ (nmc r).toList).run Tryz.prog w=.ok () (w.setCells g 0 (nmc r).toList):=by
 have ht:=lE h r
 have:=run_storeCells_cells (P:=Tryz.prog) g 0 (nmc r).toList 0 w (fun j hj=>by simpa using (ht j (by simpa using hj)).1) (fun j hj=>by simpa using (ht j (by simpa using hj)).2) (by rw [bF];exact dW _)
 simpa using this
theorem aJY (x:UInt64) (w:World) :
  Calls Tryz.prog 207 #[.int .u64 (un x)] w fun e w'=>e=.returned (.agg (nmc x))∧Ext w w':=by
 have h0:=fD x
 go_enter Tryz.func207,Tryz.ntmps207
 go_wp2
 refine bodyPost_ret (v:=.agg (nmc x)) ?_ rfl ⟨rfl,(Ext.refl w).alloc' _⟩
 rw [aHb];exact results_cell_row rfl _ _ w.heap.size 30 _ (0,0) _ rfl (heap_alloc_new w _) Tryz.underlying30 rfl (by kernel_rfl)
theorem aFd (x:UInt64) (w:World) :
  Calls Tryz.prog 176 #[.int .u64 (un x)] w fun e w'=>e=.returned (.agg (nmc x))∧Ext w w':=by
 have h0:=fD x
 go_enter Tryz.func176,Tryz.ntmps176
 go_wp2
 refine bodyPost_ret (v:=.agg (nmc x)) ?_ rfl ⟨rfl,(Ext.refl w).alloc' _⟩
 rw [aHb];exact results_cell_row rfl _ _ w.heap.size 30 _ (0,0) _ rfl (heap_alloc_new w _) Tryz.underlying30 rfl (by kernel_rfl)
theorem jJ (n:UInt64) (k:Nat) (hk:k < 8) (w:World) :
  (Instr.index 30 (.agg (nmc n)) (.int .i64 (k:Int))).run Tryz.prog w=.ok (.int .u8 (((nmb n).getD k 0).toNat:Int)) w:=by
 have h:(nmc n)[k]?=some (.int .u8 (((nmb n).getD k 0).toNat:Int)):=by
  have hl:=aG n
  simp [nmc,bcs,bv,hl,hk]
 have h2:k < (nmc n).size:=by rw [cP];exact hk
 have hi:(sizeOf 5).run Tryz.prog w=.ok 1 w:=by kernel_rfl
 have ha:(isAgg 5).run Tryz.prog w=.ok false w:=by kernel_rfl
 simp [Instr.index,asIntOf,run_underlying Tryz.underlying30,part,hi,ha,hk,h]
theorem sW (a:Nat) (c:UInt8) (ha:a < 72057594037927936):bits .or .u64 (IntKind.u64.wrap ((a:Int) * 256)) (c.toNat:Int)=((a * 256+c.toNat:Nat):Int):=by
 have hc:c.toNat < 256:=c.toNat_lt
 have e:IntKind.u64.wrap ((a:Int) * 256)=((a * 256:Nat):Int):=by rw [IntKind.wrap_u64];omega
 rw [e,u64_or_nat _ _ (by omega) (by omega),show a * 256=a * 2 ^ 8 from rfl,aBy _ _ 8 (by omega)]
theorem mG (l:List UInt8) (k:Nat) (h:k < l.length):l.take (k+1)=l.take k ++ [l.getD k 0]:=by
 rw [List.take_succ_eq_append_getElem h];simp [h]
theorem lM (x:UInt64) (w:World) :
  Calls Tryz.prog 167 #[.agg (nmc x)] w fun e w'=>e=.returned (.int .u64 (un x))∧Ext w w':=by
 have hs:=cP x
 have hl:=aG x
 go_enter Tryz.func167,Tryz.ntmps167
 go_wp2_with (refine wpList_load_row rfl 30 _ rfl _ rfl 30 _ (0,0) _ (heap_alloc_new w _) Tryz.underlying30 rfl (eI x) ?_)
 go_loop [3,7] (fun v i=>∃ k:Nat,k≤8∧i=.int .i64 k∧v=.int .u64 (bH ((nmb x).take k))) (fun _ i=>8 - (intOf i).toNat)
 case atStart=>exact ⟨0,by omega,rfl,rfl⟩
 case round =>
  obtain ⟨k,hk,rfl,rfl⟩:=hrel
  by_cases hlt:k < 8
  ·have hix := jJ x k hlt
   have hb:=lC ((nmb x).take k)
   rw [List.length_take,hl,Nat.min_eq_left (by omega)] at hb
   have hb7:bH ((nmb x).take k) < 72057594037927936:=Nat.lt_of_lt_of_le hb (Nat.pow_le_pow_right (n:=256) (j:=7) (by omega) (by omega))
   have hor:=sW _ ((nmb x).getD k 0) hb7
   have HS:=zh (show bH ((nmb x).take (k+1))=bH ((nmb x).take k) * 256+((nmb x).getD k 0).toNat by rw [mG _ _ (by omega),fV])
   clear hb hb7 hl hs
   generalize bH ((nmb x).take k)=a at *
   generalize (nmb x).getD k 0=c at *
   go_wp2
   go_round
   case rel=>exact ⟨k+1,by omega,by go_num,by rw [HS.out];go_num⟩
   case measure=>simp [intOf];omega
  have HS:=zh (show (bH ((nmb x).take k):Int)=un x by rw [List.take_of_length_le (by omega),nM];rfl)
  clear hl hs
  generalize bH ((nmb x).take k)=a at *
  go_wp2
  go_ret
  exact ⟨by rw [← HS.out];rfl,(Ext.refl w).alloc' _⟩
theorem aJu (l:List UInt8) (h:8≤l.length):∃ c0 c1 c2 c3 c4 c5 c6 c7 r,l=c0 :: c1 :: c2 :: c3 :: c4 :: c5 :: c6 :: c7 :: r:=by
 match l,h with
 | c0 :: c1 :: c2 :: c3 :: c4 :: c5 :: c6 :: c7 :: r,_=>exact ⟨c0,c1,c2,c3,c4,c5,c6,c7,r,rfl⟩
theorem aAS (c0 c1 c2 c3 c4 c5 c6 c7:UInt8) (r:List UInt8):aGd c0 c1 c2 c3 c4 c5 c6 c7=un (eR (c0 :: c1 :: c2 :: c3 :: c4 :: c5 :: c6 :: c7 :: r)):=by
 rw [aGc,aAY,aCG _ (by simp)];simp
theorem aEF (A:Option Addr) (c:Nat) (l:List UInt8) (w:World) (hr:Rd w A (bcs l)) (h8:8≤l.length) (hm:l.length≤9223372036854775807) :
  Calls Tryz.prog 205 #[.slice A l.length c] w fun e w'=>e=.returned (.int .u64 (un (eR l)))∧Ext w w':=by
 obtain ⟨c0,c1,c2,c3,c4,c5,c6,c7,r,rfl⟩:=aJu l h8
 obtain ⟨b,o,rfl,hra,hb⟩:=hr.at (by simp [bcs])
 have HW:=zh (aAS c0 c1 c2 c3 c4 c5 c6 c7 r)
 have g0:=hra 0 _ rfl
 have g1:=hra 1 _ rfl
 have g2:=hra 2 _ rfl
 have g3:=hra 3 _ rfl
 have g4:=hra 4 _ rfl
 have g5:=hra 5 _ rfl
 have g6:=hra 6 _ rfl
 have g7:=hra 7 _ rfl
 rw [Nat.add_zero] at g0
 unfold bv at g0 g1 g2 g3 g4 g5 g6 g7
 generalize hn:(c0 :: c1 :: c2 :: c3 :: c4 :: c5 :: c6 :: c7 :: r).length=n at *
 have k0:0 < n:=by omega
 have k1:(1:Int) < (n:Int):=by omega
 have k2:(2:Int) < (n:Int):=by omega
 have k3:(3:Int) < (n:Int):=by omega
 have k4:(4:Int) < (n:Int):=by omega
 have k5:(5:Int) < (n:Int):=by omega
 have k6:(6:Int) < (n:Int):=by omega
 have k7:(7:Int) < (n:Int):=by omega
 have h8':(8:Int)≤(n:Int):=by omega
 clear hr hra hn
 go_enter Tryz.func205,Tryz.ntmps205
 go_wp2
 go_quiet (fail)
 go_wp2
 go_ret
 exact ⟨by rw [← HW.out];rfl,below_drewN (Ext.refl w) _⟩
theorem zI (A:Option Addr) (c:Nat) (l:List UInt8) (w:World) (hr:Rd w A (bcs l)) (h8:8≤l.length) (hm:l.length≤9223372036854775807) :
  Calls Tryz.prog 174 #[.slice A l.length c] w fun e w'=>e=.returned (.int .u64 (un (eR l)))∧Ext w w':=by
 obtain ⟨c0,c1,c2,c3,c4,c5,c6,c7,r,rfl⟩:=aJu l h8
 obtain ⟨b,o,rfl,hra,hb⟩:=hr.at (by simp [bcs])
 have HW:=zh (aAS c0 c1 c2 c3 c4 c5 c6 c7 r)
 have g0:=hra 0 _ rfl
 have g1:=hra 1 _ rfl
 have g2:=hra 2 _ rfl
 have g3:=hra 3 _ rfl
 have g4:=hra 4 _ rfl
 have g5:=hra 5 _ rfl
 have g6:=hra 6 _ rfl
 have g7:=hra 7 _ rfl
 rw [Nat.add_zero] at g0
 unfold bv at g0 g1 g2 g3 g4 g5 g6 g7
 generalize hn:(c0 :: c1 :: c2 :: c3 :: c4 :: c5 :: c6 :: c7 :: r).length=n at *
 have k0:0 < n:=by omega
 have k1:(1:Int) < (n:Int):=by omega
 have k2:(2:Int) < (n:Int):=by omega
 have k3:(3:Int) < (n:Int):=by omega
 have k4:(4:Int) < (n:Int):=by omega
 have k5:(5:Int) < (n:Int):=by omega
 have k6:(6:Int) < (n:Int):=by omega
 have k7:(7:Int) < (n:Int):=by omega
 have h8':(8:Int)≤(n:Int):=by omega
 clear hr hra hn
 go_enter Tryz.func174,Tryz.ntmps174
 go_wp2
 go_quiet (fail)
 go_wp2
 go_ret
 exact ⟨by rw [← HW.out];rfl,below_drewN (Ext.refl w) _⟩
theorem aFZ (l:List UInt8) (h:l.length < 8):aAd (l ++ List.replicate (8 - l.length) 0)=eR l:=by
 unfold aAd eR rO
 rw [List.take_append,List.take_of_length_le (by omega),List.take_replicate,Nat.min_eq_left (by omega)]
theorem aCB (l:List UInt8) (h:l.length < 8):(splice zcs 0 (bcs l)).toArray=nmc (eR l):=by
 rw [← aFZ l h,← aKb _ (by simp;omega),eJ]
 rw [aJM]
 simp only [splice,List.take_zero,List.nil_append,List.drop_replicate,aJ,Nat.zero_add]
 congr 2
 simp [bcs,bv]
theorem aCF (A:Option Addr) (c:Nat) (l:List UInt8) (w:World) (hr:Rd w A (bcs l)) (h8:l.length < 8) :
  Calls Tryz.prog 205 #[.slice A l.length c] w fun e w'=>e=.returned (.int .u64 (un (eR l)))∧Ext w w':=by
 have hlt:decide ((8:Int)≤(l.length:Int))=false:=by simp;omega
 have hr1:=hr.ext ((Ext.refl w).alloc' (.cells zcs.toArray 30))
 have hsp:=zh (aCB l h8)
 go_enter Tryz.func205,Tryz.ntmps205
 go_wp2_with (with_reducible refine wpList_copy_splice rfl _ _ _ _ rfl 5 Tryz.underlying45 (by kernel_rfl) _ _ _ _ _ _ rfl rfl w.heap.size 0 zcs 30 (heap_alloc_new w _) (bcs l) ?c1 ?c2 ?c3 (dW l) w.heap.size w ((Ext.refl w).alloc' _) (Nat.le_refl _) ?_)
 case c1=>rw [aJ];exact (Nat.min_eq_left (by omega)).symm
 case c2=>exact fun hp=>hr1.src hp
 case c3=>rw [aJ];show _≤8;omega
 intro w1 hb1 he1
 rw [hsp.out] at hb1
 go_wp2_with (first | (refine wpList_load_row rfl 30 _ rfl _ rfl 30 _ (0,0) _ hb1.out Tryz.underlying30 rfl (eI _) ?_) | (go_at_call 167;refine (lM _ _).mono ?_;rintro e w2 ⟨rfl,he2⟩))
 go_ret
 exact ⟨rfl,Ext.trans he1 he2⟩
theorem aGa (A:Option Addr) (n c:Nat) (l:List UInt8) (w:World) (h:SlB w A n c l) :
  Calls Tryz.prog 205 #[.slice A n c] w fun e w'=>e=.returned (.int .u64 (un (eR l)))∧Ext w w':=by
 obtain ⟨rfl,h2,h3,hr⟩:=h
 rcases Nat.lt_or_ge l.length 8 with h | h
 ·exact aCF A c l w hr h
 exact aEF A c l w hr h (by omega)
theorem aGJ (a k:Nat) (c:UInt8) (hk:k < 8) (ha:a < 256 ^ k) :
  bits .or .u64 ((a * 256 ^ (8 - k):Nat):Int) (IntKind.u64.wrap ((c.toNat:Int) * ((256 ^ (7 - k):Nat):Int)))=(((a * 256+c.toNat) * 256 ^ (7 - k):Nat):Int):=by
 have hc:c.toNat < 256:=c.toNat_lt
 have e1:256 ^ (8 - k)=2 ^ ((56 - 8 * k)+8):=by rw [show (256:Nat)=2 ^ 8 from rfl,← Nat.pow_mul];congr 1;omega
 have e2:256 ^ (7 - k)=2 ^ (56 - 8 * k):=by rw [show (256:Nat)=2 ^ 8 from rfl,← Nat.pow_mul];congr 1;omega
 have hb:a * 2 ^ ((56 - 8 * k)+8)+c.toNat * 2 ^ (56 - 8 * k) < 18446744073709551616:=by
  rw [eT,← e2]
  have h1:(a * 256+c.toNat)+1≤256 ^ (k+1):=by rw [Nat.pow_succ];omega
  have h2:=Nat.mul_le_mul_right (256 ^ (7 - k)) h1
  rw [← Nat.pow_add,show k+1+(7 - k)=8 from by omega,Nat.add_mul] at h2
  have h3:0 < 256 ^ (7 - k):=Nat.pow_pos (by omega)
  have h4:(256:Nat) ^ 8=18446744073709551616:=by decide
  omega
 rw [e1,e2,rW a (56 - 8 * k) c (by omega) hb,eT]
theorem aFk (a k:Nat) (c:UInt8) (hk:k < 8) (ha:a < 256 ^ k) :
  bits .or .u64 ((a:Int) * 256 ^ (8 - k)) (IntKind.u64.wrap ((c.toNat:Int) * 2 ^ (56 - 8 * k)))=(((a * 256+c.toNat) * 256 ^ (8 - (k+1)):Nat):Int):=by
 have h:=aGJ a k c hk ha
 have e2:256 ^ (7 - k)=2 ^ (56 - 8 * k):=by rw [show (256:Nat)=2 ^ 8 from rfl,← Nat.pow_mul];congr 1;omega
 rw [show 8 - (k+1)=7 - k from by omega]
 rw [← h,e2];simp
theorem aDX (l:List UInt8) (k:Nat) (h:k < l.length):l.take (k+1)=l.take k ++ [l[k]]:=List.take_succ_eq_append_getElem h
theorem kN (l:List UInt8) (k:Nat) (h:k≤l.length):bH (l.take k) < 256 ^ k:=by
 have:=lC (l.take k);rwa [List.length_take,Nat.min_eq_left h] at this
theorem wI (A:Option Addr) (c:Nat) (l:List UInt8) (w:World) (hr:Rd w A (bcs l)) (h8:l.length < 8) :
  Calls Tryz.prog 174 #[.slice A l.length c] w fun e w'=>e=.returned (.int .u64 (un (eR l)))∧Ext w w':=by
 have hlt:decide ((8:Int)≤(l.length:Int))=false:=by simp;omega
 go_enter Tryz.func174,Tryz.ntmps174
 go_wp2
 go_loop [3,4] (fun v i=>∃ k:Nat,k≤l.length∧i=.int .i64 k∧v=.int .u64 ((bH (l.take k) * 256 ^ (8 - k):Nat):Int)) (fun _ i=>l.length - (intOf i).toNat)
 case atStart=>exact ⟨0,by omega,rfl,by simp [bH]⟩
 case round =>
  obtain ⟨k,hk,rfl,rfl⟩:=hrel
  by_cases hlt':k < l.length
  ·obtain ⟨b, o, rfl, hra, hb⟩ := hr.at (by intro e; have := congrArg List.length e; simp [bcs] at this; subst this; simp at hlt')
   have hcell:=aAI hra k hlt'
   have HS:=zh (show bH (l.take (k+1))=bH (l.take k) * 256+l[k].toNat by rw [aDX _ _ hlt',fV])
   have HO:=zh (aFk (bH (l.take k)) k l[k] (by omega) (kN l k hk))
   generalize bH (l.take k)=a at *
   go_wp2
   go_round
   case rel=>exact ⟨k+1,by omega,by go_num,by rw [HS.out,HO.out]⟩
   case measure=>simp [intOf];omega
  obtain rfl:k=l.length:=by omega
  have HS:=zh (show ((bH (l.take l.length):Int) * 256 ^ (8 - l.length))=un (eR l) by rw [aAY,aAR l (by omega),List.take_length];simp)
  generalize bH (l.take l.length)=a at *
  go_wp2
  go_ret
  exact ⟨by rw [← HS.out];rfl,Ext.refl w⟩
theorem aBp (A:Option Addr) (n c:Nat) (l:List UInt8) (w:World) (h:SlB w A n c l) :
  Calls Tryz.prog 174 #[.slice A n c] w fun e w'=>e=.returned (.int .u64 (un (eR l)))∧Ext w w':=by
 obtain ⟨rfl,h2,h3,hr⟩:=h
 rcases Nat.lt_or_ge l.length 8 with h | h
 ·exact wI A c l w hr h
 exact zI A c l w hr h (by omega)
def dD (l:List UInt8):Nat→UInt64 × UInt64
 | 0=>(2611923443488327891,1376283091369227076)
 | k+1=>cV 2 (eD (dD l k).1 (eR (l.drop (8 * k)))) (dD l k).2
def oC (n:Nat) (x y:UInt64):UInt64:=eD (cV 4 x (eD y (UInt64.ofNat n))).1 (cV 4 x (eD y (UInt64.ofNat n))).2
def dO (l:List UInt8):UInt64:=oC l.length (dD l ((l.length+7) / 8)).1 (dD l ((l.length+7) / 8)).2
theorem aGl (n:Nat) (h:n < 18446744073709551616):(n:Int)=un (UInt64.ofNat n):=by
 unfold un;rw [UInt64.toNat_ofNat_of_lt' (by simpa [UInt64.size] using h)]
theorem aCP (l:List UInt8) (k:Nat):dD l (k+1)=(aFt (aFt (eD (dD l k).1 (eR (l.drop (8 * k)))) (dD l k).2) (aFs (eD (dD l k).1 (eR (l.drop (8 * k)))) (dD l k).2),aFs (aFt (eD (dD l k).1 (eR (l.drop (8 * k)))) (dD l k).2) (aFs (eD (dD l k).1 (eR (l.drop (8 * k)))) (dD l k).2)):=by
 rw [dD];simp only [cV]
theorem aEp (n:Nat) (h:n≤140737488355328):IntKind.u64.wrap (n:Int)=un (UInt64.ofNat n):=by
 rw [← aGl n (by omega),IntKind.wrap_u64];omega
theorem tZ (A:Option Addr) (n c:Nat) (l:List UInt8) (w:World) (h:SlB w A n c l) (hm:n≤140737488355328) :
  Calls Tryz.prog 114 #[.slice A n c] w fun e w'=>e=.returned (.agg (nmc (dO l)))∧Ext w w':=by
 have hx0:(2611923443488327891:Int)=un 2611923443488327891:=by decide
 have hy0:(1376283091369227076:Int)=un 1376283091369227076:=by decide
 have Hx:=zh hx0
 have Hy:=zh hy0
 have hle:=h.le
 clear hx0 hy0
 go_enter Tryz.func114,Tryz.ntmps114
 go_wp2
 go_loopw [3,4,5] (fun x y i wr=>∃ k:Nat,8 * k≤n+7∧i=.int .i64 ((8 * k:Nat):Int)∧x=.int .u64 (un (dD l k).1)∧y=.int .u64 (un (dD l k).2)∧Ext (w.alloc (.cells zcs.toArray 30)) wr) (fun _ _ i _=>n+8 - (intOf i).toNat)
 case atStart=>exact ⟨0,by omega,rfl,by rw [Hx.out];rfl,by rw [Hy.out];rfl,Ext.refl _⟩
 case round =>
  obtain ⟨k,hk,rfl,rfl,rfl,hE⟩:=hrel
  by_cases hlt:8 * k < n
  ·have hrk := (h.ext (((Ext.refl w).alloc' (.cells zcs.toArray 30)).trans hE)).cut (k := 8 * k) (by omega) (by omega)
   have HS:=zh (aCP l k)
   generalize (dD l k).1=x at *
   generalize (dD l k).2=y at *
   have hx:=mF x (eR (l.drop (8 * k)))
   go_wp2_with fail
   refine (aBp _ _ _ _ _ hrk).mono ?_
   rintro e w1 ⟨rfl,he1⟩
   go_wp2_with fail
   refine (aDf _ _ _).mono ?_
   rintro e w2 ⟨rfl,rfl⟩
   go_wp2_with fail
   refine (aDf _ _ _).mono ?_
   rintro e w2 ⟨rfl,rfl⟩
   go_wp2_with fail
   go_roundw
   case rel=>exact ⟨k+1,by omega,by go_num,by rw [HS.out],by rw [HS.out],hE.trans he1⟩
   case measure=>simp [intOf];omega
  have hkk:k=(n+7) / 8:=by omega
  have HK:=zh hkk
  have HF:Hid (dO l=oC n (dD l k).1 (dD l k).2):=zh (by rw [hkk];unfold dO;rw [h.len])
  clear hkk
  generalize (dD l k).1=x at *
  generalize (dD l k).2=y at *
  have hn64:=aEp n hm
  have hdk:decide ((8:Int) * (k:Int) < (n:Int))=false:=by simp;omega
  have hxy:=mF y (UInt64.ofNat n)
  go_wp2_with fail
  go_loopw [3,4,6] (fun x' y' i ws=>∃ j:Nat,j≤4∧i=.int .i64 (j:Int)∧x'=.int .u64 (un (cV j x (eD y (UInt64.ofNat n))).1)∧y'=.int .u64 (un (cV j x (eD y (UInt64.ofNat n))).2)∧ws=wr) (fun _ _ i _=>4 - (intOf i).toNat)
  case atStart=>exact ⟨0,by omega,rfl,rfl,rfl,rfl⟩
  case round =>
   obtain ⟨j,hj,rfl,rfl,rfl,rfl⟩:=hrel
   by_cases hlt4:j < 4
   ·have HM := zh (show cV (j + 1) x (eD y (UInt64.ofNat n)) = _ from rfl)
    go_wp2_with fail
    refine (aDf _ _ _).mono ?_
    rintro e w2 ⟨rfl,rfl⟩
    go_wp2_with fail
    go_roundw
    case rel=>first | exact ⟨j+1,by omega,by go_num,rfl,rfl,rfl⟩ | ((repeat apply Exists.intro);exact ⟨⟨j+1,by omega,by go_num,rfl,rfl,trivial⟩,rfl⟩)
    case measure=>simp [intOf];omega
   obtain rfl:j=4:=by omega
   have hxx:=mF (cV 4 x (eD y (UInt64.ofNat n))).1 (cV 4 x (eD y (UInt64.ofNat n))).2
   have HX:=zh (HF.out.trans (show oC n x y=eD (cV 4 x (eD y (UInt64.ofNat n))).1 (cV 4 x (eD y (UInt64.ofNat n))).2 from by unfold oC;rfl))
   generalize (cV 4 x (eD y (UInt64.ofNat n))).1=a at *
   generalize (cV 4 x (eD y (UInt64.ofNat n))).2=b at *
   go_wp2_with fail
   refine (aFd _ _).mono ?_
   rintro e w2 ⟨rfl,he2⟩
   have hb0:Blk w2 w.heap.size 30 zcs.toArray:=((Blk.new w _ _).ext hE).ext he2
   go_wp2_with (refine wpList_store_mid rfl 30 _ _ rfl w.heap.size 0 (nmc (eD a b)) rfl rfl (lE hb0 _) (eI _) (gG _) ?_)
   refine bodyPost_ret (v:=.agg (nmc (eD a b))) (eL rfl _ _ w.heap.size _ rfl (blkN hb0 _)) rfl ⟨by rw [HX.out],Below.setCells' ((((Ext.refl w).alloc' _).trans hE).trans he2) (Nat.le_refl _) _ _⟩
theorem aDY (A:Option Addr) (n c:Nat) (l:List UInt8) (w:World) (h:SlB w A n c l) (hm:n≤140737488355328) :
  Calls Tryz.prog 149 #[.slice A n c] w fun e w'=>e=.returned (.agg (nmc (dO l)))∧Ext w w':=by
 have hx0:(2611923443488327891:Int)=un 2611923443488327891:=by decide
 have hy0:(1376283091369227076:Int)=un 1376283091369227076:=by decide
 have Hx:=zh hx0
 have Hy:=zh hy0
 have hle:=h.le
 clear hx0 hy0
 go_enter Tryz.func149,Tryz.ntmps149
 go_wp2
 go_loopw [4] (fun v wr=>∃ k i:Nat,Hid (i=8 * k)∧i≤n+7∧v=.int .i64 (i:Int)∧Blk wr (w.heap.size+1) 215 #[.int .u64 (un (dD l k).1),.int .u64 (un (dD l k).2)]∧Ext (w.alloc (.cells zcs.toArray 30)) wr) (fun i _=>n+8 - (intOf i).toNat)
 case atStart=>exact ⟨0,0,rfl,by omega,rfl,by have:=Blk.new (w.alloc (.cells zcs.toArray 30)) 215 #[.int .u64 (un 2611923443488327891),.int .u64 (un 1376283091369227076)];rw [← Hx.out,← Hy.out,World.size_alloc] at this;rw [dD,← Hx.out,← Hy.out];exact this,(Ext.refl _).alloc' _⟩
 case round =>
  obtain ⟨k,i,Hi,hk,rfl,hB,hE⟩:=hrel
  by_cases hlt:i < n
  ·have HS : Hid (dD l (k + 1) = cV 2 (eD (dD l k).1 (eR (l.drop i))) (dD l k).2) := zh (by rw [Hi.out]; rfl)
   generalize (dD l k).1=x at *
   generalize (dD l k).2=y at *
   have hrk:=((h.ext (((Ext.refl w).alloc' (.cells zcs.toArray 30)).trans hE)).cut (k:=i) (by omega) (by omega)).ext (Ext.refl wr).drew'
   have hx:=mF x (eR (l.drop i))
   have c0:=hB.cell 0
   have c1:=hB.cell 1
   have f0:=hB.frozen 0
   have hin:i≤n:=by omega
   have hic:¬ c=i:=by omega
   go_wp2_with fail
   go_region_law ((go_simp;go_at_call 205;refine (aGa _ _ _ _ _ hrk).mono ?_;rintro e w1 ⟨rfl,he1⟩;have hB1:=hB.drew.ext he1;have d0:=hB1.cell 0;have d1:=hB1.cell 1;have g0:=hB1.frozen 0))
   all_goals
    have hB2:=hB1.set 0 (.int .u64 (un (eD x (eR (l.drop i)))))
    simp at hB2
    have hE2:Ext (w.alloc (.cells zcs.toArray 30)) (w1.setCell ⟨w.heap.size+1,0,none⟩ (.int .u64 (un (eD x (eR (l.drop i)))))):=Below.setCell (hE.drew'.trans he1) (by simp) _
    go_wp2_with fail
    refine (aEn 2 (by omega) _ _ _ _ _ hB2).mono ?_
    rintro e w3 ⟨rfl,hB3,hO3⟩
    go_wp2_with fail
    go_roundw
    case rel=>exact ⟨k+1,i+8,by have:=Hi.out;exact zh (by omega),by omega,by go_num,by rw [HS.out];exact hB3,Below.trans hE2 (hO3.below (by simp))⟩
    case measure=>simp [intOf];omega
  have HK:Hid (k=(n+7) / 8):=by have:=Hi.out;exact zh (by omega)
  have HF:Hid (dO l=oC n (dD l k).1 (dD l k).2):=zh (by rw [HK.out];unfold dO;rw [h.len])
  generalize (dD l k).1=x at *
  generalize (dD l k).2=y at *
  have hn64:=aEp n hm
  have hxy:=mF y (UInt64.ofNat n)
  have c0:=hB.cell 0
  have c1:=hB.cell 1
  have f1:=hB.frozen 1
  have hB2:=hB.set 1 (.int .u64 (un (eD y (UInt64.ofNat n))))
  simp at hB2
  have hE2:Ext (w.alloc (.cells zcs.toArray 30)) (wr.setCell ⟨w.heap.size+1,1,none⟩ (.int .u64 (un (eD y (UInt64.ofNat n))))):=Below.setCell hE (by simp) _
  go_wp2_with fail
  refine (aEn 4 (by omega) _ _ _ _ _ hB2).mono ?_
  rintro e w3 ⟨rfl,hB3,hO3⟩
  have hE3:=Below.trans hE2 (hO3.below (by simp))
  have HX:=zh (HF.out.trans (show oC n x y=eD (cV 4 x (eD y (UInt64.ofNat n))).1 (cV 4 x (eD y (UInt64.ofNat n))).2 from by unfold oC;rfl))
  have hxx:=mF (cV 4 x (eD y (UInt64.ofNat n))).1 (cV 4 x (eD y (UInt64.ofNat n))).2
  generalize (cV 4 x (eD y (UInt64.ofNat n))).1=a at *
  generalize (cV 4 x (eD y (UInt64.ofNat n))).2=b at *
  clear c0 c1 f1
  have c0:=hB3.cell 0
  have c1:=hB3.cell 1
  go_wp2_with fail
  refine (aJY _ _).mono ?_
  rintro e w4 ⟨rfl,he4⟩
  have hb0:Blk w4 w.heap.size 30 zcs.toArray:=((Blk.new w _ _).ext hE3).ext he4
  go_wp2_with (refine wpList_store_mid rfl 30 _ _ rfl w.heap.size 0 (nmc (eD a b)) rfl rfl (lE hb0 _) (eI _) (gG _) ?_)
  refine bodyPost_ret (v:=.agg (nmc (eD a b))) (eL rfl _ _ w.heap.size _ rfl (blkN hb0 _)) rfl ⟨by rw [HX.out],Below.setCells' ((((Ext.refl w).alloc' _).trans hE3).trans he4) (Nat.le_refl _) _ _⟩
end
end Go.Proofs.YtohmmcahpakokaaGreat
