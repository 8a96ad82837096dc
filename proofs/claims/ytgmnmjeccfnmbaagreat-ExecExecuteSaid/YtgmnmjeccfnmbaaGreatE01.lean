import Derived.Test.YtgmnmjeccfnmbaaGreatE00
set_option maxRecDepth 100000
set_option maxHeartbeats 8000000
set_option linter.unusedVariables false
set_option linter.unusedSimpArgs false
namespace Go.Proofs.YtgmnmjeccfnmbaaGreat
open Go.Proofs.Tryz
section
open Go.RowKit
attribute [local go_sem ↓] Go.wp_at_zero Go.wp_at_succ
attribute [local go_sem] gD
theorem aLW (x:UInt64) (w:World) :
  Calls prog 210 #[.int .u64 (un x),.int .u64 13] w fun e w'=>e=.returned (.int .u64 (un (rR x)))∧w=w':=by
 have h:=zh (aCz x)
 have h0:=gD x
 go_enter func210,ntmps210
 go_wp2
 go_ret
 exact ⟨nt,rfl⟩
theorem aLV (x:UInt64) (w:World) :
  Calls prog 210 #[.int .u64 (un x),.int .u64 32] w fun e w'=>e=.returned (.int .u64 (un (rQ x)))∧w=w':=by
 have h:=zh (aCy x)
 have h0:=gD x
 go_enter func210,ntmps210
 go_wp2
 go_ret
 exact ⟨nt,rfl⟩
theorem aBl (x:UInt64) (w:World) :
  Calls prog 224 #[.int .u64 (un x),.int .i64 13] w fun e w'=>e=.returned (.int .u64 (un (rR x)))∧w=w':=by
 have h:=zh (aCz x)
 have h0:=gD x
 have hb:bits .and .u64 13 63=13:=ae
 go_enter func224,ntmps224
 go_wp2
 go_ret
 exact ⟨nt,rfl⟩
theorem aBk (x:UInt64) (w:World) :
  Calls prog 224 #[.int .u64 (un x),.int .i64 32] w fun e w'=>e=.returned (.int .u64 (un (rQ x)))∧w=w':=by
 have h:=zh (aCy x)
 have h0:=gD x
 have hb:bits .and .u64 32 63=32:=ae
 go_enter func224,ntmps224
 go_wp2
 go_ret
 exact ⟨nt,rfl⟩
theorem aEO (x y:UInt64) (w:World) :
  Calls prog 154 #[.int .u64 (un x),.int .u64 (un y)] w fun e w'=>e=.returned (.tuple #[.int .u64 (un (aHl x y)),.int .u64 (un (aHk x y))])∧w=w':=by
 have h1:=aIe x y
 have h2:=oF (rR y) (nZ x y)
 have h3:=aFM (rQ (nZ x y))
 go_enter func154,ntmps154
 go_wp2_with fail
 refine (aLW y _).mono ?_
 rintro e w' ⟨rfl,rfl⟩
 go_wp2_with fail
 refine (aLV (nZ x y) _).mono ?_
 rintro e w' ⟨rfl,rfl⟩
 go_wp2_with fail
 go_ret2
 exact ⟨rfl,rfl⟩
theorem aFa (n:Nat) (x y:UInt64):dJ (n+1) x y=(aIV (rQ (nZ (dJ n x y).1 (dJ n x y).2)),fD (rR (dJ n x y).2) (nZ (dJ n x y).1 (dJ n x y).2)):=by rw [dJ];unfold aHl aHk;rfl
theorem aGe (n:Nat) (hn:n≤100) (g:Nat) (T:TypeId) (x y:UInt64) (w:World) (hg:Blk w g T #[.int .u64 (un x),.int .u64 (un y)]) :
  Calls prog 188 #[.pointer (some ⟨g,0,none⟩),.int .i64 n] w fun e w'=>e=.returned (.tuple #[])∧Blk w' g T #[.int .u64 (un (dJ n x y).1),.int .u64 (un (dJ n x y).2)]∧Only g w w':=by
 go_enter func188,ntmps188
 go_wp2
 go_loopw [5] (fun i wr=>∃ (k:Nat),k≤n∧i=.int .i64 k∧Blk wr g T #[.int .u64 (un (dJ k x y).1),.int .u64 (un (dJ k x y).2)]∧Only g w wr) (fun i _=>n - (intOf i).toNat)
 case atStart=>exact ⟨0,aa,rfl,hg,Only.refl _ _⟩
 case round =>
  obtain ⟨k,hk,rfl,hgk,hon⟩:=hrel
  by_cases hlt:k < n
  ·have hs := zh (aFa k x y)
   generalize (dJ k x y).1=a at *
   generalize (dJ k x y).2=b at *
   have hc0:=hgk.cell 0
   have hc1:=hgk.cell 1
   have hf0:=hgk.frozen 0
   have hf1:=hgk.frozen 1
   have h1:=aIe a b
   go_wp2
   go_region
   have hg1:=(hgk.set 0 (.int .u64 (un (nZ a b)))).drew
   have ho1:=(hon.set 0 (.int .u64 (un (nZ a b)))).drew
   simp at hg1
   generalize (wr.setCell ⟨g,0,none⟩ (.int .u64 (un (nZ a b)))).drew=w1 at *
   clear hc0 hc1 hf0 hf1 h1 hgk hon
   have hc0:=hg1.cell 0
   have hc1:=hg1.cell 1
   have hf0:=hg1.frozen 0
   have hf1:=hg1.frozen 1
   have h2:=oF (rR b) (nZ a b)
   go_wp2
   go_still_tail 11,ab
   still_call ((aBl _ _).mono fun _ _ h=>⟨h.1,h.2.symm⟩)
   repeat still_step
   refine wpStill_nil ?_
   have h3:=aFM (rQ (nZ a b))
   go_wp2_with (go_at_call 224;refine (aBk _ _).mono ?_;rintro e w' ⟨rfl,rfl⟩)
   have hg2:=((hg1.set 1 (.int .u64 (un (fD (rR b) (nZ a b))))).set 0 (.int .u64 (un (aIV (rQ (nZ a b)))))).drew
   have ho2:=((ho1.set 1 (.int .u64 (un (fD (rR b) (nZ a b))))).set 0 (.int .u64 (un (aIV (rQ (nZ a b)))))).drew
   simp at hg2
   go_roundw
   case rel=>exact ⟨k+1,aa,ar,by rw [hs.out];exact hg2,ho2⟩
   case measure=>simp [intOf];omega
  go_wp2
  go_end0
  obtain rfl:k=n:=aa
  exact ⟨rfl,hgk,hon⟩
end
section
open Go.RowKit
attribute [local go_sem ↓] Go.wp_at_zero Go.wp_at_succ
theorem fJ (n:UInt64):(prog.info? 50).map (·.size)=some (nmc n).size:=by rw [dD];kernel_rfl
theorem vN (n:UInt64):(prog.info? 50).map (·.size)=some (bcs (nmb n)).length:=by rw [aT,aK];kernel_rfl
section
variable {ops:Array Oper} {rest:List Oper} {o:Oper} {a:Act} {w:World} {Q:Exit→Act→World→Prop}
theorem aM (hgd:o.guard=none) (x:Operand) (ho:o.op=.load 50 x) (b of:Nat) (hx:a.eval x=.pointer (some ⟨b,of,none⟩)) (n:UInt64) (hc:w.rangeAt b of (bcs (nmb n)))
  (h:wpList prog ops Q rest (a.put o.dst (.agg (nmc n))) w):wpList prog ops Q (o :: rest) a w :=
 wpList_load_mid hgd 50 x ho b of hx (bcs (nmb n)) _ hc underlying50 rfl (vN n) h
theorem bE (hgd:o.guard=none) (x y:Operand) (ho:o.op=.store 50 x y) (b of:Nat) (n:UInt64) (hx:a.eval x=.pointer (some ⟨b,of,none⟩)) (hy:a.eval y=.agg (nmc n)) (ht:w.there b of 8)
  (h:wpList prog ops Q rest (a.put o.dst undef) (w.setCells b of (nmc n).toList)):wpList prog ops Q (o :: rest) a w :=
 wpList_store_mid hgd 50 x y ho b of (nmc n) hx hy (by rw [dD];exact ht) (fJ n) (iS n) h
theorem nP (hgd:o.guard=none) (x y:Operand) (ho:o.op=.store 50 x y) (g:Nat) (n:UInt64) (hx:a.eval x=.pointer (some ⟨g,0,none⟩)) (hy:a.eval y=.agg (nmc n)) (hg:w.heap.size=g)
  (h:wpList prog ops Q rest (a.put o.dst undef) (w.alloc (.cells (nmc n) 50))):wpList prog ops Q (o :: rest) a (w.alloc (.cells zcs.toArray 50)):=by
 subst hg
 refine bE hgd x y ho w.heap.size 0 n hx hy (aI (Blk.new w _ zcs.toArray)) ?_
 rw [eD _ _ _ _ (by rw [dD];rfl)]
 exact h
end
theorem eQ {fn:Func} {p:Tmp} (hres:fn.results=#[.cell p 50]) (tmps:Array Value) (w1:World) (g:Nat) (r:UInt64) (hp:tmps.getD p undef=.pointer (some ⟨g,0,none⟩)) (hb:Blk w1 g 50 (nmc r)) :
  (results fn tmps).run prog w1=.ok (.agg (nmc r)) w1 :=
 results_cell_row hres tmps w1 g 50 (nmc r) (0,0) _ hp hb underlying50 rfl (fJ r)
theorem mY {w:World} {g:Nat} {t:TypeId} (h:Blk w g t zcs.toArray) (r:UInt64):w.there g 0 (nmc r).size:=by rw [dD];exact aI h
theorem blkN {w:World} {g:Nat} {t:TypeId} (h:Blk w g t zcs.toArray) (r:UInt64):Blk (w.setCells g 0 (nmc r).toList) g t (nmc r):=aN h (by rw [dD];rfl)
theorem bF {w:World} {g:Nat} {t:TypeId} (h:Blk w g t zcs.toArray) (r:UInt64):(storeCells ⟨g,0,none⟩ (nmc r).toList).run prog w=.ok () (w.setCells g 0 (nmc r).toList):=by
 have ht:=mY h r
 have:=run_storeCells_cells (P:=prog) g 0 (nmc r).toList 0 w (fun j hj=>by simpa using (ht j (by simpa using hj)).1) (fun j hj=>by simpa using (ht j (by simpa using hj)).2) (by rw [bW];exact dU _)
 simpa using this
theorem aMb (x:UInt64) (w:World) :
  Calls prog 189 #[.int .u64 (un x)] w fun e w'=>e=.returned (.agg (nmc x))∧Ext w w':=by
 have h0:=gD x
 go_enter func189,ntmps189
 exact xg
theorem aAB (x:UInt64) (w:World) :
  Calls prog 155 #[.int .u64 (un x)] w fun e w'=>e=.returned (.agg (nmc x))∧Ext w w':=by
 have h0:=gD x
 go_enter func155,ntmps155
 exact xg
theorem kZ (n:UInt64) (k:Nat) (hk:k < 8) (w:World) :
  (Instr.index 50 (.agg (nmc n)) (.int .i64 (k:Int))).run prog w=.ok (.int .u8 (((nmb n).getD k 0).toNat:Int)) w:=by
 have h:(nmc n)[k]?=some (.int .u8 (((nmb n).getD k 0).toNat:Int)):=by
  have hl:=aK n
  simp [nmc,bcs,bv,hl,hk]
 have h2:k < (nmc n).size:=by rw [dD];exact hk
 have hi:(sizeOf 5).run prog w=.ok 1 w:=ab
 have ha:(isAgg 5).run prog w=.ok false w:=ab
 simp [Instr.index,asIntOf,run_underlying underlying50,part,hi,ha,hk,h]
theorem vR (a:Nat) (c:UInt8) (ha:a < 72057594037927936):bits .or .u64 (IntKind.u64.wrap ((a:Int) * 256)) (c.toNat:Int)=((a * 256+c.toNat:Nat):Int):=by
 have hc:c.toNat < 256:=c.toNat_lt
 have e:IntKind.u64.wrap ((a:Int) * 256)=((a * 256:Nat):Int):=nD
 rw [e,u64_or_nat _ _ aa aa,show a * 256=a * 2 ^ 8 from rfl,xE _ _ 8 aa]
theorem oG (l:List UInt8) (k:Nat) (h:k < l.length):l.take (k+1)=l.take k ++ [l.getD k 0]:=by
 rw [List.take_succ_eq_append_getElem h];simp [h]
theorem jM (x:UInt64) (w:World) :
  Calls prog 144 #[.agg (nmc x)] w fun e w'=>e=.returned (.int .u64 (un x))∧Ext w w':=by
 have hs:=dD x
 have hl:=aK x
 go_enter func144,ntmps144
 go_wp2_with (refine wpList_load_row rfl 50 _ rfl _ rfl 50 _ (0,0) _ (heap_alloc_new w _) underlying50 rfl (fJ x) ?_)
 go_loop [3,7] (fun v i=>∃ k:Nat,k≤8∧i=.int .i64 k∧v=.int .u64 (bT ((nmb x).take k))) (fun _ i=>8 - (intOf i).toNat)
 case atStart=>exact ⟨0,aa,rfl,rfl⟩
 case round =>
  obtain ⟨k,hk,rfl,rfl⟩:=hrel
  by_cases hlt:k < 8
  ·exact ur
  have HS:=zh (show (bT ((nmb x).take k):Int)=un x by rw [List.take_of_length_le aa,mU];rfl)
  clear hl hs
  generalize bT ((nmb x).take k)=a at *
  go_wp2
  go_ret
  exact ⟨m8,(Ext.refl w).alloc' _⟩
theorem aLv (l:List UInt8) (h:8≤l.length):∃ c0 c1 c2 c3 c4 c5 c6 c7 r,l=c0 :: c1 :: c2 :: c3 :: c4 :: c5 :: c6 :: c7 :: r:=by
 match l,h with
 | c0 :: c1 :: c2 :: c3 :: c4 :: c5 :: c6 :: c7 :: r,_=>exact ⟨c0,c1,c2,c3,c4,c5,c6,c7,r,rfl⟩
theorem aCn (c0 c1 c2 c3 c4 c5 c6 c7:UInt8) (r:List UInt8):aHV c0 c1 c2 c3 c4 c5 c6 c7=un (fT (c0 :: c1 :: c2 :: c3 :: c4 :: c5 :: c6 :: c7 :: r)):=by
 rw [aHU,aCx,aEn _ dr];simp
theorem aGC (A:Option Addr) (c:Nat) (l:List UInt8) (w:World) (hr:Rd w A (bcs l)) (h8:8≤l.length) (hm:l.length≤9223372036854775807) :
  Calls prog 187 #[.slice A l.length c] w fun e w'=>e=.returned (.int .u64 (un (fT l)))∧Ext w w':=by
 obtain ⟨c0,c1,c2,c3,c4,c5,c6,c7,r,rfl⟩:=aLv l h8
 obtain ⟨b,o,rfl,hra,hb⟩:=hr.at mj
 have HW:=zh (aCn c0 c1 c2 c3 c4 c5 c6 c7 r)
 have g0:=hra 0 _ rfl
 have g1:=hra 1 _ rfl
 have g2:=hra 2 _ rfl
 have g3:=hra 3 _ rfl
 have g4:=hra 4 _ rfl
 have g5:=hra 5 _ rfl
 have g6:=hra 6 _ rfl
 have g7:=hra 7 _ rfl
 rw [Nat.add_zero] at g0
 unfold bv at g0 g1 g2 g3 g4 g5 g6 g7
 generalize hn:(c0 :: c1 :: c2 :: c3 :: c4 :: c5 :: c6 :: c7 :: r).length=n at *
 have k0:0 < n:=aa
 have k1:(1:Int) < (n:Int):=aa
 have k2:(2:Int) < (n:Int):=aa
 have k3:(3:Int) < (n:Int):=aa
 have k4:(4:Int) < (n:Int):=aa
 have k5:(5:Int) < (n:Int):=aa
 have k6:(6:Int) < (n:Int):=aa
 have k7:(7:Int) < (n:Int):=aa
 have h8':(8:Int)≤(n:Int):=aa
 clear hr hra hn
 go_enter func187,ntmps187
 exact y8
theorem aBm (A:Option Addr) (c:Nat) (l:List UInt8) (w:World) (hr:Rd w A (bcs l)) (h8:8≤l.length) (hm:l.length≤9223372036854775807) :
  Calls prog 153 #[.slice A l.length c] w fun e w'=>e=.returned (.int .u64 (un (fT l)))∧Ext w w':=by
 obtain ⟨c0,c1,c2,c3,c4,c5,c6,c7,r,rfl⟩:=aLv l h8
 obtain ⟨b,o,rfl,hra,hb⟩:=hr.at mj
 have HW:=zh (aCn c0 c1 c2 c3 c4 c5 c6 c7 r)
 have g0:=hra 0 _ rfl
 have g1:=hra 1 _ rfl
 have g2:=hra 2 _ rfl
 have g3:=hra 3 _ rfl
 have g4:=hra 4 _ rfl
 have g5:=hra 5 _ rfl
 have g6:=hra 6 _ rfl
 have g7:=hra 7 _ rfl
 rw [Nat.add_zero] at g0
 unfold bv at g0 g1 g2 g3 g4 g5 g6 g7
 generalize hn:(c0 :: c1 :: c2 :: c3 :: c4 :: c5 :: c6 :: c7 :: r).length=n at *
 have k0:0 < n:=aa
 have k1:(1:Int) < (n:Int):=aa
 have k2:(2:Int) < (n:Int):=aa
 have k3:(3:Int) < (n:Int):=aa
 have k4:(4:Int) < (n:Int):=aa
 have k5:(5:Int) < (n:Int):=aa
 have k6:(6:Int) < (n:Int):=aa
 have k7:(7:Int) < (n:Int):=aa
 have h8':(8:Int)≤(n:Int):=aa
 clear hr hra hn
 go_enter func153,ntmps153
 exact y8
theorem aHR (l:List UInt8) (h:l.length < 8):qN (l ++ List.replicate (8 - l.length) 0)=fT l:=by
 unfold qN fT uG
 rw [List.take_append,List.take_of_length_le aa,List.take_replicate,Nat.min_eq_left aa]
theorem aEj (l:List UInt8) (h:l.length < 8):(splice zcs 0 (bcs l)).toArray=nmc (fT l):=by
 rw [← aHR l h,← aMf _ gj,fK]
 rw [aLO]
 simp only [splice,List.take_zero,List.nil_append,List.drop_replicate,aT,Nat.zero_add]
 congr 2
 simp [bcs,bv]
theorem aEm (A:Option Addr) (c:Nat) (l:List UInt8) (w:World) (hr:Rd w A (bcs l)) (h8:l.length < 8) :
  Calls prog 187 #[.slice A l.length c] w fun e w'=>e=.returned (.int .u64 (un (fT l)))∧Ext w w':=by
 have hlt:decide ((8:Int)≤(l.length:Int))=false:=gj
 have hr1:=hr.ext ((Ext.refl w).alloc' (.cells zcs.toArray 50))
 have hsp:=zh (aEj l h8)
 go_enter func187,ntmps187
 go_wp2_with (with_reducible refine wpList_copy_splice rfl _ _ _ _ rfl 5 underlying34 ab _ _ _ _ _ _ rfl rfl w.heap.size 0 zcs 50 (heap_alloc_new w _) (bcs l) ?c1 ?c2 ?c3 (dU l) w.heap.size w ((Ext.refl w).alloc' _) (Nat.le_refl _) ?_)
 case c1=>rw [aT];exact (Nat.min_eq_left aa).symm
 case c2=>exact fun hp=>hr1.src hp
 case c3=>rw [aT];show _≤8;omega
 intro w1 hb1 he1
 rw [hsp.out] at hb1
 go_wp2_with (first | (refine wpList_load_row rfl 50 _ rfl _ rfl 50 _ (0,0) _ hb1.out underlying50 rfl (fJ _) ?_) | (go_at_call 144;refine (jM _ _).mono ?_;rintro e w2 ⟨rfl,he2⟩))
 go_ret
 exact ⟨rfl,Ext.trans he1 he2⟩
theorem aHS (A:Option Addr) (n c:Nat) (l:List UInt8) (w:World) (h:SlB w A n c l) :
  Calls prog 187 #[.slice A n c] w fun e w'=>e=.returned (.int .u64 (un (fT l)))∧Ext w w':=by
 obtain ⟨rfl,h2,h3,hr⟩:=h
 rcases Nat.lt_or_ge l.length 8 with h | h
 ·exact aEm A c l w hr h
 exact aGC A c l w hr h aa
theorem aIB (a k:Nat) (c:UInt8) (hk:k < 8) (ha:a < 256 ^ k) :
  bits .or .u64 ((a * 256 ^ (8 - k):Nat):Int) (IntKind.u64.wrap ((c.toNat:Int) * ((256 ^ (7 - k):Nat):Int)))=(((a * 256+c.toNat) * 256 ^ (7 - k):Nat):Int):=by
 have hc:c.toNat < 256:=c.toNat_lt
 have e1:256 ^ (8 - k)=2 ^ ((56 - 8 * k)+8):=iz
 have e2:256 ^ (7 - k)=2 ^ (56 - 8 * k):=iz
 have hb:a * 2 ^ ((56 - 8 * k)+8)+c.toNat * 2 ^ (56 - 8 * k) < 18446744073709551616:=by
  rw [fX,← e2]
  have h1:(a * 256+c.toNat)+1≤256 ^ (k+1):=by rw [Nat.pow_succ];omega
  have h2:=Nat.mul_le_mul_right (256 ^ (7 - k)) h1
  rw [← Nat.pow_add,show k+1+(7 - k)=8 from aa,Nat.add_mul] at h2
  have h3:0 < 256 ^ (7 - k):=Nat.pow_pos aa
  have h4:(256:Nat) ^ 8=18446744073709551616:=ae
  omega
 rw [e1,e2,uR a (56 - 8 * k) c aa hb,fX]
theorem aHc (a k:Nat) (c:UInt8) (hk:k < 8) (ha:a < 256 ^ k) :
  bits .or .u64 ((a:Int) * 256 ^ (8 - k)) (IntKind.u64.wrap ((c.toNat:Int) * 2 ^ (56 - 8 * k)))=(((a * 256+c.toNat) * 256 ^ (8 - (k+1)):Nat):Int):=by
 have h:=aIB a k c hk ha
 have e2:256 ^ (7 - k)=2 ^ (56 - 8 * k):=iz
 rw [show 8 - (k+1)=7 - k from aa]
 rw [← h,e2];simp
theorem aBb (l:List UInt8) (k:Nat) (h:k < l.length):l.take (k+1)=l.take k ++ [l[k]]:=List.take_succ_eq_append_getElem h
theorem jW (l:List UInt8) (k:Nat) (h:k≤l.length):bT (l.take k) < 256 ^ k:=by
 have:=kF (l.take k);rwa [List.length_take,Nat.min_eq_left h] at this
theorem zB (A:Option Addr) (c:Nat) (l:List UInt8) (w:World) (hr:Rd w A (bcs l)) (h8:l.length < 8) :
  Calls prog 153 #[.slice A l.length c] w fun e w'=>e=.returned (.int .u64 (un (fT l)))∧Ext w w':=by
 have hlt:decide ((8:Int)≤(l.length:Int))=false:=gj
 go_enter func153,ntmps153
 go_wp2
 go_loop [3,4] (fun v i=>∃ k:Nat,k≤l.length∧i=.int .i64 k∧v=.int .u64 ((bT (l.take k) * 256 ^ (8 - k):Nat):Int)) (fun _ i=>l.length - (intOf i).toNat)
 case atStart=>exact ⟨0,aa,rfl,by simp [bT]⟩
 case round =>
  obtain ⟨k,hk,rfl,rfl⟩:=hrel
  by_cases hlt':k < l.length
  ·obtain ⟨b, o, rfl, hra, hb⟩ := hr.at (by intro e; have := congrArg List.length e; simp [bcs] at this; subst this; simp at hlt')
   have hcell:=kP hra k hlt'
   have HS:=zh (show bT (l.take (k+1))=bT (l.take k) * 256+l[k].toNat by rw [aBb _ _ hlt',gB])
   have HO:=zh (aHc (bT (l.take k)) k l[k] aa (jW l k hk))
   generalize bT (l.take k)=a at *
   go_wp2
   go_round
   case rel=>exact ⟨k+1,aa,ar,by rw [HS.out,HO.out]⟩
   case measure=>simp [intOf];omega
  obtain rfl:k=l.length:=aa
  have HS:=zh (show ((bT (l.take l.length):Int) * 256 ^ (8 - l.length))=un (fT l) by rw [aCx,aCm l aa,List.take_length];simp)
  generalize bT (l.take l.length)=a at *
  go_wp2
  go_ret
  exact ⟨m8,Ext.refl w⟩
theorem aCV (A:Option Addr) (n c:Nat) (l:List UInt8) (w:World) (h:SlB w A n c l) :
  Calls prog 153 #[.slice A n c] w fun e w'=>e=.returned (.int .u64 (un (fT l)))∧Ext w w':=by
 obtain ⟨rfl,h2,h3,hr⟩:=h
 rcases Nat.lt_or_ge l.length 8 with h | h
 ·exact zB A c l w hr h
 exact aBm A c l w hr h aa
def dQ (l:List UInt8):Nat→UInt64 × UInt64
 | 0=>(2611923443488327891,1376283091369227076)
 | k+1=>dJ 2 (fD (dQ l k).1 (fT (l.drop (8 * k)))) (dQ l k).2
def qD (n:Nat) (x y:UInt64):UInt64:=fD (dJ 4 x (fD y (UInt64.ofNat n))).1 (dJ 4 x (fD y (UInt64.ofNat n))).2
def cL (l:List UInt8):UInt64:=qD l.length (dQ l ((l.length+7) / 8)).1 (dQ l ((l.length+7) / 8)).2
theorem aIc (n:Nat) (h:n < 18446744073709551616):(n:Int)=un (UInt64.ofNat n):=by
 unfold un;rw [UInt64.toNat_ofNat_of_lt' (by simpa [UInt64.size] using h)]
theorem aEw (l:List UInt8) (k:Nat):dQ l (k+1)=(aHl (aHl (fD (dQ l k).1 (fT (l.drop (8 * k)))) (dQ l k).2) (aHk (fD (dQ l k).1 (fT (l.drop (8 * k)))) (dQ l k).2),aHk (aHl (fD (dQ l k).1 (fT (l.drop (8 * k)))) (dQ l k).2) (aHk (fD (dQ l k).1 (fT (l.drop (8 * k)))) (dQ l k).2)):=by
 rw [dQ];simp only [dJ]
theorem aGm (n:Nat) (h:n≤140737488355328):IntKind.u64.wrap (n:Int)=un (UInt64.ofNat n):=by
 rw [← aIc n aa,IntKind.wrap_u64];omega
theorem qJ (A:Option Addr) (n c:Nat) (l:List UInt8) (w:World) (h:SlB w A n c l) (hm:n≤140737488355328) :
  Calls prog 94 #[.slice A n c] w fun e w'=>e=.returned (.agg (nmc (cL l)))∧Ext w w':=by
 have hx0:(2611923443488327891:Int)=un 2611923443488327891:=ae
 have hy0:(1376283091369227076:Int)=un 1376283091369227076:=ae
 have Hx:=zh hx0
 have Hy:=zh hy0
 have hle:=h.le
 clear hx0 hy0
 go_enter func94,ntmps94
 go_wp2
 go_loopw [3,4,5] (fun x y i wr=>∃ k:Nat,8 * k≤n+7∧i=.int .i64 ((8 * k:Nat):Int)∧x=.int .u64 (un (dQ l k).1)∧y=.int .u64 (un (dQ l k).2)∧Ext (w.alloc (.cells zcs.toArray 50)) wr) (fun _ _ i _=>n+8 - (intOf i).toNat)
 case atStart=>exact ⟨0,aa,rfl,by rw [Hx.out];rfl,by rw [Hy.out];rfl,Ext.refl _⟩
 case round =>
  obtain ⟨k,hk,rfl,rfl,rfl,hE⟩:=hrel
  by_cases hlt:8 * k < n
  ·have hrk := (h.ext (((Ext.refl w).alloc' (.cells zcs.toArray 50)).trans hE)).cut (k := 8 * k) aa aa
   have HS:=zh (aEw l k)
   generalize (dQ l k).1=x at *
   generalize (dQ l k).2=y at *
   have hx:=oF x (fT (l.drop (8 * k)))
   go_wp2_with fail
   refine zcl (aCV _ _ _ _ _ hrk) fun w1 he1=>?_
   go_wp2_with fail
   refine (aEO _ _ _).mono ?_
   rintro e w2 ⟨rfl,rfl⟩
   go_wp2_with fail
   refine (aEO _ _ _).mono ?_
   rintro e w2 ⟨rfl,rfl⟩
   go_wp2_with fail
   go_roundw
   case rel=>exact ⟨k+1,aa,ar,by rw [HS.out],by rw [HS.out],hE.trans he1⟩
   case measure=>simp [intOf];omega
  have hkk:k=(n+7) / 8:=aa
  have HK:=zh hkk
  have HF:Hid (cL l=qD n (dQ l k).1 (dQ l k).2):=zh (by rw [hkk];unfold cL;rw [h.len])
  clear hkk
  generalize (dQ l k).1=x at *
  generalize (dQ l k).2=y at *
  have hn64:=aGm n hm
  have hdk:decide ((8:Int) * (k:Int) < (n:Int))=false:=gj
  have hxy:=oF y (UInt64.ofNat n)
  go_wp2_with fail
  go_loopw [3,4,6] (fun x' y' i ws=>∃ j:Nat,j≤4∧i=.int .i64 (j:Int)∧x'=.int .u64 (un (dJ j x (fD y (UInt64.ofNat n))).1)∧y'=.int .u64 (un (dJ j x (fD y (UInt64.ofNat n))).2)∧ws=wr) (fun _ _ i _=>4 - (intOf i).toNat)
  case atStart=>exact ⟨0,aa,rfl,rfl,rfl,rfl⟩
  case round =>
   obtain ⟨j,hj,rfl,rfl,rfl,rfl⟩:=hrel
   by_cases hlt4:j < 4
   ·have HM := zh (show dJ (j + 1) x (fD y (UInt64.ofNat n)) = _ from rfl)
    go_wp2_with fail
    refine (aEO _ _ _).mono ?_
    rintro e w2 ⟨rfl,rfl⟩
    go_wp2_with fail
    go_roundw
    case rel=>first | exact ⟨j+1,aa,ar,rfl,rfl,rfl⟩ | ((repeat apply Exists.intro);exact ⟨⟨j+1,aa,ar,rfl,rfl,trivial⟩,rfl⟩)
    case measure=>simp [intOf];omega
   obtain rfl:j=4:=aa
   have hxx:=oF (dJ 4 x (fD y (UInt64.ofNat n))).1 (dJ 4 x (fD y (UInt64.ofNat n))).2
   have HX:=zh (HF.out.trans (show qD n x y=fD (dJ 4 x (fD y (UInt64.ofNat n))).1 (dJ 4 x (fD y (UInt64.ofNat n))).2 from by unfold qD;rfl))
   generalize (dJ 4 x (fD y (UInt64.ofNat n))).1=a at *
   generalize (dJ 4 x (fD y (UInt64.ofNat n))).2=b at *
   go_wp2_with fail
   refine zcl (aAB _ _) fun w2 he2=>?_
   have hb0:Blk w2 w.heap.size 50 zcs.toArray:=((Blk.new w _ _).ext hE).ext he2
   go_wp2_with (refine wpList_store_mid rfl 50 _ _ rfl w.heap.size 0 (nmc (fD a b)) rfl rfl (mY hb0 _) (fJ _) (iS _) ?_)
   refine bodyPost_ret (v:=.agg (nmc (fD a b))) (eQ rfl _ _ w.heap.size _ rfl (blkN hb0 _)) rfl ⟨ss,Below.setCells' ((((Ext.refl w).alloc' _).trans hE).trans he2) (Nat.le_refl _) _ _⟩
theorem aFP (A:Option Addr) (n c:Nat) (l:List UInt8) (w:World) (h:SlB w A n c l) (hm:n≤140737488355328) :
  Calls prog 126 #[.slice A n c] w fun e w'=>e=.returned (.agg (nmc (cL l)))∧Ext w w':=by
 have hx0:(2611923443488327891:Int)=un 2611923443488327891:=ae
 have hy0:(1376283091369227076:Int)=un 1376283091369227076:=ae
 have Hx:=zh hx0
 have Hy:=zh hy0
 have hle:=h.le
 clear hx0 hy0
 go_enter func126,ntmps126
 go_wp2
 go_loopw [4] (fun v wr=>∃ k i:Nat,Hid (i=8 * k)∧i≤n+7∧v=.int .i64 (i:Int)∧Blk wr (w.heap.size+1) 205 #[.int .u64 (un (dQ l k).1),.int .u64 (un (dQ l k).2)]∧Ext (w.alloc (.cells zcs.toArray 50)) wr) (fun i _=>n+8 - (intOf i).toNat)
 case atStart=>exact ⟨0,0,rfl,aa,rfl,by have:=Blk.new (w.alloc (.cells zcs.toArray 50)) 205 #[.int .u64 (un 2611923443488327891),.int .u64 (un 1376283091369227076)];rw [← Hx.out,← Hy.out,World.size_alloc] at this;rw [dQ,← Hx.out,← Hy.out];exact this,(Ext.refl _).alloc' _⟩
 case round =>
  obtain ⟨k,i,Hi,hk,rfl,hB,hE⟩:=hrel
  by_cases hlt:i < n
  ·have HS : Hid (dQ l (k + 1) = dJ 2 (fD (dQ l k).1 (fT (l.drop i))) (dQ l k).2) := zh (by rw [Hi.out]; rfl)
   generalize (dQ l k).1=x at *
   generalize (dQ l k).2=y at *
   have hrk:=((h.ext (((Ext.refl w).alloc' (.cells zcs.toArray 50)).trans hE)).cut (k:=i) aa aa).ext (Ext.refl wr).drew'
   have hx:=oF x (fT (l.drop i))
   have c0:=hB.cell 0
   have c1:=hB.cell 1
   have f0:=hB.frozen 0
   have hin:i≤n:=aa
   have hic:¬ c=i:=aa
   go_wp2_with fail
   go_region_law ((go_simp;go_at_call 187;refine (aHS _ _ _ _ _ hrk).mono ?_;rintro e w1 ⟨rfl,he1⟩;have hB1:=hB.drew.ext he1;have d0:=hB1.cell 0;have d1:=hB1.cell 1;have g0:=hB1.frozen 0))
   all_goals
    have hB2:=hB1.set 0 (.int .u64 (un (fD x (fT (l.drop i)))))
    simp at hB2
    have hE2:Ext (w.alloc (.cells zcs.toArray 50)) (w1.setCell ⟨w.heap.size+1,0,none⟩ (.int .u64 (un (fD x (fT (l.drop i)))))):=Below.setCell (hE.drew'.trans he1) dr _
    go_wp2_with fail
    refine (aGe 2 aa _ _ _ _ _ hB2).mono ?_
    rintro e w3 ⟨rfl,hB3,hO3⟩
    go_wp2_with fail
    go_roundw
    case rel=>exact ⟨k+1,i+8,by have:=Hi.out;exact zh aa,aa,ar,by rw [HS.out];exact hB3,Below.trans hE2 (hO3.below dr)⟩
    case measure=>simp [intOf];omega
  have HK:Hid (k=(n+7) / 8):=by have:=Hi.out;exact zh aa
  have HF:Hid (cL l=qD n (dQ l k).1 (dQ l k).2):=zh (by rw [HK.out];unfold cL;rw [h.len])
  generalize (dQ l k).1=x at *
  generalize (dQ l k).2=y at *
  have hn64:=aGm n hm
  have hxy:=oF y (UInt64.ofNat n)
  have c0:=hB.cell 0
  have c1:=hB.cell 1
  have f1:=hB.frozen 1
  have hB2:=hB.set 1 (.int .u64 (un (fD y (UInt64.ofNat n))))
  simp at hB2
  have hE2:Ext (w.alloc (.cells zcs.toArray 50)) (wr.setCell ⟨w.heap.size+1,1,none⟩ (.int .u64 (un (fD y (UInt64.ofNat n))))):=Below.setCell hE dr _
  go_wp2_with fail
  refine (aGe 4 aa _ _ _ _ _ hB2).mono ?_
  rintro e w3 ⟨rfl,hB3,hO3⟩
  have hE3:=Below.trans hE2 (hO3.below dr)
  have HX:=zh (HF.out.trans (show qD n x y=fD (dJ 4 x (fD y (UInt64.ofNat n))).1 (dJ 4 x (fD y (UInt64.ofNat n))).2 from by unfold qD;rfl))
  have hxx:=oF (dJ 4 x (fD y (UInt64.ofNat n))).1 (dJ 4 x (fD y (UInt64.ofNat n))).2
  generalize (dJ 4 x (fD y (UInt64.ofNat n))).1=a at *
  generalize (dJ 4 x (fD y (UInt64.ofNat n))).2=b at *
  clear c0 c1 f1
  have c0:=hB3.cell 0
  have c1:=hB3.cell 1
  go_wp2_with fail
  refine zcl (aMb _ _) fun w4 he4=>?_
  have hb0:Blk w4 w.heap.size 50 zcs.toArray:=((Blk.new w _ _).ext hE3).ext he4
  go_wp2_with (refine wpList_store_mid rfl 50 _ _ rfl w.heap.size 0 (nmc (fD a b)) rfl rfl (mY hb0 _) (fJ _) (iS _) ?_)
  refine bodyPost_ret (v:=.agg (nmc (fD a b))) (eQ rfl _ _ w.heap.size _ rfl (blkN hb0 _)) rfl ⟨ss,Below.setCells' ((((Ext.refl w).alloc' _).trans hE3).trans he4) (Nat.le_refl _) _ _⟩
end
section
open Go.RowKit
structure Elem (P:Program) (t e:TypeId) (z:Value) (size bytes:Nat):Prop where
 ut:P.underlying t=some (.slice e)
 info:(P.info? e).map (fun i=>(i.zero,i.size,i.bytes))=some (some z,size,bytes)
 zs:z.cells.size=size
 pos:0 < size
section
variable {P:Program} {t e:TypeId} {z:Value} {size bytes:Nat}
theorem Elem.get (E:Elem P t e z size bytes):∃ i,P.info? e=some i∧i.zero=some z∧i.size=size∧i.bytes=bytes:=by
 have h:=E.info
 cases hi:P.info? e with
 | none=>rw [hi] at h;cases h
 | some i=>rw [hi] at h;simp only [Option.map_some,Option.some.injEq,Prod.mk.injEq] at h;exact ⟨i,rfl,h.1,h.2.1,h.2.2⟩
theorem aGY {w:World} {base:Nat} {v:Value} {n:Nat} {xs:List Value} (h:w.ownsRow base e size v n xs):∃ A c,v=.slice A n c:=by
 rcases h.2 with ⟨rfl,rfl⟩ | ⟨g,cap,cur,rfl,_⟩
 ·exact ⟨none,0,rfl⟩
 exact ⟨_,cap,rfl⟩
theorem aIy (w:World) (base:Nat) (cur:Array Value) (cap g:Nat) (hg:w.heap.size=g) (hb:base≤g) (hm:cap≤4611686018427387904) (hs:cur.size=cap * size):(w.alloc (.cells cur e)).ownsRow base e size (.slice (some ⟨g,0,none⟩) 0 cap) 0 []:=by
 subst hg;exact World.ownsRow_made w cur cap hb gm hs
theorem bC {w w':World} {base:Nat} {v:Value} {n:Nat} {xs:List Value} (h:w.ownsRow base e size v n xs) (he:Ext w w'):w'.ownsRow base e size v n xs:=by
 exact xp
theorem aKa (E:Elem P t e z size bytes) (ty:TypeId) (w:World) (base:Nat) (A:Option Addr) (n c:Nat) (xs:List Value) (hown:w.ownsRow base e size (.slice A n c) n xs)
  (A2:Option Addr) (m c2:Nat) (ys:List Value) (hr:Rd w A2 ys) (hl:ys.length=m * size) (h1:∀ u ∈ ys,u.oneCell'=true)
  (hb:(n+m) * bytes≤140737488355328) (h63:n+m≤4611686018427387904) (hbase:base≤w.heap.size) :
  ∃ A' c' w',(Builtin.append_ #[t,t] ty #[.slice A n c,.slice A2 m c2]).run P w=.ok (.slice A' (n+m) c') w'∧w'.ownsRow base e size (.slice A' (n+m) c') (n+m) (xs ++ ys)∧w.grownBy w' (Value.ownBlock (.slice A n c)):=by
 obtain ⟨i,hi,hz,hs,hby⟩:=E.get
 rcases A2 with _ | ad
 ·have hy:ys=[]:=by
   rcases hr with h | ⟨b,o,h,_⟩
   ·exact h
   cases h
  subst hy
  have hm:m=0:=by
   have hp:=E.pos
   rcases Nat.eq_zero_or_pos m with h | h
   ·exact h
   have:=Nat.mul_pos h hp;simp at hl;omega
  subst hm
  refine ⟨A,c,w,?_,by simpa using hown,⟨rfl,rfl,rfl,Nat.le_refl _,fun _ _ _=>rfl⟩⟩
  rcases hown.2 with ⟨hv,hn⟩ | ⟨g,cap,cur,hv,_,_,hnc,_⟩
  ·injection hv with h1 h2 h3; subst h1; subst h2; subst h3
   simp [Builtin.append_,run_underlying E.ut,sizeOf,typeInfo,hi,Builtin.lenOf,Builtin.firstCells]
  injection hv with h1 _ h3;subst h1;subst h3
  simp [Builtin.append_,run_underlying E.ut,sizeOf,typeInfo,hi,Builtin.lenOf,Builtin.firstCells,hnc,storeCells]
 have hcells:∀ j u,ys[j]?=some u→w.cell? (ad.add j)=some u:=by
  intro j u hu
  obtain ⟨ad',h,hc⟩:=hr.src (by have:=(List.getElem?_eq_some_iff.1 hu).1;omega)
  injection h with h;subst h;exact hc j u hu
 obtain ⟨v',w',hrun,h2,h3,_⟩:=run_append_own (P:=P) w base t ty e i z size bytes E.ut hi hz hs hby E.zs E.pos (.slice A n c) n xs hown ad m c2 ys hl hcells h1 gm hb hbase
 obtain ⟨A',c',rfl⟩:=aGY h2
 exact ⟨A',c',w',hrun,h2,h3⟩
theorem aCR (E:Elem P t e z size bytes) (ty:TypeId) (w:World) (A:Option Addr) (n c:Nat) (xs:List Value) (hra:Rd w A xs) (hla:xs.length=n * size) (hn:0 < n)
  (A2:Option Addr) (m c2:Nat) (ys:List Value) (hr:Rd w A2 ys) (hl:ys.length=m * size) (hm:0 < m) (h1:∀ u ∈ ys,u.oneCell'=true) (hg:c < n+m)
  (hb:(n+m) * bytes≤140737488355328) (h63:n+m≤4611686018427387904) :
  ∃ A' c' w',(Builtin.append_ #[t,t] ty #[.slice A n c,.slice A2 m c2]).run P w=.ok (.slice A' (n+m) c') w'∧w'.ownsRow w.heap.size e size (.slice A' (n+m) c') (n+m) (xs ++ ys)∧Ext w w':=by
 obtain ⟨i,hi,hz,hs,hby⟩:=E.get
 subst hs;subst hby
 obtain ⟨ad,rfl,hca⟩:=hra.src (by rw [hla];exact Nat.mul_pos hn E.pos)
 obtain ⟨ad2,rfl,hcb⟩:=hr.src (by rw [hl];exact Nat.mul_pos hm E.pos)
 have hrun:=run_append_grow (P:=P) w t ty e i z E.ut hi hz ad n c xs hla hca ad2 m c2 ys hl hcb hg aa (growslice_fits hg hb)
 refine ⟨_,_,_,hrun,⟨fh,.inr ⟨w.heap.size,_,_,rfl,Nat.le_refl _,heap_alloc_new w.drew _,grownCap_ge w _ _ _,grownCap_le_maxLen w _ _ _ gm,?_,?_⟩⟩,(Ext.refl w).drew'.alloc' _⟩
 ·simp only [Array.size_append, List.size_toArray, size_zeroCells, E.zs, hla, hl, ← Nat.add_mul]
  have:=grownCap_ge w (n+m) c e
  congr 1;omega
 exact ye
theorem oB {o:Oper} {a:Act} {w:World} {K:Act→World→Prop} {Q:Exit→Act→World→Prop} (E:Elem P t e z size bytes) (s x:Operand)
  (ho:o.op=.call { callee:=.builtin .append,args:=#[s,x],argTypes:=#[t,t] })
  (base:Nat) (A:Option Addr) (n c:Nat) (xs:List Value) (hs:a.eval s=.slice A n c) (hown:w.ownsRow base e size (.slice A n c) n xs)
  (A2:Option Addr) (m c2:Nat) (ys:List Value) (hx:a.eval x=.slice A2 m c2) (hr:Rd w A2 ys) (hl:ys.length=m * size) (h1:∀ u ∈ ys,u.oneCell'=true)
  (hb:(n+m) * bytes≤140737488355328) (h63:n+m≤4611686018427387904) (hbase:base≤w.heap.size)
  (h:∀ A' c' w',w'.ownsRow base e size (.slice A' (n+m) c') (n+m) (xs ++ ys)→w.grownBy w' (Value.ownBlock (.slice A n c))→K (a.put o.dst (.slice A' (n+m) c')) w'):o.wp P a w K Q:=by
 obtain ⟨A',c',w',hrun,h2,h3⟩:=aKa E o.type w base A n c xs hown A2 m c2 ys hr hl h1 hb h63 hbase
 exact xi
theorem aJR {o:Oper} {a:Act} {w:World} {K:Act→World→Prop} {Q:Exit→Act→World→Prop} (E:Elem P t e z size bytes) (s x:Operand)
  (ho:o.op=.call { callee:=.builtin .append,args:=#[s,x],argTypes:=#[t,t] })
  (A:Option Addr) (n c:Nat) (xs:List Value) (hs:a.eval s=.slice A n c) (hra:Rd w A xs) (hla:xs.length=n * size) (hn:0 < n)
  (A2:Option Addr) (m c2:Nat) (ys:List Value) (hx:a.eval x=.slice A2 m c2) (hr:Rd w A2 ys) (hl:ys.length=m * size) (hm:0 < m) (h1:∀ u ∈ ys,u.oneCell'=true) (hg:c < n+m)
  (hb:(n+m) * bytes≤140737488355328) (h63:n+m≤4611686018427387904)
  (h:∀ A' c' w',w'.ownsRow w.heap.size e size (.slice A' (n+m) c') (n+m) (xs ++ ys)→Ext w w'→K (a.put o.dst (.slice A' (n+m) c')) w'):o.wp P a w K Q:=by
 obtain ⟨A',c',w',hrun,h2,h3⟩:=aCR E o.type w A n c xs hra hla hn A2 m c2 ys hr hl hm h1 hg hb h63
 exact xi
theorem fS {ops:Array Oper} {rest:List Oper} {o:Oper} {a:Act} {w:World} {Q:Exit→Act→World→Prop} (E:Elem P t e z size bytes) (hgd:o.guard=none) (s x:Operand)
  (ho:o.op=.call { callee:=.builtin .append,args:=#[s,x],argTypes:=#[t,t] })
  (base:Nat) (A:Option Addr) (n c:Nat) (xs:List Value) (hs:a.eval s=.slice A n c) (hown:w.ownsRow base e size (.slice A n c) n xs)
  (A2:Option Addr) (m c2:Nat) (ys:List Value) (hx:a.eval x=.slice A2 m c2) (hr:Rd w A2 ys) (hl:ys.length=m * size) (h1:∀ u ∈ ys,u.oneCell'=true)
  (hb:(n+m) * bytes≤140737488355328) (h63:n+m≤4611686018427387904) (hbase:base≤w.heap.size) (w0:World) (hw0:Below base w0 w)
  (h:∀ A' c' w',w'.ownsRow base e size (.slice A' (n+m) c') (n+m) (xs ++ ys)→Below base w0 w'→w.heap.size≤w'.heap.size→wpList P ops Q rest (a.put o.dst (.slice A' (n+m) c')) w'):wpList P ops Q (o :: rest) a w:=by
 refine wpList_plain hgd fun K hK=>oB E s x ho base A n c xs hs hown A2 m c2 ys hx hr hl h1 hb h63 hbase fun A' c' w' h2 h3=>hK _ _ (h A' c' w' h2 ?_ h3.size)
 exact zo
theorem rL {ops:Array Oper} {o:Oper} {a:Act} {w:World} {K:Act→World→Prop} {Q:Exit→Act→World→Prop} {X:Prop} (E:Elem P t e z size bytes) (hgd:o.guard=none) (s x:Operand)
  (ho:o.op=.call { callee:=.builtin .append,args:=#[s,x],argTypes:=#[t,t] })
  (base:Nat) (A:Option Addr) (n c:Nat) (xs:List Value) (hs:a.eval s=.slice A n c) (hown:w.ownsRow base e size (.slice A n c) n xs)
  (A2:Option Addr) (m c2:Nat) (ys:List Value) (hx:a.eval x=.slice A2 m c2) (hr:Rd w A2 ys) (hl:ys.length=m * size) (h1:∀ u ∈ ys,u.oneCell'=true)
  (hb:(n+m) * bytes≤140737488355328) (h63:n+m≤4611686018427387904) (hbase:base≤w.heap.size) (w0:World) (hw0:Below base w0 w)
  (h:∀ A' c' w',w'.ownsRow base e size (.slice A' (n+m) c') (n+m) (xs ++ ys)→Below base w0 w'→w.heap.size≤w'.heap.size→K (a.put o.dst (.slice A' (n+m) c')) w'):if Region.wanted o (yielded ops a.tmps)=true then Oper.wp P o a w K Q else X:=by
 have hw:Region.wanted o (yielded ops a.tmps)=true:=di
 rw [if_pos hw]
 refine oB E s x ho base A n c xs hs hown A2 m c2 ys hx hr hl h1 hb h63 hbase fun A' c' w' h2 h3=>h A' c' w' h2 ?_ h3.size
 exact zo
end
def OwnB (w:World) (base:Nat) (e:TypeId) (A:Option Addr) (n c:Nat) (l:List UInt8):Prop:=w.ownsRow base e 1 (.slice A n c) n (bcs l)
section
variable {P:Program} {t e:TypeId}
theorem OwnB.sl {w:World} {base:Nat} {A:Option Addr} {n c:Nat} {l:List UInt8} (h:OwnB w base e A n c l):SlB w A n c l:=SlB.of_own h
theorem OwnB.nil (w:World) (base:Nat) (e:TypeId):OwnB w base e none 0 0 []:=World.ownsRow_nil w base e 1
theorem OwnB.made (w:World) (base:Nat) (cur:Array Value) (cap g:Nat) (hg:w.heap.size=g) (hb:base≤g) (hm:cap≤4611686018427387904) (hs:cur.size=cap):OwnB (w.alloc (.cells cur e)) base e (some ⟨g,0,none⟩) 0 cap []:=by
 subst hg;exact World.ownsRow_made w cur cap hb gm aa
theorem OwnB.alloc {w:World} {base:Nat} {A:Option Addr} {n c:Nat} {l:List UInt8} (h:OwnB w base e A n c l) (o:Obj):OwnB (w.alloc o) base e A n c l:=World.ownsRow.alloc h o
theorem OwnB.drew {w:World} {base:Nat} {A:Option Addr} {n c:Nat} {l:List UInt8} (h:OwnB w base e A n c l):OwnB w.drew base e A n c l:=h
theorem OwnB.ext {w w':World} {base:Nat} {A:Option Addr} {n c:Nat} {l:List UInt8} (h:OwnB w base e A n c l) (he:Ext w w'):OwnB w' base e A n c l:=by
 exact xp
theorem cB {ops:Array Oper} {rest:List Oper} {o:Oper} {a:Act} {w:World} {Q:Exit→Act→World→Prop} (E:Elem P t e (.int .u8 0) 1 1) (hgd:o.guard=none) (s x:Operand)
  (ho:o.op=.call { callee:=.builtin .append,args:=#[s,x],argTypes:=#[t,t] })
  (base:Nat) (A:Option Addr) (n c:Nat) (l:List UInt8) (hs:a.eval s=.slice A n c) (hown:OwnB w base e A n c l)
  (A2:Option Addr) (m c2:Nat) (l2:List UInt8) (hx:a.eval x=.slice A2 m c2) (hr:SlB w A2 m c2 l2)
  (hb:n+m≤140737488355328) (hbase:base≤w.heap.size) (w0:World) (hw0:Below base w0 w)
  (h:∀ A' c' w',OwnB w' base e A' (n+m) c' (l ++ l2)→Below base w0 w'→w.heap.size≤w'.heap.size→wpList P ops Q rest (a.put o.dst (.slice A' (n+m) c')) w'):wpList P ops Q (o :: rest) a w:=by
 refine wpList_plain hgd fun K hK=>oB E s x ho base A n c (bcs l) hs hown A2 m c2 (bcs l2) hx hr.rd ff (dU l2) aa aa hbase fun A' c' w' h2 h3=>hK _ _ (h A' c' w' ?_ ?_ h3.size)
 ·unfold OwnB;rw [fK];exact h2
 exact zo
theorem rD {ops:Array Oper} {rest:List Oper} {o:Oper} {a:Act} {w:World} {Q:Exit→Act→World→Prop} (E:Elem P t e (.int .u8 0) 1 1) (hgd:o.guard=none) (s x:Operand)
  (ho:o.op=.call { callee:=.builtin .append,args:=#[s,x],argTypes:=#[t,t] })
  (A:Option Addr) (n c:Nat) (l:List UInt8) (hs:a.eval s=.slice A n c) (hra:SlB w A n c l) (hn:0 < n)
  (A2:Option Addr) (m c2:Nat) (l2:List UInt8) (hx:a.eval x=.slice A2 m c2) (hr:SlB w A2 m c2 l2) (hm:0 < m) (hg:c < n+m)
  (hb:n+m≤140737488355328)
  (h:∀ A' c' w',OwnB w' w.heap.size e A' (n+m) c' (l ++ l2)→Ext w w'→wpList P ops Q rest (a.put o.dst (.slice A' (n+m) c')) w'):wpList P ops Q (o :: rest) a w:=by
 refine wpList_plain hgd fun K hK=>aJR E s x ho A n c (bcs l) hs hra.rd (by rw [aT,hra.len,Nat.mul_one]) hn A2 m c2 (bcs l2) hx hr.rd ff hm (dU l2) hg aa aa fun A' c' w' h2 h3=>hK _ _ (h A' c' w' ?_ h3)
 unfold OwnB;rw [fK];exact h2
theorem aAv {ops:Array Oper} {o:Oper} {a:Act} {w:World} {K:Act→World→Prop} {Q:Exit→Act→World→Prop} {X:Prop} (E:Elem P t e (.int .u8 0) 1 1) (hgd:o.guard=none) (s x:Operand)
  (ho:o.op=.call { callee:=.builtin .append,args:=#[s,x],argTypes:=#[t,t] })
  (base:Nat) (A:Option Addr) (n c:Nat) (l:List UInt8) (hs:a.eval s=.slice A n c) (hown:OwnB w base e A n c l)
  (A2:Option Addr) (m c2:Nat) (l2:List UInt8) (hx:a.eval x=.slice A2 m c2) (hr:SlB w A2 m c2 l2)
  (hb:n+m≤140737488355328) (hbase:base≤w.heap.size) (w0:World) (hw0:Below base w0 w)
  (h:∀ A' c' w',OwnB w' base e A' (n+m) c' (l ++ l2)→Below base w0 w'→w.heap.size≤w'.heap.size→K (a.put o.dst (.slice A' (n+m) c')) w'):if Region.wanted o (yielded ops a.tmps)=true then Oper.wp P o a w K Q else X:=by
 have hw:Region.wanted o (yielded ops a.tmps)=true:=di
 rw [if_pos hw]
 refine oB E s x ho base A n c (bcs l) hs hown A2 m c2 (bcs l2) hx hr.rd ff (dU l2) aa aa hbase fun A' c' w' h2 h3=>h A' c' w' ?_ ?_ h3.size
 ·unfold OwnB;rw [fK];exact h2
 exact zo
end
def toB (z:Int):UInt8:=UInt8.ofNat (z % 256).toNat
theorem bM (z:Int):z % 256=((toB z).toNat:Int):=by unfold toB;simp;omega
theorem SlB.new {w:World} {t:TypeId} {cs:Array Value} {g:Nat} (hg:w.heap.size=g) (l:List UInt8) (h:cs.toList=bcs l) (hl:l.length≤9223372036854775807):SlB (w.alloc (.cells cs t)) (some ⟨g,0,none⟩) l.length l.length l:=by
 subst hg;exact ⟨rfl,Nat.le_refl _,hl,by rw [← h];exact Rd.of_blk (Blk.new w t cs)⟩
theorem SlB.new1 (w:World) (t:TypeId) (z:Int) (c:UInt8) (g:Nat) (hg:w.heap.size=g) (hz:z=(c.toNat:Int)):SlB (w.alloc (.cells #[.int .u8 z] t)) (some ⟨g,0,none⟩) 1 1 [c] :=
 SlB.new hg [c] (by rw [hz];rfl) (by simp)
theorem SlB.new2 (w:World) (t:TypeId) (z z':Int) (c c':UInt8) (g:Nat) (hg:w.heap.size=g) (hz:z=(c.toNat:Int)) (hz':z'=(c'.toNat:Int)):SlB (w.alloc (.cells #[.int .u8 z,.int .u8 z'] t)) (some ⟨g,0,none⟩) 2 2 [c,c'] :=
 SlB.new hg [c,c'] (by rw [hz,hz'];rfl) (by simp)
theorem SlB.blkN {w:World} {g:Nat} {t:TypeId} {n:UInt64} (h:Blk w g t (nmc n)):SlB w (some ⟨g,0,none⟩) 8 8 (nmb n) :=
 ⟨aK n,Nat.le_refl _,by omega,by rw [← bW];exact Rd.of_blk h⟩
theorem bU:Elem prog 34 5 (.int .u8 0) 1 1:=⟨underlying34,by kernel_rfl,rfl,by decide⟩
theorem cM {w:World} {base n c:Nat} {e:TypeId} {size:Nat} {A:Option Addr} {xs:List Value} (h:w.ownsRow base e size (.slice A n c) n xs) (hn:0 < n):∃ g,A=some ⟨g,0,none⟩∧base≤g∧w.rangeAt g 0 xs:=by
 rcases h.2 with ⟨hv,h0⟩ | ⟨g,cap,cur,hv,hb,hh,_⟩
 ·omega
 injection hv with hA;subst hA
 refine ⟨g,rfl,hb,fun j v hv=>?_⟩
 have:=h.cells (g:=g) rfl j v hv
 rwa [Addr.add_mid] at this
theorem eI {w:World} {A:Option Addr} {n c:Nat} {base:Nat} {e:TypeId} {size:Nat} {xs:List Value} (h:w.ownsRow base e size (.slice A n c) n xs):n≤c∧c≤9223372036854775807:=by
 rcases h.2 with ⟨hv,hn⟩ | ⟨g,cap,cur,hv,_,_,hc,hm,_⟩
 ·injection hv;omega
 injection hv with _ _ hc';subst hc';exact ⟨hc,hm⟩
theorem bA {w:World} {base base':Nat} {e:TypeId} {size:Nat} {v:Value} {n:Nat} {xs:List Value} (h:w.ownsRow base e size v n xs) (hb:base'≤base):w.ownsRow base' e size v n xs:=by
 refine ⟨h.1,?_⟩
 rcases h.2 with h2 | ⟨g,cap,cur,hv,hg,r⟩
 ·exact .inl h2
 exact .inr ⟨g,cap,cur,hv,aa,r⟩
def aLM (k:IntKind) (w:World) (a:Option Addr) (len cap:Nat) (zs:List Int):Prop :=
 (a=none∧len=0∧cap=0∧zs=[]) ∨
 ∃ x,a=some x∧len≤cap∧cap≤maxLen∧zs.length=cap∧(∀ i,i < zs.length→w.cell? (x.add i)=some (.int k (zs.getD i 0)))∧∀ n ∈ zs,(Lit.int k n).wf=true
theorem aLk {n:Int} (h:(Lit.int .u8 n).wf=true):0≤n∧n < 256:=by
 have:0≤n∧n≤255:=by simpa [Lit.wf,IntKind.min,IntKind.max,IntKind.signed,IntKind.bits] using h
 omega
theorem aEC {w:World} {a:Option Addr} {len cap:Nat} {zs:List Int} (h:aLM .u8 w a len cap zs):∃ l,SlB w a len cap l:=by
 rcases h with ⟨rfl,rfl,rfl,rfl⟩ | ⟨x,rfl,hl,hm,hz,hc,hw⟩
 ·exact ⟨[],SlB.nil w⟩
 refine ⟨(zs.take len).map toB,gj,hl,hm,?_⟩
 by_cases h0:len=0
 ·subst h0;exact .inl mj
 have hcell:∀ j,j < len→w.cell? (x.add j)=some (.int .u8 ((toB (zs.getD j 0)).toNat:Int)):=by
  intro j hj
  rw [hc j aa,← bM]
  have hb:=aLk (hw (zs.getD j 0) (by
   have:zs.getD j 0=zs[j]' aa:=by simp [show j < zs.length from aa]
   rw [this];exact List.getElem_mem _))
  rw [Int.emod_eq_of_lt hb.1 hb.2]
 have hx:x.spot=none:=by
  have:=hcell 0 aa
  simp only [Addr.add,if_pos] at this
  unfold World.cell? at this
  cases hs:x.spot with
  | none=>rfl
  | some p=>rw [hs] at this;split at this <;> simp at this
 refine .inr ⟨x.block,x.off,by cases x;simp_all,fun j v hv=>?_⟩
 have hj:j < len:=by have:=(List.getElem?_eq_some_iff.1 hv).1;simp [bcs] at this;omega
 have e:(⟨x.block,x.off+j,none⟩:Addr)=x.add j:=by
  cases x;simp only at hx;subst hx;rw [Addr.add_mid]
 rw [e,hcell j hj,← hv]
 simp [bcs,bv,hj,show j < zs.length from aa]
end
section
open Go.RowKit
attribute [local go_sem ↓] Go.wp_at_zero Go.wp_at_succ
def dY (t:UInt8) (l:List UInt8):UInt64:=cL (t :: l)
theorem aJd (w:World):(Instr.makeSlice 34 (.int .i64 0) (.int .i64 160)).run prog w=.ok (.slice (some ⟨w.heap.size,0,none⟩) 0 160) (w.alloc (.cells (madeCells (Value.int .u8 0).cells 160) 5)):=by
 obtain ⟨i,hi,hz,hs,hby⟩:=bU.get
 have h:=run_make (P:=prog) w 34 5 i (.int .u8 0) bU.ut hi hz .i64 .i64 0 160 aa aa f7 aa
 simpa [hs] using h
theorem iC (t:UInt8) (A:Option Addr) (n c:Nat) (l:List UInt8) (w:World) (h:SlB w A n c l) (hm:n < 140737488355328) :
  Calls prog 84 #[.int .u8 (t.toNat:Int),.slice A n c] w fun e w'=>e=.returned (.agg (nmc (dY t l)))∧Ext w w':=by
 have hmk:=aJd
 go_enter func84,ntmps84
 go_wp2_with (at_builtin;go_must (refine cB bU rfl (.tmp 7) (.tmp 9) rfl (w.heap.size+1) _ _ _ [] rfl ((OwnB.made (w.alloc _) (w.heap.size+1) _ 160 (w.heap.size+1) dr (Nat.le_refl _) aa (size_madeCells _ _)).alloc _) _ _ _ [t] rfl ?r1 aa ?b1 (w.alloc (.cells zcs.toArray 50)) ?w1 ?_))
 case r1=>exact SlB.new1 _ _ _ t _ dr rfl
 case b1=>simp
 case w1=>exact Below.alloc (Below.alloc (Below.refl _ _) dr _) dr _
 intro A1 c1 w1 ho1 hw1 hs1
 have hsl:=h.ext (((Ext.refl w).alloc' _).trans (hw1.mono dr))
 have hsz:w.heap.size+1≤w1.heap.size:=aa
 go_wp2_with (at_builtin;refine cB bU rfl (.tmp 10) (.tmp 11) rfl (w.heap.size+1) _ _ _ [t] rfl ho1 _ _ _ l rfl hsl aa hsz (w.alloc (.cells zcs.toArray 50)) hw1 ?_)
 intro A2 c2 w2 ho2 hw2 hs2
 go_wp2_with fail
 refine zcl (aFP _ _ _ _ _ ho2.sl aa) fun w3 he3=>?_
 exact u9
theorem dA (t:UInt8) (A:Option Addr) (n c:Nat) (l:List UInt8) (w:World) (h:SlB w A n c l) (hm:n < 140737488355328) :
  Calls prog 89 #[.int .u8 (t.toNat:Int),.slice A n c] w fun e w'=>e=.returned (.agg (nmc (dY t l)))∧Ext w w':=by
 have hmk:=aJd
 go_enter func89,ntmps89
 go_wp2_with (at_builtin;go_must (refine cB bU rfl (.tmp 5) (.tmp 7) rfl (w.heap.size+1) _ _ _ [] rfl ((OwnB.made (w.alloc _) (w.heap.size+1) _ 160 (w.heap.size+1) dr (Nat.le_refl _) aa (size_madeCells _ _)).alloc _) _ _ _ [t] rfl ?r1 aa ?b1 (w.alloc (.cells zcs.toArray 50)) ?w1 ?_))
 case r1=>exact SlB.new1 _ _ _ t _ dr rfl
 case b1=>simp
 case w1=>exact Below.alloc (Below.alloc (Below.refl _ _) dr _) dr _
 intro A1 c1 w1 ho1 hw1 hs1
 have hsl:=h.ext (((Ext.refl w).alloc' _).trans (hw1.mono dr))
 have hsz:w.heap.size+1≤w1.heap.size:=aa
 go_wp2_with (at_builtin;refine cB bU rfl (.tmp 8) (.tmp 9) rfl (w.heap.size+1) _ _ _ [t] rfl ho1 _ _ _ l rfl hsl aa hsz (w.alloc (.cells zcs.toArray 50)) hw1 ?_)
 intro A2 c2 w2 ho2 hw2 hs2
 go_wp2_with fail
 refine zcl (qJ _ _ _ _ _ ho2.sl aa) fun w3 he3=>?_
 exact u9
def z16:List Value:=List.replicate 16 (.int .u8 0)
theorem aDf (x y:UInt64):(splice (splice z16 0 (bcs (nmb x))) 8 (bcs (nmb y))).toArray=(bcs (nmb x ++ nmb y)).toArray:=by
 have h1:=aK x
 have h2:=aK y
 simp only [splice,z16,List.take_zero,List.nil_append,aT,h1,h2,Nat.zero_add,List.drop_replicate,fK]
 rw [List.take_append_of_le_length (by rw [aT,h1];omega),List.take_of_length_le (by rw [aT,h1];omega),List.drop_eq_nil_of_le (by simp [aT,h1])]
 simp
theorem vH (x:UInt64):(splice z16 0 (bcs (nmb x))).length=16:=by
 rw [length_splice _ _ _ (by rw [aT,aK];simp [z16])];simp [z16]
def jE (t:UInt8) (x y:UInt64):UInt64:=dY t (nmb x ++ nmb y)
theorem aDg (t:UInt8) (x y:UInt64) (w:World) :
  Calls prog 249 #[.int .u8 (t.toNat:Int),.agg (nmc x),.agg (nmc y)] w fun e w'=>e=.returned (.agg (nmc (jE t x y)))∧Ext w w':=by
 go_enter func249,ntmps249
 go_wp2_with fail
 go_still_tail 2,ab
 change wpList _ _ _ _ _ (World.drew _)
 refine wpList_copy_splice rfl _ _ _ _ rfl 5 underlying34 ab _ _ _ _ _ _ rfl rfl (w.heap.size+3) 0 z16 240 ?g1 (bcs (nmb x)) ?c1 ?c2 ?c3 (dU _) (w.heap.size+3) (((w.alloc (.cells (nmc x) 50)).alloc (.cells (nmc y) 50)).alloc (.cells zcs.toArray 50)) ?b1 (Nat.le_refl _) ?_
 case g1=>exact (Blk.newAt (((w.alloc (.cells (nmc x) 50)).alloc (.cells (nmc y) 50)).alloc (.cells zcs.toArray 50)) 240 z16.toArray (w.heap.size+3) dr).drew
 case c1=>rw [aT,aK];rfl
 case c2 =>
  intro _
  refine ⟨rfl,_,rfl,fun j v hv=>?_⟩
  rw [Addr.add_mid]
  exact aC ((((Blk.new w _ (nmc x)).alloc _).alloc _).alloc _).drew j v (by rw [bW];exact hv)
 case c3=>rw [aT,aK];decide
 case b1=>exact (Below.alloc (Below.refl _ _) dr _).drew
 intro w1 hb1 hw1
 have hy1:Blk w1 (w.heap.size+1) 50 (nmc y):=by
  have:=((Blk.new (w.alloc (.cells (nmc x) 50)) 50 (nmc y)).alloc (.cells zcs.toArray 50)).below hw1 dr
  simpa using this
 go_wp2_with fail
 go_still_tail 2,ab
 change wpList _ _ _ _ _ (World.drew _)
 refine wpList_copy_splice rfl _ _ _ _ rfl 5 underlying34 ab _ _ _ _ _ _ rfl rfl (w.heap.size+3) 8 (splice z16 0 (bcs (nmb x))) 240 ?g1 (bcs (nmb y)) ?c1 ?c2 ?c3 (dU _) (w.heap.size+3) (((w.alloc (.cells (nmc x) 50)).alloc (.cells (nmc y) 50)).alloc (.cells zcs.toArray 50)) ?b1 (Nat.le_refl _) ?_
 case g1=>exact hb1.out
 case c1=>rw [aT,aK];rfl
 case c2 =>
  intro _
  refine ⟨rfl,_,rfl,fun j v hv=>?_⟩
  rw [Addr.add_mid]
  exact aC hy1.drew j v (by rw [bW];exact hv)
 case c3=>rw [aT,aK,vH];decide
 case b1=>exact hw1.drew
 intro w2 hb2 hw2
 have hb3:Blk w2 (w.heap.size+3) 240 (bcs (nmb x ++ nmb y)).toArray:=by rw [← aDf];exact hb2.out
 have hl16:(nmb x ++ nmb y).length=16:=by rw [List.length_append,aK,aK]
 have hsl:SlB w2 (some ⟨w.heap.size+3,0,none⟩) 16 16 (nmb x ++ nmb y):=⟨hl16,aa,aa,by have:=Rd.of_blk hb3;simpa using this⟩
 go_wp2_with fail
 refine zcl (iC t _ _ _ _ _ hsl aa) fun w3 he3=>?_
 have hsz2:=hb3.lt
 have hE3:Below (w.heap.size+3) (((w.alloc (.cells (nmc x) 50)).alloc (.cells (nmc y) 50)).alloc (.cells zcs.toArray 50)) w3:=Below.trans hw2 (he3.mono aa)
 have hb0:Blk w3 (w.heap.size+2) 50 zcs.toArray:=by
  have:=(Blk.new ((w.alloc (.cells (nmc x) 50)).alloc (.cells (nmc y) 50)) 50 zcs.toArray).below hE3 dr
  simpa using this
 go_wp2_with (refine wpList_store_mid rfl 50 _ _ rfl (w.heap.size+2) 0 (nmc (dY t (nmb x ++ nmb y))) rfl rfl (mY hb0 _) (fJ _) (iS _) ?_)
 refine bodyPost_ret (v:=.agg (nmc (dY t (nmb x ++ nmb y)))) (eQ rfl _ _ (w.heap.size+2) _ rfl (blkN hb0 _)) rfl ⟨rfl,Below.setCells' (((((Ext.refl w).alloc' _).alloc' _).alloc' _).trans j8) aa _ _⟩
theorem oO (t:UInt8) (x y:UInt64) (w:World) :
  Calls prog 163 #[.int .u8 (t.toNat:Int),.agg (nmc x),.agg (nmc y)] w fun e w'=>e=.returned (.agg (nmc (jE t x y)))∧Ext w w':=by
 go_enter func163,ntmps163
 go_wp2_with fail
 have own1:OwnB (((((w.alloc (.cells (nmc x) 50)).alloc (.cells (nmc y) 50)).alloc (.cells zcs.toArray 50)).alloc (.cells #[] 5)).drew) (w.heap.size+3) 5 (some ⟨w.heap.size+3,0,none⟩) 0 0 []:=(OwnB.made _ _ _ 0 _ dr (Nat.le_refl _) aa dr).drew
 have r1:SlB (((((w.alloc (.cells (nmc x) 50)).alloc (.cells (nmc y) 50)).alloc (.cells zcs.toArray 50)).alloc (.cells #[] 5)).drew) (some ⟨w.heap.size,0,none⟩) 8 8 (nmb x):=SlB.blkN ((((Blk.new w _ (nmc x)).alloc _).alloc _).alloc _).drew
 have b1:Below (w.heap.size+3) (((w.alloc (.cells (nmc x) 50)).alloc (.cells (nmc y) 50)).alloc (.cells zcs.toArray 50)) (((((w.alloc (.cells (nmc x) 50)).alloc (.cells (nmc y) 50)).alloc (.cells zcs.toArray 50)).alloc (.cells #[] 5)).drew):=(Below.alloc (Below.refl _ _) dr _).drew
 have hy:Blk (((w.alloc (.cells (nmc x) 50)).alloc (.cells (nmc y) 50)).alloc (.cells zcs.toArray 50)) (w.heap.size+1) 50 (nmc y):=(Blk.newAt (w.alloc (.cells (nmc x) 50)) 50 (nmc y) (w.heap.size+1) dr).alloc _
 have hz:Blk (((w.alloc (.cells (nmc x) 50)).alloc (.cells (nmc y) 50)).alloc (.cells zcs.toArray 50)) (w.heap.size+2) 50 zcs.toArray:=Blk.newAt ((w.alloc (.cells (nmc x) 50)).alloc (.cells (nmc y) 50)) 50 zcs.toArray (w.heap.size+2) dr
 go_region_held3 (fun _=>True) (trivial) (first | (refine aAv bU rfl (.tmp 8) (.tmp 9) rfl (w.heap.size+3) _ _ _ [] dp own1 _ _ _ (nmb x) dp r1 aa dr (((w.alloc (.cells (nmc x) 50)).alloc (.cells (nmc y) 50)).alloc (.cells zcs.toArray 50)) b1 ?_;intro A1 c1 w1 ho1 hw1 hs1) | (refine aAv bU rfl (.tmp 10) (.tmp 11) rfl (w.heap.size+3) _ _ _ (nmb x) dp ho1 _ _ _ (nmb y) dp (SlB.blkN (hy.below hw1 aa)) aa (by have:=hs1;simp at this;omega) (((w.alloc (.cells (nmc x) 50)).alloc (.cells (nmc y) 50)).alloc (.cells zcs.toArray 50)) hw1 ?_;intro A2 c2 w2 ho2 hw2 hs2) | (go_at_call 89;refine (dA t _ _ _ _ _ ho2.sl aa).mono ?_;rintro e w3 ⟨rfl,he3⟩;have hw3:=Below.trans hw2 (he3.mono (by have:=hs1;simp at this;omega));have hz3:=hz.below hw3 aa;have hst:=bF hz3 (dY t (nmb x ++ nmb y))))
 go_wp2_with fail
 refine bodyPost_ret (v:=.agg (nmc (dY t (nmb x ++ nmb y)))) (eQ rfl _ _ (w.heap.size+2) _ rfl (blkN hz3 _)) rfl ⟨rfl,Below.setCells' (((((Ext.refl w).alloc' _).alloc' _).alloc' _).trans (by simpa [Ext] using hw3)) aa _ _⟩
theorem aBn (x:UInt64) (k:Int) (w:World) :
  Calls prog 167 #[.agg (nmc x),.int .i64 k] w fun e w'=>e=.returned (.agg (nmc (dY 32 (nmb x ++ [toB k]))))∧Ext w w':=by
 go_enter func167,ntmps167
 go_wp2_with (at_builtin;go_must (refine cB bU rfl (.tmp 5) (.tmp 6) rfl (w.heap.size+2) _ _ _ [] rfl ?o1 _ _ _ (nmb x) rfl ?r1 ?n1 ?b1 ((w.alloc (.cells (nmc x) 50)).alloc (.cells zcs.toArray 50)) ?w1 ?_))
 case o1=>exact OwnB.made _ _ _ 0 _ dr (Nat.le_refl _) aa dr
 case r1=>exact SlB.blkN (((Blk.new w _ (nmc x)).alloc _).alloc _)
 case n1=>omega
 case b1=>simp
 case w1=>exact Below.alloc (Below.refl _ _) dr _
 intro A1 c1 w1 ho1 hw1 hs1
 have hsz:w.heap.size+2≤w1.heap.size:=aa
 go_wp2_with (at_builtin;go_must (refine cB bU rfl (.tmp 7) (.tmp 10) rfl (w.heap.size+2) _ _ _ (nmb x) rfl (ho1.alloc _) _ _ _ [toB k] rfl ?r1 aa ?b1 ((w.alloc (.cells (nmc x) 50)).alloc (.cells zcs.toArray 50)) ?w1 ?_))
 case r1=>exact SlB.new1 _ _ _ (toB k) _ rfl (bM k)
 case b1=>simp;omega
 case w1=>exact Below.alloc hw1 hsz _
 intro A2 c2 w2 ho2 hw2 hs2
 have hsz2:w.heap.size+2≤w2.heap.size:=aa
 go_wp2_with fail
 refine zcl (dA 32 _ _ _ _ _ ho2.sl aa) fun w3 he3=>?_
 have hE3:Below (w.heap.size+2) ((w.alloc (.cells (nmc x) 50)).alloc (.cells zcs.toArray 50)) w3:=Below.trans hw2 (he3.mono aa)
 have hb0:Blk w3 (w.heap.size+1) 50 zcs.toArray:=(Blk.newAt (w.alloc (.cells (nmc x) 50)) 50 zcs.toArray (w.heap.size+1) dr).below hE3 aa
 go_wp2_with (refine wpList_store_mid rfl 50 _ _ rfl (w.heap.size+1) 0 (nmc (dY 32 (nmb x ++ [toB k]))) rfl rfl (mY hb0 _) (fJ _) (iS _) ?_)
 refine bodyPost_ret (v:=.agg (nmc (dY 32 (nmb x ++ [toB k])))) (eQ rfl _ _ (w.heap.size+1) _ rfl (blkN hb0 _)) rfl ⟨rfl,Below.setCells' ((((Ext.refl w).alloc' _).alloc' _).trans j8) aa _ _⟩
def cS (v:UInt64) (c p:Int):Nat→UInt64
 | 0=>v
 | k+1=>dY 33 (nmb (cS v c p k) ++ [toB c,toB (p+k)])
theorem aJC {w:World} {g:Nat} {t:TypeId} {n:UInt64} (h:Blk w g t (nmc n)) (r:UInt64):Blk (w.setCells g 0 (nmc r).toList) g t (nmc r):=aN h (by rw [dD,dD])
theorem aFO {w:World} {g:Nat} {t:TypeId} {n:UInt64} (h:Blk w g t (nmc n)) (r:UInt64):w.there g 0 (nmc r).size:=by rw [dD];have:=aI h;rwa [dD] at this
theorem Blk.setCells_far {w:World} {g g':Nat} {t:TypeId} {cs:Array Value} (h:Blk w g t cs) (hne:g ≠ g') (vs:List Value):∀ o,Blk (w.setCells g' o vs) g t cs:=by
 induction vs generalizing w with
 | nil=>intro o;exact h
 | cons v r ih=>intro o;exact ih (h.far (p:=⟨g',o,none⟩) hne v) (o+1)
theorem aHX (v:UInt64) (c p q:Int) (w:World) (hp:0≤p) (hp2:p≤1000) (hq:-1000≤q) (hq2:q≤1000) :
  Calls prog 239 #[.agg (nmc v),.int .i64 c,.int .i64 p,.int .i64 q] w fun e w'=>e=.returned (.agg (nmc (cS v c p (q - p).toNat)))∧Ext w w':=by
 go_enter func239,ntmps239
 go_wp2_with fail
 go_loopw [13] (fun i wr=>∃ k:Nat,k≤(q - p).toNat∧i=.int .i64 (k:Int)∧Blk wr w.heap.size 50 (nmc (cS v c p k))∧Blk wr (w.heap.size+1) 50 zcs.toArray∧Ext w wr) (fun i _=>(q - p).toNat - (intOf i).toNat)
 case atStart=>exact ⟨0,aa,rfl,(Blk.new w _ _).alloc _,Blk.newAt _ _ _ _ dr,((Ext.refl w).alloc' _).alloc' _⟩
 case round =>
  obtain ⟨k,hk,rfl,hB,hZ,hE⟩:=hrel
  by_cases hlt:(k:Int) < q - p
  ·have HS := zh (show cS v c p (k + 1) = dY 33 (nmb (cS v c p k) ++ [toB c, toB (p + k)]) from rfl)
   generalize cS v c p k=x at *
   go_wp2_with (at_builtin;go_must (refine rD bU rfl (.tmp 16) (.tmp 23) rfl _ _ _ (nmb x) rfl ?o1 ?n1 _ _ _ [toB c,toB (p+k)] rfl ?r1 ?m1 ?g1 ?b1 ?_))
   case o1=>exact SlB.blkN (hB.alloc _)
   case n1=>omega
   case r1=>exact SlB.new2 _ _ _ _ _ _ _ dr (bM _) (bM _)
   case m1=>omega
   case g1=>omega
   case b1=>omega
   intro A2 c2 w2 ho2 he2
   have hE2:=Ext.trans ((Ext.refl wr).alloc' _) he2
   go_wp2_with fail
   refine zcl (iC 33 _ _ _ _ _ ho2.sl aa) fun w3 he3=>?_
   have hE3:=Ext.trans hE2 he3
   have hB3:=hB.ext hE3
   have hZ3:=hZ.ext hE3
   go_wp2_with (with_reducible refine wpList_store_mid rfl 50 _ _ rfl w.heap.size 0 (nmc (dY 33 (nmb x ++ [toB c,toB (p+k)]))) rfl rfl (aFO hB3 _) (fJ _) (iS _) ?_)
   exact AH
  exact uv
theorem jR (n:UInt64) (k:Nat) (hk:k < 8):(nmc n)[k]?=some (.int .u8 (((nmb n).getD k 0).toNat:Int)):=by
 have hl:=aK n
 simp [nmc,bcs,bv,hl,hk]
theorem sC (n:UInt64):nmb n=[(nmb n).getD 0 0,(nmb n).getD 1 0,(nmb n).getD 2 0,(nmb n).getD 3 0,(nmb n).getD 4 0,(nmb n).getD 5 0,(nmb n).getD 6 0,(nmb n).getD 7 0]:=by
 have hl:=aK n
 match h:nmb n,hl with
 | [a,b,c,d,e,f,g,i],_=>rfl
theorem nE (v:UInt64) (c p q:Int) (w:World) (hp:0≤p) (hp2:p≤1000) (hq:-1000≤q) (hq2:q≤1000) :
  Calls prog 166 #[.agg (nmc v),.int .i64 c,.int .i64 p,.int .i64 q] w fun e w'=>e=.returned (.agg (nmc (cS v c p (q - p).toNat)))∧Ext w w':=by
 go_enter func166,ntmps166
 go_wp2_with fail
 go_loopw [9] (fun i wr=>∃ k:Nat,k≤(q - p).toNat∧i=.int .i64 (p+k)∧Blk wr w.heap.size 50 (nmc (cS v c p k))∧Blk wr (w.heap.size+1) 50 zcs.toArray∧Ext w wr) (fun i _=>(q - intOf i).toNat)
 case atStart=>exact ⟨0,aa,dr,(Blk.new w _ _).alloc _,Blk.newAt _ _ _ _ dr,((Ext.refl w).alloc' _).alloc' _⟩
 case round =>
  obtain ⟨k,hk,rfl,hB,hZ,hE⟩:=hrel
  by_cases hlt:p+(k:Int) < q
  ·have HS := zh (show cS v c p (k + 1) = cL (33 :: (nmb (cS v c p k) ++ [toB c, toB (p + k)])) from rfl)
   generalize cS v c p k=x at *
   have g0:=(hB.cell 0).trans (jR x 0 aa)
   have g1:=(hB.cell 1).trans (jR x 1 aa)
   have g2:=(hB.cell 2).trans (jR x 2 aa)
   have g3:=(hB.cell 3).trans (jR x 3 aa)
   have g4:=(hB.cell 4).trans (jR x 4 aa)
   have g5:=(hB.cell 5).trans (jR x 5 aa)
   have g6:=(hB.cell 6).trans (jR x 6 aa)
   have g7:=(hB.cell 7).trans (jR x 7 aa)
   have HL:=zh (sC x)
   generalize (nmb x).getD 0 0=b0 at *
   generalize (nmb x).getD 1 0=b1 at *
   generalize (nmb x).getD 2 0=b2 at *
   generalize (nmb x).getD 3 0=b3 at *
   generalize (nmb x).getD 4 0=b4 at *
   generalize (nmb x).getD 5 0=b5 at *
   generalize (nmb x).getD 6 0=b6 at *
   generalize (nmb x).getD 7 0=b7 at *
   go_wp2_with fail
   refine (qJ _ _ _ (33 :: (nmb x ++ [toB c,toB (p+k)])) _ ?hs aa).mono ?_
   case hs=>rw [HL.out];exact SlB.new dr [33,b0,b1,b2,b3,b4,b5,b6,b7,toB c,toB (p+k)] (by simp [bcs,bv,← bM]) dr
   rintro e w3 ⟨rfl,he3⟩
   have hE3:=Ext.trans ((Ext.refl wr).alloc' _) he3
   have hB3:=hB.ext hE3
   have hZ3:=hZ.ext hE3
   clear g0 g1 g2 g3 g4 g5 g6 g7
   go_wp2_with (with_reducible refine wpList_store_mid rfl 50 _ _ rfl w.heap.size 0 (nmc (cL (33 :: (nmb x ++ [toB c,toB (p+k)])))) rfl rfl (aFO hB3 _) (fJ _) (iS _) ?_)
   exact AH
  exact uv
def flw (len at_ n:Int):Bool:=decide (0≤at_∧at_≤len∧n≤len - at_)
theorem pY (A:Option Addr) (len c:Nat) (at_ n:Int) (w:World) (hl:len≤9223372036854775807) :
  Calls prog 223 #[.slice A len c,.int .i64 at_,.int .i64 n] w fun e w'=>e=.returned (.bool (flw len at_ n))∧w=w':=by
 by_cases h1:0≤at_
 ·by_cases h2 : at_ ≤ (len : Int)
  ·by_cases h3 : n ≤ (len : Int) - at_
   ·have hf : flw len at_ n = true := by unfold flw; simp only [decide_eq_true_eq]; exact ⟨h1, h2, h3⟩
    exact zf
   have hf:flw len at_ n=false:=ie
   have h3':decide (n≤(len:Int) - at_)=false:=decide_eq_false h3
   exact zf
  have hf:flw len at_ n=false:=ie
  have h2':decide (at_≤(len:Int))=false:=decide_eq_false h2
  exact zf
 have hf:flw len at_ n=false:=ie
 have h1':decide (0≤at_)=false:=decide_eq_false h1
 exact zf
theorem aDi (a:Nat) (c:UInt8) (ha:a < 72057594037927936):bits .or .u64 (IntKind.u64.wrap ((a:Int) * 256)) (c.toNat:Int)=((a * 256+c.toNat:Nat):Int):=vR a c ha
theorem aFX (a k:Nat) (h:a < 256 ^ k) (hk:k < 8):a < 72057594037927936:=Nat.lt_of_lt_of_le h (Nat.pow_le_pow_right (n:=256) (j:=7) (by omega) (by omega))
def aZ (l:List UInt8) (at_ width:Nat):Nat:=bT ((l.drop at_).take width)
theorem aCA (A:Option Addr) (n c:Nat) (l:List UInt8) (at_ width:Nat) (w:World) (h:SlB w A n c l) (h1:1≤width) (h8:width≤8) (hf:at_+width≤n) :
  Calls prog 185 #[.slice A n c,.int .i64 (at_:Int),.int .i64 (width:Int)] w fun e w'=>e=.returned (.tuple #[.int .u64 (aZ l at_ width:Int),.bool true])∧w=w':=by
 have hle:=h.le
 have hcap:=h.cap
 have hlen:=h.len
 have e1:decide ((width:Int) < 1)=false:=decide_eq_false aa
 have e2:decide ((8:Int) < (width:Int))=false:=decide_eq_false aa
 have hfl:flw n at_ width=true:=by unfold flw;simp only [decide_eq_true_eq];omega
 have b1:¬ c=at_:=aa
 obtain ⟨b,o,rfl,hra,hbl⟩:=h.at aa
 go_enter func185,ntmps185
 go_wp2_with (go_at_call 223;refine (pY _ _ _ _ _ _ aa).mono ?_;rintro e w1 ⟨rfl,rfl⟩;rw [hfl])
 go_loop [8,31] (fun v i=>∃ k:Nat,k≤width∧i=.int .i64 (k:Int)∧v=.int .u64 ((aZ l at_ k:Nat):Int)) (fun _ i=>width - (intOf i).toNat)
 case atStart=>exact ⟨0,aa,rfl,by simp [aZ,bT]⟩
 case round =>
  obtain ⟨k,hk,rfl,rfl⟩:=hrel
  by_cases hlt:k < width
  ·have hcell := kP hra (at_ + k) aa
   rw [← Nat.add_assoc] at hcell
   have hd:(l.drop at_)[k]' gj=l[at_+k]' aa:=dr
   have HS:=zh (show aZ l at_ (k+1)=aZ l at_ k * 256+(l[at_+k]' aa).toNat by unfold aZ;rw [aBb _ _ gj,gB,hd])
   have hor:=aDi (aZ l at_ k) (l[at_+k]' aa) (aFX _ k (jW _ _ gj) aa)
   clear hd
   generalize aZ l at_ k=a at *
   generalize (l[at_+k]' aa)=x at *
   exact zb
  obtain rfl:k=width:=aa
  go_wp2_with fail
  go_ret2
  exact ⟨rfl,rfl⟩
theorem aJW (A:Option Addr) (n c:Nat) (at_ width:Int) (w:World) (hn:n≤9223372036854775807) (h1:1≤width) (h8:width≤8) (hf:flw n at_ width=false) :
  Calls prog 185 #[.slice A n c,.int .i64 at_,.int .i64 width] w fun e w'=>e=.returned (.tuple #[.int .u64 0,.bool false])∧w=w':=by
 have e1:decide (width < 1)=false:=decide_eq_false aa
 have e2:decide (8 < width)=false:=decide_eq_false aa
 go_enter func185,ntmps185
 go_wp2_with (go_at_call 223;refine (pY _ _ _ _ _ _ aa).mono ?_;rintro e w1 ⟨rfl,rfl⟩;rw [hf])
 go_ret2
 exact ⟨rfl,rfl⟩
theorem sG (A:Option Addr) (n c:Nat) (l:List UInt8) (w:World) (h:SlB w A n c l) (h2:2≤n) :
  Calls prog 123 #[.slice A n c] w fun e w'=>e=.returned (.tuple #[.int .i64 (aZ l 0 2:Int),.bool true])∧w=w':=by
 have hb:aZ l 0 2 < 65536:=jW _ 2 (by simp;have:=h.len;omega)
 have hw:IntKind.i64.wrap ((aZ l 0 2:Nat):Int)=((aZ l 0 2:Nat):Int):=dt
 have hu:=zh (aCA A n c l 0 2 w h aa aa aa)
 generalize aZ l 0 2=x at *
 exact yn
theorem aKr (A:Option Addr) (n c:Nat) (w:World) (h2:n < 2) :
  Calls prog 123 #[.slice A n c] w fun e w'=>e=.returned (.tuple #[.int .i64 0,.bool false])∧w=w':=by
 have hu:=zh (aJW A n c 0 2 w aa aa aa ie)
 exact yn
end
section
open Go.RowKit
def zbs (n:Nat):List Value:=List.replicate n (.int .u8 0)
theorem qA (n:Nat):(zbs n).length=n:=by simp [zbs]
theorem aFe (n:Nat):madeCells (Value.int .u8 0).cells (n * 1)=(zbs n).toArray:=by
 apply Array.ext_getElem?
 intro j
 simp only [madeCells,zbs,Nat.mul_one,Array.getElem?_map,Value.cells,List.getElem?_toArray,List.getElem?_replicate]
 by_cases hj:j < n
 ·simp [hj,Array.getElem?_range,Nat.mod_one]
 simp [hj]
theorem aOe (n k:Nat) (h:n+k≤140737488355328) (w:World):(Instr.makeSlice 34 (.int .i64 (n:Int)) (.int .i64 ((n:Int)+(k:Int)))).run prog w=.ok (.slice (some ⟨w.heap.size,0,none⟩) n (n+k)) (w.alloc (.cells (zbs (n+k)).toArray 5)):=by
 obtain ⟨i,hi,hz,hs,hby⟩:=bU.get
 have h:=run_make (P:=prog) w 34 5 i (.int .u8 0) bU.ut hi hz .i64 .i64 n ((n:Int)+k) aa aa f7 aa
 rw [hs,show ((n:Int)+k).toNat=n+k from aa,aFe,show ((n:Int)).toNat=n from aa] at h
 exact h
theorem tI {w:World} {base g cap n:Nat} {e:TypeId} {l:List UInt8} {cur:Array Value} (hh:w.heap[g]?=some (.cells cur e (0,0))) (hb:base≤g) (hl:l.length=n) (hc:n≤cap) (hm:cap≤140737488355328) (hs:cur.size=cap) (ht:cur.toList.take n=bcs l):OwnB w base e (some ⟨g,0,none⟩) n cap l :=
 ⟨by rw [aT,hl,Nat.mul_one],.inr ⟨g,cap,cur,rfl,hb,hh,hc,by simp only [maxLen];omega,by omega,by rw [Nat.mul_one];exact ht⟩⟩
theorem aBM (A:Option Addr) (n c:Nat) (l:List UInt8) (k:Nat) (w:World) (h:SlB w A n c l) (hk:n+k≤140737488355328) :
  Calls prog 233 #[.slice A n c,.int .i64 (k:Int)] w fun e w'=>∃ A',e=.returned (.slice A' n (n+k))∧OwnB w' w.heap.size 5 A' n (n+k) l∧Ext w w':=by
 have hmk:=aOe n k hk
 have HL:=zh h.len
 have HR:=zh (h.rd.ext ((Ext.refl w).alloc' (.cells (zbs (n+k)).toArray 5)))
 clear h
 go_enter func233,ntmps233
 go_wp2_with (with_reducible refine wpList_copy_splice rfl _ _ _ _ rfl 5 underlying34 ab _ _ _ _ _ _ rfl rfl w.heap.size 0 (zbs (n+k)) 5 (heap_alloc_new w _) (bcs l) ?c1 ?c2 ?c3 (dU l) w.heap.size w ((Ext.refl w).alloc' _) (Nat.le_refl _) ?_)
 case c1=>rw [aT,HL.out];exact (Nat.min_self n).symm
 case c2=>exact fun hp=>HR.out.src hp
 case c3=>rw [aT,qA,HL.out];omega
 intro w1 hb1 he1
 go_wp2_with fail
 go_ret
 exact ⟨_,rfl,tI hb1.out (Nat.le_refl _) HL.out aa hk (by rw [List.size_toArray,length_splice _ _ _ (by rw [aT,qA,HL.out];omega),qA]) (by simp [splice,aT,HL.out]),he1⟩
theorem aEf (k n j:Nat) (hj:j < k):(cU k n)[j]'(by rw [dE];exact hj)=UInt8.ofNat (n / 256 ^ (k - 1 - j) % 256):=by
 induction k generalizing n j with
 | zero=>omega
 | succ k ih =>
  simp only [cU]
  by_cases h:j < k
  ·rw [List.getElem_append_left (by rw [dE];exact h),ih _ _ h,Nat.div_div_eq_div_mul,show k+1 - 1 - j=(k - 1 - j)+1 from aa,Nat.pow_succ,Nat.mul_comm 256]
  obtain rfl:j=k:=aa
  rw [List.getElem_append_right (by rw [dE];omega)]
  simp [dE]
theorem sU (k n i:Nat) (hi:i < k):(cU k n).take (k - i)=(cU k n).take (k - (i+1)) ++ [toB ((n:Int) / 2 ^ (8 * i))]:=by
 rw [show k - i=k - (i+1)+1 from aa,List.take_succ_eq_append_getElem (by rw [dE];omega),aEf _ _ _ aa]
 congr 2
 rw [show k - 1 - (k - (i+1))=i from aa,show (256:Nat)=2 ^ 8 from rfl,← Nat.pow_mul]
 unfold toB
 rw [show ((n:Int) / 2 ^ (8 * i))=((n / 2 ^ (8 * i):Nat):Int) from dr]
 congr 1
theorem aJE {q wd n:Nat} {l:List UInt8} {v:UInt64} {A:Option Addr} {c:Nat} {w:World} {base:Nat} {e:TypeId} {z:Int} (h:OwnB w base e A (n+q+1) c (l ++ ((cU wd v.toNat).take q ++ [toB z]))) (kk:Nat) (hk:q=wd - (kk+1)) (hb:(cU wd v.toNat).take (wd - kk)=(cU wd v.toNat).take (wd - (kk+1)) ++ [toB ((v.toNat:Int) / 2 ^ (8 * kk))]) (hw:kk < wd) (hz:z=(v.toNat:Int) / 2 ^ (8 * kk)):OwnB w base e A (n+(wd - kk)) c (l ++ (cU wd v.toNat).take (wd - kk)):=by
 subst hk
 rw [hb,← hz,show n+(wd - kk)=n+(wd - (kk+1))+1 from aa]
 exact h
theorem pA (A:Option Addr) (n c:Nat) (l:List UInt8) (v:UInt64) (wd:Nat) (hwd:wd≤8) (w:World) (h:SlB w A n c l) (hn:n≤140737488351232) :
  Calls prog 202 #[.slice A n c,.int .u64 (un v),.int .i64 (wd:Int)] w fun e w'=>∃ A' c',e=.returned (.slice A' (n+wd) c')∧OwnB w' w.heap.size 5 A' (n+wd) c' (l ++ cU wd v.toNat)∧Ext w w':=by
 have k0:(0:Int)≤(wd:Int):=aa
 have k1:(wd:Int)≤8:=aa
 have hv0:=gD v
 have HV1:=zh (aLo v)
 have HS:=zh h
 clear h
 go_enter func202,ntmps202
 go_wp2_with fail
 refine (aBM A n c l wd _ HS.out aa).mono ?_
 rintro e w1 ⟨A1,rfl,hO1,hE1⟩
 have HO1:=zh hO1
 have HE1:=zh hE1
 clear hO1 hE1
 go_wp2_with fail
 go_loopw [7,8] (fun x i wr=>∃ (j:Nat) (A2:Option Addr) (c2:Nat),j≤wd∧i=.int .i64 ((j:Int) - 1)∧x=.slice A2 (n+(wd - j)) c2∧OwnB wr w.heap.size 5 A2 (n+(wd - j)) c2 (l ++ (cU wd v.toNat).take (wd - j))∧Ext w wr) (fun _ i _=>(intOf i+1).toNat)
 case atStart=>exact ⟨wd,A1,n+wd,Nat.le_refl _,rfl,dr,by simpa using HO1.out,HE1.out⟩
 case round =>
  obtain ⟨j,A2,c2,hj,rfl,rfl,hO,hE⟩:=hrel
  have HO:=zh hO
  have HE:=zh hE
  clear hO hE
  by_cases hlt:0 < j
  ·obtain ⟨i, rfl⟩ : ∃ i, j = i + 1 := ⟨j - 1, aa⟩
   obtain ⟨kk,hkk⟩:∃ kk,kk=i:=⟨_,rfl⟩
   have HB:=zh (sU wd v.toNat kk aa)
   have HKK:=zh hkk
   clear hkk
   obtain ⟨q,hq⟩:∃ q,q=wd - (i+1):=⟨_,rfl⟩
   rw [← hq] at HO ⊢
   have HQ:=zh (show q=wd - (kk+1) from by rw [HKK.out];exact hq)
   have hq8:q≤8:=aa
   clear hq
   rw [show ((i+1:Nat):Int) - 1=(i:Int) from aa]
   have hi7:i=0 ∨ i=1 ∨ i=2 ∨ i=3 ∨ i=4 ∨ i=5 ∨ i=6 ∨ i=7:=aa
   rcases hi7 with rfl | rfl | rfl | rfl | rfl | rfl | rfl | rfl
   all_goals (
    go_wp2_with (at_builtin;go_must (refine cB bU rfl (.tmp 21) (.tmp 27) rfl w.heap.size A2 _ c2 _ rfl (HO.out.alloc _) _ 1 1 [toB _] rfl (SlB.new1 _ _ _ _ _ rfl (bM _)) aa (HE.out.alloc' _).size w (HE.out.alloc' _) ?_))
    exact ww)
  exact AZ
end
section
open Go.RowKit
attribute [local go_sem ↓] Go.wp_at_zero Go.wp_at_succ
def iv (z:Int):Value:=.int .i64 z
def ics (l:List Int):List Value:=l.map iv
theorem aFi (l:List Int):(ics l).length=l.length:=by simp [ics]
theorem nK (a b:List Int):ics (a ++ b)=ics a ++ ics b:=by simp [ics]
theorem aAK:Elem prog 23 3 (.int .i64 0) 1 8:=⟨underlying23,by kernel_rfl,rfl,by decide⟩
def dg (l:List UInt8):List Int:=l.flatMap fun c=>[((c.toNat / 16:Nat):Int),((c.toNat % 16:Nat):Int)]
def iY:List UInt8→Nat
 | []=>0
 | c :: r=>c.toNat / 16+c.toNat % 16+iY r
theorem aGs (l:List UInt8) (c:UInt8):dg (l ++ [c])=dg l ++ [((c.toNat / 16:Nat):Int),((c.toNat % 16:Nat):Int)]:=by simp [dg]
theorem aHD (l:List UInt8):(dg l).length=2 * l.length:=by
 induction l with
 | nil=>rfl
 | cons c r ih=>simp only [dg,List.flatMap_cons,List.length_append,List.length_cons,List.length_nil] at *;omega
theorem uU (a b:List UInt8):iY (a ++ b)=iY a+iY b:=by
 induction a with
 | nil=>simp [iY]
 | cons c r ih=>simp [iY,ih];omega
theorem aBX (l:List UInt8):iY l≤30 * l.length:=by
 induction l with
 | nil=>simp [iY]
 | cons c r ih=>have:=c.toNat_lt;simp only [iY,List.length_cons];omega
def qT (m:UInt64):List Int:=dg (nmb m) ++ [(((240 - iY (nmb m)) / 16:Nat):Int),(((240 - iY (nmb m)) % 16:Nat):Int)]
theorem iN (m:UInt64):(qT m).length=18:=by simp [qT,aHD,aK]
theorem aLL (c:UInt8):bits .and .u8 (c.toNat:Int) 15=((c.toNat % 16:Nat):Int):=by
 have h:=c.toNat_lt
 rw [show (15:Int)=((15:Nat):Int) from rfl,u8_and_nat _ _ h aa]
 rw [show (15:Nat)=2 ^ 4 - 1 from rfl,Nat.and_two_pow_sub_one_eq_mod]
theorem xI (a:Nat) (ha:a < 9223372036854775808):(BitVec.ofInt 64 (a:Int)).toNat=a:=by
 rw [BitVec.ofInt_natCast,BitVec.toNat_ofNat];exact Nat.mod_eq_of_lt aa
theorem aMF (a:Nat) (ha:a < 9223372036854775808):bits .and .i64 (a:Int) 15=((a % 16:Nat):Int):=by
 have hx:a &&& 15=a % 16:=by rw [show (15:Nat)=2 ^ 4 - 1 from rfl,Nat.and_two_pow_sub_one_eq_mod]
 show IntKind.i64.wrap ((BitVec.ofInt 64 (a:Int) &&& BitVec.ofInt 64 ((15:Nat):Int)).toNat:Int)=_
 rw [BitVec.toNat_and,xI a ha,xI 15 aa,IntKind.wrap_i64,hx]
 omega
theorem aMi (w:World):(Instr.makeSlice 23 (.int .i64 0) (.int .i64 18)).run prog w=.ok (.slice (some ⟨w.heap.size,0,none⟩) 0 18) (w.alloc (.cells (madeCells (Value.int .i64 0).cells 18) 3)):=by
 obtain ⟨i,hi,hz,hs,hby⟩:=aAK.get
 have h:=run_make (P:=prog) w 23 3 i (.int .i64 0) aAK.ut hi hz .i64 .i64 0 18 aa aa f7 aa
 simpa [hs] using h
theorem Rd.new2 (w:World) (t:TypeId) (a b:Value) (g:Nat) (hg:w.heap.size=g):Rd (w.alloc (.cells #[a,b] t)) (some ⟨g,0,none⟩) [a,b]:=by subst hg;exact Rd.of_blk (Blk.new w t #[a,b])
theorem aFr (m:UInt64) (w:World) :
  Calls prog 238 #[.agg (nmc m)] w fun e w'=>∃ g c,e=.returned (.slice (some ⟨g,0,none⟩) 18 c)∧w'.rangeAt g 0 (ics (qT m))∧w.heap.size≤g∧Ext w w':=by
 have hmk:=aMi
 have hl:=aK m
 go_enter func238,ntmps238
 go_wp2_with (refine wpList_load_row rfl 50 (.tmp 1) rfl _ rfl 50 _ (0,0) _ ((Blk.new w _ _).alloc _) underlying50 rfl (fJ m) ?_)
 go_loopw [3,4,11] (fun o s i wr=>∃ (k:Nat) (A:Option Addr) (c:Nat),k≤8∧i=.int .i64 (k:Int)∧s=.int .i64 ((240 - iY ((nmb m).take k):Nat):Int)∧o=.slice A (2 * k) c∧wr.ownsRow (w.heap.size+1) 3 1 (.slice A (2 * k) c) (2 * k) (ics (dg ((nmb m).take k)))∧Below (w.heap.size+1) (w.alloc (.cells (nmc m) 50)) wr∧w.heap.size+1≤wr.heap.size) (fun _ _ i _=>8 - (intOf i).toNat)
 case atStart=>exact ⟨0,_,_,aa,rfl,rfl,rfl,aIy (w.alloc _) _ _ 18 _ dr (Nat.le_refl _) aa (by rw [size_madeCells]),Below.alloc (Below.refl _ _) dr _,dr⟩
 case round =>
  obtain ⟨k,A,c,hk,rfl,rfl,rfl,hO,hB,hsz⟩:=hrel
  have hd:iY ((nmb m).take k)≤30 * k:=mn
  by_cases hlt:k < 8
  ·have hix := kZ m k hlt
   have HT:=zh (oG (nmb m) k aa)
   have HD:Hid (iY ((nmb m).take (k+1))=iY ((nmb m).take k)+(((nmb m).getD k 0).toNat / 16+((nmb m).getD k 0).toNat % 16)):=zh (by rw [HT.out,uU];simp [iY])
   have HG:Hid (dg ((nmb m).take (k+1))=dg ((nmb m).take k) ++ [((((nmb m).getD k 0).toNat / 16:Nat):Int),((((nmb m).getD k 0).toNat % 16:Nat):Int)]):=zh (by rw [HT.out,aGs])
   clear HT
   have ha:=aLL ((nmb m).getD k 0)
   have hcb:=((nmb m).getD k 0).toNat_lt
   generalize (nmb m).getD k 0=b at *
   generalize iY ((nmb m).take k)=s at *
   generalize dg ((nmb m).take k)=d at *
   have hb16:b.toNat / 16+b.toNat % 16≤30:=aa
   go_wp2_with (at_builtin;go_must (with_reducible refine fS aAK rfl _ _ rfl (w.heap.size+1) _ _ _ _ rfl (hO.alloc _) _ _ _ _ rfl (Rd.new2 _ _ _ _ _ rfl) ?l1 ?h1 ?b1 ?c1 ?d1 (w.alloc (.cells (nmc m) 50)) ?w1 ?_))
   case l1=>rfl
   case h1=>simp [Value.oneCell']
   case b1=>omega
   case c1=>omega
   case d1=>simp;omega
   case w1=>exact Below.alloc hB hsz _
   intro A1 c1 w1 ho1 hw1 hs1
   go_wp2_with fail
   go_roundw
   case rel=>exact ⟨k+1,A1,c1,aa,ar,by rw [HD.out];go_num,ar,by rw [HG.out,nK];exact ho1,hw1,aa⟩
   case measure=>simp [intOf];omega
  obtain rfl:k=8:=aa
  have HX:Hid (qT m=dg ((nmb m).take 8) ++ [(((240 - iY ((nmb m).take 8)) / 16:Nat):Int),(((240 - iY ((nmb m).take 8)) % 16:Nat):Int)]):=zh tc
  generalize iY ((nmb m).take 8)=s at *
  generalize dg ((nmb m).take 8)=d at *
  have ha:=aMF (240 - s) aa
  obtain ⟨r,hr⟩:∃ r,r=240 - s:=⟨_,rfl⟩
  rw [← hr] at ha HX ⊢
  exact ui
theorem mA (m:UInt64) (w:World) :
  Calls prog 165 #[.agg (nmc m)] w fun e w'=>∃ g c,e=.returned (.slice (some ⟨g,0,none⟩) 18 c)∧w'.rangeAt g 0 (ics (qT m))∧w.heap.size≤g∧Ext w w':=by
 have hl:=aK m
 go_enter func165,ntmps165
 go_wp2_with fail
 go_loopw [3,4,5] (fun o s i wr=>∃ (k:Nat) (A:Option Addr) (c:Nat),k≤8∧i=.int .i64 (k:Int)∧s=.int .i64 ((240 - iY ((nmb m).take k):Nat):Int)∧o=.slice A (2 * k) c∧wr.ownsRow (w.heap.size+1) 3 1 (.slice A (2 * k) c) (2 * k) (ics (dg ((nmb m).take k)))∧Below (w.heap.size+1) (w.alloc (.cells (nmc m) 50)) wr∧w.heap.size+1≤wr.heap.size) (fun _ _ i _=>8 - (intOf i).toNat)
 case atStart=>exact ⟨0,_,_,aa,rfl,rfl,rfl,World.ownsRow_nil _ _ _ _,Below.refl _ _,dr⟩
 case round =>
  obtain ⟨k,A,c,hk,rfl,rfl,rfl,hO,hB,hsz⟩:=hrel
  have hd:iY ((nmb m).take k)≤30 * k:=mn
  have hBm:Blk wr w.heap.size 50 (nmc m):=(Blk.new w _ _).below hB dr
  by_cases hlt:k < 8
  ·have hget := jR m k hlt
   have hcell:=(hBm.cell k).trans hget
   have hget':=zh hget
   clear hget
   have HT:=zh (oG (nmb m) k aa)
   have HD:Hid (iY ((nmb m).take (k+1))=iY ((nmb m).take k)+(((nmb m).getD k 0).toNat / 16+((nmb m).getD k 0).toNat % 16)):=zh (by rw [HT.out,uU];simp [iY])
   have HG:Hid (dg ((nmb m).take (k+1))=dg ((nmb m).take k) ++ [((((nmb m).getD k 0).toNat / 16:Nat):Int),((((nmb m).getD k 0).toNat % 16:Nat):Int)]):=zh (by rw [HT.out,aGs])
   clear HT
   have ha:=aLL ((nmb m).getD k 0)
   have hcb:=((nmb m).getD k 0).toNat_lt
   generalize (nmb m).getD k 0=b at *
   generalize iY ((nmb m).take k)=s at *
   generalize dg ((nmb m).take k)=d at *
   have hb16:b.toNat / 16+b.toNat % 16≤30:=aa
   have hk8:(k:Int) < 8:=aa
   go_wp2_with fail
   have hcl:w.heap.size < wr.heap.size:=hBm.lt
   have hO1:=(hO.alloc (.cells #[.int .i64 ((b.toNat:Int) / 16),.int .i64 ((b.toNat:Int) % 16)] 3))
   have hB1:=(Below.alloc hB hsz (.cells #[.int .i64 ((b.toNat:Int) / 16),.int .i64 ((b.toNat:Int) % 16)] 3)).drew
   have hR1:Rd (wr.alloc (.cells #[.int .i64 ((b.toNat:Int) / 16),.int .i64 ((b.toNat:Int) % 16)] 3)).drew (some ⟨wr.heap.size,0,none⟩) [.int .i64 ((b.toNat:Int) / 16),.int .i64 ((b.toNat:Int) % 16)]:=Rd.new2 _ _ _ _ _ rfl
   have hne:=World.new_ne wr ⟨w.heap.size,k,none⟩ hcell
   have q1:([.int .i64 ((b.toNat:Int) / 16),.int .i64 ((b.toNat:Int) % 16)]:List Value).length=2 * 1:=rfl
   have q2:∀ u ∈ ([.int .i64 ((b.toNat:Int) / 16),.int .i64 ((b.toNat:Int) % 16)]:List Value),u.oneCell'=true:=by simp [Value.oneCell']
   have q3:(2 * k+2) * 8≤140737488355328:=aa
   have q4:2 * k+2≤4611686018427387904:=aa
   have q5:w.heap.size+1≤(wr.alloc (.cells #[.int .i64 ((b.toNat:Int) / 16),.int .i64 ((b.toNat:Int) % 16)] 3)).drew.heap.size:=gj
   have hO2:(wr.alloc (.cells #[.int .i64 ((b.toNat:Int) / 16),.int .i64 ((b.toNat:Int) % 16)] 3)).drew.ownsRow (w.heap.size+1) 3 1 (.slice A (2 * k) c) (2 * k) (ics d):=hO1
   have Q1:=zh q1
   have Q2:=zh q2
   have Q5:=zh q5
   clear q1 q2 q5
   have wd:IntKind.i64.wrap ((b.toNat:Int) / 16)=(b.toNat:Int) / 16:=dt
   have wm:IntKind.i64.wrap ((b.toNat:Int) % 16)=(b.toNat:Int) % 16:=dt
   go_region_held3 (fun w'=>w'.cell? ⟨w.heap.size,k,none⟩=some (.int .u8 (b.toNat:Int))) (first | go_keep | (exact ((Blk.new w _ _).below hw1 dr).cell k |>.trans hget'.out)) ((refine rL aAK rfl (.tmp 10) (.tmp 21) rfl (w.heap.size+1) A (2 * k) c (ics d) dp hO2 (some ⟨wr.heap.size,0,none⟩) 2 2 [.int .i64 ((b.toNat:Int) / 16),.int .i64 ((b.toNat:Int) % 16)] dp hR1 Q1.out Q2.out q3 q4 Q5.out (w.alloc (.cells (nmc m) 50)) hB1 ?_;intro A1 c1 w1 ho1 hw1 hs1))
   clear hcell hne hR1 hB1 hO1 hO2 Q1 Q2 Q5 q3 q4
   have hsz1:w.heap.size+1≤w1.heap.size:=by simp at hs1;omega
   have hBm1:Blk w1 w.heap.size 50 (nmc m):=(Blk.new w _ _).below hw1 dr
   have hcell:=(hBm1.cell k).trans hget'.out
   have w1a:IntKind.i64.wrap (((240 - s:Nat):Int) - (b.toNat:Int) / 16)=((240 - s:Nat):Int) - (b.toNat:Int) / 16:=dt
   have w1b:IntKind.i64.wrap (((240 - s:Nat):Int) - (b.toNat:Int) / 16 - (b.toNat:Int) % 16)=((240 - s:Nat):Int) - (b.toNat:Int) / 16 - (b.toNat:Int) % 16:=dt
   go_wp2_with fail
   go_quiet (fail)
   go_wp2_with fail
   go_roundw
   case rel=>exact ⟨k+1,A1,c1,aa,ar,by rw [HD.out];congr 1;omega,ar,by rw [HG.out,nK];exact ho1,below_drewN hw1 _,hsz1⟩
   case measure=>simp [intOf];omega
  obtain rfl:k=8:=aa
  have HX:Hid (qT m=dg ((nmb m).take 8) ++ [(((240 - iY ((nmb m).take 8)) / 16:Nat):Int),(((240 - iY ((nmb m).take 8)) % 16:Nat):Int)]):=zh tc
  generalize iY ((nmb m).take 8)=s at *
  generalize dg ((nmb m).take 8)=d at *
  obtain ⟨r,hr⟩:∃ r,r=240 - s:=⟨_,rfl⟩
  rw [← hr] at HX ⊢
  exact ui
end
end Go.Proofs.YtgmnmjeccfnmbaaGreat
