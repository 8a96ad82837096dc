import Derived.Test.YtohmmcahpakokaaGreatJ01
import Derived.Test.YtohmmcahpakokaaGreatJ02
set_option maxRecDepth 100000
set_option maxHeartbeats 8000000
set_option linter.unusedVariables false
set_option linter.unusedSimpArgs false
namespace Go.Proofs.YtohmmcahpakokaaGreat
section
open Go.RowKit
attribute [local go_sem ↓] Go.wp_at_zero Go.wp_at_succ
def dM (t:UInt8) (l:List UInt8):UInt64:=dO (t :: l)
theorem aHl (w:World):(Instr.makeSlice 45 (.int .i64 0) (.int .i64 160)).run Tryz.prog w=.ok (.slice (some ⟨w.heap.size,0,none⟩) 0 160) (w.alloc (.cells (madeCells (Value.int .u8 0).cells 160) 5)):=by
 obtain ⟨i,hi,hz,hs,hby⟩:=bI.get
 have h:=run_make (P:=Tryz.prog) w 45 5 i (.int .u8 0) bI.ut hi hz .i64 .i64 0 160 (by omega) (by omega) (by rw [hby];omega) (by omega)
 simpa [hs] using h
theorem gX (t:UInt8) (A:Option Addr) (n c:Nat) (l:List UInt8) (w:World) (h:SlB w A n c l) (hm:n < 140737488355328) :
  Calls Tryz.prog 109 #[.int .u8 (t.toNat:Int),.slice A n c] w fun e w'=>e=.returned (.agg (nmc (dM t l)))∧Ext w w':=by
 have hmk:=aHl
 go_enter Tryz.func109,Tryz.ntmps109
 go_wp2_with (at_builtin;go_must (refine bZ bI rfl (.tmp 7) (.tmp 9) rfl (w.heap.size+1) _ _ _ [] rfl ((OwnB.made (w.alloc _) (w.heap.size+1) _ 160 (w.heap.size+1) (by simp) (Nat.le_refl _) (by omega) (size_madeCells _ _)).alloc _) _ _ _ [t] rfl ?r1 (by omega) ?b1 (w.alloc (.cells zcs.toArray 30)) ?w1 ?_))
 case r1=>exact SlB.new1 _ _ _ t _ (by simp) rfl
 case b1=>simp
 case w1=>exact Below.alloc (Below.alloc (Below.refl _ _) (by simp) _) (by simp) _
 intro A1 c1 w1 ho1 hw1 hs1
 have hsl:=h.ext (((Ext.refl w).alloc' _).trans (hw1.mono (by simp)))
 have hsz:w.heap.size+1≤w1.heap.size:=by omega
 go_wp2_with (at_builtin;refine bZ bI rfl (.tmp 10) (.tmp 11) rfl (w.heap.size+1) _ _ _ [t] rfl ho1 _ _ _ l rfl hsl (by omega) hsz (w.alloc (.cells zcs.toArray 30)) hw1 ?_)
 intro A2 c2 w2 ho2 hw2 hs2
 go_wp2_with fail
 refine (aDY _ _ _ _ _ ho2.sl (by omega)).mono ?_
 rintro e w3 ⟨rfl,he3⟩
 have hE3:Ext (w.alloc (.cells zcs.toArray 30)) w3:=by have:=Below.trans hw2 (he3.mono (B':=w.heap.size+1) (by omega));simpa [Ext] using this
 have hb0:Blk w3 w.heap.size 30 zcs.toArray:=(Blk.new w _ _).ext hE3
 go_wp2_with (refine wpList_store_mid rfl 30 _ _ rfl w.heap.size 0 (nmc (dO ([t] ++ l))) rfl rfl (lE hb0 _) (eI _) (gG _) ?_)
 refine bodyPost_ret (v:=.agg (nmc (dO ([t] ++ l)))) (eL rfl _ _ w.heap.size _ rfl (blkN hb0 _)) rfl ⟨rfl,Below.setCells' (((Ext.refl w).alloc' _).trans hE3) (Nat.le_refl _) _ _⟩
theorem dH (t:UInt8) (A:Option Addr) (n c:Nat) (l:List UInt8) (w:World) (h:SlB w A n c l) (hm:n < 140737488355328) :
  Calls Tryz.prog 75 #[.int .u8 (t.toNat:Int),.slice A n c] w fun e w'=>e=.returned (.agg (nmc (dM t l)))∧Ext w w':=by
 have hmk:=aHl
 go_enter Tryz.func75,Tryz.ntmps75
 go_wp2_with (at_builtin;go_must (refine bZ bI rfl (.tmp 5) (.tmp 7) rfl (w.heap.size+1) _ _ _ [] rfl ((OwnB.made (w.alloc _) (w.heap.size+1) _ 160 (w.heap.size+1) (by simp) (Nat.le_refl _) (by omega) (size_madeCells _ _)).alloc _) _ _ _ [t] rfl ?r1 (by omega) ?b1 (w.alloc (.cells zcs.toArray 30)) ?w1 ?_))
 case r1=>exact SlB.new1 _ _ _ t _ (by simp) rfl
 case b1=>simp
 case w1=>exact Below.alloc (Below.alloc (Below.refl _ _) (by simp) _) (by simp) _
 intro A1 c1 w1 ho1 hw1 hs1
 have hsl:=h.ext (((Ext.refl w).alloc' _).trans (hw1.mono (by simp)))
 have hsz:w.heap.size+1≤w1.heap.size:=by omega
 go_wp2_with (at_builtin;refine bZ bI rfl (.tmp 8) (.tmp 9) rfl (w.heap.size+1) _ _ _ [t] rfl ho1 _ _ _ l rfl hsl (by omega) hsz (w.alloc (.cells zcs.toArray 30)) hw1 ?_)
 intro A2 c2 w2 ho2 hw2 hs2
 go_wp2_with fail
 refine (tZ _ _ _ _ _ ho2.sl (by omega)).mono ?_
 rintro e w3 ⟨rfl,he3⟩
 have hE3:Ext (w.alloc (.cells zcs.toArray 30)) w3:=by have:=Below.trans hw2 (he3.mono (B':=w.heap.size+1) (by omega));simpa [Ext] using this
 have hb0:Blk w3 w.heap.size 30 zcs.toArray:=(Blk.new w _ _).ext hE3
 go_wp2_with (refine wpList_store_mid rfl 30 _ _ rfl w.heap.size 0 (nmc (dO ([t] ++ l))) rfl rfl (lE hb0 _) (eI _) (gG _) ?_)
 refine bodyPost_ret (v:=.agg (nmc (dO ([t] ++ l)))) (eL rfl _ _ w.heap.size _ rfl (blkN hb0 _)) rfl ⟨rfl,Below.setCells' (((Ext.refl w).alloc' _).trans hE3) (Nat.le_refl _) _ _⟩
def z16:List Value:=List.replicate 16 (.int .u8 0)
theorem aBv (x y:UInt64):(splice (splice z16 0 (bcs (nmb x))) 8 (bcs (nmb y))).toArray=(bcs (nmb x ++ nmb y)).toArray:=by
 have h1:=aG x
 have h2:=aG y
 simp only [splice,z16,List.take_zero,List.nil_append,aJ,h1,h2,Nat.zero_add,List.drop_replicate,eJ]
 rw [List.take_append_of_le_length (by rw [aJ,h1];omega),List.take_of_length_le (by rw [aJ,h1];omega),List.drop_eq_nil_of_le (by simp [aJ,h1])]
 simp
theorem sO (x:UInt64):(splice z16 0 (bcs (nmb x))).length=16:=by
 rw [length_splice _ _ _ (by rw [aJ,aG];simp [z16])];simp [z16]
def kD (t:UInt8) (x y:UInt64):UInt64:=dM t (nmb x ++ nmb y)
theorem aBw (t:UInt8) (x y:UInt64) (w:World) :
  Calls Tryz.prog 265 #[.int .u8 (t.toNat:Int),.agg (nmc x),.agg (nmc y)] w fun e w'=>e=.returned (.agg (nmc (kD t x y)))∧Ext w w':=by
 go_enter Tryz.func265,Tryz.ntmps265
 go_wp2_with fail
 go_still_tail 2,(by kernel_rfl)
 change wpList _ _ _ _ _ (World.drew _)
 refine wpList_copy_splice rfl _ _ _ _ rfl 5 Tryz.underlying45 (by kernel_rfl) _ _ _ _ _ _ rfl rfl (w.heap.size+3) 0 z16 248 ?g1 (bcs (nmb x)) ?c1 ?c2 ?c3 (dW _) (w.heap.size+3) (((w.alloc (.cells (nmc x) 30)).alloc (.cells (nmc y) 30)).alloc (.cells zcs.toArray 30)) ?b1 (Nat.le_refl _) ?_
 case g1=>exact (Blk.newAt (((w.alloc (.cells (nmc x) 30)).alloc (.cells (nmc y) 30)).alloc (.cells zcs.toArray 30)) 248 z16.toArray (w.heap.size+3) (by simp)).drew
 case c1=>rw [aJ,aG];rfl
 case c2 =>
  intro _
  refine ⟨rfl,_,rfl,fun j v hv=>?_⟩
  rw [Addr.add_mid]
  exact aD ((((Blk.new w _ (nmc x)).alloc _).alloc _).alloc _).drew j v (by rw [bF];exact hv)
 case c3=>rw [aJ,aG];decide
 case b1=>exact (Below.alloc (Below.refl _ _) (by simp) _).drew
 intro w1 hb1 hw1
 have hy1:Blk w1 (w.heap.size+1) 30 (nmc y):=by
  have:=((Blk.new (w.alloc (.cells (nmc x) 30)) 30 (nmc y)).alloc (.cells zcs.toArray 30)).below hw1 (by simp)
  simpa using this
 go_wp2_with fail
 go_still_tail 2,(by kernel_rfl)
 change wpList _ _ _ _ _ (World.drew _)
 refine wpList_copy_splice rfl _ _ _ _ rfl 5 Tryz.underlying45 (by kernel_rfl) _ _ _ _ _ _ rfl rfl (w.heap.size+3) 8 (splice z16 0 (bcs (nmb x))) 248 ?g1 (bcs (nmb y)) ?c1 ?c2 ?c3 (dW _) (w.heap.size+3) (((w.alloc (.cells (nmc x) 30)).alloc (.cells (nmc y) 30)).alloc (.cells zcs.toArray 30)) ?b1 (Nat.le_refl _) ?_
 case g1=>exact hb1.out
 case c1=>rw [aJ,aG];rfl
 case c2 =>
  intro _
  refine ⟨rfl,_,rfl,fun j v hv=>?_⟩
  rw [Addr.add_mid]
  exact aD hy1.drew j v (by rw [bF];exact hv)
 case c3=>rw [aJ,aG,sO];decide
 case b1=>exact hw1.drew
 intro w2 hb2 hw2
 have hb3:Blk w2 (w.heap.size+3) 248 (bcs (nmb x ++ nmb y)).toArray:=by rw [← aBv];exact hb2.out
 have hl16:(nmb x ++ nmb y).length=16:=by rw [List.length_append,aG,aG]
 have hsl:SlB w2 (some ⟨w.heap.size+3,0,none⟩) 16 16 (nmb x ++ nmb y):=⟨hl16,by omega,by omega,by have:=Rd.of_blk hb3;simpa using this⟩
 go_wp2_with fail
 refine (gX t _ _ _ _ _ hsl (by omega)).mono ?_
 rintro e w3 ⟨rfl,he3⟩
 have hsz2:=hb3.lt
 have hE3:Below (w.heap.size+3) (((w.alloc (.cells (nmc x) 30)).alloc (.cells (nmc y) 30)).alloc (.cells zcs.toArray 30)) w3:=Below.trans hw2 (he3.mono (by omega))
 have hb0:Blk w3 (w.heap.size+2) 30 zcs.toArray:=by
  have:=(Blk.new ((w.alloc (.cells (nmc x) 30)).alloc (.cells (nmc y) 30)) 30 zcs.toArray).below hE3 (by simp)
  simpa using this
 go_wp2_with (refine wpList_store_mid rfl 30 _ _ rfl (w.heap.size+2) 0 (nmc (dM t (nmb x ++ nmb y))) rfl rfl (lE hb0 _) (eI _) (gG _) ?_)
 refine bodyPost_ret (v:=.agg (nmc (dM t (nmb x ++ nmb y)))) (eL rfl _ _ (w.heap.size+2) _ rfl (blkN hb0 _)) rfl ⟨rfl,Below.setCells' (((((Ext.refl w).alloc' _).alloc' _).alloc' _).trans (by simpa [Ext] using hE3)) (by omega) _ _⟩
theorem aBr (t:UInt8) (x y:UInt64) (w:World) :
  Calls Tryz.prog 195 #[.int .u8 (t.toNat:Int),.agg (nmc x),.agg (nmc y)] w fun e w'=>e=.returned (.agg (nmc (kD t x y)))∧Ext w w':=by
 go_enter Tryz.func195,Tryz.ntmps195
 go_wp2_with fail
 have own1:OwnB (((((w.alloc (.cells (nmc x) 30)).alloc (.cells (nmc y) 30)).alloc (.cells zcs.toArray 30)).alloc (.cells #[] 5)).drew) (w.heap.size+3) 5 (some ⟨w.heap.size+3,0,none⟩) 0 0 []:=(OwnB.made _ _ _ 0 _ (by simp) (Nat.le_refl _) (by omega) (by simp)).drew
 have r1:SlB (((((w.alloc (.cells (nmc x) 30)).alloc (.cells (nmc y) 30)).alloc (.cells zcs.toArray 30)).alloc (.cells #[] 5)).drew) (some ⟨w.heap.size,0,none⟩) 8 8 (nmb x):=SlB.blkN ((((Blk.new w _ (nmc x)).alloc _).alloc _).alloc _).drew
 have b1:Below (w.heap.size+3) (((w.alloc (.cells (nmc x) 30)).alloc (.cells (nmc y) 30)).alloc (.cells zcs.toArray 30)) (((((w.alloc (.cells (nmc x) 30)).alloc (.cells (nmc y) 30)).alloc (.cells zcs.toArray 30)).alloc (.cells #[] 5)).drew):=(Below.alloc (Below.refl _ _) (by simp) _).drew
 have hy:Blk (((w.alloc (.cells (nmc x) 30)).alloc (.cells (nmc y) 30)).alloc (.cells zcs.toArray 30)) (w.heap.size+1) 30 (nmc y):=(Blk.newAt (w.alloc (.cells (nmc x) 30)) 30 (nmc y) (w.heap.size+1) (by simp)).alloc _
 have hz:Blk (((w.alloc (.cells (nmc x) 30)).alloc (.cells (nmc y) 30)).alloc (.cells zcs.toArray 30)) (w.heap.size+2) 30 zcs.toArray:=Blk.newAt ((w.alloc (.cells (nmc x) 30)).alloc (.cells (nmc y) 30)) 30 zcs.toArray (w.heap.size+2) (by simp)
 go_region_held3 (fun _=>True) (trivial) (first | (refine xP bI rfl (.tmp 8) (.tmp 9) rfl (w.heap.size+3) _ _ _ [] (by rfl) own1 _ _ _ (nmb x) (by rfl) r1 (by omega) (by simp) (((w.alloc (.cells (nmc x) 30)).alloc (.cells (nmc y) 30)).alloc (.cells zcs.toArray 30)) b1 ?_;intro A1 c1 w1 ho1 hw1 hs1) | (refine xP bI rfl (.tmp 10) (.tmp 11) rfl (w.heap.size+3) _ _ _ (nmb x) (by rfl) ho1 _ _ _ (nmb y) (by rfl) (SlB.blkN (hy.below hw1 (by omega))) (by omega) (by have:=hs1;simp at this;omega) (((w.alloc (.cells (nmc x) 30)).alloc (.cells (nmc y) 30)).alloc (.cells zcs.toArray 30)) hw1 ?_;intro A2 c2 w2 ho2 hw2 hs2) | (go_at_call 75;refine (dH t _ _ _ _ _ ho2.sl (by omega)).mono ?_;rintro e w3 ⟨rfl,he3⟩;have hw3:=Below.trans hw2 (he3.mono (by have:=hs1;simp at this;omega));have hz3:=hz.below hw3 (by omega);have hst:=cA hz3 (dM t (nmb x ++ nmb y))))
 go_wp2_with fail
 refine bodyPost_ret (v:=.agg (nmc (dM t (nmb x ++ nmb y)))) (eL rfl _ _ (w.heap.size+2) _ rfl (blkN hz3 _)) rfl ⟨rfl,Below.setCells' (((((Ext.refl w).alloc' _).alloc' _).alloc' _).trans (by simpa [Ext] using hw3)) (by omega) _ _⟩
theorem zP (x:UInt64) (k:Int) (w:World) :
  Calls Tryz.prog 199 #[.agg (nmc x),.int .i64 k] w fun e w'=>e=.returned (.agg (nmc (dM 32 (nmb x ++ [toB k]))))∧Ext w w':=by
 go_enter Tryz.func199,Tryz.ntmps199
 go_wp2_with (at_builtin;go_must (refine bZ bI rfl (.tmp 5) (.tmp 6) rfl (w.heap.size+2) _ _ _ [] rfl ?o1 _ _ _ (nmb x) rfl ?r1 ?n1 ?b1 ((w.alloc (.cells (nmc x) 30)).alloc (.cells zcs.toArray 30)) ?w1 ?_))
 case o1=>exact OwnB.made _ _ _ 0 _ (by simp) (Nat.le_refl _) (by omega) (by simp)
 case r1=>exact SlB.blkN (((Blk.new w _ (nmc x)).alloc _).alloc _)
 case n1=>omega
 case b1=>simp
 case w1=>exact Below.alloc (Below.refl _ _) (by simp) _
 intro A1 c1 w1 ho1 hw1 hs1
 have hsz:w.heap.size+2≤w1.heap.size:=by omega
 go_wp2_with (at_builtin;go_must (refine bZ bI rfl (.tmp 7) (.tmp 10) rfl (w.heap.size+2) _ _ _ (nmb x) rfl (ho1.alloc _) _ _ _ [toB k] rfl ?r1 (by omega) ?b1 ((w.alloc (.cells (nmc x) 30)).alloc (.cells zcs.toArray 30)) ?w1 ?_))
 case r1=>exact SlB.new1 _ _ _ (toB k) _ rfl (bT k)
 case b1=>simp;omega
 case w1=>exact Below.alloc hw1 hsz _
 intro A2 c2 w2 ho2 hw2 hs2
 have hsz2:w.heap.size+2≤w2.heap.size:=by omega
 go_wp2_with fail
 refine (dH 32 _ _ _ _ _ ho2.sl (by omega)).mono ?_
 rintro e w3 ⟨rfl,he3⟩
 have hE3:Below (w.heap.size+2) ((w.alloc (.cells (nmc x) 30)).alloc (.cells zcs.toArray 30)) w3:=Below.trans hw2 (he3.mono (by omega))
 have hb0:Blk w3 (w.heap.size+1) 30 zcs.toArray:=(Blk.newAt (w.alloc (.cells (nmc x) 30)) 30 zcs.toArray (w.heap.size+1) (by simp)).below hE3 (by omega)
 go_wp2_with (refine wpList_store_mid rfl 30 _ _ rfl (w.heap.size+1) 0 (nmc (dM 32 (nmb x ++ [toB k]))) rfl rfl (lE hb0 _) (eI _) (gG _) ?_)
 refine bodyPost_ret (v:=.agg (nmc (dM 32 (nmb x ++ [toB k])))) (eL rfl _ _ (w.heap.size+1) _ rfl (blkN hb0 _)) rfl ⟨rfl,Below.setCells' ((((Ext.refl w).alloc' _).alloc' _).trans (by simpa [Ext] using hE3)) (by omega) _ _⟩
def cE (v:UInt64) (c p:Int):Nat→UInt64
 | 0=>v
 | k+1=>dM 33 (nmb (cE v c p k) ++ [toB c,toB (p+k)])
theorem aHB {w:World} {g:Nat} {t:TypeId} {n:UInt64} (h:Blk w g t (nmc n)) (r:UInt64):Blk (w.setCells g 0 (nmc r).toList) g t (nmc r):=aR h (by rw [cP,cP])
theorem aDW {w:World} {g:Nat} {t:TypeId} {n:UInt64} (h:Blk w g t (nmc n)) (r:UInt64):w.there g 0 (nmc r).size:=by rw [cP];have:=aT h;rwa [cP] at this
theorem Blk.setCells_far {w:World} {g g':Nat} {t:TypeId} {cs:Array Value} (h:Blk w g t cs) (hne:g ≠ g') (vs:List Value):∀ o,Blk (w.setCells g' o vs) g t cs:=by
 induction vs generalizing w with
 | nil=>intro o;exact h
 | cons v r ih=>intro o;exact ih (h.far (p:=⟨g',o,none⟩) hne v) (o+1)
theorem aGe (v:UInt64) (c p q:Int) (w:World) (hp:0≤p) (hp2:p≤1000) (hq:-1000≤q) (hq2:q≤1000) :
  Calls Tryz.prog 255 #[.agg (nmc v),.int .i64 c,.int .i64 p,.int .i64 q] w fun e w'=>e=.returned (.agg (nmc (cE v c p (q - p).toNat)))∧Ext w w':=by
 go_enter Tryz.func255,Tryz.ntmps255
 go_wp2_with fail
 go_loopw [13] (fun i wr=>∃ k:Nat,k≤(q - p).toNat∧i=.int .i64 (k:Int)∧Blk wr w.heap.size 30 (nmc (cE v c p k))∧Blk wr (w.heap.size+1) 30 zcs.toArray∧Ext w wr) (fun i _=>(q - p).toNat - (intOf i).toNat)
 case atStart=>exact ⟨0,by omega,rfl,(Blk.new w _ _).alloc _,Blk.newAt _ _ _ _ (by simp),((Ext.refl w).alloc' _).alloc' _⟩
 case round =>
  obtain ⟨k,hk,rfl,hB,hZ,hE⟩:=hrel
  by_cases hlt:(k:Int) < q - p
  ·have HS := zh (show cE v c p (k + 1) = dM 33 (nmb (cE v c p k) ++ [toB c, toB (p + k)]) from rfl)
   generalize cE v c p k=x at *
   go_wp2_with (at_builtin;go_must (refine pB bI rfl (.tmp 16) (.tmp 23) rfl _ _ _ (nmb x) rfl ?o1 ?n1 _ _ _ [toB c,toB (p+k)] rfl ?r1 ?m1 ?g1 ?b1 ?_))
   case o1=>exact SlB.blkN (hB.alloc _)
   case n1=>omega
   case r1=>exact SlB.new2 _ _ _ _ _ _ _ (by simp) (bT _) (bT _)
   case m1=>omega
   case g1=>omega
   case b1=>omega
   intro A2 c2 w2 ho2 he2
   have hE2:=Ext.trans ((Ext.refl wr).alloc' _) he2
   go_wp2_with fail
   refine (gX 33 _ _ _ _ _ ho2.sl (by omega)).mono ?_
   rintro e w3 ⟨rfl,he3⟩
   have hE3:=Ext.trans hE2 he3
   have hB3:=hB.ext hE3
   have hZ3:=hZ.ext hE3
   go_wp2_with (with_reducible refine wpList_store_mid rfl 30 _ _ rfl w.heap.size 0 (nmc (dM 33 (nmb x ++ [toB c,toB (p+k)]))) rfl rfl (aDW hB3 _) (eI _) (gG _) ?_)
   go_roundw
   case rel=>exact ⟨k+1,by omega,by go_num,by rw [HS.out];exact aHB hB3 _,hZ3.setCells_far (by omega) _ _,Below.setCells' (Ext.trans hE hE3) (Nat.le_refl _) _ _⟩
   case measure=>simp [intOf];omega
  have HK:=zh (show k=(q - p).toNat by omega)
  have HX:=zh (show cE v c p (q - p).toNat=cE v c p k by rw [← HK.out])
  generalize cE v c p k=x at *
  go_wp2_with (first | (refine wpList_load_row rfl 30 _ rfl _ rfl 30 _ (0,0) _ hB Tryz.underlying30 rfl (eI x) ?_) | (refine wpList_store_mid rfl 30 _ _ rfl (w.heap.size+1) 0 (nmc x) rfl rfl (lE hZ _) (eI _) (gG _) ?_))
  refine bodyPost_ret (v:=.agg (nmc x)) (eL rfl _ _ (w.heap.size+1) _ rfl (blkN hZ _)) rfl ⟨by rw [HX.out],Below.setCells' hE (by omega) _ _⟩
theorem iI (n:UInt64) (k:Nat) (hk:k < 8):(nmc n)[k]?=some (.int .u8 (((nmb n).getD k 0).toNat:Int)):=by
 have hl:=aG n
 simp [nmc,bcs,bv,hl,hk]
theorem pT (n:UInt64):nmb n=[(nmb n).getD 0 0,(nmb n).getD 1 0,(nmb n).getD 2 0,(nmb n).getD 3 0,(nmb n).getD 4 0,(nmb n).getD 5 0,(nmb n).getD 6 0,(nmb n).getD 7 0]:=by
 have hl:=aG n
 match h:nmb n,hl with
 | [a,b,c,d,e,f,g,i],_=>rfl
theorem pL (v:UInt64) (c p q:Int) (w:World) (hp:0≤p) (hp2:p≤1000) (hq:-1000≤q) (hq2:q≤1000) :
  Calls Tryz.prog 198 #[.agg (nmc v),.int .i64 c,.int .i64 p,.int .i64 q] w fun e w'=>e=.returned (.agg (nmc (cE v c p (q - p).toNat)))∧Ext w w':=by
 go_enter Tryz.func198,Tryz.ntmps198
 go_wp2_with fail
 go_loopw [9] (fun i wr=>∃ k:Nat,k≤(q - p).toNat∧i=.int .i64 (p+k)∧Blk wr w.heap.size 30 (nmc (cE v c p k))∧Blk wr (w.heap.size+1) 30 zcs.toArray∧Ext w wr) (fun i _=>(q - intOf i).toNat)
 case atStart=>exact ⟨0,by omega,by simp,(Blk.new w _ _).alloc _,Blk.newAt _ _ _ _ (by simp),((Ext.refl w).alloc' _).alloc' _⟩
 case round =>
  obtain ⟨k,hk,rfl,hB,hZ,hE⟩:=hrel
  by_cases hlt:p+(k:Int) < q
  ·have HS := zh (show cE v c p (k + 1) = dO (33 :: (nmb (cE v c p k) ++ [toB c, toB (p + k)])) from rfl)
   generalize cE v c p k=x at *
   have g0:=(hB.cell 0).trans (iI x 0 (by omega))
   have g1:=(hB.cell 1).trans (iI x 1 (by omega))
   have g2:=(hB.cell 2).trans (iI x 2 (by omega))
   have g3:=(hB.cell 3).trans (iI x 3 (by omega))
   have g4:=(hB.cell 4).trans (iI x 4 (by omega))
   have g5:=(hB.cell 5).trans (iI x 5 (by omega))
   have g6:=(hB.cell 6).trans (iI x 6 (by omega))
   have g7:=(hB.cell 7).trans (iI x 7 (by omega))
   have HL:=zh (pT x)
   generalize (nmb x).getD 0 0=b0 at *
   generalize (nmb x).getD 1 0=b1 at *
   generalize (nmb x).getD 2 0=b2 at *
   generalize (nmb x).getD 3 0=b3 at *
   generalize (nmb x).getD 4 0=b4 at *
   generalize (nmb x).getD 5 0=b5 at *
   generalize (nmb x).getD 6 0=b6 at *
   generalize (nmb x).getD 7 0=b7 at *
   go_wp2_with fail
   refine (tZ _ _ _ (33 :: (nmb x ++ [toB c,toB (p+k)])) _ ?hs (by omega)).mono ?_
   case hs=>rw [HL.out];exact SlB.new (by simp) [33,b0,b1,b2,b3,b4,b5,b6,b7,toB c,toB (p+k)] (by simp [bcs,bv,← bT]) (by simp)
   rintro e w3 ⟨rfl,he3⟩
   have hE3:=Ext.trans ((Ext.refl wr).alloc' _) he3
   have hB3:=hB.ext hE3
   have hZ3:=hZ.ext hE3
   clear g0 g1 g2 g3 g4 g5 g6 g7
   go_wp2_with (with_reducible refine wpList_store_mid rfl 30 _ _ rfl w.heap.size 0 (nmc (dO (33 :: (nmb x ++ [toB c,toB (p+k)])))) rfl rfl (aDW hB3 _) (eI _) (gG _) ?_)
   go_roundw
   case rel=>exact ⟨k+1,by omega,by go_num,by rw [HS.out];exact aHB hB3 _,hZ3.setCells_far (by omega) _ _,Below.setCells' (Ext.trans hE hE3) (Nat.le_refl _) _ _⟩
   case measure=>simp [intOf];omega
  have HK:=zh (show k=(q - p).toNat by omega)
  have HX:=zh (show cE v c p (q - p).toNat=cE v c p k by rw [← HK.out])
  generalize cE v c p k=x at *
  go_wp2_with (first | (refine wpList_load_row rfl 30 _ rfl _ rfl 30 _ (0,0) _ hB Tryz.underlying30 rfl (eI x) ?_) | (refine wpList_store_mid rfl 30 _ _ rfl (w.heap.size+1) 0 (nmc x) rfl rfl (lE hZ _) (eI _) (gG _) ?_))
  refine bodyPost_ret (v:=.agg (nmc x)) (eL rfl _ _ (w.heap.size+1) _ rfl (blkN hZ _)) rfl ⟨by rw [HX.out],Below.setCells' hE (by omega) _ _⟩
end
end Go.Proofs.YtohmmcahpakokaaGreat
