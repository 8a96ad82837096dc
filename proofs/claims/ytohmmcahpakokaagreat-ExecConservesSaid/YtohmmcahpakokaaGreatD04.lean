import Derived.DeepKeys
import Derived.Test.YtohmmcahpakokaaGreatD01
import Derived.Test.YtohmmcahpakokaaGreatD02
set_option maxRecDepth 100000
set_option maxHeartbeats 8000000
set_option linter.unusedVariables false
set_option linter.unusedSimpArgs false
namespace Go.Proofs.YtohmmcahpakokaaGreat
section
open Go.RowKit
attribute [local go_sem ↓] Go.wp_at_zero Go.wp_at_succ
def tagU (t:UInt8) (l:List UInt8):UInt64:=sumU (t :: l)
theorem hmk160 (w:World):(Instr.makeSlice 45 (.int .i64 0) (.int .i64 160)).run Tryz.prog w=.ok (.slice (some ⟨w.heap.size,0,none⟩) 0 160) (w.alloc (.cells (madeCells (Value.int .u8 0).cells 160) 5)):=by
 obtain ⟨i,hi,hz,hs,hby⟩:=bytesE.get
 have h:=run_make (P:=Tryz.prog) w 45 5 i (.int .u8 0) bytesE.ut hi hz .i64 .i64 0 160 (by omega) (by omega) (by rw [hby];omega) (by omega)
 simpa [hs] using h
theorem tagged_any (t:UInt8) (A:Option Addr) (n c:Nat) (l:List UInt8) (w:World) (h:SlB w A n c l) (hm:n < 140737488355328) :
  Calls Tryz.prog 109 #[.int .u8 (t.toNat:Int),.slice A n c] w fun e w'=>e=.returned (.agg (nmc (tagU t l)))∧Ext w w':=by
 have hmk:=hmk160
 go_enter Tryz.func109,Tryz.ntmps109
 go_wp2_with (at_builtin;go_must (refine wpList_appB bytesE rfl (.tmp 7) (.tmp 9) rfl (w.heap.size+1) _ _ _ [] rfl ((OwnB.made (w.alloc _) (w.heap.size+1) _ 160 (w.heap.size+1) (by simp) (Nat.le_refl _) (by omega) (size_madeCells _ _)).alloc _) _ _ _ [t] rfl ?r1 (by omega) ?b1 (w.alloc (.cells zcs.toArray 30)) ?w1 ?_))
 case r1=>exact SlB.new1 _ _ _ t _ (by simp) rfl
 case b1=>simp
 case w1=>exact Below.alloc (Below.alloc (Below.refl _ _) (by simp) _) (by simp) _
 intro A1 c1 w1 ho1 hw1 hs1
 have hsl:=h.ext (((Ext.refl w).alloc' _).trans (hw1.mono (by simp)))
 have hsz:w.heap.size+1≤w1.heap.size:=by omega
 go_wp2_with (at_builtin;refine wpList_appB bytesE rfl (.tmp 10) (.tmp 11) rfl (w.heap.size+1) _ _ _ [t] rfl ho1 _ _ _ l rfl hsl (by omega) hsz (w.alloc (.cells zcs.toArray 30)) hw1 ?_)
 intro A2 c2 w2 ho2 hw2 hs2
 go_wp2_with fail
 refine (sum_any _ _ _ _ _ ho2.sl (by omega)).mono ?_
 rintro e w3 ⟨rfl,he3⟩
 have hE3:Ext (w.alloc (.cells zcs.toArray 30)) w3:=by have:=Below.trans hw2 (he3.mono (B':=w.heap.size+1) (by omega));simpa [Ext] using this
 have hb0:Blk w3 w.heap.size 30 zcs.toArray:=(Blk.new w _ _).ext hE3
 go_wp2_with (refine wpList_store_mid rfl 30 _ _ rfl w.heap.size 0 (nmc (sumU ([t] ++ l))) rfl rfl (thereN hb0 _) (size61 _) (nmc_one _) ?_)
 refine bodyPost_ret (v:=.agg (nmc (sumU ([t] ++ l)))) (retN rfl _ _ w.heap.size _ rfl (blkN hb0 _)) rfl ⟨rfl,Below.setCells' (((Ext.refl w).alloc' _).trans hE3) (Nat.le_refl _) _ _⟩
theorem refTagged_any (t:UInt8) (A:Option Addr) (n c:Nat) (l:List UInt8) (w:World) (h:SlB w A n c l) (hm:n < 140737488355328) :
  Calls Tryz.prog 75 #[.int .u8 (t.toNat:Int),.slice A n c] w fun e w'=>e=.returned (.agg (nmc (tagU t l)))∧Ext w w':=by
 have hmk:=hmk160
 go_enter Tryz.func75,Tryz.ntmps75
 go_wp2_with (at_builtin;go_must (refine wpList_appB bytesE rfl (.tmp 5) (.tmp 7) rfl (w.heap.size+1) _ _ _ [] rfl ((OwnB.made (w.alloc _) (w.heap.size+1) _ 160 (w.heap.size+1) (by simp) (Nat.le_refl _) (by omega) (size_madeCells _ _)).alloc _) _ _ _ [t] rfl ?r1 (by omega) ?b1 (w.alloc (.cells zcs.toArray 30)) ?w1 ?_))
 case r1=>exact SlB.new1 _ _ _ t _ (by simp) rfl
 case b1=>simp
 case w1=>exact Below.alloc (Below.alloc (Below.refl _ _) (by simp) _) (by simp) _
 intro A1 c1 w1 ho1 hw1 hs1
 have hsl:=h.ext (((Ext.refl w).alloc' _).trans (hw1.mono (by simp)))
 have hsz:w.heap.size+1≤w1.heap.size:=by omega
 go_wp2_with (at_builtin;refine wpList_appB bytesE rfl (.tmp 8) (.tmp 9) rfl (w.heap.size+1) _ _ _ [t] rfl ho1 _ _ _ l rfl hsl (by omega) hsz (w.alloc (.cells zcs.toArray 30)) hw1 ?_)
 intro A2 c2 w2 ho2 hw2 hs2
 go_wp2_with fail
 refine (refSum_any _ _ _ _ _ ho2.sl (by omega)).mono ?_
 rintro e w3 ⟨rfl,he3⟩
 have hE3:Ext (w.alloc (.cells zcs.toArray 30)) w3:=by have:=Below.trans hw2 (he3.mono (B':=w.heap.size+1) (by omega));simpa [Ext] using this
 have hb0:Blk w3 w.heap.size 30 zcs.toArray:=(Blk.new w _ _).ext hE3
 go_wp2_with (refine wpList_store_mid rfl 30 _ _ rfl w.heap.size 0 (nmc (sumU ([t] ++ l))) rfl rfl (thereN hb0 _) (size61 _) (nmc_one _) ?_)
 refine bodyPost_ret (v:=.agg (nmc (sumU ([t] ++ l)))) (retN rfl _ _ w.heap.size _ rfl (blkN hb0 _)) rfl ⟨rfl,Below.setCells' (((Ext.refl w).alloc' _).trans hE3) (Nat.le_refl _) _ _⟩
def z16:List Value:=List.replicate 16 (.int .u8 0)
theorem pair_splice (x y:UInt64):(splice (splice z16 0 (bcs (nmb x))) 8 (bcs (nmb y))).toArray=(bcs (nmb x ++ nmb y)).toArray:=by
 have h1:=nL x
 have h2:=nL y
 simp only [splice,z16,List.take_zero,List.nil_append,bL,h1,h2,Nat.zero_add,List.drop_replicate,bcs_append]
 rw [List.take_append_of_le_length (by rw [bL,h1];omega),List.take_of_length_le (by rw [bL,h1];omega),List.drop_eq_nil_of_le (by simp [bL,h1])]
 simp
theorem pair_splice_len (x:UInt64):(splice z16 0 (bcs (nmb x))).length=16:=by
 rw [length_splice _ _ _ (by rw [bL,nL];simp [z16])];simp [z16]
def pairU (t:UInt8) (x y:UInt64):UInt64:=tagU t (nmb x ++ nmb y)
theorem pair_any (t:UInt8) (x y:UInt64) (w:World) :
  Calls Tryz.prog 265 #[.int .u8 (t.toNat:Int),.agg (nmc x),.agg (nmc y)] w fun e w'=>e=.returned (.agg (nmc (pairU t x y)))∧Ext w w':=by
 go_enter Tryz.func265,Tryz.ntmps265
 go_wp2_with fail
 go_still_tail 2,(by kernel_rfl)
 change wpList _ _ _ _ _ (World.drew _)
 refine wpList_copy_splice rfl _ _ _ _ rfl 5 Tryz.underlying45 (by kernel_rfl) _ _ _ _ _ _ rfl rfl (w.heap.size+3) 0 z16 248 ?g1 (bcs (nmb x)) ?c1 ?c2 ?c3 (bcs_one _) (w.heap.size+3) (((w.alloc (.cells (nmc x) 30)).alloc (.cells (nmc y) 30)).alloc (.cells zcs.toArray 30)) ?b1 (Nat.le_refl _) ?_
 case g1=>exact (Blk.newAt (((w.alloc (.cells (nmc x) 30)).alloc (.cells (nmc y) 30)).alloc (.cells zcs.toArray 30)) 248 z16.toArray (w.heap.size+3) (by simp)).drew
 case c1=>rw [bL,nL];rfl
 case c2 =>
  intro _
  refine ⟨rfl,_,rfl,fun j v hv=>?_⟩
  rw [Addr.add_mid]
  exact rB ((((Blk.new w _ (nmc x)).alloc _).alloc _).alloc _).drew j v (by rw [nmc_toList];exact hv)
 case c3=>rw [bL,nL];decide
 case b1=>exact (Below.alloc (Below.refl _ _) (by simp) _).drew
 intro w1 hb1 hw1
 have hy1:Blk w1 (w.heap.size+1) 30 (nmc y):=by
  have:=((Blk.new (w.alloc (.cells (nmc x) 30)) 30 (nmc y)).alloc (.cells zcs.toArray 30)).below hw1 (by simp)
  simpa using this
 go_wp2_with fail
 go_still_tail 2,(by kernel_rfl)
 change wpList _ _ _ _ _ (World.drew _)
 refine wpList_copy_splice rfl _ _ _ _ rfl 5 Tryz.underlying45 (by kernel_rfl) _ _ _ _ _ _ rfl rfl (w.heap.size+3) 8 (splice z16 0 (bcs (nmb x))) 248 ?g1 (bcs (nmb y)) ?c1 ?c2 ?c3 (bcs_one _) (w.heap.size+3) (((w.alloc (.cells (nmc x) 30)).alloc (.cells (nmc y) 30)).alloc (.cells zcs.toArray 30)) ?b1 (Nat.le_refl _) ?_
 case g1=>exact hb1.out
 case c1=>rw [bL,nL];rfl
 case c2 =>
  intro _
  refine ⟨rfl,_,rfl,fun j v hv=>?_⟩
  rw [Addr.add_mid]
  exact rB hy1.drew j v (by rw [nmc_toList];exact hv)
 case c3=>rw [bL,nL,pair_splice_len];decide
 case b1=>exact hw1.drew
 intro w2 hb2 hw2
 have hb3:Blk w2 (w.heap.size+3) 248 (bcs (nmb x ++ nmb y)).toArray:=by rw [← pair_splice];exact hb2.out
 have hl16:(nmb x ++ nmb y).length=16:=by rw [List.length_append,nL,nL]
 have hsl:SlB w2 (some ⟨w.heap.size+3,0,none⟩) 16 16 (nmb x ++ nmb y):=⟨hl16,by omega,by omega,by have:=Rd.of_blk hb3;simpa using this⟩
 go_wp2_with fail
 refine (tagged_any t _ _ _ _ _ hsl (by omega)).mono ?_
 rintro e w3 ⟨rfl,he3⟩
 have hsz2:=hb3.lt
 have hE3:Below (w.heap.size+3) (((w.alloc (.cells (nmc x) 30)).alloc (.cells (nmc y) 30)).alloc (.cells zcs.toArray 30)) w3:=Below.trans hw2 (he3.mono (by omega))
 have hb0:Blk w3 (w.heap.size+2) 30 zcs.toArray:=by
  have:=(Blk.new ((w.alloc (.cells (nmc x) 30)).alloc (.cells (nmc y) 30)) 30 zcs.toArray).below hE3 (by simp)
  simpa using this
 go_wp2_with (refine wpList_store_mid rfl 30 _ _ rfl (w.heap.size+2) 0 (nmc (tagU t (nmb x ++ nmb y))) rfl rfl (thereN hb0 _) (size61 _) (nmc_one _) ?_)
 refine bodyPost_ret (v:=.agg (nmc (tagU t (nmb x ++ nmb y)))) (retN rfl _ _ (w.heap.size+2) _ rfl (blkN hb0 _)) rfl ⟨rfl,Below.setCells' (((((Ext.refl w).alloc' _).alloc' _).alloc' _).trans (by simpa [Ext] using hE3)) (by omega) _ _⟩
theorem refPair_any (t:UInt8) (x y:UInt64) (w:World) :
  Calls Tryz.prog 195 #[.int .u8 (t.toNat:Int),.agg (nmc x),.agg (nmc y)] w fun e w'=>e=.returned (.agg (nmc (pairU t x y)))∧Ext w w':=by
 go_enter Tryz.func195,Tryz.ntmps195
 go_wp2_with fail
 have own1:OwnB (((((w.alloc (.cells (nmc x) 30)).alloc (.cells (nmc y) 30)).alloc (.cells zcs.toArray 30)).alloc (.cells #[] 5)).drew) (w.heap.size+3) 5 (some ⟨w.heap.size+3,0,none⟩) 0 0 []:=(OwnB.made _ _ _ 0 _ (by simp) (Nat.le_refl _) (by omega) (by simp)).drew
 have r1:SlB (((((w.alloc (.cells (nmc x) 30)).alloc (.cells (nmc y) 30)).alloc (.cells zcs.toArray 30)).alloc (.cells #[] 5)).drew) (some ⟨w.heap.size,0,none⟩) 8 8 (nmb x):=SlB.blkN ((((Blk.new w _ (nmc x)).alloc _).alloc _).alloc _).drew
 have b1:Below (w.heap.size+3) (((w.alloc (.cells (nmc x) 30)).alloc (.cells (nmc y) 30)).alloc (.cells zcs.toArray 30)) (((((w.alloc (.cells (nmc x) 30)).alloc (.cells (nmc y) 30)).alloc (.cells zcs.toArray 30)).alloc (.cells #[] 5)).drew):=(Below.alloc (Below.refl _ _) (by simp) _).drew
 have hy:Blk (((w.alloc (.cells (nmc x) 30)).alloc (.cells (nmc y) 30)).alloc (.cells zcs.toArray 30)) (w.heap.size+1) 30 (nmc y):=(Blk.newAt (w.alloc (.cells (nmc x) 30)) 30 (nmc y) (w.heap.size+1) (by simp)).alloc _
 have hz:Blk (((w.alloc (.cells (nmc x) 30)).alloc (.cells (nmc y) 30)).alloc (.cells zcs.toArray 30)) (w.heap.size+2) 30 zcs.toArray:=Blk.newAt ((w.alloc (.cells (nmc x) 30)).alloc (.cells (nmc y) 30)) 30 zcs.toArray (w.heap.size+2) (by simp)
 go_region_held3 (fun _=>True) (trivial) (first | (refine step_appB bytesE rfl (.tmp 8) (.tmp 9) rfl (w.heap.size+3) _ _ _ [] (by rfl) own1 _ _ _ (nmb x) (by rfl) r1 (by omega) (by simp) (((w.alloc (.cells (nmc x) 30)).alloc (.cells (nmc y) 30)).alloc (.cells zcs.toArray 30)) b1 ?_;intro A1 c1 w1 ho1 hw1 hs1) | (refine step_appB bytesE rfl (.tmp 10) (.tmp 11) rfl (w.heap.size+3) _ _ _ (nmb x) (by rfl) ho1 _ _ _ (nmb y) (by rfl) (SlB.blkN (hy.below hw1 (by omega))) (by omega) (by have:=hs1;simp at this;omega) (((w.alloc (.cells (nmc x) 30)).alloc (.cells (nmc y) 30)).alloc (.cells zcs.toArray 30)) hw1 ?_;intro A2 c2 w2 ho2 hw2 hs2) | (go_at_call 75;refine (refTagged_any t _ _ _ _ _ ho2.sl (by omega)).mono ?_;rintro e w3 ⟨rfl,he3⟩;have hw3:=Below.trans hw2 (he3.mono (by have:=hs1;simp at this;omega));have hz3:=hz.below hw3 (by omega);have hst:=run_storeN hz3 (tagU t (nmb x ++ nmb y))))
 go_wp2_with fail
 refine bodyPost_ret (v:=.agg (nmc (tagU t (nmb x ++ nmb y)))) (retN rfl _ _ (w.heap.size+2) _ rfl (blkN hz3 _)) rfl ⟨rfl,Below.setCells' (((((Ext.refl w).alloc' _).alloc' _).alloc' _).trans (by simpa [Ext] using hw3)) (by omega) _ _⟩
theorem refStart_any (x:UInt64) (k:Int) (w:World) :
  Calls Tryz.prog 199 #[.agg (nmc x),.int .i64 k] w fun e w'=>e=.returned (.agg (nmc (tagU 32 (nmb x ++ [toB k]))))∧Ext w w':=by
 go_enter Tryz.func199,Tryz.ntmps199
 go_wp2_with (at_builtin;go_must (refine wpList_appB bytesE rfl (.tmp 5) (.tmp 6) rfl (w.heap.size+2) _ _ _ [] rfl ?o1 _ _ _ (nmb x) rfl ?r1 ?n1 ?b1 ((w.alloc (.cells (nmc x) 30)).alloc (.cells zcs.toArray 30)) ?w1 ?_))
 case o1=>exact OwnB.made _ _ _ 0 _ (by simp) (Nat.le_refl _) (by omega) (by simp)
 case r1=>exact SlB.blkN (((Blk.new w _ (nmc x)).alloc _).alloc _)
 case n1=>omega
 case b1=>simp
 case w1=>exact Below.alloc (Below.refl _ _) (by simp) _
 intro A1 c1 w1 ho1 hw1 hs1
 have hsz:w.heap.size+2≤w1.heap.size:=by omega
 go_wp2_with (at_builtin;go_must (refine wpList_appB bytesE rfl (.tmp 7) (.tmp 10) rfl (w.heap.size+2) _ _ _ (nmb x) rfl (ho1.alloc _) _ _ _ [toB k] rfl ?r1 (by omega) ?b1 ((w.alloc (.cells (nmc x) 30)).alloc (.cells zcs.toArray 30)) ?w1 ?_))
 case r1=>exact SlB.new1 _ _ _ (toB k) _ rfl (toB_eq k)
 case b1=>simp;omega
 case w1=>exact Below.alloc hw1 hsz _
 intro A2 c2 w2 ho2 hw2 hs2
 have hsz2:w.heap.size+2≤w2.heap.size:=by omega
 go_wp2_with fail
 refine (refTagged_any 32 _ _ _ _ _ ho2.sl (by omega)).mono ?_
 rintro e w3 ⟨rfl,he3⟩
 have hE3:Below (w.heap.size+2) ((w.alloc (.cells (nmc x) 30)).alloc (.cells zcs.toArray 30)) w3:=Below.trans hw2 (he3.mono (by omega))
 have hb0:Blk w3 (w.heap.size+1) 30 zcs.toArray:=(Blk.newAt (w.alloc (.cells (nmc x) 30)) 30 zcs.toArray (w.heap.size+1) (by simp)).below hE3 (by omega)
 go_wp2_with (refine wpList_store_mid rfl 30 _ _ rfl (w.heap.size+1) 0 (nmc (tagU 32 (nmb x ++ [toB k]))) rfl rfl (thereN hb0 _) (size61 _) (nmc_one _) ?_)
 refine bodyPost_ret (v:=.agg (nmc (tagU 32 (nmb x ++ [toB k])))) (retN rfl _ _ (w.heap.size+1) _ rfl (blkN hb0 _)) rfl ⟨rfl,Below.setCells' ((((Ext.refl w).alloc' _).alloc' _).trans (by simpa [Ext] using hE3)) (by omega) _ _⟩
def chainTo (v:UInt64) (c p:Int):Nat→UInt64
 | 0=>v
 | k+1=>tagU 33 (nmb (chainTo v c p k) ++ [toB c,toB (p+k)])
theorem blkN' {w:World} {g:Nat} {t:TypeId} {n:UInt64} (h:Blk w g t (nmc n)) (r:UInt64):Blk (w.setCells g 0 (nmc r).toList) g t (nmc r):=bW h (by rw [nmc_size,nmc_size])
theorem thereN' {w:World} {g:Nat} {t:TypeId} {n:UInt64} (h:Blk w g t (nmc n)) (r:UInt64):w.there g 0 (nmc r).size:=by rw [nmc_size];have:=tB h;rwa [nmc_size] at this
theorem Blk.setCells_far {w:World} {g g':Nat} {t:TypeId} {cs:Array Value} (h:Blk w g t cs) (hne:g ≠ g') (vs:List Value):∀ o,Blk (w.setCells g' o vs) g t cs:=by
 induction vs generalizing w with
 | nil=>intro o;exact h
 | cons v r ih=>intro o;exact ih (h.far (p:=⟨g',o,none⟩) hne v) (o+1)
theorem walk_any (v:UInt64) (c p q:Int) (w:World) (hp:0≤p) (hp2:p≤1000) (hq:-1000≤q) (hq2:q≤1000) :
  Calls Tryz.prog 255 #[.agg (nmc v),.int .i64 c,.int .i64 p,.int .i64 q] w fun e w'=>e=.returned (.agg (nmc (chainTo v c p (q - p).toNat)))∧Ext w w':=by
 go_enter Tryz.func255,Tryz.ntmps255
 go_wp2_with fail
 go_loopw [13] (fun i wr=>∃ k:Nat,k≤(q - p).toNat∧i=.int .i64 (k:Int)∧Blk wr w.heap.size 30 (nmc (chainTo v c p k))∧Blk wr (w.heap.size+1) 30 zcs.toArray∧Ext w wr) (fun i _=>(q - p).toNat - (intOf i).toNat)
 case atStart=>exact ⟨0,by omega,rfl,(Blk.new w _ _).alloc _,Blk.newAt _ _ _ _ (by simp),((Ext.refl w).alloc' _).alloc' _⟩
 case round =>
  obtain ⟨k,hk,rfl,hB,hZ,hE⟩:=hrel
  by_cases hlt:(k:Int) < q - p
  ·have HS := zh (show chainTo v c p (k + 1) = tagU 33 (nmb (chainTo v c p k) ++ [toB c, toB (p + k)]) from rfl)
   generalize chainTo v c p k=x at *
   go_wp2_with (at_builtin;go_must (refine wpList_growB bytesE rfl (.tmp 16) (.tmp 23) rfl _ _ _ (nmb x) rfl ?o1 ?n1 _ _ _ [toB c,toB (p+k)] rfl ?r1 ?m1 ?g1 ?b1 ?_))
   case o1=>exact SlB.blkN (hB.alloc _)
   case n1=>omega
   case r1=>exact SlB.new2 _ _ _ _ _ _ _ (by simp) (toB_eq _) (toB_eq _)
   case m1=>omega
   case g1=>omega
   case b1=>omega
   intro A2 c2 w2 ho2 he2
   have hE2:=Ext.trans ((Ext.refl wr).alloc' _) he2
   go_wp2_with fail
   refine (tagged_any 33 _ _ _ _ _ ho2.sl (by omega)).mono ?_
   rintro e w3 ⟨rfl,he3⟩
   have hE3:=Ext.trans hE2 he3
   have hB3:=hB.ext hE3
   have hZ3:=hZ.ext hE3
   go_wp2_with (with_reducible refine wpList_store_mid rfl 30 _ _ rfl w.heap.size 0 (nmc (tagU 33 (nmb x ++ [toB c,toB (p+k)]))) rfl rfl (thereN' hB3 _) (size61 _) (nmc_one _) ?_)
   go_roundw
   case rel=>exact ⟨k+1,by omega,by go_num,by rw [HS.out];exact blkN' hB3 _,hZ3.setCells_far (by omega) _ _,Below.setCells' (Ext.trans hE hE3) (Nat.le_refl _) _ _⟩
   case measure=>simp [intOf];omega
  have HK:=zh (show k=(q - p).toNat by omega)
  have HX:=zh (show chainTo v c p (q - p).toNat=chainTo v c p k by rw [← HK.out])
  generalize chainTo v c p k=x at *
  go_wp2_with (first | (refine wpList_load_row rfl 30 _ rfl _ rfl 30 _ (0,0) _ hB Tryz.underlying30 rfl (size61 x) ?_) | (refine wpList_store_mid rfl 30 _ _ rfl (w.heap.size+1) 0 (nmc x) rfl rfl (thereN hZ _) (size61 _) (nmc_one _) ?_))
  refine bodyPost_ret (v:=.agg (nmc x)) (retN rfl _ _ (w.heap.size+1) _ rfl (blkN hZ _)) rfl ⟨by rw [HX.out],Below.setCells' hE (by omega) _ _⟩
theorem nmc_get (n:UInt64) (k:Nat) (hk:k < 8):(nmc n)[k]?=some (.int .u8 (((nmb n).getD k 0).toNat:Int)):=by
 have hl:=nL n
 simp [nmc,bcs,bv,hl,hk]
theorem nmb_list (n:UInt64):nmb n=[(nmb n).getD 0 0,(nmb n).getD 1 0,(nmb n).getD 2 0,(nmb n).getD 3 0,(nmb n).getD 4 0,(nmb n).getD 5 0,(nmb n).getD 6 0,(nmb n).getD 7 0]:=by
 have hl:=nL n
 match h:nmb n,hl with
 | [a,b,c,d,e,f,g,i],_=>rfl
theorem refChain_any (v:UInt64) (c p q:Int) (w:World) (hp:0≤p) (hp2:p≤1000) (hq:-1000≤q) (hq2:q≤1000) :
  Calls Tryz.prog 198 #[.agg (nmc v),.int .i64 c,.int .i64 p,.int .i64 q] w fun e w'=>e=.returned (.agg (nmc (chainTo v c p (q - p).toNat)))∧Ext w w':=by
 go_enter Tryz.func198,Tryz.ntmps198
 go_wp2_with fail
 go_loopw [9] (fun i wr=>∃ k:Nat,k≤(q - p).toNat∧i=.int .i64 (p+k)∧Blk wr w.heap.size 30 (nmc (chainTo v c p k))∧Blk wr (w.heap.size+1) 30 zcs.toArray∧Ext w wr) (fun i _=>(q - intOf i).toNat)
 case atStart=>exact ⟨0,by omega,by simp,(Blk.new w _ _).alloc _,Blk.newAt _ _ _ _ (by simp),((Ext.refl w).alloc' _).alloc' _⟩
 case round =>
  obtain ⟨k,hk,rfl,hB,hZ,hE⟩:=hrel
  by_cases hlt:p+(k:Int) < q
  ·have HS := zh (show chainTo v c p (k + 1) = sumU (33 :: (nmb (chainTo v c p k) ++ [toB c, toB (p + k)])) from rfl)
   generalize chainTo v c p k=x at *
   have g0:=(hB.cell 0).trans (nmc_get x 0 (by omega))
   have g1:=(hB.cell 1).trans (nmc_get x 1 (by omega))
   have g2:=(hB.cell 2).trans (nmc_get x 2 (by omega))
   have g3:=(hB.cell 3).trans (nmc_get x 3 (by omega))
   have g4:=(hB.cell 4).trans (nmc_get x 4 (by omega))
   have g5:=(hB.cell 5).trans (nmc_get x 5 (by omega))
   have g6:=(hB.cell 6).trans (nmc_get x 6 (by omega))
   have g7:=(hB.cell 7).trans (nmc_get x 7 (by omega))
   have HL:=zh (nmb_list x)
   generalize (nmb x).getD 0 0=b0 at *
   generalize (nmb x).getD 1 0=b1 at *
   generalize (nmb x).getD 2 0=b2 at *
   generalize (nmb x).getD 3 0=b3 at *
   generalize (nmb x).getD 4 0=b4 at *
   generalize (nmb x).getD 5 0=b5 at *
   generalize (nmb x).getD 6 0=b6 at *
   generalize (nmb x).getD 7 0=b7 at *
   go_wp2_with fail
   refine (refSum_any _ _ _ (33 :: (nmb x ++ [toB c,toB (p+k)])) _ ?hs (by omega)).mono ?_
   case hs=>rw [HL.out];exact SlB.new (by simp) [33,b0,b1,b2,b3,b4,b5,b6,b7,toB c,toB (p+k)] (by simp [bcs,bv,← toB_eq]) (by simp)
   rintro e w3 ⟨rfl,he3⟩
   have hE3:=Ext.trans ((Ext.refl wr).alloc' _) he3
   have hB3:=hB.ext hE3
   have hZ3:=hZ.ext hE3
   clear g0 g1 g2 g3 g4 g5 g6 g7
   go_wp2_with (with_reducible refine wpList_store_mid rfl 30 _ _ rfl w.heap.size 0 (nmc (sumU (33 :: (nmb x ++ [toB c,toB (p+k)])))) rfl rfl (thereN' hB3 _) (size61 _) (nmc_one _) ?_)
   go_roundw
   case rel=>exact ⟨k+1,by omega,by go_num,by rw [HS.out];exact blkN' hB3 _,hZ3.setCells_far (by omega) _ _,Below.setCells' (Ext.trans hE hE3) (Nat.le_refl _) _ _⟩
   case measure=>simp [intOf];omega
  have HK:=zh (show k=(q - p).toNat by omega)
  have HX:=zh (show chainTo v c p (q - p).toNat=chainTo v c p k by rw [← HK.out])
  generalize chainTo v c p k=x at *
  go_wp2_with (first | (refine wpList_load_row rfl 30 _ rfl _ rfl 30 _ (0,0) _ hB Tryz.underlying30 rfl (size61 x) ?_) | (refine wpList_store_mid rfl 30 _ _ rfl (w.heap.size+1) 0 (nmc x) rfl rfl (thereN hZ _) (size61 _) (nmc_one _) ?_))
  refine bodyPost_ret (v:=.agg (nmc x)) (retN rfl _ _ (w.heap.size+1) _ rfl (blkN hZ _)) rfl ⟨by rw [HX.out],Below.setCells' hE (by omega) _ _⟩
def ncs (ns:List UInt64):List Value:=ns.flatMap fun n=>bcs (nmb n)
theorem ncs_nil:ncs []=[]:=rfl
theorem ncs_cons (n:UInt64) (r:List UInt64):ncs (n :: r)=bcs (nmb n) ++ ncs r:=by simp [ncs]
theorem ncs_append (a b:List UInt64):ncs (a ++ b)=ncs a ++ ncs b:=by simp [ncs]
theorem ncs_length (ns:List UInt64):(ncs ns).length=ns.length * 8:=by
 induction ns with
 | nil=>rfl
 | cons n r ih=>rw [ncs_cons,List.length_append,bL,nL,ih,List.length_cons];omega
theorem ncs_bytes (ns:List UInt64):ncs ns=bcs (ns.flatMap nmb):=by
 induction ns with
 | nil=>rfl
 | cons n r ih=>rw [ncs_cons,ih,← bcs_append];rfl
theorem ncs_one (ns:List UInt64):∀ u ∈ ncs ns,u.oneCell'=true:=by rw [ncs_bytes];exact bcs_one _
theorem ncs_drop (ns:List UInt64) (k:Nat):(ncs ns).drop (k * 8)=ncs (ns.drop k):=by
 induction k generalizing ns with
 | zero=>simp
 | succ k ih =>
  cases ns with
  | nil=>simp [ncs]
  | cons n r =>
   rw [ncs_cons,List.drop_succ_cons,← ih r,show (k+1) * 8=(bcs (nmb n)).length+k * 8 from by rw [bL,nL];omega,List.drop_append,List.drop_of_length_le (by omega)]
   simp
theorem ncs_take (ns:List UInt64) (k:Nat):(ncs ns).take (k * 8)=ncs (ns.take k):=by
 induction k generalizing ns with
 | zero=>simp [ncs]
 | succ k ih =>
  cases ns with
  | nil=>simp [ncs]
  | cons n r =>
   rw [ncs_cons,List.take_succ_cons,ncs_cons,← ih r,show (k+1) * 8=(bcs (nmb n)).length+k * 8 from by rw [bL,nL];omega,List.take_append,List.take_of_length_le (by omega)]
   simp
structure SlN (w:World) (A:Option Addr) (n c:Nat) (ns:List UInt64):Prop where
 len:ns.length=n
 le:n≤c
 cap:c≤9223372036854775807
 rd:Rd w A (ncs ns)
section
variable {w w':World} {A:Option Addr} {n c:Nat} {ns:List UInt64}
theorem SlN.ext (h:SlN w A n c ns) (e:Ext w w'):SlN w' A n c ns:=⟨h.len,h.le,h.cap,h.rd.ext e⟩
theorem SlN.at (h:SlN w A n c ns) (hn:0 < n):∃ b o,A=some ⟨b,o,none⟩∧w.rangeAt b o (ncs ns)∧b < w.heap.size :=
 h.rd.at (by intro e;have:=congrArg List.length e;rw [ncs_length,h.len] at this;simp at this;omega)
theorem ncs_one_at {k:Nat} (hk:k < ns.length):((ncs ns).drop (k * 8)).take 8=bcs (nmb (ns.getD k 0)):=by
 have e:ns[k]=ns.getD k 0:=by simp [hk]
 rw [ncs_drop,List.drop_eq_getElem_cons hk,ncs_cons,List.take_append_of_le_length (by rw [bL,nL];exact Nat.le_refl _),List.take_of_length_le (by rw [bL,nL];exact Nat.le_refl _),e]
theorem name_at {b o k:Nat} (h:w.rangeAt b o (ncs ns)) (hk:k < ns.length):w.rangeAt b (o+k * 8) (bcs (nmb (ns.getD k 0))):=by
 have h1:=rT (k:=8) (rangeAt_drop (k:=k * 8) h)
 rwa [ncs_one_at hk] at h1
theorem SlN.cut (h:SlN w A n c ns) {k:Nat} (hk:k≤n) (hkc:k < c):SlN w (A.map (·.add (k * 8))) (n - k) (c - k) (ns.drop k):=by
 refine ⟨by rw [List.length_drop,h.len],by have:=h.le;omega,by have:=h.cap;omega,?_⟩
 have:=h.rd.cut (n:=n) (k:=k) (c:=c) (size:=8) (by rw [ncs_length,h.len]) hk h.le
 rw [if_neg (by omega),ncs_drop] at this
 exact this
theorem SlN.upto (h:SlN w A n c ns) {k:Nat} (hk:k≤n):SlN w A k c (ns.take k):=by
 refine ⟨by rw [List.length_take,h.len];omega,by have:=h.le;omega,h.cap,?_⟩
 have:=h.rd.take (k * 8)
 rwa [ncs_take] at this
theorem SlN.of_own {base:Nat} {e:TypeId} (h:w.ownsRow base e 8 (.slice A n c) n (ncs ns)):SlN w A n c ns:=by
 have hl:ns.length=n:=by have:=h.1;rw [ncs_length] at this;omega
 exact ⟨hl,(own_cap h).1,(own_cap h).2,Rd.of_own h⟩
theorem SlN.of_blk {g:Nat} {t:TypeId} (h:Blk w g t (ncs ns).toArray) (hn:ns.length=n) (hc:n≤9223372036854775807):SlN w (some ⟨g,0,none⟩) n n ns :=
 ⟨hn,Nat.le_refl _,hc,by have:=Rd.of_blk h;simpa using this⟩
end
theorem namesE:Elem Tryz.prog 37 30 (.agg zcs.toArray) 8 8:=⟨Tryz.underlying37,by kernel_rfl,rfl,by decide⟩
theorem foldl_splice (cs vs:List Value) (o:Nat) (h:o+vs.length≤cs.length):((vs.zipIdx 0).foldl (fun a p=>a.setIfInBounds (o+p.2) p.1) cs.toArray)=(cs.take o ++ vs ++ cs.drop (o+vs.length)).toArray:=by
 apply Array.ext_getElem?
 intro j
 rw [foldl_set_get]
 simp only [List.getElem?_toArray,List.size_toArray,Nat.add_zero]
 have ht:(cs.take o).length=o:=by rw [List.length_take];omega
 by_cases h1:j < o
 ·rw [if_neg (by omega),List.append_assoc,List.getElem?_append_left (by rw [ht];exact h1),List.getElem?_take,if_pos h1]
 by_cases h2:j < o+vs.length
 ·rw [if_pos ⟨by omega,h2,by omega⟩,List.getElem?_append_left (by rw [List.length_append,ht];exact h2),List.getElem?_append_right (by rw [ht];omega),ht]
 rw [if_neg (by omega),List.getElem?_append_right (by rw [List.length_append,ht];omega),List.length_append,ht,List.getElem?_drop]
 congr 1;omega
theorem blk_name {w:World} {g k:Nat} {t:TypeId} {ns:List UInt64} (h:Blk w g t (ncs ns).toArray) (hk:k < ns.length) (n:UInt64):Blk (w.setCells g (k * 8) (nmc n).toList) g t (ncs (ns.set k n)).toArray:=by
 have h1:=blk_setCells (o:=k * 8) (vs:=(nmc n).toList) h
 have hl8:(nmc n).toList.length=8:=by rw [nmc_toList,bL,nL]
 rw [foldl_splice _ _ _ (by rw [hl8,ncs_length];omega),hl8,ncs_take,show k * 8+8=(k+1) * 8 from by omega,ncs_drop,nmc_toList,List.append_assoc,← ncs_cons,← ncs_append] at h1
 have hs:ns.set k n=ns.take k ++ n :: ns.drop (k+1):=by rw [List.set_eq_take_append_cons_drop,if_pos hk]
 rw [hs,nmc_toList]
 exact h1
theorem there_blk {w:World} {g o m:Nat} {t:TypeId} {cs:Array Value} (h:Blk w g t cs) (hm:o+m≤cs.size):w.there g o m:=fun j hj=>by
 exact ⟨by rw [h.cell (o+j)];simp;omega,h.frozen (o+j)⟩
def tabN (F:Nat→UInt64) (m k:Nat):List UInt64:=(List.range k).map F ++ List.replicate (m - k) 0
theorem tabN_length (F:Nat→UInt64) (m k:Nat) (h:k≤m):(tabN F m k).length=m:=by simp [tabN];omega
theorem tabN_set (F:Nat→UInt64) (m k:Nat) (h:k < m):(tabN F m k).set k (F k)=tabN F m (k+1):=by
 unfold tabN
 rw [List.range_succ,List.map_append,List.set_append_right _ _ (by simp),show m - k=(m - (k+1))+1 from by omega,List.replicate_succ]
 simp
theorem tabN_full (F:Nat→UInt64) (m:Nat):tabN F m m=(List.range m).map F:=by simp [tabN]
theorem nmb_zero:nmb 0=List.replicate 8 0:=by decide
theorem made_names (m:Nat):madeCells (Value.agg zcs.toArray).cells (m * 8)=(ncs (List.replicate m 0)).toArray:=by
 have h:ncs (List.replicate m 0)=List.replicate (m * 8) (.int .u8 0):=by
  rw [ncs_bytes]
  have:(List.replicate m (0:UInt64)).flatMap nmb=List.replicate (m * 8) 0:=by
   rw [List.flatMap_replicate,nmb_zero,List.flatten_replicate_replicate]
  rw [this];simp [bcs,bv]
 rw [h]
 apply Array.ext_getElem?
 intro i
 have h8:zcs.length=8:=rfl
 have hz:∀ j,j < 8→zcs.toArray[j]! = .int .u8 0:=by
  intro j hj
  match j,hj with
  | 0,_ | 1,_ | 2,_ | 3,_ | 4,_ | 5,_ | 6,_ | 7,_=>rfl
 simp only [madeCells,Value.cells]
 by_cases hi:i < m * 8
 ·have h9 := hz (i % 8) (by omega)
  simp [hi,h8]
  simpa using h9
 simp [hi]
end
section
open Go.RowKit
theorem fold_arr (ds cs:Array Value) (o:Nat):ds.zipIdx.foldl (fun cs (x:Value × Nat)=>cs.setIfInBounds (o+x.2) x.1) cs=(ds.toList.zipIdx 0).foldl (fun a p=>a.setIfInBounds (o+p.2) p.1) cs:=by
 rw [← Array.foldl_toList,Array.toList_zipIdx]
theorem fold_whole (ds cs:Array Value) (h:ds.size=cs.size):(ds.toList.zipIdx 0).foldl (fun a p=>a.setIfInBounds (0+p.2) p.1) cs=ds:=by
 apply Array.ext_getElem?
 intro j
 rw [foldl_set_get]
 by_cases hj:j < ds.size
 ·rw [if_pos (by simp;omega)];simp
 rw [if_neg (by simp;omega),Array.getElem?_eq_none (by omega),Array.getElem?_eq_none (by omega)]
@[go_sem] theorem fold_nmc (n:UInt64) (Z:Array Value) (hZ:Z.size=8):Array.foldl (fun cs x=>cs.setIfInBounds x.snd x.fst) Z (nmc n).zipIdx 0 (nmc n).size=nmc n:=by
 have h:=fold_arr (nmc n) Z 0
 rw [fold_whole _ _ (by rw [nmc_size,hZ])] at h
 simpa using h
@[go_sem] theorem fold_nmc8 (n:UInt64) (Z:Array Value) (hZ:Z.size=8):Array.foldl (fun cs x=>cs.setIfInBounds x.snd x.fst) Z (nmc n).zipIdx 0 8=nmc n:=by
 have h:=fold_nmc n Z hZ
 rwa [nmc_size] at h
attribute [go_sem] nmc_size
def nb8 (n:UInt64) (i:Nat):Int:=(((nmb n).getD i 0).toNat:Int)
theorem nmc_nb8 (n:UInt64):#[.int .u8 (nb8 n 0),.int .u8 (nb8 n 1),.int .u8 (nb8 n 2),.int .u8 (nb8 n 3),.int .u8 (nb8 n 4),.int .u8 (nb8 n 5),.int .u8 (nb8 n 6),.int .u8 (nb8 n 7)]=nmc n:=by
 unfold nmc nb8
 rw [show bcs (nmb n)=bcs [(nmb n).getD 0 0,(nmb n).getD 1 0,(nmb n).getD 2 0,(nmb n).getD 3 0,(nmb n).getD 4 0,(nmb n).getD 5 0,(nmb n).getD 6 0,(nmb n).getD 7 0] from congrArg bcs (nmb_list n)]
 rfl
attribute [go_sem] nmc_nb8
theorem cells8 {w:World} {g:Nat} {t:TypeId} {n:UInt64} (h:Blk w g t (nmc n)):∀ i,i < 8→w.cell? ⟨g,i,none⟩=some (.int .u8 (nb8 n i)):=fun i hi=>by
 rw [h.cell i];exact nmc_get n i hi
theorem cells8At {w:World} {b o:Nat} {n:UInt64} (h:w.rangeAt b o (bcs (nmb n))):∀ i,i < 8→w.cell? ⟨b,o+i,none⟩=some (.int .u8 (nb8 n i)):=fun i hi=>by
 refine h i _ ?_
 have hl:=nL n
 simp [bcs,bv,nb8,hl,hi]
theorem run_buildN1 (n:UInt64) (w:World):(Instr.buildSlice 37 1 #[(0,.agg (nmc n))]).run Tryz.prog w=.ok (.slice (some ⟨w.heap.size,0,none⟩) 1 1) (w.alloc (.cells (nmc n) 30)):=by
 obtain ⟨i,hi,hz,hs,hby⟩:=namesE.get
 have hsz:=nmc_size n
 have hst:(sizeOf 30).run Tryz.prog w=.ok 8 w:=by simp [sizeOf,typeInfo,hi,hs]
 have hzv:(zeroValue 30).run Tryz.prog w=.ok (.agg zcs.toArray) w:=by simp [zeroValue,typeInfo,hi,hz]
 have hf:∀ Z:Array Value,Z.size=8→Instr.fill (fun i=>some (i * 8,8)) Z [(0,.agg (nmc n))]=some (nmc n):=by
  intro Z hZ
  simp only [Instr.fill,Value.cells,hsz,Nat.zero_mul]
  rw [if_neg (by simp [hZ]),fold_arr,fold_whole _ _ (by rw [hsz,hZ])]
 simp [Instr.buildSlice,run_underlying namesE.ut,hst,hzv,Value.cells]
 rw [hf _ (by simp)]
 simp [newRow]
end
section
open Go.RowKit
attribute [local go_sem ↓] Go.wp_at_zero Go.wp_at_succ
def wthn (v lo hi:Int):Bool:=decide (lo≤v∧v≤hi)
theorem wI (v lo hi:Int) (w:World) :
  Calls Tryz.prog 73 #[.int .i64 v,.int .i64 lo,.int .i64 hi] w fun e w'=>e=.returned (.bool (wthn v lo hi))∧w=w':=by
 by_cases h1:lo≤v
 ·by_cases h2 : v ≤ hi
  ·have HV := zh (show wthn v lo hi = true by unfold wthn; simp only [decide_eq_true_eq]; exact ⟨h1, h2⟩)
   go_enter Tryz.func73,Tryz.ntmps73
   go_wp2_with fail
   go_ret
   exact ⟨by rw [HV.out];rfl,rfl⟩
  have HV:=zh (show wthn v lo hi=false by unfold wthn;simp only [decide_eq_false_iff_not];omega)
  have d2:decide (v≤hi)=false:=decide_eq_false h2
  clear h2
  go_enter Tryz.func73,Tryz.ntmps73
  go_wp2_with fail
  go_ret
  exact ⟨by rw [HV.out];rfl,rfl⟩
 have HV:=zh (show wthn v lo hi=false by unfold wthn;simp only [decide_eq_false_iff_not];omega)
 have d1:decide (lo≤v)=false:=decide_eq_false h1
 clear h1
 go_enter Tryz.func73,Tryz.ntmps73
 go_wp2_with fail
 go_ret
 exact ⟨by rw [HV.out];rfl,rfl⟩
theorem within_yes (v lo hi:Int) (h:lo≤v∧v≤hi) (w:World) :
  Calls Tryz.prog 73 #[.int .i64 v,.int .i64 lo,.int .i64 hi] w fun e w'=>e=.returned (.bool true)∧w=w':=by
 rw [← show wthn v lo hi=true by unfold wthn;simp only [decide_eq_true_eq];exact h];exact wI v lo hi w
theorem within_no (v lo hi:Int) (h:v < lo ∨ hi < v) (w:World) :
  Calls Tryz.prog 73 #[.int .i64 v,.int .i64 lo,.int .i64 hi] w fun e w'=>e=.returned (.bool false)∧w=w':=by
 rw [← show wthn v lo hi=false by unfold wthn;simp only [decide_eq_false_iff_not];omega];exact wI v lo hi w
variable {D:Nat}
theorem retCV {fn:Func} {p q:Tmp} {ty:TypeId} (hres:fn.results=#[.cell p ty,.tmp q]) (tmps:Array Value) (w1:World) (g:Nat) (cs:Array Value) (v:Value) (hp:tmps.getD p undef=.pointer (some ⟨g,0,none⟩)) (hq:tmps.getD q undef=v) (hl:(loadVar ty ⟨g,0,none⟩).run Tryz.prog w1=.ok (.agg cs) w1) :
  (results fn tmps).run Tryz.prog w1=.ok (.tuple #[.agg cs,v]) w1:=by
 have hp':tmps[p]?.getD undef=.pointer (some ⟨g,0,none⟩):=by simpa using hp
 have hq':tmps[q]?.getD undef=v:=by simpa using hq
 simp [results,hres,hp',hq',asAddr,hl]
theorem bcs_nb8 (n:UInt64):bcs (nmb n)=[.int .u8 (nb8 n 0),.int .u8 (nb8 n 1),.int .u8 (nb8 n 2),.int .u8 (nb8 n 3),.int .u8 (nb8 n 4),.int .u8 (nb8 n 5),.int .u8 (nb8 n 6),.int .u8 (nb8 n 7)]:=by
 rw [← nmc_toList,← nmc_nb8]
theorem toB_wrap (z:Int):IntKind.u8.wrap z=((toB z).toNat:Int):=by rw [← toB_eq,IntKind.wrap_u8]
theorem step_appBG {P:Program} {t e:TypeId} {ops:Array Oper} {o:Oper} {a:Act} {w:World} {K:Act→World→Prop} {Q:Exit→Act→World→Prop} {X:Prop} (E:Elem P t e (.int .u8 0) 1 1) (hgd:o.guard=none) (s x:Operand)
  (ho:o.op=.call { callee:=.builtin .append,args:=#[s,x],argTypes:=#[t,t] })
  (base:Nat) (A:Option Addr) (n c:Nat) (l:List UInt8) (hs:a.eval s=.slice A n c) (hown:OwnB w base e A n c l)
  (A2:Option Addr) (m c2:Nat) (l2:List UInt8) (hx:a.eval x=.slice A2 m c2) (hr:SlB w A2 m c2 l2)
  (hb:n+m≤140737488355328) (hbase:base≤w.heap.size)
  (h:∀ A' c' w',OwnB w' base e A' (n+m) c' (l ++ l2)→w.grownBy w' (Value.ownBlock (.slice A n c))→K (a.put o.dst (.slice A' (n+m) c')) w'):if Region.wanted o (yielded ops a.tmps)=true then Oper.wp P o a w K Q else X:=by
 have hw:Region.wanted o (yielded ops a.tmps)=true:=by simp [Region.wanted,hgd]
 rw [if_pos hw]
 refine wp_app E s x ho base A n c (bcs l) hs hown A2 m c2 (bcs l2) hx hr.rd (by rw [bL,hr.len,Nat.mul_one]) (bcs_one l2) (by omega) (by omega) hbase fun A' c' w' h2 h3=>h A' c' w' ?_ h3
 unfold OwnB;rw [bcs_append];exact h2
theorem own_lt {w:World} {base:Nat} {e:TypeId} {A:Option Addr} {n c:Nat} {l:List UInt8} (h:OwnB w base e A n c l):∀ k,Value.ownBlock (.slice A n c)=some k→base≤k∧k < w.heap.size:=fun k hk=>World.ownsRow.lt h k hk
theorem below_grown {w0 w w':World} {base:Nat} {e:TypeId} {A:Option Addr} {n c:Nat} {l:List UInt8} (h:OwnB w base e A n c l) (hb:Below base w0 w) (hs:base≤w.heap.size) (hg:w.grownBy w' (Value.ownBlock (.slice A n c))):Below base w0 w' :=
 hb.grown hg hs (fun k hk=>(own_lt h k hk).1)
@[go_sem] theorem fold_nmc9 (n:UInt64):Array.foldl (fun (cs:Array Value) (x:Value × Nat)=>cs.setIfInBounds x.snd x.fst) #[.int .u8 0,.int .u8 0,.int .u8 0,.int .u8 0,.int .u8 0,.int .u8 0,.int .u8 0,.int .u8 0,.slice none 0 0] (nmc n).zipIdx 0 8=#[.int .u8 (nb8 n 0),.int .u8 (nb8 n 1),.int .u8 (nb8 n 2),.int .u8 (nb8 n 3),.int .u8 (nb8 n 4),.int .u8 (nb8 n 5),.int .u8 (nb8 n 6),.int .u8 (nb8 n 7),.slice none 0 0]:=by
 rw [← nmc_nb8 n]
 kernel_rfl
@[go_sem] theorem fold_pair (i:Int) (n:UInt64):Array.foldl (fun (cs:Array Value) (x:Value × Nat)=>cs.setIfInBounds (1+x.snd) x.fst) #[.int .i64 i,.int .u8 0,.int .u8 0,.int .u8 0,.int .u8 0,.int .u8 0,.int .u8 0,.int .u8 0,.int .u8 0] (nmc n).zipIdx 0 8=#[.int .i64 i,.int .u8 (nb8 n 0),.int .u8 (nb8 n 1),.int .u8 (nb8 n 2),.int .u8 (nb8 n 3),.int .u8 (nb8 n 4),.int .u8 (nb8 n 5),.int .u8 (nb8 n 6),.int .u8 (nb8 n 7)]:=by
 rw [← nmc_nb8 n]
 kernel_rfl
theorem oO {w:World} {base:Nat} {e:TypeId} {size:Nat} {A:Option Addr} {n c:Nat} {xs:List Value} {X:Nat} {t:TypeId} {cs:Array Value} (h:w.ownsRow base e size (.slice A n c) n xs) (hb:Blk w X t cs) (hne:t ≠ e):some X ≠ Value.ownBlock (.slice A n c):=by
 rcases h.2 with ⟨hv,_⟩ | ⟨g,cap,cur,hv,_,hh,_⟩
 ·rw [hv];simp [Value.ownBlock]
 rw [hv]
 simp only [Value.ownBlock]
 intro e1
 injection e1 with e1
 subst e1
 unfold Blk at hb
 rw [hh] at hb
 injection hb with hb
 injection hb with _ hb
 exact hne hb.symm
theorem blk_ne {w:World} {X B:Nat} {t t':TypeId} {cs cs':Array Value} (h:Blk w X t cs) (h':Blk w B t' cs') (hne:t ≠ t'):X ≠ B:=by
 intro e;subst e
 unfold Blk at h h'
 rw [h] at h'
 injection h' with h'
 injection h' with _ h'
 exact hne h'
end
end Go.Proofs.YtohmmcahpakokaaGreat
