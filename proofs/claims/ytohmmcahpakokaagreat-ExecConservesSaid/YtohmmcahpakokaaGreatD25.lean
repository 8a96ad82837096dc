/- Comparisons of numbers, names, cells and locks. -/
import Derived.Test.YtohmmcahpakokaaGreatD03
import Derived.Test.YtohmmcahpakokaaGreatD23
set_option maxRecDepth 100000
set_option maxHeartbeats 8000000
set_option linter.unusedVariables false
set_option linter.unusedSimpArgs false
namespace Go.Proofs.YtohmmcahpakokaaGreat
section
open Go.RowKit
attribute [local go_sem ↓] Go.wp_at_zero Go.wp_at_succ
def cmpI (x y:Int):Int:=if x < y then -1 else if y < x then 1 else 0
theorem cmpI_lt {x y:Int} (h:x < y):cmpI x y=-1:=if_pos h
theorem cmpI_gt {x y:Int} (h:y < x):cmpI x y=1:=by unfold cmpI;rw [if_neg (by omega),if_pos h]
theorem cmpI_eq (x:Int):cmpI x x=0:=by unfold cmpI;rw [if_neg (by omega),if_neg (by omega)]
def firstI (x y z:Int):Int:=if x ≠ 0 then x else if y ≠ 0 then y else z
def cmpC (a b:CeR):Int:=firstI (cmpI a.k b.k) (cmpI a.id b.id) (cmpI (un a.lk) (un b.lk))
def cmpN (a b:UInt64):Int:=cmpI (un a) (un b)
theorem cmpN_pos (a b:UInt64):decide (cmpN a b > 0)=decide (un b < un a):=by
 unfold cmpN
 rcases Int.lt_trichotomy (un a) (un b) with h | h | h
 ·rw [cmpI_lt h,decide_eq_false (by omega:¬ un b < un a)];rfl
 ·rw [h,cmpI_eq];simp
 rw [cmpI_gt h,decide_eq_true h];rfl
theorem cmpC_pos (a b:CeR):decide (cmpC a b > 0)=ltCe b a:=by
 unfold cmpC firstI ltCe ceKey
 rcases Int.lt_trichotomy a.k b.k with h | h | h
 ·rw [cmpI_lt h,if_pos (by decide),lexI,if_neg (by omega),decide_eq_false (by omega:¬ b.k < a.k)];rfl
 ·rw [h, cmpI_eq, if_neg (by decide), lexI, if_pos rfl]
  rcases Int.lt_trichotomy a.id b.id with h2 | h2 | h2
  ·rw [cmpI_lt h2,if_pos (by decide),lexI,if_neg (by omega),decide_eq_false (by omega:¬ b.id < a.id)];rfl
  ·rw [h2, cmpI_eq, if_neg (by decide), lexI, if_pos rfl, show cmpI (un a.lk) (un b.lk) = cmpN a.lk b.lk from rfl, cmpN_pos, lexI]
   by_cases e:un b.lk=un a.lk
   ·rw [if_pos e,decide_eq_false (by omega)];rfl
   rw [if_neg e]
  rw [cmpI_gt h2,if_pos (by decide),lexI,if_neg (by omega),decide_eq_true h2];rfl
 rw [cmpI_gt h,if_pos (by decide),lexI,if_neg (by omega),decide_eq_true h];rfl
theorem isNaNI_any (x:Int) (w:World):Calls Tryz.prog 192 #[.int .i64 x] w fun e w'=>e=.returned (.bool false)∧w=w':=by
 go_enter Tryz.func192,Tryz.ntmps192
 go_wp2
 go_ret
 exact ⟨by simp,rfl⟩
theorem compareI_any (x y:Int) (w:World):Calls Tryz.prog 127 #[.int .i64 x,.int .i64 y] w fun e w'=>e=.returned (.int .i64 (cmpI x y))∧w=w':=by
 rcases Int.lt_trichotomy x y with h | h | h
 ·have HC := zh (cmpI_lt h)
  go_enter Tryz.func127,Tryz.ntmps127
  go_wp2_with (go_at_call 192;refine (isNaNI_any _ _).mono ?_;rintro e w' ⟨rfl,rfl⟩)
  go_ret
  exact ⟨by rw [HC.out];rfl,rfl⟩
 ·subst h
  have h1:decide (x < x)=false:=decide_eq_false (by omega)
  have HC:=zh (cmpI_eq x)
  go_enter Tryz.func127,Tryz.ntmps127
  go_wp2_with (go_at_call 192;refine (isNaNI_any _ _).mono ?_;rintro e w' ⟨rfl,rfl⟩)
  go_ret
  exact ⟨by rw [HC.out];rfl,rfl⟩
 have h1:decide (x < y)=false:=decide_eq_false (by omega)
 have HC:=zh (cmpI_gt h)
 go_enter Tryz.func127,Tryz.ntmps127
 go_wp2_with (go_at_call 192;refine (isNaNI_any _ _).mono ?_;rintro e w' ⟨rfl,rfl⟩)
 go_ret
 exact ⟨by rw [HC.out];rfl,rfl⟩
theorem isNaNU_any (x:Int) (w:World):Calls Tryz.prog 219 #[.int .u64 x] w fun e w'=>e=.returned (.bool false)∧w=w':=by
 go_enter Tryz.func219,Tryz.ntmps219
 go_wp2
 go_ret
 exact ⟨by simp,rfl⟩
theorem compareU_any (x y:Int) (w:World):Calls Tryz.prog 166 #[.int .u64 x,.int .u64 y] w fun e w'=>e=.returned (.int .i64 (cmpI x y))∧w=w':=by
 rcases Int.lt_trichotomy x y with h | h | h
 ·have HC := zh (cmpI_lt h)
  go_enter Tryz.func166,Tryz.ntmps166
  go_wp2_with (go_at_call 219;refine (isNaNU_any _ _).mono ?_;rintro e w' ⟨rfl,rfl⟩)
  go_ret
  exact ⟨by rw [HC.out];rfl,rfl⟩
 ·subst h
  have h1:decide (x < x)=false:=decide_eq_false (by omega)
  have HC:=zh (cmpI_eq x)
  go_enter Tryz.func166,Tryz.ntmps166
  go_wp2_with (go_at_call 219;refine (isNaNU_any _ _).mono ?_;rintro e w' ⟨rfl,rfl⟩)
  go_ret
  exact ⟨by rw [HC.out];rfl,rfl⟩
 have h1:decide (x < y)=false:=decide_eq_false (by omega)
 have HC:=zh (cmpI_gt h)
 go_enter Tryz.func166,Tryz.ntmps166
 go_wp2_with (go_at_call 219;refine (isNaNU_any _ _).mono ?_;rintro e w' ⟨rfl,rfl⟩)
 go_ret
 exact ⟨by rw [HC.out];rfl,rfl⟩
theorem or3_any (x y z:Int) (g:Nat) (w:World) (hb:Blk w g 3 #[.int .i64 x,.int .i64 y,.int .i64 z]):Calls Tryz.prog 126 #[.slice (some ⟨g,0,none⟩) 3 3] w fun e w'=>e=.returned (.int .i64 (firstI x y z))∧w=w':=by
 have c0:w.cell? ⟨g,0,none⟩=some (.int .i64 x):=hb.cell 0
 have c1:w.cell? ⟨g,1,none⟩=some (.int .i64 y):=hb.cell 1
 have c2:w.cell? ⟨g,2,none⟩=some (.int .i64 z):=hb.cell 2
 clear hb
 go_enter Tryz.func126,Tryz.ntmps126
 go_wp2_with fail
 go_loop [8] (fun i=>∃ k:Nat,i=.int .i64 (k:Int)∧k≤3∧Hid ((0 < k→x=0)∧(1 < k→y=0)∧(2 < k→z=0))) (fun i=>3 - (intOf i).toNat)
 case atStart=>exact ⟨0,rfl,by omega,zh ⟨by omega,by omega,by omega⟩⟩
 case round =>
  obtain ⟨k,rfl,hk,HZ⟩:=hrel
  rcases (by omega:k=0 ∨ k=1 ∨ k=2 ∨ k=3) with rfl | rfl | rfl | rfl
  ·by_cases h0 : x = 0
   ·have HF := zh h0
    have e1:(x != 0)=false:=by simp [h0]
    clear h0
    go_wp2_with fail
    go_round
    case rel=>exact ⟨1,by go_num,by omega,zh ⟨fun _=>HF.out,by omega,by omega⟩⟩
    case measure=>simp [intOf]
   have HF:=zh (show firstI x y z=x from if_pos h0)
   have e1:(x != 0)=true:=by simp [h0]
   clear h0
   go_wp2_with fail
   go_ret
   exact ⟨by rw [HF.out];rfl,rfl⟩
  ·have HX := zh (HZ.out.1 (by omega))
   by_cases h0:y=0
   ·have HF := zh h0
    have e1:(y != 0)=false:=by simp [h0]
    clear h0
    go_wp2_with fail
    go_round
    case rel=>exact ⟨2,by go_num,by omega,zh ⟨fun _=>HX.out,fun _=>HF.out,by omega⟩⟩
    case measure=>simp [intOf]
   have HF:=zh (show firstI x y z=y from by unfold firstI;rw [if_neg (by simp [HX.out]),if_pos h0])
   have e1:(y != 0)=true:=by simp [h0]
   clear h0
   go_wp2_with fail
   go_ret
   exact ⟨by rw [HF.out];rfl,rfl⟩
  ·have HX := zh (HZ.out.1 (by omega))
   have HY:=zh (HZ.out.2.1 (by omega))
   have HF:=zh (show firstI x y z=z from by unfold firstI;rw [if_neg (by simp [HX.out]),if_neg (by simp [HY.out])])
   by_cases h0:z=0
   ·have HZ0 := zh h0
    have e1:(z != 0)=false:=by simp [h0]
    clear h0
    go_wp2_with fail
    go_round
    case rel=>exact ⟨3,by go_num,by omega,zh ⟨fun _=>HX.out,fun _=>HY.out,fun _=>HZ0.out⟩⟩
    case measure=>simp [intOf]
   have e1:(z != 0)=true:=by simp [h0]
   clear h0
   go_wp2_with fail
   go_ret
   exact ⟨by rw [HF.out];rfl,rfl⟩
  have HF:=zh (show firstI x y z=0 from by unfold firstI;rw [if_neg (by simp [HZ.out.1]),if_neg (by simp [HZ.out.2.1])];exact HZ.out.2.2 (by omega))
  go_wp2_with fail
  go_ret
  exact ⟨by rw [HF.out];rfl,rfl⟩
theorem run_buildI3 (x y z:Int) (w:World):(Instr.buildSlice 38 3 #[(0,.int .i64 x),(1,.int .i64 y),(2,.int .i64 z)]).run Tryz.prog w=.ok (.slice (some ⟨w.heap.size,0,none⟩) 3 3) (w.alloc (.cells #[.int .i64 x,.int .i64 y,.int .i64 z] 3)):=by kernel_rfl
theorem wp_build3 {o:Oper} {a:Act} {w:World} {K:Act→World→Prop} {Q:Exit→Act→World→Prop} {ty:TypeId} (x y z:Operand) (ho:o.op=.buildSlice ty 3 #[(0,x),(1,y),(2,z)]) {vx vy vz v:Value} {w2:World} (hx:a.eval x=vx) (hy:a.eval y=vy) (hz:a.eval z=vz) (hr:(Instr.buildSlice ty 3 #[(0,vx),(1,vy),(2,vz)]).run Tryz.prog w=.ok v w2) (h:K (a.put o.dst v) w2):o.wp Tryz.prog a w K Q:=by
 unfold Oper.wp execOp
 simp only [ho,List.map_toArray,List.map_cons,List.map_nil,hx,hy,hz,Sem.run_bind,hr,Result.andThen_ok,Sem.run_pure]
 exact h
theorem ce_name {w:World} {g:Nat} {t:TypeId} {c:CeR} (h:Blk w g t (ceA c)):w.rangeAt g 2 (nmL c.lk):=by
 have:=rangeAt_drop (k:=2) (rB h)
 rw [show (ceA c).toList=ceL c from rfl,ceL_C] at this
 exact this
theorem nm_range {w:World} {g:Nat} {t:TypeId} {n:UInt64} (h:Blk w g t (nmc n)):w.rangeAt g 0 (nmL n):=by
 have:=rB h
 rwa [nmc_toList] at this
theorem compareNames_any (a b:UInt64) (w:World):Calls Tryz.prog 108 #[.agg (nmc a),.agg (nmc b)] w fun e w'=>e=.returned (.int .i64 (cmpN a b))∧Ext w w':=by
 have HA:=zh (show Blk ((w.alloc (.cells (nmc a) 30)).alloc (.cells (nmc b) 30)).drew w.heap.size 30 (nmc a) from ((Blk.new w 30 (nmc a)).alloc _).drew)
 have HB:=zh (show Blk ((w.alloc (.cells (nmc a) 30)).alloc (.cells (nmc b) 30)).drew (w.heap.size+1) 30 (nmc b) from Blk.drew (Blk.newAt _ _ _ _ (by simp)))
 have HE:=zh (show Ext w ((w.alloc (.cells (nmc a) 30)).alloc (.cells (nmc b) 30)).drew from (((Ext.refl w).alloc' _).alloc' _).drew')
 go_enter Tryz.func108,Tryz.ntmps108
 go_wp2_with fail
 refine wp_region_held_drew (S:=fun W=>Blk W w.heap.size 30 (nmc a)∧Blk W (w.heap.size+1) 30 (nmc b)) (by kernel_rfl) (⟨HA.out,HB.out⟩) (fun jj=>?_)
 refine zu 0 (v:=.agg (nmc a)) jj ?_ (hy:=by exact yL nmP (by rfl) (.tmp 2) rfl (w.heap.size) 0 rfl a _ rfl (fun W h=>nm_range h.1))
 refine zu 2 (v:=.agg (nmc b)) jj ?_ (hy:=by exact yL nmP (by rfl) (.tmp 3) rfl (w.heap.size+1) 0 rfl b _ rfl (fun W h=>nm_range h.2))
 refine zzj (VE 1 (.int .u64 (un a)) (VE 3 (.int .u64 (un b)) (VE 4 (.int .i64 (cmpN a b)) VN))) [(1,some 6),(3,some 8),(4,some 9)] 1 (fun W W' h e=>⟨h.1.ext e,h.2.ext e⟩) (ve (ve (ve VN.ext))) (zzc ?_ (zzc ?_ (zzc ?_ zzn))) ?_
 ·refine zzp fun W hE hS K hK => ?_
  go_simp
  go_at_call 167
  refine (number_any a _).mono ?_
  rintro e w5 ⟨rfl,he5⟩
  exact zzK (hK.out (.int .u64 (un a)) _ (he5) (rfl))
 ·refine zzp fun W hE hS K hK => ?_
  go_simp
  go_at_call 167
  refine (number_any b _).mono ?_
  rintro e w5 ⟨rfl,he5⟩
  exact zzK (hK.out (.int .u64 (un b)) _ (he5) (rfl))
 ·refine zm [(1, some 6), (3, some 8)] fun env W hE hS hD K hK => ?_
  obtain ⟨h1,h3,-⟩:=zzV hD
  clear hD
  simp only [layj,h1,h3] at hK ⊢
  clear h1
  clear h3
  go_simp
  go_at_call 166
  refine (compareU_any _ _ _).mono ?_
  rintro e w5 ⟨rfl,rfl⟩
  exact zzF hK (.int .i64 (cmpN a b))
 intro env W hE hS hV
 obtain ⟨h1,h3,h4,-⟩:=zzV hV
 clear hV
 simp only [layj,h1,h3,h4]
 clear h1
 clear h3
 clear h4
 have jj:=hS
 refine zt 5 jj ?_
 refine wpAnyH_done (by kernel_rfl) ?_ _
 have HX:=zh (HE.out.trans hE)
 go_wp2_with fail
 go_ret
 exact ⟨rfl,HX.out⟩
theorem compareC_any (a b:CeR) (w:World):Calls Tryz.prog 65 #[.agg (ceA a),.agg (ceA b)] w fun e w'=>e=.returned (.int .i64 (cmpC a b))∧Ext w w':=by
 have HA:=zh (show Blk ((w.alloc (.cells (ceA a) 32)).alloc (.cells (ceA b) 32)).drew w.heap.size 32 (ceA a) from ((Blk.new w 32 (ceA a)).alloc _).drew)
 have HB:=zh (show Blk ((w.alloc (.cells (ceA a) 32)).alloc (.cells (ceA b) 32)).drew (w.heap.size+1) 32 (ceA b) from Blk.drew (Blk.newAt _ _ _ _ (by simp)))
 have HE:=zh (show Ext w ((w.alloc (.cells (ceA a) 32)).alloc (.cells (ceA b) 32)).drew from (((Ext.refl w).alloc' _).alloc' _).drew')
 go_enter Tryz.func65,Tryz.ntmps65
 go_wp2_with fail
 refine wp_region_held_drew (S:=fun W=>Blk W w.heap.size 32 (ceA a)∧Blk W (w.heap.size+1) 32 (ceA b)) (by kernel_rfl) (⟨HA.out,HB.out⟩) (fun jj=>?_)
 refine zz0 [0,1,2,3,5,6,7,8,10] ?_;repeat first | refine zz1 ?_ (hy:=by intro W jS;have c0:=jS.1.cell 0;have c1:=jS.1.cell 1;have d0:=jS.2.cell 0;have d1:=jS.2.cell 1;go_simp <;> with_reducible rfl) | refine zz2 ?_ | refine zz9 ?_
 refine zu 11 (v:=.agg (nmc a.lk)) jj ?_ (hy:=by exact yL nmP (by rfl) (.tmp 15) rfl (w.heap.size) 2 rfl a.lk _ rfl (fun W h=>ce_name h.1))
 refine zt 12 jj ?_
 refine zu 13 (v:=.agg (nmc b.lk)) jj ?_ (hy:=by exact yL nmP (by rfl) (.tmp 17) rfl (w.heap.size+1) 2 rfl b.lk _ rfl (fun W h=>ce_name h.2))
 refine zzj (VE 4 (.int .i64 (cmpI a.k b.k)) (VE 9 (.int .i64 (cmpI a.id b.id)) (VE 14 (.int .i64 (cmpN a.lk b.lk)) (VV 15 (fun v W=>∃ g,v=.slice (some ⟨g,0,none⟩) 3 3∧Blk W g 3 #[.int .i64 (cmpI a.k b.k),.int .i64 (cmpI a.id b.id),.int .i64 (cmpN a.lk b.lk)]) (VE 16 (.int .i64 (cmpC a b)) VN))))) [(4,some 9),(9,some 14),(14,some 19),(15,some 20),(16,some 21)] 1 (fun W W' h e=>⟨h.1.ext e,h.2.ext e⟩) (ve (ve (ve (VV.ext (fun v w w' ⟨g,h1,h2⟩ e=>⟨g,h1,h2.ext e⟩) (ve VN.ext))))) (zzc ?_ (zzc ?_ (zzc ?_ (zzc ?_ (zzc ?_ zzn))))) ?_
 ·refine zzp fun W hE hS K hK => ?_
  go_simp
  go_at_call 127
  refine (compareI_any _ _ _).mono ?_
  rintro e w5 ⟨rfl,rfl⟩
  exact zzF hK (.int .i64 (cmpI a.k b.k))
 ·refine zzp fun W hE hS K hK => ?_
  go_simp
  go_at_call 127
  refine (compareI_any _ _ _).mono ?_
  rintro e w5 ⟨rfl,rfl⟩
  exact zzF hK (.int .i64 (cmpI a.id b.id))
 ·refine zzp fun W hE hS K hK => ?_
  go_simp
  go_at_call 108
  refine (compareNames_any a.lk b.lk _).mono ?_
  rintro e w5 ⟨rfl,he5⟩
  exact zzK (hK.out (.int .i64 (cmpN a.lk b.lk)) _ (he5) (rfl))
 ·refine zm [(4, some 9), (9, some 14), (14, some 19)] fun env W hE hS hD K hK => ?_
  obtain ⟨h4,h9,h14,-⟩:=zzV hD
  clear hD
  simp only [layj,h4,h9,h14] at hK ⊢
  clear h4
  clear h9
  clear h14
  refine wp_build3 (.tmp 9) (.tmp 14) (.tmp 19) rfl rfl rfl rfl (run_buildI3 _ _ _ W) ?_
  exact zzK (hK.out (.slice (some ⟨W.heap.size,0,none⟩) 3 3) _ ((Ext.refl _).alloc' _) (⟨_,rfl,Blk.new _ _ _⟩))
 ·refine zm [(15, some 20)] fun env W hE hS hD K hK => ?_
  obtain ⟨h15,-⟩:=zzV hD
  clear hD
  simp only [layj] at hK ⊢
  generalize env 15=x15 at h15 hK ⊢
  obtain ⟨g,rfl,hb⟩:=h15
  go_simp
  go_at_call 126
  refine (or3_any _ _ _ g _ hb).mono ?_
  rintro e w5 ⟨rfl,rfl⟩
  exact zzF hK (.int .i64 (cmpC a b))
 intro env W hE hS hV
 obtain ⟨h4,h9,h14,h15,h16,-⟩:=zzV hV
 clear hV
 simp only [layj,h4,h9,h14,h16]
 clear h4
 clear h9
 clear h14
 generalize env 15=x15 at h15 ⊢
 clear h16
 obtain ⟨g,rfl,hb⟩:=h15
 have jj:=hS
 refine zt 17 jj ?_
 refine wpAnyH_done (by kernel_rfl) ?_ _
 have HX:=zh (HE.out.trans hE)
 go_wp2_with fail
 go_ret
 exact ⟨rfl,HX.out⟩
theorem deA_c {w:World} {g:Nat} {t:TypeId} {x:DeR} (h:Blk w g t (deA x)):w.rangeAt g 0 (RowT.enc x.c):=by
 have:=rT (k:=10) (rB h)
 exact this
theorem compareD_any (a b:DeR) (w:World):Calls Tryz.prog 105 #[.agg (deA a),.agg (deA b)] w fun e w'=>e=.returned (.int .i64 (cmpC a.c b.c))∧Ext w w':=by
 have HA:=zh (show Blk ((w.alloc (.cells (deA a) 34)).alloc (.cells (deA b) 34)) w.heap.size 34 (deA a) from (Blk.new w 34 (deA a)).alloc _)
 have HB:=zh (show Blk ((w.alloc (.cells (deA a) 34)).alloc (.cells (deA b) 34)) (w.heap.size+1) 34 (deA b) from Blk.newAt _ _ _ _ (by simp))
 have HE:=zh (show Ext w ((w.alloc (.cells (deA a) 34)).alloc (.cells (deA b) 34)) from ((Ext.refl w).alloc' _).alloc' _)
 have r0:((w.alloc (.cells (deA a) 34)).alloc (.cells (deA b) 34)).rangeAt w.heap.size 0 (RowT.enc a.c):=deA_c HA.out
 have r1:((w.alloc (.cells (deA a) 34)).alloc (.cells (deA b) 34)).rangeAt (w.heap.size+1) 0 (RowT.enc b.c):=deA_c HB.out
 go_enter Tryz.func105,Tryz.ntmps105
 go_wp2_with (first | (with_reducible refine wL ceP rfl (.tmp 5) rfl w.heap.size 0 rfl a.c _ rfl r0 ?_) | (with_reducible refine wL ceP rfl (.tmp 7) rfl (w.heap.size+1) 0 rfl b.c _ rfl r1 ?_))
 refine (compareC_any a.c b.c _).mono ?_
 rintro e w5 ⟨rfl,he5⟩
 have HX:=zh (HE.out.trans he5)
 clear he5 r0 r1
 go_wp2_with fail
 go_ret
 exact ⟨rfl,HX.out⟩
theorem lkA_nm {w:World} {g:Nat} {t:TypeId} {x:LkR} (h:Blk w g t (lkA x)):w.rangeAt g 0 (RowT.enc x.nm):=by
 have:=rT (k:=8) (rB h)
 rw [show (lkA x).toList=lkL x from rfl,lkL_C,List.take_append_of_le_length (by rw [bL,nL];exact Nat.le_refl _),List.take_of_length_le (by rw [bL,nL];exact Nat.le_refl _)] at this;exact this
theorem compareL_any (a b:LkR) (w:World):Calls Tryz.prog 155 #[.agg (lkA a),.agg (lkA b)] w fun e w'=>e=.returned (.int .i64 (cmpN a.nm b.nm))∧Ext w w':=by
 have HA:=zh (show Blk ((w.alloc (.cells (lkA a) 94)).alloc (.cells (lkA b) 94)) w.heap.size 94 (lkA a) from (Blk.new w 94 (lkA a)).alloc _)
 have HB:=zh (show Blk ((w.alloc (.cells (lkA a) 94)).alloc (.cells (lkA b) 94)) (w.heap.size+1) 94 (lkA b) from Blk.newAt _ _ _ _ (by simp))
 have HE:=zh (show Ext w ((w.alloc (.cells (lkA a) 94)).alloc (.cells (lkA b) 94)) from ((Ext.refl w).alloc' _).alloc' _)
 have r0:((w.alloc (.cells (lkA a) 94)).alloc (.cells (lkA b) 94)).rangeAt w.heap.size 0 (RowT.enc a.nm):=lkA_nm HA.out
 have r1:((w.alloc (.cells (lkA a) 94)).alloc (.cells (lkA b) 94)).rangeAt (w.heap.size+1) 0 (RowT.enc b.nm):=lkA_nm HB.out
 go_enter Tryz.func155,Tryz.ntmps155
 go_wp2_with (first | (with_reducible refine wL nmP rfl (.tmp 5) rfl w.heap.size 0 rfl a.nm _ rfl r0 ?_) | (with_reducible refine wL nmP rfl (.tmp 7) rfl (w.heap.size+1) 0 rfl b.nm _ rfl r1 ?_))
 refine (compareNames_any a.nm b.nm _).mono ?_
 rintro e w5 ⟨rfl,he5⟩
 have HX:=zh (HE.out.trans he5)
 clear he5 r0 r1
 go_wp2_with fail
 go_ret
 exact ⟨rfl,HX.out⟩
theorem find1_any (x:DeR) (c:CeR) (g:Nat) (w:World) (hx:deW x) (hc:ceW c) (hb:Blk w g 32 (ceA c)):Calls Tryz.prog 158 #[.agg (deA x),.pointer (some ⟨g,0,none⟩)] w fun e w'=>e=.returned (.bool (decide (x.c=c)))∧Ext w w':=by
 have HB:=zh (Blk.new w 34 (deA x))
 have HC:=zh (hb.alloc (.cells (deA x) 34))
 have HE:=zh ((Ext.refl w).alloc' (.cells (deA x) 34))
 have r0:(w.alloc (.cells (deA x) 34)).rangeAt w.heap.size 0 (RowT.enc x.c):=deA_c HB.out
 have r1:(w.alloc (.cells (deA x) 34)).rangeAt g 0 (RowT.enc c):=rB HC.out
 have hq:=run_eqCe x.c c hx.1 hc (w.alloc (.cells (deA x) 34))
 have HC2:=zh (rfl:(deA x)=(deA x))
 clear hb hx hc
 have hg:=guard_Ce .eql (.tmp 5) (.tmp 6) x.c c (w.alloc (.cells (deA x) 34))
 obtain ⟨v0,hv0⟩:∃ v,Value.agg (ceA x.c)=v:=⟨_,rfl⟩
 obtain ⟨v1,hv1⟩:∃ v,Value.agg (ceA c)=v:=⟨_,rfl⟩
 rw [hv0,hv1] at hq hg
 have HV0:=zh hv0
 have HV1:=zh hv1
 clear hv0 hv1
 obtain ⟨b,hb⟩:∃ b,decide (x.c=c)=b:=⟨_,rfl⟩
 rw [hb] at hq ⊢
 clear hb
 go_enter Tryz.func158,Tryz.ntmps158
 go_wp2_with (first | (with_reducible refine wL ceP rfl (.tmp 4) rfl w.heap.size 0 rfl x.c v0 HV0.out r0 ?_) | (with_reducible refine wL ceP rfl (.tmp 1) rfl g 0 rfl c v1 HV1.out r1 ?_))
 go_ret
 exact ⟨rfl,HE.out⟩
theorem find1_says (c:CeR) (g:Nat) (w:World) (hc:ceW c) (hb:Blk w g 32 (ceA c)):Says deA 158 #[.pointer (some ⟨g,0,none⟩)] (fun x=>decide (x.c=c)) w :=
 ⟨fun _ _=>by kernel_rfl,fun x W hE hx=>find1_any x c g W hx hc (hb.ext hE)⟩
theorem findLock1_any (x:LkR) (c:UInt64) (g:Nat) (w:World) (hx:lkW x)  (hb:Blk w g 30 (nmc c)):Calls Tryz.prog 213 #[.agg (lkA x),.pointer (some ⟨g,0,none⟩)] w fun e w'=>e=.returned (.bool (decide (x.nm=c)))∧Ext w w':=by
 have HB:=zh (Blk.new w 94 (lkA x))
 have HC:=zh (hb.alloc (.cells (lkA x) 94))
 have HE:=zh ((Ext.refl w).alloc' (.cells (lkA x) 94))
 have r0:(w.alloc (.cells (lkA x) 94)).rangeAt w.heap.size 0 (RowT.enc x.nm):=lkA_nm HB.out
 have r1:(w.alloc (.cells (lkA x) 94)).rangeAt g 0 (RowT.enc c):=nm_range HC.out
 have hq:=run_eqN x.nm c (w.alloc (.cells (lkA x) 94))
 have HC2:=zh (rfl:(lkA x)=(lkA x))
 clear hb hx 
 have hg:=guard_Nm .eql (.tmp 5) (.tmp 6) x.nm c (w.alloc (.cells (lkA x) 94))
 obtain ⟨v0,hv0⟩:∃ v,Value.agg (nmc x.nm)=v:=⟨_,rfl⟩
 obtain ⟨v1,hv1⟩:∃ v,Value.agg (nmc c)=v:=⟨_,rfl⟩
 rw [hv0,hv1] at hq hg
 have HV0:=zh hv0
 have HV1:=zh hv1
 clear hv0 hv1
 obtain ⟨b,hb⟩:∃ b,decide (x.nm=c)=b:=⟨_,rfl⟩
 rw [hb] at hq ⊢
 clear hb
 go_enter Tryz.func213,Tryz.ntmps213
 go_wp2_with (first | (with_reducible refine wL nmP rfl (.tmp 4) rfl w.heap.size 0 rfl x.nm v0 HV0.out r0 ?_) | (with_reducible refine wL nmP rfl (.tmp 1) rfl g 0 rfl c v1 HV1.out r1 ?_))
 go_ret
 exact ⟨rfl,HE.out⟩
theorem findLock1_says (c:UInt64) (g:Nat) (w:World)  (hb:Blk w g 30 (nmc c)):Says lkA 213 #[.pointer (some ⟨g,0,none⟩)] (fun x=>decide (x.nm=c)) w :=
 ⟨fun _ _=>by kernel_rfl,fun x W hE hx=>findLock1_any x c g W hx (hb.ext hE)⟩
theorem find_any (s:StR) (c:CeR) (w:World) (h:s.ok w) (hc:ceW c) (r:Int) (hr:IxIs (fun x=>decide (x.c=c)) s.C r):Calls Tryz.prog 101 #[.agg (ssA s),.agg (ceA c)] w fun e w'=>e=.returned (.int .i64 r)∧Ext w w':=by
 obtain ⟨W,hW⟩:∃ W,((w.alloc (.cells (ssA s) 44)).alloc (.cells (ceA c) 32))=W:=⟨_,rfl⟩
 have HB:=zh (show Blk W w.heap.size 44 (ssA s) from by rw [← hW];exact (Blk.new w 44 (ssA s)).alloc _)
 have HC:=zh (show Blk W (w.heap.size+1) 32 (ceA c) from by rw [← hW];exact Blk.newAt _ _ _ _ (by simp))
 have HE:=zh (show Ext w W from by rw [← hW];exact ((Ext.refl w).alloc' _).alloc' _)
 have c0:W.cell? ⟨w.heap.size,0,none⟩=some (.slice s.A1 s.n1 s.c1):=HB.out.cell 0
 have HF:=zh (find1_says c _ _ hc HC.out)
 have HI:=zh (ixDe_any HF.out W s.A1 s.n1 s.c1 s.C (h.ext HE.out).s1 (Ext.refl _) r hr)
 clear h hr hc
 go_enter Tryz.func101,Tryz.ntmps101
 go_wp2_with fail
 refine HI.out.mono ?_
 rintro e w5 ⟨rfl,he5⟩
 have HX:=zh (HE.out.trans he5)
 clear he5 c0 HI HF
 go_wp2_with fail
 go_ret
 exact ⟨rfl,HX.out⟩
theorem findLock_any (s:StR) (c:UInt64) (w:World) (h:s.ok w)  (r:Int) (hr:IxIs (fun x=>decide (x.nm=c)) s.K r):Calls Tryz.prog 152 #[.agg (ssA s),.agg (nmc c)] w fun e w'=>e=.returned (.int .i64 r)∧Ext w w':=by
 obtain ⟨W,hW⟩:∃ W,((w.alloc (.cells (ssA s) 44)).alloc (.cells (nmc c) 30))=W:=⟨_,rfl⟩
 have HB:=zh (show Blk W w.heap.size 44 (ssA s) from by rw [← hW];exact (Blk.new w 44 (ssA s)).alloc _)
 have HC:=zh (show Blk W (w.heap.size+1) 30 (nmc c) from by rw [← hW];exact Blk.newAt _ _ _ _ (by simp))
 have HE:=zh (show Ext w W from by rw [← hW];exact ((Ext.refl w).alloc' _).alloc' _)
 have c0:W.cell? ⟨w.heap.size,2,none⟩=some (.slice s.A3 s.n3 s.c3):=HB.out.cell 2
 have HF:=zh (findLock1_says c _ _ HC.out)
 have HI:=zh (ixLk_any HF.out W s.A3 s.n3 s.c3 s.K (h.ext HE.out).s3 (Ext.refl _) r hr)
 clear h hr 
 go_enter Tryz.func152,Tryz.ntmps152
 go_wp2_with fail
 refine HI.out.mono ?_
 rintro e w5 ⟨rfl,he5⟩
 have HX:=zh (HE.out.trans he5)
 clear he5 c0 HI HF
 go_wp2_with fail
 go_ret
 exact ⟨rfl,HX.out⟩
theorem beforeDe1_any (x y:DeR) (gf g:Nat) (w:World) (hf:Blk w gf 124 #[.func (.func 105) #[] #[]]) (hb:Blk w g 34 (deA x)):Calls Tryz.prog 161 #[.agg (deA y),.pointer (some ⟨gf,0,none⟩),.pointer (some ⟨g,0,none⟩)] w fun e w'=>e=.returned (.bool ((fun y=>ltCe x.c y.c) y))∧Ext w w':=by
 have HB:=zh (Blk.new w 34 (deA y))
 have HC:=zh (hb.alloc (.cells (deA y) 34))
 have HE:=zh ((Ext.refl w).alloc' (.cells (deA y) 34))
 have c0:(w.alloc (.cells (deA y) 34)).cell? ⟨gf,0,none⟩=some (.func (.func 105) #[] #[]):=(hf.alloc _).cell 0
 have r0:(w.alloc (.cells (deA y) 34)).rangeAt w.heap.size 0 (RowT.enc y):=rB HB.out
 have r1:(w.alloc (.cells (deA y) 34)).rangeAt g 0 (RowT.enc x):=rB HC.out
 have HQ:=zh (cmpC_pos y.c x.c)
 have HM:=zh (fun W=>compareD_any y x W)
 have eg:∀ args w,(callFunc 105 args).run Tryz.prog w=.ok (.enter 105 args) w:=fun _ _=>by kernel_rfl
 clear hb hf
 obtain ⟨v0,hv0⟩:∃ v,Value.agg (deA y)=v:=⟨_,rfl⟩
 obtain ⟨v1,hv1⟩:∃ v,Value.agg (deA x)=v:=⟨_,rfl⟩
 have HV0:=zh hv0
 have HV1:=zh hv1
 rw [hv0,hv1] at HM
 clear hv0 hv1
 go_enter Tryz.func161,Tryz.ntmps161
 go_wp2_with (first | (with_reducible refine wL deP rfl (.tmp 3) rfl w.heap.size 0 rfl y v0 HV0.out r0 ?_) | (with_reducible refine wL deP rfl (.tmp 2) rfl g 0 rfl x v1 HV1.out r1 ?_))
 refine (HM.out _).mono ?_
 rintro e w5 ⟨rfl,he5⟩
 have HX:=zh (HE.out.trans he5)
 clear he5 c0 r0 r1
 go_wp2_with fail
 go_ret
 exact ⟨by rw [← HQ.out];rfl,HX.out⟩
theorem beforeDe_any (A:Option Addr) (n c:Nat) (L:List DeR) (x:DeR) (w:World) (h:SlG w A n c L):Calls Tryz.prog 104 #[.slice A n c,.agg (deA x),.func (.func 105) #[] #[]] w fun e w'=>∃ k:Nat,e=.returned (.int .i64 (k:Int))∧k≤n∧insB (fun y=>ltCe x.c y.c) x L=L.take k ++ x :: L.drop k∧Ext w w':=by
 obtain ⟨W,hW⟩:∃ W,((w.alloc (.cells (deA x) 34)).alloc (.cells #[.func (.func 105) #[] #[]] 124))=W:=⟨_,rfl⟩
 have HB:=zh (show Blk W w.heap.size 34 (deA x) from by rw [← hW];exact (Blk.new w 34 (deA x)).alloc _)
 have HC:=zh (show Blk W (w.heap.size+1) 124 #[.func (.func 105) #[] #[]] from by rw [← hW];exact Blk.newAt _ _ _ _ (by simp))
 have HE:=zh (show Ext w W from by rw [← hW];exact ((Ext.refl w).alloc' _).alloc' _)
 have HF:=zh (show Says deA 161 #[.pointer (some ⟨w.heap.size+1,0,none⟩),.pointer (some ⟨w.heap.size,0,none⟩)] (fun y=>ltCe x.c y.c) W from ⟨fun _ _=>by kernel_rfl,fun y W2 hE2 _=>beforeDe1_any x y _ _ W2 (HC.out.ext hE2) (HB.out.ext hE2)⟩)
 have HLEN:=zh h.len
 have HS:=zh (h.ext HE.out)
 have hcap:=h.cap
 have hle:=h.le
 clear h
 have hcs:=ix_cases (fun y=>ltCe x.c y.c) L
 rw [HLEN.out] at hcs
 rcases hcs with hno | ⟨k,hk,h1,h2⟩
 ·have HI := zh (ixDe_any HF.out W A n c L HS.out (Ext.refl _) (-1) (.inl ⟨rfl, by rw [HLEN.out]; exact hno⟩))
  have HR:=zh (insB_at (fun y=>ltCe x.c y.c) x L n (by rw [HLEN.out];exact Nat.le_refl _) (fun j hj hl=>by rw [nthG_eq hl];exact hno j hj) (fun hh=>absurd hh (by rw [HLEN.out];omega)))
  clear hno
  go_enter Tryz.func104,Tryz.ntmps104
  go_wp2_with fail
  refine HI.out.mono ?_
  rintro e w5 ⟨rfl,he5⟩
  have HX:=zh (HE.out.trans he5)
  clear he5 HI HF hW
  go_wp2_with fail
  go_ret
  exact ⟨n,rfl,Nat.le_refl _,HR.out,HX.out⟩
 have HI:=zh (ixDe_any HF.out W A n c L HS.out (Ext.refl _) (k:Int) (.inr ⟨k,rfl,by rw [HLEN.out];exact hk,h1,h2⟩))
 have HR:=zh (insB_at (fun y=>ltCe x.c y.c) x L k (by rw [HLEN.out];omega) (fun j hj hl=>by rw [nthG_eq hl];exact h2 j hj) (fun hh=>by rw [nthG_eq hh];exact h1))
 clear h1 h2
 go_enter Tryz.func104,Tryz.ntmps104
 go_wp2_with fail
 refine HI.out.mono ?_
 rintro e w5 ⟨rfl,he5⟩
 have HX:=zh (HE.out.trans he5)
 clear he5 HI HF hW
 go_wp2_with fail
 go_ret
 exact ⟨k,rfl,Nat.le_of_lt hk,HR.out,HX.out⟩
theorem beforeLk1_any (x y:LkR) (gf g:Nat) (w:World) (hf:Blk w gf 172 #[.func (.func 155) #[] #[]]) (hb:Blk w g 94 (lkA x)):Calls Tryz.prog 216 #[.agg (lkA y),.pointer (some ⟨gf,0,none⟩),.pointer (some ⟨g,0,none⟩)] w fun e w'=>e=.returned (.bool ((fun y=>decide (un x.nm < un y.nm)) y))∧Ext w w':=by
 have HB:=zh (Blk.new w 94 (lkA y))
 have HC:=zh (hb.alloc (.cells (lkA y) 94))
 have HE:=zh ((Ext.refl w).alloc' (.cells (lkA y) 94))
 have c0:(w.alloc (.cells (lkA y) 94)).cell? ⟨gf,0,none⟩=some (.func (.func 155) #[] #[]):=(hf.alloc _).cell 0
 have r0:(w.alloc (.cells (lkA y) 94)).rangeAt w.heap.size 0 (RowT.enc y):=rB HB.out
 have r1:(w.alloc (.cells (lkA y) 94)).rangeAt g 0 (RowT.enc x):=rB HC.out
 have HQ:=zh (cmpN_pos y.nm x.nm)
 have HM:=zh (fun W=>compareL_any y x W)
 have eg:∀ args w,(callFunc 155 args).run Tryz.prog w=.ok (.enter 155 args) w:=fun _ _=>by kernel_rfl
 clear hb hf
 obtain ⟨v0,hv0⟩:∃ v,Value.agg (lkA y)=v:=⟨_,rfl⟩
 obtain ⟨v1,hv1⟩:∃ v,Value.agg (lkA x)=v:=⟨_,rfl⟩
 have HV0:=zh hv0
 have HV1:=zh hv1
 rw [hv0,hv1] at HM
 clear hv0 hv1
 go_enter Tryz.func216,Tryz.ntmps216
 go_wp2_with (first | (with_reducible refine wL lkP rfl (.tmp 3) rfl w.heap.size 0 rfl y v0 HV0.out r0 ?_) | (with_reducible refine wL lkP rfl (.tmp 2) rfl g 0 rfl x v1 HV1.out r1 ?_))
 refine (HM.out _).mono ?_
 rintro e w5 ⟨rfl,he5⟩
 have HX:=zh (HE.out.trans he5)
 clear he5 c0 r0 r1
 go_wp2_with fail
 go_ret
 exact ⟨by rw [← HQ.out];rfl,HX.out⟩
theorem beforeLk_any (A:Option Addr) (n c:Nat) (L:List LkR) (x:LkR) (w:World) (h:SlG w A n c L):Calls Tryz.prog 154 #[.slice A n c,.agg (lkA x),.func (.func 155) #[] #[]] w fun e w'=>∃ k:Nat,e=.returned (.int .i64 (k:Int))∧k≤n∧insB (fun y=>decide (un x.nm < un y.nm)) x L=L.take k ++ x :: L.drop k∧Ext w w':=by
 obtain ⟨W,hW⟩:∃ W,((w.alloc (.cells (lkA x) 94)).alloc (.cells #[.func (.func 155) #[] #[]] 172))=W:=⟨_,rfl⟩
 have HB:=zh (show Blk W w.heap.size 94 (lkA x) from by rw [← hW];exact (Blk.new w 94 (lkA x)).alloc _)
 have HC:=zh (show Blk W (w.heap.size+1) 172 #[.func (.func 155) #[] #[]] from by rw [← hW];exact Blk.newAt _ _ _ _ (by simp))
 have HE:=zh (show Ext w W from by rw [← hW];exact ((Ext.refl w).alloc' _).alloc' _)
 have HF:=zh (show Says lkA 216 #[.pointer (some ⟨w.heap.size+1,0,none⟩),.pointer (some ⟨w.heap.size,0,none⟩)] (fun y=>decide (un x.nm < un y.nm)) W from ⟨fun _ _=>by kernel_rfl,fun y W2 hE2 _=>beforeLk1_any x y _ _ W2 (HC.out.ext hE2) (HB.out.ext hE2)⟩)
 have HLEN:=zh h.len
 have HS:=zh (h.ext HE.out)
 have hcap:=h.cap
 have hle:=h.le
 clear h
 have hcs:=ix_cases (fun y=>decide (un x.nm < un y.nm)) L
 rw [HLEN.out] at hcs
 rcases hcs with hno | ⟨k,hk,h1,h2⟩
 ·have HI := zh (ixLk_any HF.out W A n c L HS.out (Ext.refl _) (-1) (.inl ⟨rfl, by rw [HLEN.out]; exact hno⟩))
  have HR:=zh (insB_at (fun y=>decide (un x.nm < un y.nm)) x L n (by rw [HLEN.out];exact Nat.le_refl _) (fun j hj hl=>by rw [nthG_eq hl];exact hno j hj) (fun hh=>absurd hh (by rw [HLEN.out];omega)))
  clear hno
  go_enter Tryz.func154,Tryz.ntmps154
  go_wp2_with fail
  refine HI.out.mono ?_
  rintro e w5 ⟨rfl,he5⟩
  have HX:=zh (HE.out.trans he5)
  clear he5 HI HF hW
  go_wp2_with fail
  go_ret
  exact ⟨n,rfl,Nat.le_refl _,HR.out,HX.out⟩
 have HI:=zh (ixLk_any HF.out W A n c L HS.out (Ext.refl _) (k:Int) (.inr ⟨k,rfl,by rw [HLEN.out];exact hk,h1,h2⟩))
 have HR:=zh (insB_at (fun y=>decide (un x.nm < un y.nm)) x L k (by rw [HLEN.out];omega) (fun j hj hl=>by rw [nthG_eq hl];exact h2 j hj) (fun hh=>by rw [nthG_eq hh];exact h1))
 clear h1 h2
 go_enter Tryz.func154,Tryz.ntmps154
 go_wp2_with fail
 refine HI.out.mono ?_
 rintro e w5 ⟨rfl,he5⟩
 have HX:=zh (HE.out.trans he5)
 clear he5 HI HF hW
 go_wp2_with fail
 go_ret
 exact ⟨k,rfl,Nat.le_of_lt hk,HR.out,HX.out⟩
theorem beforeNm1_any (x y:UInt64) (gf g:Nat) (w:World) (hf:Blk w gf 127 #[.func (.func 108) #[] #[]]) (hb:Blk w g 30 (nmc x)):Calls Tryz.prog 165 #[.agg (nmc y),.pointer (some ⟨gf,0,none⟩),.pointer (some ⟨g,0,none⟩)] w fun e w'=>e=.returned (.bool ((fun y=>decide (un x < un y)) y))∧Ext w w':=by
 have HB:=zh (Blk.new w 30 (nmc y))
 have HC:=zh (hb.alloc (.cells (nmc y) 30))
 have HE:=zh ((Ext.refl w).alloc' (.cells (nmc y) 30))
 have c0:(w.alloc (.cells (nmc y) 30)).cell? ⟨gf,0,none⟩=some (.func (.func 108) #[] #[]):=(hf.alloc _).cell 0
 have r0:(w.alloc (.cells (nmc y) 30)).rangeAt w.heap.size 0 (RowT.enc y):=nm_range HB.out
 have r1:(w.alloc (.cells (nmc y) 30)).rangeAt g 0 (RowT.enc x):=nm_range HC.out
 have HQ:=zh (cmpN_pos y x)
 have HM:=zh (fun W=>compareNames_any y x W)
 have eg:∀ args w,(callFunc 108 args).run Tryz.prog w=.ok (.enter 108 args) w:=fun _ _=>by kernel_rfl
 clear hb hf
 obtain ⟨v0,hv0⟩:∃ v,Value.agg (nmc y)=v:=⟨_,rfl⟩
 obtain ⟨v1,hv1⟩:∃ v,Value.agg (nmc x)=v:=⟨_,rfl⟩
 have HV0:=zh hv0
 have HV1:=zh hv1
 rw [hv0,hv1] at HM
 clear hv0 hv1
 go_enter Tryz.func165,Tryz.ntmps165
 go_wp2_with (first | (with_reducible refine wL nmP rfl (.tmp 3) rfl w.heap.size 0 rfl y v0 HV0.out r0 ?_) | (with_reducible refine wL nmP rfl (.tmp 2) rfl g 0 rfl x v1 HV1.out r1 ?_))
 refine (HM.out _).mono ?_
 rintro e w5 ⟨rfl,he5⟩
 have HX:=zh (HE.out.trans he5)
 clear he5 c0 r0 r1
 go_wp2_with fail
 go_ret
 exact ⟨by rw [← HQ.out];rfl,HX.out⟩
theorem beforeNm_any (A:Option Addr) (n c:Nat) (L:List UInt64) (x:UInt64) (w:World) (h:SlG w A n c L):Calls Tryz.prog 107 #[.slice A n c,.agg (nmc x),.func (.func 108) #[] #[]] w fun e w'=>∃ k:Nat,e=.returned (.int .i64 (k:Int))∧k≤n∧insB (fun y=>decide (un x < un y)) x L=L.take k ++ x :: L.drop k∧Ext w w':=by
 obtain ⟨W,hW⟩:∃ W,((w.alloc (.cells (nmc x) 30)).alloc (.cells #[.func (.func 108) #[] #[]] 127))=W:=⟨_,rfl⟩
 have HB:=zh (show Blk W w.heap.size 30 (nmc x) from by rw [← hW];exact (Blk.new w 30 (nmc x)).alloc _)
 have HC:=zh (show Blk W (w.heap.size+1) 127 #[.func (.func 108) #[] #[]] from by rw [← hW];exact Blk.newAt _ _ _ _ (by simp))
 have HE:=zh (show Ext w W from by rw [← hW];exact ((Ext.refl w).alloc' _).alloc' _)
 have HF:=zh (show Says nmc 165 #[.pointer (some ⟨w.heap.size+1,0,none⟩),.pointer (some ⟨w.heap.size,0,none⟩)] (fun y=>decide (un x < un y)) W from ⟨fun _ _=>by kernel_rfl,fun y W2 hE2 _=>beforeNm1_any x y _ _ W2 (HC.out.ext hE2) (HB.out.ext hE2)⟩)
 have HLEN:=zh h.len
 have HS:=zh (h.ext HE.out)
 have hcap:=h.cap
 have hle:=h.le
 clear h
 have hcs:=ix_cases (fun y=>decide (un x < un y)) L
 rw [HLEN.out] at hcs
 rcases hcs with hno | ⟨k,hk,h1,h2⟩
 ·have HI := zh (ixNm_any HF.out W A n c L HS.out (Ext.refl _) (-1) (.inl ⟨rfl, by rw [HLEN.out]; exact hno⟩))
  have HR:=zh (insB_at (fun y=>decide (un x < un y)) x L n (by rw [HLEN.out];exact Nat.le_refl _) (fun j hj hl=>by rw [nthG_eq hl];exact hno j hj) (fun hh=>absurd hh (by rw [HLEN.out];omega)))
  clear hno
  go_enter Tryz.func107,Tryz.ntmps107
  go_wp2_with fail
  refine HI.out.mono ?_
  rintro e w5 ⟨rfl,he5⟩
  have HX:=zh (HE.out.trans he5)
  clear he5 HI HF hW
  go_wp2_with fail
  go_ret
  exact ⟨n,rfl,Nat.le_refl _,HR.out,HX.out⟩
 have HI:=zh (ixNm_any HF.out W A n c L HS.out (Ext.refl _) (k:Int) (.inr ⟨k,rfl,by rw [HLEN.out];exact hk,h1,h2⟩))
 have HR:=zh (insB_at (fun y=>decide (un x < un y)) x L k (by rw [HLEN.out];omega) (fun j hj hl=>by rw [nthG_eq hl];exact h2 j hj) (fun hh=>by rw [nthG_eq hh];exact h1))
 clear h1 h2
 go_enter Tryz.func107,Tryz.ntmps107
 go_wp2_with fail
 refine HI.out.mono ?_
 rintro e w5 ⟨rfl,he5⟩
 have HX:=zh (HE.out.trans he5)
 clear he5 HI HF hW
 go_wp2_with fail
 go_ret
 exact ⟨k,rfl,Nat.le_of_lt hk,HR.out,HX.out⟩
end
end Go.Proofs.YtohmmcahpakokaaGreat
