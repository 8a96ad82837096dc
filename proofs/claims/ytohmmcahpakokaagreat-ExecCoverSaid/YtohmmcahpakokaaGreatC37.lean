/- exec.step: its value; expelled, funds, exact, lock. -/
import Derived.Test.YtohmmcahpakokaaGreatC27
import Derived.Test.YtohmmcahpakokaaGreatC34
set_option maxRecDepth 100000
set_option maxHeartbeats 8000000
set_option linter.unusedVariables false
set_option linter.unusedSimpArgs false
namespace Go.Proofs.YtohmmcahpakokaaGreat
open Go.RowKit
attribute [local go_sem ↓] Go.wp_at_zero Go.wp_at_succ
structure StpR where
 gN:Int
 gZ:Int
 B1:Option Addr
 m1:Nat
 d1:Nat
 B2:Option Addr
 m2:Nat
 d2:Nat
 B3:Option Addr
 m3:Nat
 d3:Nat
 s:StR
 ac:Int
 sq:Int
 A:Option Addr
 n:Nat
 c:Nat
 ht:Int
abbrev stpA (x:StpR):Array Value:=#[.int .i64 x.gN,.int .i64 x.gZ,.slice x.B1 x.m1 x.d1,.slice x.B2 x.m2 x.d2,.slice x.B3 x.m3 x.d3,.slice x.s.A1 x.s.n1 x.s.c1,.slice x.s.A2 x.s.n2 x.s.c2,.slice x.s.A3 x.s.n3 x.s.c3,.slice x.s.A4 x.s.n4 x.s.c4,.int .i64 x.s.G,.int .i64 x.ac,.int .i64 x.sq,.slice x.A x.n x.c,.int .i64 x.ht]
def stpL (x:StpR):List Value:=(stpA x).toList
theorem stpL_one (x:StpR):∀ u ∈ stpL x,u.oneCell'=true:=by
 intro u hu
 simp only [stpL,List.mem_cons,List.not_mem_nil,or_false] at hu
 rcases hu with rfl | rfl | rfl | rfl | rfl | rfl | rfl | rfl | rfl | rfl | rfl | rfl | rfl | rfl <;> rfl
instance:RowT StpR where
 sz:=14
 z:=⟨0,0,none,0,0,none,0,0,none,0,0,ss0,0,0,none,0,0,0⟩
 enc:=stpL
 ok _ _:=True
 pos:=by decide
 len _:=rfl
 one:=stpL_one
 ext _ _ _ h _:=h
theorem stpP:RowP StpR 86 stpA:=⟨fun _=>rfl,by kernel_rfl,_,Tryz.underlying86,rfl⟩
theorem stp_facts {w:World} {g:Nat} {t:TypeId} {x:StpR} (h:Blk w g t (stpA x)):w.cell? ⟨g,5,none⟩=some (.slice x.s.A1 x.s.n1 x.s.c1)∧w.cell? ⟨g,6,none⟩=some (.slice x.s.A2 x.s.n2 x.s.c2)∧w.cell? ⟨g,7,none⟩=some (.slice x.s.A3 x.s.n3 x.s.c3)∧w.cell? ⟨g,8,none⟩=some (.slice x.s.A4 x.s.n4 x.s.c4)∧w.cell? ⟨g,9,none⟩=some (.int .i64 x.s.G) :=
 ⟨h.cell 5,h.cell 6,h.cell 7,h.cell 8,h.cell 9⟩
theorem expelled_any (x:StpR) (i:Nat) (w:World) (hi:i≤9):Calls Tryz.prog 97 #[.agg (stpA x),.int .i64 (i:Int)] w fun e w'=>e=.returned (.bool (hasM x.s.G i))∧Ext w w':=by
 have HP:=zh (Blk.new w 86 (stpA x))
 have HX:=zh ((Ext.refl w).alloc' (.cells (stpA x) 86))
 have i0:(0:Int)≤(i:Int):=by omega
 have i1:(i:Int)≤64:=by omega
 obtain ⟨B,hB⟩:∃ B:Int,IntKind.i64.wrap (2 ^ i)=B:=⟨_,rfl⟩
 have HBB:=zh hB
 have HB2:=zh (show B=(2:Int) ^ i from by rw [← hB];exact wr_id (pow_in hi))
 have HB1:=zh (show (bits .and .i64 x.s.G B != 0)=hasM x.s.G i from by
  rw [HB2.out,bits_and_pow x.s.G hi]
  by_cases h:hasM x.s.G i=true
  ·rw [if_pos h,h];exact bne_iff_ne.2 (Int.ne_of_gt (Int.pow_pos (by decide)))
  ·rw [if_neg h];simp only [Bool.not_eq_true] at h;rw [h];rfl)
 obtain ⟨b,hb⟩:∃ b,(bits .and .i64 x.s.G B != 0)=b:=⟨_,rfl⟩
 rw [hb] at HB1
 clear hB
 obtain ⟨W,hW⟩:∃ W,w.alloc (.cells (stpA x) 86)=W:=⟨_,rfl⟩
 rw [hW] at HP HX
 go_enter Tryz.func97,Tryz.ntmps97
 go_upto_region 1 with fail
 refine wp_region_held_drew (S:=fun V=>Blk V w.heap.size 86 (stpA x)) (by kernel_rfl) (HP.out.drew) (fun hHeld=>?_)
 refine zz0 [0,1,2,3] ?_;repeat first | refine zz1 ?_ (hy:=by intro W hSW;obtain ⟨q0,q1,q2,q3,q4⟩:=stp_facts hSW;go_simp <;> with_reducible rfl) | refine zz2 ?_ | refine zz9 ?_
 refine zu 4 (v:=.int .i64 B) hHeld ?_ (hy:=by refine .inl ⟨by rfl,fun V _=>?_⟩;rw [← HBB.out];go_simp;try rfl)
 refine zt 5 hHeld ?_
 refine zu 6 (v:=.bool b) hHeld ?_ (hy:=by refine .inl ⟨by rfl,fun V _=>?_⟩;rw [← hb];go_simp;try rfl)
 refine zt 7 hHeld ?_
 refine wpAnyH_done (by kernel_rfl) ?_ _
 have HXX:=zh (HX.out.trans ((Ext.refl _).drew'))
 clear hHeld
 go_wp2_with fail
 go_ret
 exact ⟨by rw [HB1.out];rfl,HXX.out⟩
theorem funds_any (x:StpR) (n:Int) (w:World) (hs:x.s.ok w) (hac:wfI x.ac):Calls Tryz.prog 98 #[.agg (stpA x),.int .i64 n] w fun e w'=>e=.returned (.int .i64 (if getC x.s.C (balC x.ac) < n then 100 else 0))∧Ext w w':=by
 have HS:=zh hs
 have HC:=zh (show ceW (balC x.ac) from ce_ok (k:=1) (wfS ⟨by omega,by omega⟩) hac)
 have HP:=zh (Blk.new w 86 (stpA x))
 have HX:=zh ((Ext.refl w).alloc' (.cells (stpA x) 86))
 obtain ⟨W,hW⟩:∃ W,w.alloc (.cells (stpA x) 86)=W:=⟨_,rfl⟩
 rw [hW] at HP HX
 clear hs hac
 by_cases hlt:getC x.s.C (balC x.ac) < n
 ·rw [if_pos hlt]
  go_enter Tryz.func98,Tryz.ntmps98
  go_upto_region 1 with fail
  refine wp_region_held_drew (S:=fun V=>Blk V w.heap.size 86 (stpA x)∧Ext w V) (by kernel_rfl) (⟨HP.out.drew,HX.out.trans ((Ext.refl _).drew')⟩) (fun hHeld=>?_)
  refine zz0 [0,1,2,3,4,7] ?_;repeat first | refine zz1 ?_ (hy:=by intro W hSW;obtain ⟨q0,q1,q2,q3,q4⟩:=stp_facts hSW.1;have a0:=hSW.1.cell 10;go_simp <;> with_reducible rfl) | refine zz2 ?_ | refine zz9 ?_
  refine zzj (VE 5 (.agg (ceA (balC x.ac))) (VE 6 (.int .i64 (getC x.s.C (balC x.ac))) VN)) [(5,some 10),(6,some 11)] 1 (fun V V' h e=>⟨h.1.ext e,h.2.trans e⟩) (ve (ve VN.ext)) (zzc ?_ (zzc ?_ zzn)) ?_
  ·refine zzp fun W hE hS K hK => ?_
   go_simp
   go_at_call 82
   refine (balance_any x.ac _).mono ?_
   rintro e w5 ⟨rfl,he5⟩
   exact zzK (hK.out (.agg (ceA (balC x.ac))) _ (he5) (rfl))
  ·refine zm [(5, some 10)] fun env W hE hS hD K hK => ?_
   obtain ⟨h5,-⟩:=zzV hD
   clear hD
   simp only [layj,h5] at hK ⊢
   clear h5
   go_simp
   go_at_call 67
   refine (stGet_any x.s (balC x.ac) _ (HS.out.ext hS.2) HC.out).mono ?_
   rintro e w5 ⟨rfl,he5⟩
   exact zzK (hK.out (.int .i64 (getC x.s.C (balC x.ac))) _ (he5) (rfl))
  ·intro env W hE hS hV
   obtain ⟨h5,h6,-⟩:=zzV hV
   clear hV
   simp only [layj,h5,h6]
   clear h5
   clear h6
   have hHeld:=hS
   refine zt 8 hHeld ?_
   refine wpAnyH_done (by kernel_rfl) ?_ _
   have HXX:=zh hHeld.2
   clear hHeld hE hS
   go_wp2_with fail
   go_ret
   exact ⟨rfl,HXX.out⟩
 ·rw [if_neg hlt]
  go_enter Tryz.func98,Tryz.ntmps98
  go_upto_region 1 with fail
  refine wp_region_held_drew (S:=fun V=>Blk V w.heap.size 86 (stpA x)∧Ext w V) (by kernel_rfl) (⟨HP.out.drew,HX.out.trans ((Ext.refl _).drew')⟩) (fun hHeld=>?_)
  refine zz0 [0,1,2,3,4,7] ?_;repeat first | refine zz1 ?_ (hy:=by intro W hSW;obtain ⟨q0,q1,q2,q3,q4⟩:=stp_facts hSW.1;have a0:=hSW.1.cell 10;go_simp <;> with_reducible rfl) | refine zz2 ?_ | refine zz9 ?_
  refine zzj (VE 5 (.agg (ceA (balC x.ac))) (VE 6 (.int .i64 (getC x.s.C (balC x.ac))) VN)) [(5,some 10),(6,some 11)] 1 (fun V V' h e=>⟨h.1.ext e,h.2.trans e⟩) (ve (ve VN.ext)) (zzc ?_ (zzc ?_ zzn)) ?_
  ·refine zzp fun W hE hS K hK => ?_
   go_simp
   go_at_call 82
   refine (balance_any x.ac _).mono ?_
   rintro e w5 ⟨rfl,he5⟩
   exact zzK (hK.out (.agg (ceA (balC x.ac))) _ (he5) (rfl))
  ·refine zm [(5, some 10)] fun env W hE hS hD K hK => ?_
   obtain ⟨h5,-⟩:=zzV hD
   clear hD
   simp only [layj,h5] at hK ⊢
   clear h5
   go_simp
   go_at_call 67
   refine (stGet_any x.s (balC x.ac) _ (HS.out.ext hS.2) HC.out).mono ?_
   rintro e w5 ⟨rfl,he5⟩
   exact zzK (hK.out (.int .i64 (getC x.s.C (balC x.ac))) _ (he5) (rfl))
  ·intro env W hE hS hV
   obtain ⟨h5,h6,-⟩:=zzV hV
   clear hV
   simp only [layj,h5,h6]
   clear h5
   clear h6
   have hHeld:=hS
   refine zt 8 hHeld ?_
   refine wpAnyH_done (by kernel_rfl) ?_ _
   have HXX:=zh hHeld.2
   clear hHeld hE hS
   go_wp2_with fail
   go_ret
   exact ⟨rfl,HXX.out⟩
theorem exact_any (x:StpR) (R:OpR) (w:World) (hs:x.s.ok w):Calls Tryz.prog 148 #[.agg (stpA x),.agg (opA R)] w fun e w'=>e=.returned (.bool (R.am == getC x.s.C (lckC R.lk)))∧Ext w w':=by
 have HS:=zh hs
 have HC:=zh (show ceW (lckC R.lk) from ce_ok (k:=2) (i:=0) (wfS ⟨by omega,by omega⟩) (wfS ⟨by omega,by omega⟩))
 obtain ⟨W,hW⟩:∃ W,(w.alloc (.cells (stpA x) 86)).alloc (.cells (opA R) 69)=W:=⟨_,rfl⟩
 have HP:=zh (show Blk W w.heap.size 86 (stpA x) from by rw [← hW];exact (Blk.new w 86 (stpA x)).alloc _)
 have HO:=zh (show Blk W (w.heap.size+1) 69 (opA R) from by rw [← hW];exact Blk.newAt _ _ _ _ (by simp))
 have HX:=zh (show Ext w W from by rw [← hW];exact ((Ext.refl w).alloc' _).alloc' _)
 clear hs
 go_enter Tryz.func148,Tryz.ntmps148
 go_upto_region 1 with fail
 refine wp_region_held_drew (S:=fun V=>Blk V w.heap.size 86 (stpA x)∧Blk V (w.heap.size+1) 69 (opA R)∧Ext w V) (by kernel_rfl) (⟨HP.out.drew,HO.out.drew,HX.out.trans ((Ext.refl _).drew')⟩) (fun hHeld=>?_)
 refine zz0 [0,1,2,3,4] ?_;repeat first | refine zz1 ?_ (hy:=by intro W hSW;obtain ⟨q0,q1,q2,q3,q4⟩:=stp_facts hSW.1;have a0:=hSW.2.1.cell 2;go_simp <;> with_reducible rfl) | refine zz2 ?_ | refine zz9 ?_
 refine zu 5 (v:=.agg (nmc R.lk)) hHeld ?_ (hy:=by exact yields_loadG nmP (by rfl) (.tmp 9) rfl (w.heap.size+1) 5 rfl R.lk _ rfl (fun V h=>op_lkG h.2.1))
 refine zzj (VE 6 (.agg (ceA (lckC R.lk))) (VE 7 (.int .i64 (getC x.s.C (lckC R.lk))) VN)) [(6,some 11),(7,some 12)] 2 (fun V V' h e=>⟨h.1.ext e,h.2.1.ext e,h.2.2.trans e⟩) (ve (ve VN.ext)) (zzc ?_ (zzc ?_ zzn)) ?_
 ·refine zzp fun W hE hS K hK => ?_
  go_simp
  go_at_call 83
  refine (locked_any R.lk _).mono ?_
  rintro e w5 ⟨rfl,he5⟩
  exact zzK (hK.out (.agg (ceA (lckC R.lk))) _ (he5) (rfl))
 ·refine zm [(6, some 11)] fun env W hE hS hD K hK => ?_
  obtain ⟨h6,-⟩:=zzV hD
  clear hD
  simp only [layj,h6] at hK ⊢
  clear h6
  go_simp
  go_at_call 67
  refine (stGet_any x.s (lckC R.lk) _ (HS.out.ext hS.2.2) HC.out).mono ?_
  rintro e w5 ⟨rfl,he5⟩
  exact zzK (hK.out (.int .i64 (getC x.s.C (lckC R.lk))) _ (he5) (rfl))
 ·intro env W hE hS hV
  obtain ⟨h6,h7,-⟩:=zzV hV
  clear hV
  simp only [layj,h6,h7]
  clear h6
  clear h7
  have hHeld:=hS
  refine zzr [8,9] ?_
  refine wpAnyH_done (by kernel_rfl) ?_ _
  have HXX:=zh hHeld.2.2
  clear hHeld hE hS
  go_wp2_with fail
  go_ret
  exact ⟨rfl,HXX.out⟩
theorem steplock_any (x:StpR) (R:OpR) (w:World) (hs:x.s.ok w):Calls Tryz.prog 147 #[.agg (stpA x),.agg (opA R)] w fun e w'=>e=.returned (.tuple #[.agg (lkA (lkO (fdK x.s.K R.lk))),.int .i64 (if (fdK x.s.K R.lk).isSome=true then 0 else 6)])∧Ext w w':=by
 obtain ⟨W,hW⟩:∃ W,((w.alloc (.cells (stpA x) 86)).alloc (.cells (opA R) 69)).alloc (.cells lk0 94)=W:=⟨_,rfl⟩
 have HP:=zh (show Blk W w.heap.size 86 (stpA x) from by rw [← hW];exact ((Blk.new w 86 (stpA x)).alloc _).alloc _)
 have HO:=zh (show Blk W (w.heap.size+1) 69 (opA R) from by rw [← hW];exact Blk.alloc (Blk.newAt _ _ _ _ (by simp)) _)
 have HR:=zh (show Blk W (w.heap.size+2) 94 lk0 from by rw [← hW];exact Blk.newAt _ _ _ _ (by simp))
 have HX:=zh (show Ext w W from by rw [← hW];exact (((Ext.refl w).alloc' _).alloc' _).alloc' _)
 have HF:=zh (stLock_any x.s R.lk W (hs.ext HX.out))
 obtain ⟨q0,q1,q2,q3,q4⟩:=stp_facts HP.out
 have r5:W.rangeAt (w.heap.size+1) 5 (RowT.enc R.lk):=op_lkG HO.out
 obtain ⟨l,hl⟩:∃ l,lkO (fdK x.s.K R.lk)=l:=⟨_,rfl⟩
 obtain ⟨b,hb⟩:∃ b,(fdK x.s.K R.lk).isSome=b:=⟨_,rfl⟩
 obtain ⟨v,hv⟩:∃ v,Value.agg (lkA l)=v:=⟨_,rfl⟩
 have HV:=zh hv
 rw [hl,hb,hv] at HF
 rw [hl,hb,hv]
 clear hl hb hv hs
 cases b
 ·go_enter Tryz.func147, Tryz.ntmps147
  go_wp2_with (first | (with_reducible refine wpList_loadG nmP rfl (.tmp 11) rfl (w.heap.size+1) 5 rfl R.lk _ rfl r5 ?_) | fail "A")
  refine HF.out.mono ?_
  rintro e w5 ⟨rfl,he5⟩
  have HXX:=zh (HX.out.trans he5)
  have HR5:=zh (HR.out.ext he5)
  clear he5 q0 q1 q2 q3 q4 r5
  obtain ⟨X,hX⟩:∃ X,w5.heap.size=X:=⟨_,rfl⟩
  have HXS:=zh hX
  clear hX
  go_upto_region 2 with ((with_reducible refine wpList_newG lkP rfl (.tmp 6) (.tmp 14) rfl lk0 rfl l v HV.out rfl rfl ?_);intro W6 h6)
  have HX6:=zh (show Ext w5 W6 from by rw [← h6.out];exact (Ext.refl w5).alloc' _)
  have HB6:=zh (show Blk W6 X 94 (lkA l) from by rw [← h6.out,← HXS.out];exact Blk.new w5 94 (lkA l))
  have HR6:=zh (HR5.out.ext HX6.out)
  have ht:W6.there (w.heap.size+2) 0 (RowT.sz LkR):=there_of_blk HR6.out
  have r6:W6.rangeAt X 0 (RowT.enc l):=rangeAt_of_blk HB6.out
  rw [HXS.out]
  clear h6
  go_wp2_with (first | (with_reducible refine wpList_loadG lkP rfl (.tmp 6) rfl X 0 rfl l v HV.out r6 ?_) | (with_reducible refine wpList_storeG lkP rfl (.tmp 4) (.tmp 18) rfl (w.heap.size+2) 0 rfl l v HV.out rfl ht ?_))
  have hst:=blk_whole (ds:=lkA l) HR6.out rfl
  rw [← HV.out]
  exact bodyPost_ret (retCV rfl _ _ (w.heap.size+2) _ _ rfl rfl (run_loadVar_row _ _ _ _ _ (0,0) _ hst Tryz.underlying94 rfl (by kernel_rfl))) rfl ⟨rfl,Below.setCells' (HXX.out.trans HX6.out) (by omega) _ _⟩
 ·go_enter Tryz.func147, Tryz.ntmps147
  go_wp2_with (first | (with_reducible refine wpList_loadG nmP rfl (.tmp 11) rfl (w.heap.size+1) 5 rfl R.lk _ rfl r5 ?_) | fail "A")
  refine HF.out.mono ?_
  rintro e w5 ⟨rfl,he5⟩
  have HXX:=zh (HX.out.trans he5)
  have HR5:=zh (HR.out.ext he5)
  clear he5 q0 q1 q2 q3 q4 r5
  obtain ⟨X,hX⟩:∃ X,w5.heap.size=X:=⟨_,rfl⟩
  have HXS:=zh hX
  clear hX
  go_upto_region 2 with ((with_reducible refine wpList_newG lkP rfl (.tmp 6) (.tmp 14) rfl lk0 rfl l v HV.out rfl rfl ?_);intro W6 h6)
  have HX6:=zh (show Ext w5 W6 from by rw [← h6.out];exact (Ext.refl w5).alloc' _)
  have HB6:=zh (show Blk W6 X 94 (lkA l) from by rw [← h6.out,← HXS.out];exact Blk.new w5 94 (lkA l))
  have HR6:=zh (HR5.out.ext HX6.out)
  have ht:W6.there (w.heap.size+2) 0 (RowT.sz LkR):=there_of_blk HR6.out
  have r6:W6.rangeAt X 0 (RowT.enc l):=rangeAt_of_blk HB6.out
  rw [HXS.out]
  clear h6
  go_wp2_with (first | (with_reducible refine wpList_loadG lkP rfl (.tmp 6) rfl X 0 rfl l v HV.out r6 ?_) | (with_reducible refine wpList_storeG lkP rfl (.tmp 4) (.tmp 19) rfl (w.heap.size+2) 0 rfl l v HV.out rfl ht ?_))
  have hst:=blk_whole (ds:=lkA l) HR6.out rfl
  rw [← HV.out]
  exact bodyPost_ret (retCV rfl _ _ (w.heap.size+2) _ _ rfl rfl (run_loadVar_row _ _ _ _ _ (0,0) _ hst Tryz.underlying94 rfl (by kernel_rfl))) rfl ⟨rfl,Below.setCells' (HXX.out.trans HX6.out) (by omega) _ _⟩
theorem begin_any (N Z:Int) (B1:Option Addr) (m1 d1:Nat) (B2:Option Addr) (m2 d2:Nat) (B3:Option Addr) (m3 d3:Nat) (PN:List UInt64) (BL:List Int) (s:StR) (T:TxR) (w:World)
    (hs:s.ok w) (hT:T.ok w) (hN:SlG w B2 m2 d2 PN) (hB:SlZ w B3 m3 d3 BL) (hm1:m1≤9223372036854775807) :
    Calls Tryz.prog 50 #[.agg (genC N Z B1 m1 d1 B2 m2 d2 B3 m3 d3),.agg (ssA s),.agg (tA T)] w fun e w'=>e=.returned (.int .i64 (bgnE (vldG N Z m1 m2 m3 BL) m2 (vSg (nthG PN T.ac.toNat) T) s.V T.ac T.sq T.L))∧Ext w w':=by
  obtain ⟨ac,sq,A,n,c,S,m,d,L,sig⟩:=T
  have HS:=zh hs
  have HOPS:=zh hT.ops
  have HT:=zh hT
  have HZ:=zh hB
  have HNN:=zh hN
  have hm2:m2≤9223372036854775807:=Nat.le_trans hN.le hN.cap
  have hq2:s.n2≤9223372036854775807:=Nat.le_trans hs.s2.le hs.s2.cap
  have HQL:=zh (show s.V.Q.length=s.n2 from hs.s2.len)
  show Calls _ _ _ _ fun e w'=>e=.returned (.int .i64 (bgnE (vldG N Z m1 m2 m3 BL) m2 (vSg (nthG PN ac.toNat) ⟨ac,sq,A,n,c,S,m,d,L,sig⟩) s.V ac sq L))∧Ext w w'
  have HV:=zh (fun (V:World) (e:Ext w V)=>validate_any ac sq A n c L V (HOPS.out.ext e))
  have HG:=zh (fun (V:World) (e:Ext w V)=>valGenesis_any N Z B1 m1 d1 B2 m2 d2 B3 m3 d3 BL V (HZ.out.ext e) hm1 hm2)
  obtain ⟨W,hW⟩:∃ W,((w.alloc (.cells (genC N Z B1 m1 d1 B2 m2 d2 B3 m3 d3) 40)).alloc (.cells (ssA s) 44)).alloc (.cells (tA ⟨ac,sq,A,n,c,S,m,d,L,sig⟩) 47)=W:=⟨_,rfl⟩
  have HB:=zh (show Blk W w.heap.size 40 (genC N Z B1 m1 d1 B2 m2 d2 B3 m3 d3) from by rw [← hW];exact ((Blk.new w 40 (genC N Z B1 m1 d1 B2 m2 d2 B3 m3 d3)).alloc _).alloc _)
  have HC:=zh (show Blk W (w.heap.size+1) 44 (ssA s) from by rw [← hW];exact Blk.alloc (Blk.newAt _ _ _ _ (by simp)) _)
  have HD:=zh (show Blk W (w.heap.size+2) 47 (tA ⟨ac,sq,A,n,c,S,m,d,L,sig⟩) from by rw [← hW];exact Blk.newAt _ _ _ _ (by simp))
  have HX:=zh (show Ext w W from by rw [← hW];exact (((Ext.refl w).alloc' _).alloc' _).alloc' _)
  have t0:=HD.out.cell 0
  have t1:=HD.out.cell 1
  have t2:=HD.out.cell 2
  clear hs hT hN hB
  cases hv:vTx ac sq L with
  | false =>
    have HSP:=zh (show bgnE (vldG N Z m1 m2 m3 BL) m2 (vSg (nthG PN ac.toNat) ⟨ac,sq,A,n,c,S,m,d,L,sig⟩) s.V ac sq L=1 from if_pos (.inl hv))
    rw [hv] at HV
    have HV:=zh (show ∀ (V:World),Ext w V→Calls Tryz.prog 44 #[.agg (txA ac sq A n c)] V (fun e w'=>e=.returned (.int .i64 1)∧Ext V w') from HV.out)
    clear hv
    go_enter Tryz.func50,Tryz.ntmps50
    go_wp2_with fail
    refine (HV.out _ HX.out).mono ?_
    rintro e w5 ⟨rfl,he5⟩
    have HX5:=zh (HX.out.trans he5)
    clear he5 t0 t1 t2
    go_wp2_with fail
    go_ret
    exact ⟨by rw [HSP.out];rfl,HX5.out⟩
  | true =>
    rw [hv] at HV
    have HV:=zh (show ∀ (V:World),Ext w V→Calls Tryz.prog 44 #[.agg (txA ac sq A n c)] V (fun e w'=>e=.returned (.int .i64 0)∧Ext V w') from HV.out)
    obtain ⟨⟨a1,a2,a3,a4,a5,a6⟩,-⟩:=vTx_of hv
    obtain ⟨a,rfl⟩:∃ a:Nat,ac=(a:Int):=⟨ac.toNat,by omega⟩
    have HVT:=zh hv
    clear hv
    cases hg:vldG N Z m1 m2 m3 BL with
    | false =>
      have HSP:=zh (show bgnE false m2 (vSg (nthG PN (a:Int).toNat) ⟨(a:Int),sq,A,n,c,S,m,d,L,sig⟩) s.V (a:Int) sq L=1 from if_pos (.inr (.inl rfl)))
      rw [hg] at HG
      have HG:=zh (show ∀ (V:World),Ext w V→Calls Tryz.prog 88 #[.agg (genC N Z B1 m1 d1 B2 m2 d2 B3 m3 d3)] V (fun e w'=>e=.returned (.int .i64 1)∧Ext V w') from HG.out)
      clear hg
      go_enter Tryz.func50,Tryz.ntmps50
      go_wp2_with fail
      refine (HV.out _ HX.out).mono ?_
      rintro e w5 ⟨rfl,he5⟩
      have HX5:=zh (HX.out.trans he5)
      have HB5:=zh (HB.out.ext he5)
      have g0:=HB5.out.cell 0
      have g1:=HB5.out.cell 1
      have g2:=HB5.out.cell 2
      have g3:=HB5.out.cell 3
      have g4:=HB5.out.cell 4
      clear he5 t0 t1 t2
      go_wp2_with fail
      refine (HG.out _ HX5.out).mono ?_
      rintro e w6 ⟨rfl,he6⟩
      have HX6:=zh (HX5.out.trans he6)
      clear he6 g0 g1 g2 g3 g4
      go_wp2_with fail
      go_ret
      exact ⟨by rw [HSP.out];rfl,HX6.out⟩
    | true =>
      rw [hg] at HG
      have HG:=zh (show ∀ (V:World),Ext w V→Calls Tryz.prog 88 #[.agg (genC N Z B1 m1 d1 B2 m2 d2 B3 m3 d3)] V (fun e w'=>e=.returned (.int .i64 0)∧Ext V w') from HG.out)
      clear hg
      by_cases h1:m2≤a
      · have HSP := zh (show bgnE true m2 (vSg (nthG PN (a : Int).toNat) ⟨(a : Int), sq, A, n, c, S, m, d, L, sig⟩) s.V (a : Int) sq L = 1 from if_pos (.inr (.inr (.inl (by omega)))))
        have i1:(m2:Int)≤(a:Int):=by omega
        go_enter Tryz.func50,Tryz.ntmps50
        go_wp2_with fail
        refine (HV.out _ HX.out).mono ?_
        rintro e w5 ⟨rfl,he5⟩
        have HX5:=zh (HX.out.trans he5)
        have HB5:=zh (HB.out.ext he5)
        have HC5:=zh (HC.out.ext he5)
        have HD5:=zh (HD.out.ext he5)
        have g0:=HB5.out.cell 0
        have g1:=HB5.out.cell 1
        have g2:=HB5.out.cell 2
        have g3:=HB5.out.cell 3
        have g4:=HB5.out.cell 4
        clear he5 t0 t1 t2
        go_wp2_with fail
        refine (HG.out _ HX5.out).mono ?_
        rintro e w6 ⟨rfl,he6⟩
        have HX6:=zh (HX5.out.trans he6)
        have HB6:=zh (HB5.out.ext he6)
        have HC6:=zh (HC5.out.ext he6)
        have HD6:=zh (HD5.out.ext he6)
        have g3:=HB6.out.cell 3
        obtain ⟨q0,q1,q2,q3,q4⟩:=ss_facts HC6.out
        clear he6 g0 g1 g2 g4 HB5 HC5 HD5 HX5
        go_wp2_with fail
        go_ret
        exact ⟨by rw [HSP.out];rfl,HX6.out⟩
      · have i1 : ¬ (m2 : Int) ≤ (a : Int) := by omega
        by_cases h2:s.n2=m2
        · subst h2
          obtain ⟨gb,go,rfl,hrow,-⟩:=HNN.out.at (by omega)
          obtain ⟨qb,qo,hqa,hqr,-⟩:=HS.out.s2.at (by omega)
          have HQB:=zh hqa
          obtain ⟨pk,hpk⟩:∃ pk,nthG PN a=pk:=⟨_,rfl⟩
          have HPK:=zh (fun (V:World) (e:Ext w V)=>show V.rangeAt gb (go+a * 8) (RowT.enc pk) from by
            rw [← hpk]
            obtain ⟨b2,o2,e2,hr2,-⟩:=(HNN.out.ext e).at (by omega)
            injection e2 with e3
            injection e3 with e4 e5
            subst e4
            subst e5
            exact el_at (k:=a) hr2 (by rw [HNN.out.len];omega))
          have HQC:=zh (fun (V:World) (e:Ext w V)=>show V.cell? ⟨qb,qo+a,none⟩=some (.int .i64 (nthG s.Q a)) from by
            obtain ⟨b2,o2,e2,hr2,-⟩:=(HS.out.ext e).s2.at (by omega)
            rw [HQB.out] at e2
            injection e2 with e3
            injection e3 with e4 e5
            subst e4
            subst e5
            have h5:V.rangeAt qb (qo+a * 1) (RowT.enc (nthG s.Q a)):=el_at hr2 (by rw [HS.out.s2.len];omega)
            have h7:=h5 0 _ rfl
            rwa [show qo+a * 1+0=qo+a from by omega] at h7)
          have HVER:=zh (fun (V:World) (e:Ext w V)=>txVerify_any pk ⟨(a:Int),sq,A,n,c,S,m,d,L,sig⟩ V (HT.out.ext e))
          have HAPP:=zh (fun (V:World) (e:Ext w V)=>stApplied_any s (txNm (a:Int) sq L) V (HS.out.ext e))
          obtain ⟨sg,hsg⟩:∃ sg,vSg pk ⟨(a:Int),sq,A,n,c,S,m,d,L,sig⟩=sg:=⟨_,rfl⟩
          obtain ⟨ap,hap⟩:∃ ap,decide (txNm (a:Int) sq L ∈ s.P)=ap:=⟨_,rfl⟩
          rw [hsg] at HVER
          rw [hap] at HAPP
          have HSG:=zh hsg
          have HAP:=zh hap
          have HBE:=zh (show bgnE true s.n2 (vSg (nthG PN a) ⟨(a:Int),sq,A,n,c,S,m,d,L,sig⟩) s.V (a:Int) sq L=if sg=false then 8 else if ap=true then 7 else if sq ≠ nthG s.Q a then 101 else 0 from by
            rw [hpk,hsg]
            unfold bgnE
            rw [if_neg (by rintro (h | h | h | h); · rw [HVT.out] at h; cases h
                           · cases h
                           · omega
                           · exact h HQL.out)]
            rw [← hap]
            simp only [decide_eq_true_eq]
            rfl)
          have i2:(a:Int) < (s.n2:Int):=by omega
          have i3:(0:Int)≤(a:Int):=by omega
          clear hsg hap hpk hrow hqa hqr
          go_enter Tryz.func50,Tryz.ntmps50
          go_wp2_with fail
          refine (HV.out _ HX.out).mono ?_
          rintro e w5 ⟨rfl,he5⟩
          have HX5:=zh (HX.out.trans he5)
          have HB5:=zh (HB.out.ext he5)
          have HC5:=zh (HC.out.ext he5)
          have HD5:=zh (HD.out.ext he5)
          have g0:=HB5.out.cell 0
          have g1:=HB5.out.cell 1
          have g2:=HB5.out.cell 2
          have g3:=HB5.out.cell 3
          have g4:=HB5.out.cell 4
          clear he5 t0 t1 t2
          go_wp2_with fail
          refine (HG.out _ HX5.out).mono ?_
          rintro e w6 ⟨rfl,he6⟩
          have HX6:=zh (HX5.out.trans he6)
          have HB6:=zh (HB5.out.ext he6)
          have HC6:=zh (HC5.out.ext he6)
          have HD6:=zh (HD5.out.ext he6)
          have g3:=HB6.out.cell 3
          obtain ⟨q0,q1,q2,q3,q4⟩:=ss_facts HC6.out
          clear he6 g0 g1 g2 g4 HB5 HC5 HD5 HX5
          go_upto_region 4 with fail
          clear g3 q0 q1 q2 q3 q4
          refine wp_region_held_drew (S:=fun V=>Blk V w.heap.size 40 (genC N Z B1 m1 d1 (some ⟨gb,go,none⟩) s.n2 d2 B3 m3 d3)∧Blk V (w.heap.size+1) 44 (ssA s)∧Blk V (w.heap.size+2) 47 (tA ⟨(a:Int),sq,A,n,c,S,m,d,L,sig⟩)∧Ext w V) (by kernel_rfl) (⟨HB6.out.drew,HC6.out.drew,HD6.out.drew,HX6.out.trans ((Ext.refl _).drew')⟩) (fun hHeld=>?_)
          refine zz0 [0,1,2,3] ?_;repeat first | refine zz1 ?_ (hy:=by intro W hSW;obtain ⟨q0,q1,q2,q3,q4⟩:=ss_facts hSW.2.1;have g3:=hSW.1.cell 3;have t0:=hSW.2.2.1.cell 0;have t1:=hSW.2.2.1.cell 1;have t2:=hSW.2.2.1.cell 2;have t3:=hSW.2.2.1.cell 3;go_simp <;> with_reducible rfl) | refine zz2 ?_ | refine zz9 ?_
          refine zu 4 (v:=.agg (nmc pk)) hHeld ?_ (hy:=by exact yields_loadG nmP (by rfl) (.tmp 41) rfl gb (go+a * 8) rfl pk _ rfl (fun V h=>HPK.out V h.2.2.2))
          refine zz0 [5] ?_;repeat first | refine zz1 ?_ (hy:=by intro W hSW;obtain ⟨q0,q1,q2,q3,q4⟩:=ss_facts hSW.2.1;have g3:=hSW.1.cell 3;have t0:=hSW.2.2.1.cell 0;have t1:=hSW.2.2.1.cell 1;have t2:=hSW.2.2.1.cell 2;have t3:=hSW.2.2.1.cell 3;go_simp <;> with_reducible rfl) | refine zz2 ?_ | refine zz9 ?_
          refine zzj (VE 6 (.bool sg) VN) [(6,some 44)] 2 (fun V V' h e=>⟨h.1.ext e,h.2.1.ext e,h.2.2.1.ext e,h.2.2.2.trans e⟩) (ve VN.ext) (zzc ?_ zzn) ?_
          · refine zzp fun W hE hS K hK => ?_
            go_simp
            go_at_call 89
            refine (HVER.out _ hS.2.2.2).mono ?_
            rintro e w5 ⟨rfl,he5⟩
            exact zzK (hK.out (.bool sg) _ (he5) (rfl))
          · intro env W hE hS hV
            obtain ⟨h6,-⟩:=zzV hV
            clear hV
            simp only [layj,h6]
            clear h6
            have hHeld:=hS
            refine zzr [7,8] ?_
            refine wpAnyH_done (by kernel_rfl) ?_ _
            have HX7:=zh hHeld.2.2.2
            have HB7:=zh hHeld.1
            have HC7:=zh hHeld.2.1
            have HD7:=zh hHeld.2.2.1
            clear hHeld hE hS HB6 HC6 HD6 HX6
            cases sg
            · go_wp2_with fail
              go_ret
              exact ⟨by first | (rw [HBE.out];rfl) | (rw [Int.toNat_natCast,HBE.out];rfl),HX7.out⟩
            · go_upto_region 6 with fail
              refine wp_region_held_drew (S:=fun V=>Blk V w.heap.size 40 (genC N Z B1 m1 d1 (some ⟨gb,go,none⟩) s.n2 d2 B3 m3 d3)∧Blk V (w.heap.size+1) 44 (ssA s)∧Blk V (w.heap.size+2) 47 (tA ⟨(a:Int),sq,A,n,c,S,m,d,L,sig⟩)∧Ext w V) (by kernel_rfl) (⟨HB7.out.drew,HC7.out.drew,HD7.out.drew,HX7.out.trans ((Ext.refl _).drew')⟩) (fun hHeld=>?_)
              refine zz0 [0,1,2] ?_;repeat first | refine zz1 ?_ (hy:=by intro W hSW;obtain ⟨q0,q1,q2,q3,q4⟩:=ss_facts hSW.2.1;have g3:=hSW.1.cell 3;have t0:=hSW.2.2.1.cell 0;have t1:=hSW.2.2.1.cell 1;have t2:=hSW.2.2.1.cell 2;have t3:=hSW.2.2.1.cell 3;go_simp <;> with_reducible rfl) | refine zz2 ?_ | refine zz9 ?_
              refine held_joint (VV 3 (fun v V=>v=.agg (nmc (txNm (a:Int) sq L))) (VV 4 (fun v V=>v=.bool ap) (VN))) [(3,some 50),(4,some 51)] (fuel:=1) (by kernel_rfl) (by kernel_rfl) (fun V V' h e=>⟨h.1.ext e,h.2.1.ext e,h.2.2.1.ext e,h.2.2.2.trans e⟩) (VV.ext (fun v w w' h e=>h) (VV.ext (fun v w w' h e=>h) (VN.ext))) hHeld ?hm2 rfl ?hr2
              case hm2 =>
                refine Members.cons ?mm2_3 (Members.cons ?mm2_4 (Members.nil _))
                case mm2_3 =>
                  refine zm [] (fun env W hE hS hD K hK=>?_)
                  clear hD
                  try simp only [layj]
                  go_simp
                  go_at_call 56
                  refine (txName_any (a:Int) sq A n c L _ (HOPS.out.ext hS.2.2.2)).mono ?_
                  rintro e w5 ⟨rfl,he5⟩
                  have hk:=hK.out (.agg (nmc (txNm (a:Int) sq L))) _ (he5) (rfl)
                  try simp only [layj] at hk
                  exact hk
                case mm2_4 =>
                  refine zm [(3,some 50)] (fun env W hE hS hD K hK=>?_)
                  have h3:(fun v V=>v=.agg (nmc (txNm (a:Int) sq L))) (env 3) W:=hD (3,some 50) (by simp)
                  clear hD
                  try simp only [layj] at hK ⊢
                  generalize env 3=x3 at h3 hK ⊢
                  subst h3
                  go_simp
                  go_at_call 63
                  refine (HAPP.out _ hS.2.2.2).mono ?_
                  rintro e w5 ⟨rfl,he5⟩
                  have hk:=hK.out (.bool ap) _ (he5) (rfl)
                  try simp only [layj] at hk
                  exact hk
              case hr2 =>
                intro env W hE hS hV
                have h3:(fun v V=>v=.agg (nmc (txNm (a:Int) sq L))) (env 3) W:=hV (3,some 50) (by simp)
                have h4:(fun v V=>v=.bool ap) (env 4) W:=hV (4,some 51) (by simp)
                clear hV
                try simp only [layj]
                generalize env 3=x3 at h3 ⊢
                generalize env 4=x4 at h4 ⊢
                subst h3
                subst h4
                have hHeld:=hS
                refine zt 5 hHeld ?_
                refine wpAnyH_done (by kernel_rfl) ?_ _
                have HX8:=zh hHeld.2.2.2
                have HB8:=zh hHeld.1
                have HC8:=zh hHeld.2.1
                have HD8:=zh hHeld.2.2.1
                clear hHeld hE hS HB7 HC7 HD7 HX7
                cases ap
                · go_upto_region 8 with fail
                  by_cases h8:sq=nthG s.Q a
                  · have HSP := zh (show (if sq ≠ nthG s.Q a then (101 : Int) else 0) = 0 from if_neg (fun h => h h8))
                    have b8:(sq != nthG s.Q a)=false:=by rw [h8];exact bne_self_eq_false _
                    clear h8
                    refine wp_region_held_drew (S:=fun V=>Blk V w.heap.size 40 (genC N Z B1 m1 d1 (some ⟨gb,go,none⟩) s.n2 d2 B3 m3 d3)∧Blk V (w.heap.size+1) 44 (ssA s)∧Blk V (w.heap.size+2) 47 (tA ⟨(a:Int),sq,A,n,c,S,m,d,L,sig⟩)∧Ext w V) (by kernel_rfl) (⟨HB8.out.drew,HC8.out.drew,HD8.out.drew,HX8.out.trans ((Ext.refl _).drew')⟩) (fun hHeld=>?_)
                    refine zz0 [0,1,2,3,4,5,6,7,8,9] ?_;repeat first | refine zz1 ?_ (hy:=by intro W hSW;have q1:W.cell? ⟨w.heap.size+1,1,none⟩=some (.slice (some ⟨qb,qo,none⟩) s.n2 s.c2):=(by rw [← HQB.out];exact hSW.2.1.cell 1);have t1:=hSW.2.2.1.cell 1;have c9:=HQC.out W hSW.2.2.2;go_simp <;> with_reducible rfl) | refine zz2 ?_ | refine zz9 ?_
                    refine wpAnyH_done (by kernel_rfl) ?_ _
                    have HX9:=zh hHeld.2.2.2
                    clear hHeld
                    go_wp2_with fail
                    go_ret
                    exact ⟨by (first | rw [HBE.out] | rw [Int.toNat_natCast,HBE.out]);show _=Ending.returned (.int .i64 (if sq ≠ nthG s.Q a then (101:Int) else 0));rw [HSP.out];rfl,HX9.out⟩
                  · have HSP := zh (show (if sq ≠ nthG s.Q a then (101 : Int) else 0) = 101 from if_pos h8)
                    have b8:(sq != nthG s.Q a)=true:=bne_iff_ne.2 h8
                    clear h8
                    refine wp_region_held_drew (S:=fun V=>Blk V w.heap.size 40 (genC N Z B1 m1 d1 (some ⟨gb,go,none⟩) s.n2 d2 B3 m3 d3)∧Blk V (w.heap.size+1) 44 (ssA s)∧Blk V (w.heap.size+2) 47 (tA ⟨(a:Int),sq,A,n,c,S,m,d,L,sig⟩)∧Ext w V) (by kernel_rfl) (⟨HB8.out.drew,HC8.out.drew,HD8.out.drew,HX8.out.trans ((Ext.refl _).drew')⟩) (fun hHeld=>?_)
                    refine zz0 [0,1,2,3,4,5,6,7,8,9] ?_;repeat first | refine zz1 ?_ (hy:=by intro W hSW;have q1:W.cell? ⟨w.heap.size+1,1,none⟩=some (.slice (some ⟨qb,qo,none⟩) s.n2 s.c2):=(by rw [← HQB.out];exact hSW.2.1.cell 1);have t1:=hSW.2.2.1.cell 1;have c9:=HQC.out W hSW.2.2.2;go_simp <;> with_reducible rfl) | refine zz2 ?_ | refine zz9 ?_
                    refine wpAnyH_done (by kernel_rfl) ?_ _
                    have HX9:=zh hHeld.2.2.2
                    clear hHeld
                    go_wp2_with fail
                    go_ret
                    exact ⟨by (first | rw [HBE.out] | rw [Int.toNat_natCast,HBE.out]);show _=Ending.returned (.int .i64 (if sq ≠ nthG s.Q a then (101:Int) else 0));rw [HSP.out];rfl,HX9.out⟩
                · go_wp2_with fail
                  go_ret
                  exact ⟨by rw [HBE.out];rfl,HX8.out⟩
        · have HSP := zh (show bgnE true m2 (vSg (nthG PN (a : Int).toNat) ⟨(a : Int), sq, A, n, c, S, m, d, L, sig⟩) s.V (a : Int) sq L = 1 from if_pos (.inr (.inr (.inr (by rw [HQL.out]; exact h2)))))
          have i2:((s.n2:Int) != (m2:Int))=true:=bne_iff_ne.2 (by omega)
          go_enter Tryz.func50,Tryz.ntmps50
          go_wp2_with fail
          refine (HV.out _ HX.out).mono ?_
          rintro e w5 ⟨rfl,he5⟩
          have HX5:=zh (HX.out.trans he5)
          have HB5:=zh (HB.out.ext he5)
          have HC5:=zh (HC.out.ext he5)
          have HD5:=zh (HD.out.ext he5)
          have g0:=HB5.out.cell 0
          have g1:=HB5.out.cell 1
          have g2:=HB5.out.cell 2
          have g3:=HB5.out.cell 3
          have g4:=HB5.out.cell 4
          clear he5 t0 t1 t2
          go_wp2_with fail
          refine (HG.out _ HX5.out).mono ?_
          rintro e w6 ⟨rfl,he6⟩
          have HX6:=zh (HX5.out.trans he6)
          have HB6:=zh (HB5.out.ext he6)
          have HC6:=zh (HC5.out.ext he6)
          have HD6:=zh (HD5.out.ext he6)
          have g3:=HB6.out.cell 3
          obtain ⟨q0,q1,q2,q3,q4⟩:=ss_facts HC6.out
          clear he6 g0 g1 g2 g4 HB5 HC5 HD5 HX5
          go_wp2_with fail
          go_ret
          exact ⟨by rw [HSP.out];rfl,HX6.out⟩
end Go.Proofs.YtohmmcahpakokaaGreat
