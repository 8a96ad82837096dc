import Derived.Test.YtgmnmjeccfnmbaaGreatE17
set_option maxRecDepth 100000
set_option maxHeartbeats 8000000
set_option linter.unusedVariables false
set_option linter.unusedSimpArgs false
namespace Go.Proofs.YtgmnmjeccfnmbaaGreat
open Go.Proofs.Tryz
section
open Go.RowKit
attribute [local go_sem ↓] Go.wp_at_zero Go.wp_at_succ
def aNZ (w:World) (C:List DeR) (c:CeR) (e:Ending) (w':World):Prop:=∃ r,e=.returned (.int .i64 r)∧IxIs (fun d:DeR=>decide (d.c=c)) C r∧Ext w w'
theorem aFW (s:StR) (c:CeR) (w:World) (h:s.ok w) (hc:ceW c):Calls prog 57 #[.agg (ssA s),.agg (ceA c)] w (aNZ w s.C c):=by
 obtain ⟨W,hW⟩:=gx ((w.alloc (.cells (ssA s) 30)).alloc (.cells (ceA c) 61))
 have HB:=zh (show Blk W w.heap.size 30 (ssA s) from cg)
 have HC:=zh (show Blk W (w.heap.size+1) 61 (ceA c) from ag)
 have HE:=zh (show Ext w W from ai)
 have HS:=zh h.s1
 have HCW:=zh hc
 have HLEN:=zh h.s1.len
 have hle:=h.s1.le
 have hcap:=h.s1.cap
 clear h hc
 go_enter func57,ntmps57
 go_wp2_with fail
 go_loopw [5] (fun vi wr=>∃ k:Nat,vi=.int .i64 (k:Int)∧k≤s.n1∧Hid (∀ j,j < k→decide ((aS s.C j).c=c)=false)∧Hid (Ext W wr)) (fun i _=>s.n1 - (intOf i).toNat)
 case atStart=>exact ⟨0,rfl,Nat.zero_le _,zh (fun j hj=>absurd hj (Nat.not_lt_zero _)),zh (Ext.refl W)⟩
 case round =>
  obtain ⟨k,rfl,hk,HN,HXW⟩:=hrel
  have HB1:=zh (HB.out.ext HXW.out)
  have HC1:=zh (HC.out.ext HXW.out)
  have HX:=zh (HE.out.trans HXW.out)
  have q0:=HB1.out.cell 0
  by_cases hlt:k < s.n1
  ·have i0 : (0 : Int) ≤ (k : Int) := aa
   have i1:(k:Int) < (s.n1:Int):=aa
   obtain ⟨d,hd⟩:=gx (aS s.C k)
   obtain ⟨b,o,hab,hrow,-⟩:=HS.out.at aa
   have HAB:=zh hab
   have HDR:=zh (fun (V:World) (e:Ext w V)=>show V.rangeAt b (o+k * 11) (RowT.enc d.c) from by
    rw [← hd]
    obtain ⟨b2,o2,e2,hr2,-⟩:=(HS.out.ext e).at aa
    rw [HAB.out] at e2
    injection e2 with e3
    injection e3 with e4 e5
    subst e4
    subst e5
    have:=aQ (k:=10) (cN (k:=k) hr2 ak)
    exact this)
   have hdw:deW d:=by rw [← hd];exact HS.out.nth hlt
   have HEQ:=zh (fun W=>wQ d.c c hdw.1 HCW.out W)
   obtain ⟨eq,heq⟩:=gx (decide (d.c=c))
   rw [heq] at HEQ
   have HDK:=zh (show decide ((aS s.C k).c=c)=eq from og)
   clear hab hrow hd hdw heq
   go_upto_region 4 with fail
   clear q0
   refine wp_region_held_drew (S:=fun V=>Blk V w.heap.size 30 (ssA s)∧Blk V (w.heap.size+1) 61 (ceA c)∧Ext w V) ab (⟨HB1.out.drew,HC1.out.drew,HX.out.trans ((Ext.refl _).drew')⟩) (fun aA=>?_)
   refine zz0 [0,1,2,3,4] ?_;repeat first | refine zz1 ?_ (hy:=by intro W aP;have q1:W.cell? ⟨w.heap.size,0,none⟩=some (.slice (some ⟨b,o,none⟩) s.n1 s.c1):=sy;go_simp <;> with_reducible rfl) | refine zz2 ?_ | refine zz9 ?_
   refine zu 5 (v:=.agg (ceA d.c)) aA ?_ (hy:=by exact aG ceP dp (.tmp 17) rfl b (o+k * 11) rfl d.c _ rfl (fun V h=>HDR.out V h.2.2))
   refine zu 6 (v:=.agg (ceA c)) aA ?_ (hy:=by exact aG ceP dp (.tmp 3) rfl (w.heap.size+1) 0 rfl c _ rfl (fun V h=>aC h.2.1))
   refine zu 7 (v:=.bool eq) aA ?_ (hy:=by exact cK dp (.tmp 18) (.tmp 19) dp (vx:=.agg (ceA d.c)) (vy:=.agg (ceA c)) dp dp (mP _ _ _ _ _) HEQ.out)
   refine wpd ?_
   have HXN:=zh (HXW.out.trans ((Ext.refl _).drew'))
   have HXX:=zh (HX.out.trans ((Ext.refl _).drew'))
   clear aA
   cases eq
   ·exact xd
   go_wp2_with fail
   go_ret
   exact ⟨_,rfl,.inr ⟨k,rfl,ak,HDK.out,HN.out⟩,HXX.out⟩
  obtain rfl:s.n1=k:=aa
  have i1:¬ (s.n1:Int) < (s.n1:Int):=aa
  go_wp2_with fail
  go_ret
  exact ⟨_,rfl,.inl ⟨rfl,fun j hj=>HN.out j oe⟩,HX.out⟩
theorem kA (s:StR) (c:CeR) (w:World) (h:s.ok w) (hc:ceW c):Calls prog 20 #[.agg (ssA s),.agg (ceA c)] w fun e w'=>e=.returned (.int .i64 (cX s.C c))∧Ext w w':=by
 obtain ⟨W,hW⟩:=gx ((w.alloc (.cells (ssA s) 30)).alloc (.cells (ceA c) 61))
 have HB:=zh (show Blk W w.heap.size 30 (ssA s) from cg)
 have HC:=zh (show Blk W (w.heap.size+1) 61 (ceA c) from ag)
 have HE:=zh (show Ext w W from ai)
 have HS:=zh h
 have HCW:=zh hc
 have hle:=h.s1.le
 have hcap:=h.s1.cap
 have rc:W.rangeAt (w.heap.size+1) 0 (RowT.enc c):=aC HC.out
 obtain ⟨q0,q1,q2,q3,q4⟩:=aE HB.out
 clear h hc
 go_enter func20,ntmps20
 go_wp2_with (first | (with_reducible refine aD ceP rfl (.tmp 3) rfl (w.heap.size+1) 0 rfl c _ rfl rc ?_) | fail "A")
 refine (aFW s c W (HS.out.ext HE.out) HCW.out).mono ?_
 rintro e w5 ⟨r,rfl,hr,he5⟩
 have HX5:=zh (HE.out.trans he5)
 rcases hr with ⟨rfl,hno⟩ | ⟨k,rfl,hk,h1,h2⟩
 ·have HG := zh (show cX s.C c = 0 from kN (vW hno))
  clear he5 q0 q1 q2 q3 q4 rc hno
  go_wp2_with fail
  go_ret
  exact ⟨kz,HX5.out⟩
 have HG:=zh (show cX s.C c=(aS s.C k).a from kN (sJ hk h1 h2))
 have hkn:k < s.n1:=by rw [← HS.out.s1.len];exact hk
 have i0:¬ (k:Int) < 0:=aa
 have i2:(0:Int)≤(k:Int):=aa
 have i1:(k:Int) < (s.n1:Int):=aa
 obtain ⟨b,o,hab,hcell⟩:=xY (HS.out.ext HX5.out).s1 hkn
 have p0:w5.cell? ⟨w.heap.size,0,none⟩=some (.slice (some ⟨b,o,none⟩) s.n1 s.c1):=by rw [← hab];exact (HB.out.ext he5).cell 0
 clear he5 q0 q1 q2 q3 q4 rc hk h1 h2 hab
 go_wp2_with fail
 go_ret
 exact ⟨kz,HX5.out⟩
theorem rV (A:Option Addr) (n c:Nat) (L:List UInt64) (x:UInt64) (w:World) (h:SlG w A n c L):Calls prog 37 #[.slice A n c,.agg (nmc x)] w fun e w'=>e=.returned (.bool (decide (x ∈ L)))∧Ext w w':=by
 obtain ⟨W,hW⟩:=gx (w.alloc (.cells (nmc x) 50))
 have HC:=zh (show Blk W w.heap.size 50 (nmc x) from by rw [← hW];exact Blk.new w 50 (nmc x))
 have HE:=zh (show Ext w W from be)
 have HS:=zh h
 have HLEN:=zh h.len
 have hle:=h.le
 have hcap:=h.cap
 clear h
 go_enter func37,ntmps37
 go_wp2_with fail
 go_loopw [5] (fun vi wr=>∃ k:Nat,vi=.int .i64 (k:Int)∧k≤n∧Hid (∀ j,j < k→decide (aS L j=x)=false)∧Hid (Ext W wr)) (fun i _=>n - (intOf i).toNat)
 case atStart=>exact ⟨0,rfl,Nat.zero_le _,zh (fun j hj=>absurd hj (Nat.not_lt_zero _)),zh (Ext.refl W)⟩
 case round =>
  obtain ⟨k,rfl,hk,HN,HXW⟩:=hrel
  have HC1:=zh (HC.out.ext HXW.out)
  have HX:=zh (HE.out.trans HXW.out)
  by_cases hlt:k < n
  ·have i0 : (0 : Int) ≤ (k : Int) := aa
   have i1:(k:Int) < (n:Int):=aa
   obtain ⟨d,hd⟩:=gx (aS L k)
   obtain ⟨b,o,hab,hrow,-⟩:=HS.out.at aa
   subst hab
   have HDR:=zh (fun (V:World) (e:Ext w V)=>show V.rangeAt b (o+k * 8) (RowT.enc d) from by
    rw [← hd]
    obtain ⟨b2,o2,e2,hr2,-⟩:=(HS.out.ext e).at aa
    exact Bf)
   have HEQ:=zh (fun W=>cE d x W)
   obtain ⟨eq,heq⟩:=gx (decide (d=x))
   rw [heq] at HEQ
   have HDK:=zh (show decide (aS L k=x)=eq from og)
   clear hrow hd heq
   go_upto_region 4 with fail
   refine wp_region_held_drew (S:=fun V=>Blk V w.heap.size 50 (nmc x)∧Ext w V) ab (⟨HC1.out.drew,HX.out.trans ((Ext.refl _).drew')⟩) (fun aA=>?_)
   refine zzr [0,1,2] ?_
   refine zu 3 (v:=.agg (nmc d)) aA ?_ (hy:=by exact aG nmP dp (.tmp 14) rfl b (o+k * 8) rfl d _ rfl (fun V h=>HDR.out V h.2))
   refine zu 4 (v:=.agg (nmc x)) aA ?_ (hy:=io)
   refine zu 5 (v:=.bool eq) aA ?_ (hy:=by exact cK dp (.tmp 15) (.tmp 16) dp (vx:=.agg (nmc d)) (vy:=.agg (nmc x)) dp dp (fZ _ _ _ _ _) HEQ.out)
   refine wpd ?_
   have HXN:=zh (HXW.out.trans ((Ext.refl _).drew'))
   have HXX:=zh (HX.out.trans ((Ext.refl _).drew'))
   clear aA
   cases eq
   ·exact xd
   have HF:=zh (show decide (x ∈ L)=true from by
    have h1:aS L k=x:=of_decide_eq_true HDK.out
    exact decide_eq_true (by rw [← h1];exact lF ak))
   go_wp2_with fail
   go_ret
   exact ⟨av,HXX.out⟩
  obtain rfl:n=k:=aa
  have i1:¬ (n:Int) < (n:Int):=aa
  have HF:=zh (show decide (x ∈ L)=false from decide_eq_false (fun hm=>by
   obtain ⟨j,hj,hx⟩:=List.getElem_of_mem hm
   have:=HN.out j oe
   rw [← cH hj] at this
   exact (of_decide_eq_false this) hx))
  go_wp2_with fail
  go_ret
  exact ⟨av,HX.out⟩
theorem pT (s:StR) (x:UInt64) (w:World) (h:s.ok w):Calls prog 92 #[.agg (ssA s),.agg (nmc x)] w fun e w'=>e=.returned (.tuple #[.agg (lkA (lkO (fdK s.K x))),.bool (fdK s.K x).isSome])∧Ext w w':=by
 obtain ⟨W,hW⟩:=gx (((w.alloc (.cells (ssA s) 30)).alloc (.cells (nmc x) 50)).alloc (.cells lk0 81))
 have HB:=zh (show Blk W w.heap.size 30 (ssA s) from nd)
 have HC:=zh (show Blk W (w.heap.size+1) 50 (nmc x) from aw)
 have HD:=zh (show Blk W (w.heap.size+2) 81 lk0 from ag)
 have HE:=zh (show Ext w W from bc)
 have HS:=zh h.s3
 have HLEN:=zh h.s3.len
 have hle:=h.s3.le
 have hcap:=h.s3.cap
 clear h
 go_enter func92,ntmps92
 go_wp2_with fail
 go_loopw [6] (fun vi wr=>∃ k:Nat,vi=.int .i64 (k:Int)∧k≤s.n3∧Hid (∀ j,j < k→decide ((aS s.K j).nm=x)=false)∧Hid (Ext W wr)) (fun i _=>s.n3 - (intOf i).toNat)
 case atStart=>exact ⟨0,rfl,Nat.zero_le _,zh (fun j hj=>absurd hj (Nat.not_lt_zero _)),zh (Ext.refl W)⟩
 case round =>
  obtain ⟨k,rfl,hk,HN,HXW⟩:=hrel
  have HB1:=zh (HB.out.ext HXW.out)
  have HC1:=zh (HC.out.ext HXW.out)
  have HD1:=zh (HD.out.ext HXW.out)
  have HX:=zh (HE.out.trans HXW.out)
  obtain ⟨-,-,q2,-,-⟩:=aE HB1.out
  by_cases hlt:k < s.n3
  ·have i0 : (0 : Int) ≤ (k : Int) := aa
   have i1:(k:Int) < (s.n3:Int):=aa
   obtain ⟨d,hd⟩:=gx (aS s.K k)
   obtain ⟨b,o,hab,hrow,-⟩:=HS.out.at aa
   have HAB:=zh hab
   have HLR:=zh (fun (V:World) (e:Ext w V)=>show V.rangeAt b (o+k * 19) (RowT.enc d) from by
    rw [← hd]
    obtain ⟨b2,o2,e2,hr2,-⟩:=(HS.out.ext e).at aa
    rw [HAB.out] at e2
    exact Bf)
   have HDR:=zh (fun (V:World) (e:Ext w V)=>show V.rangeAt b (o+k * 19) (RowT.enc d.nm) from by
    have:=aQ (k:=8) (HLR.out V e)
    exact this)
   have HEQ:=zh (fun W=>cE d.nm x W)
   obtain ⟨eq,heq⟩:=gx (decide (d.nm=x))
   rw [heq] at HEQ
   have HDK:=zh (show decide ((aS s.K k).nm=x)=eq from og)
   have HDD:=zh hd
   clear hab hrow hd heq
   go_upto_region 4 with fail
   clear q2
   refine wp_region_held_drew (S:=fun V=>Blk V w.heap.size 30 (ssA s)∧Blk V (w.heap.size+1) 50 (nmc x)∧Ext w V) ab (⟨HB1.out.drew,HC1.out.drew,HX.out.trans ((Ext.refl _).drew')⟩) (fun aA=>?_)
   refine zz0 [0,1,2,3,4] ?_;repeat first | refine zz1 ?_ (hy:=by intro W aP;have q1:W.cell? ⟨w.heap.size,2,none⟩=some (.slice (some ⟨b,o,none⟩) s.n3 s.c3):=lz;go_simp <;> with_reducible rfl) | refine zz2 ?_ | refine zz9 ?_
   refine zu 5 (v:=.agg (nmc d.nm)) aA ?_ (hy:=by exact aG nmP dp (.tmp 18) rfl b (o+k * 19) rfl d.nm _ rfl (fun V h=>HDR.out V h.2.2))
   refine zu 6 (v:=.agg (nmc x)) aA ?_ (hy:=by exact aG nmP dp (.tmp 3) rfl (w.heap.size+1) 0 rfl x _ rfl (fun V h=>bS h.2.1))
   refine zu 7 (v:=.bool eq) aA ?_ (hy:=by exact cK dp (.tmp 19) (.tmp 20) dp (vx:=.agg (nmc d.nm)) (vy:=.agg (nmc x)) dp dp (fZ _ _ _ _ _) HEQ.out)
   refine wpd ?_
   have HXN:=zh (HXW.out.trans ((Ext.refl _).drew'))
   have HXX:=zh (HX.out.trans ((Ext.refl _).drew'))
   clear aA
   cases eq
   ·exact xd
   have HF:=zh (show fdK s.K x=some d from by rw [← HDD.out];exact vV ak HDK.out HN.out)
   obtain ⟨v,hv⟩:=gx (Value.agg (lkA d))
   have HV:=zh hv
   obtain ⟨W9,hW9⟩:=gx (wr.drew)
   have HD9:=zh (show Blk W9 (w.heap.size+2) 81 lk0 from by rw [← hW9];exact HD1.out.drew)
   have HX9:=zh (show Ext w W9 from by rw [← hW9];exact HXX.out)
   have q2:W9.cell? ⟨w.heap.size,2,none⟩=some (.slice (some ⟨b,o,none⟩) s.n3 s.c3):=by rw [← hW9,← HAB.out];exact HB1.out.drew.cell 2
   have r9:W9.rangeAt b (o+k * 19) (RowT.enc d):=HLR.out W9 HX9.out
   have ht:W9.there (w.heap.size+2) 0 (RowT.sz LkR):=aI HD9.out
   rw [hW9]
   clear hv hW9
   go_wp2_with (first | (with_reducible refine aD lkP rfl (.tmp 25) rfl b (o+k * 19) rfl d v HV.out r9 ?_) | (with_reducible refine bX lkP rfl (.tmp 4) (.tmp 26) rfl (w.heap.size+2) 0 rfl d v HV.out rfl ht ?_))
   have hst:=aN (ds:=lkA d) HD9.out rfl
   exact bodyPost_ret (gO rfl _ _ (w.heap.size+2) _ _ rfl rfl (run_loadVar_row _ _ _ _ _ (0,0) _ hst underlying81 rfl ab)) rfl ⟨av,Below.setCells' HX9.out aa _ _⟩
  obtain rfl:s.n3=k:=aa
  have i1:¬ (s.n3:Int) < (s.n3:Int):=aa
  have HF:=zh (show fdK s.K x=none from aBL (fun j hj=>HN.out j oe))
  have ht:wr.there (w.heap.size+2) 0 (RowT.sz LkR):=aI HD1.out
  have hv0:Value.agg (lkA (⟨0,0,0,0,0⟩:LkR))=.agg lk0:=by rw [aGj]
  have HV:=zh hv0
  clear hv0
  go_wp2_with ((with_reducible refine bX lkP rfl (.tmp 4) (.tmp 27) rfl (w.heap.size+2) 0 rfl ⟨0,0,0,0,0⟩ (.agg lk0) HV.out rfl ht ?_))
  have hst:=aN (ds:=lkA (⟨0,0,0,0,0⟩:LkR)) HD1.out rfl
  exact bodyPost_ret (gO rfl _ _ (w.heap.size+2) _ _ rfl rfl (run_loadVar_row _ _ _ _ _ (0,0) _ hst underlying81 rfl ab)) rfl ⟨av,Below.setCells' HX.out aa _ _⟩
theorem aBu (A:Option Addr) (n c:Nat) (l:List UInt8) (w:World) (hS:SlB w A n c l) (hn:n < 393):Calls prog 156 #[.slice A n c] w (uZ w l):=by
 have hcap:=hS.cap
 have hle:=hS.le
 have HC:=zh (show sdC l=2 from se)
 have HE:=zh ((Ext.refl w).alloc' (.cells sg0 126))
 have HB:=zh (Blk.new w 126 sg0)
 have ht:(w.alloc (.cells sg0 126)).there w.heap.size 0 23:=aI HB.out
 have hst:=aN (ds:=sgA eM) HB.out rfl
 have i1:((n:Int) < 393):=aa
 clear hS
 go_enter func156,ntmps156
 go_wp2_with (first | (with_reducible refine eW rfl (.tmp 2) (.tmp 9) rfl w.heap.size rfl rfl ht ?_))
 exact wo
theorem aDc (A:Option Addr) (n c:Nat) (l:List UInt8) (w:World) (hS:SlB w A n c l) (hn:393 < n):Calls prog 156 #[.slice A n c] w (uZ w l):=by
 have hcap:=hS.cap
 have hle:=hS.le
 have HC:=zh (show sdC l=3 from pz)
 have HE:=zh ((Ext.refl w).alloc' (.cells sg0 126))
 have HB:=zh (Blk.new w 126 sg0)
 have ht:(w.alloc (.cells sg0 126)).there w.heap.size 0 23:=aI HB.out
 have hst:=aN (ds:=sgA eM) HB.out rfl
 have i1:(¬ (n:Int) < 393):=aa
 have i2:(393:Int) < (n:Int):=aa
 clear hS
 go_enter func156,ntmps156
 go_wp2_with (first | (with_reducible refine eW rfl (.tmp 2) (.tmp 13) rfl w.heap.size rfl rfl ht ?_))
 exact wq
theorem aER (A:Option Addr) (c:Nat) (l:List UInt8) (w:World) (hS:SlB w A 393 c l):Calls prog 156 #[.slice A 393 c] w (uZ w l):=by
 have hl:=hS.len
 have hcap:=hS.cap
 have hle:=hS.le
 obtain ⟨b,o,rfl,hr,hb⟩:=hS.at aa
 have HC:=zh (show sdC l=vdC (l.take 23) from ru)
 have HE:=zh ((Ext.refl w).alloc' (.cells sg0 126))
 have HB:=zh (Blk.new w 126 sg0)
 have HS:=zh hS
 have HL:=zh hl
 have e1:(bcs l).take 23=bcs (l.take 23):=mj
 have e2:(bcs l).drop 23=bcs (l.drop 23):=mj
 have HA:=zh (fun (W:World) (h:Ext w W)=>show SlB W (some ⟨b,o,none⟩) 23 c (l.take 23) from oH nw ko aa aa)
 have HD:=zh (fun (W:World) (h:Ext w W)=>show SlB W (some ⟨b,o+23,none⟩) 370 (c - 23) (l.drop 23) from oH nu (by rw [List.length_drop];omega) aa aa)
 have hck:¬ c=23:=aa
 clear hS hr hl e1 e2
 go_enter func156,ntmps156
 go_wp2_with fail
 refine zcl (aEQ _ c (l.take 23) _ (HA.out _ HE.out)) fun w1 he1=>?_
 have HX1:=zh (HE.out.trans he1)
 have HB1:=zh (HB.out.ext he1)
 have HWF:=zh (show (vdV (l.take 23)).wf from sd)
 have HV:=zh (show (vdC (l.take 23)=0∧vdV (l.take 23)=cZ (l.take 23)∧eS (vdV (l.take 23))=true) ∨ vdC (l.take 23)=11 from by
  exact BP)
 obtain ⟨v,hv⟩:=gx (vdV (l.take 23))
 obtain ⟨z,hz⟩:=gx (vdC (l.take 23))
 rw [hv,hz] at HV
 rw [hv] at HWF
 rw [hz] at HC
 rw [hv,hz]
 clear hv hz he1
 have HX2:=zh (HX1.out.alloc' (.cells (vtA v) 124))
 have HB2:=zh (HB1.out.alloc (.cells (vtA v) 124))
 have HV2:=zh (Blk.new w1 124 (vtA v))
 have HG:=zh HB1.out.lt
 have hth:(w1.alloc (.cells (vtA v) 124)).there w.heap.size 0 23:=aI HB2.out
 rcases HV.out with ⟨rfl,hd,hvd⟩ | rfl
 ·have HF := zh (And.intro hd hvd)
  clear hd hvd
  go_wp2_with (first | (with_reducible refine kM rfl (.tmp 4) (.tmp 18) rfl _ rfl v rfl rfl ?_))
  generalize w1.alloc (.cells (vtA v) 124)=W2 at HX2 HB2 HV2 hth ⊢
  have HN:=zh (show w1.heap.size ≠ w.heap.size from by have:=HG.out;omega)
  refine wp_region_held_drew (S:=fun W=>W.rangeAt w1.heap.size 0 (vtL v)) ab (aC HV2.out.drew) (fun aA=>?_)
  refine zu 0 (v:=.agg (vtA v)) aA ?_ (hy:=j5)
  refine zzr [1,2] ?_
  refine za 3 (fun K hK=>?_)
  refine kX bU rfl (.const (.slice none 0 0)) (.tmp 26) rfl W2.heap.size none 0 0 [] dp (OwnB.nil _ _ _) (some ⟨b,o+23,none⟩) 370 (c - 23) (l.drop 23) dp (HD.out _ (HX2.out.trans (Ext.refl W2).drew')) aa (Ext.refl W2).drew'.size ?_;intro A3 c3 w3 ho hg;have he3:Ext W2 w3:=Below.grown (Ext.refl W2).drew' hg (Ext.refl W2).drew'.size (fun q hq=>by cases hq);have hO3:OwnB w3 W2.heap.size 5 A3 370 c3 (l.drop 23):=(by simpa only [Nat.zero_add,List.nil_append] using ho);clear ho hg
  refine hK.out _ _ (aC (HV2.out.ext he3)) (fun aA=>?_)
  clear hK K
  try simp only [bB]
  refine zt 4 aA ?_
  refine za 5 (fun K hK=>?_)
  refine Eq.mpr (if_pos dp) ?_;refine wp_store_mid 126 (.tmp 2) (.tmp 28) rfl w.heap.size 0 (sgA ⟨v,A3,370,c3,l.drop 23⟩) rfl ?hy (show w3.there w.heap.size 0 23 from aI (HB2.out.ext he3)) ab (aBg _) ?_;(case hy=>rfl)
  refine hK.out _ _ (World.rangeAt_setCells_apart (aC (HV2.out.ext he3)) _ _ _ (.inl HN.out)) (fun aA=>?_)
  clear hK K
  try simp only [bB]
  refine zt 6 aA ?_
  refine wpd ?_
  have hst:=aN (ds:=sgA ⟨v,A3,370,c3,l.drop 23⟩) (HB2.out.ext he3) rfl
  have hx3:Ext w w3:=Ext.trans HX2.out he3
  have hown:OwnB (w3.setCells w.heap.size 0 (sgA ⟨v,A3,370,c3,l.drop 23⟩).toList) w.heap.size 5 A3 370 c3 (l.drop 23) :=
   World.ownsRow.kept (bA hO3 (Nat.le_of_lt (show w.heap.size < W2.heap.size from HB2.out.lt))) (aB w3 w.heap.size _ 0) (.inr (Ne.symm (aL hO3 (HB2.out.ext he3) ae)))
  exact uy
 have ht:=hth
 have hst:=aN (ds:=sgA eM) HB2.out rfl
 go_wp2_with (first | (with_reducible refine kM rfl (.tmp 4) (.tmp 18) rfl _ rfl v rfl rfl ?_) | (with_reducible refine eW rfl (.tmp 2) (.tmp 22) rfl w.heap.size rfl rfl ht ?_))
 exact Az
theorem wY (A:Option Addr) (n c:Nat) (l:List UInt8) (w:World) (hS:SlB w A n c l):Calls prog 156 #[.slice A n c] w (uZ w l):=by
 rcases Nat.lt_trichotomy n 393 with h | h | h
 ·exact aBu A n c l w hS h
 ·subst h;exact aER A c l w hS
 exact aDc A n c l w hS h
theorem yG {o:Oper} {a:Act} (x y:Operand) (ho:o.op=.slice 26 x (some y) none none) (A:Option Addr) (n c k:Nat) (hx:a.eval x=.slice A n c) (hy:a.eval y=.int .i64 (k:Int)) (hkn:k≤n) (hnc:n≤c) (w:World) :
  (execOp a.eval o).run prog w=.ok (.value (.slice (if c=k then A else A.map (·.add (k * 11))) (n - k) (c - k))) w:=by
 exact xj
theorem aDK {o:Oper} {a:Act} (x y:Operand) (ho:o.op=.slice 26 x (some y) none none) (A:Option Addr) (n c k:Nat) (hx:a.eval x=.slice A n c) (hy:a.eval y=.int .i64 (k:Int)) (hkn:k≤n) (hnc:n≤c) (A8:Option Addr) (hA:(if c=k then A else A.map (·.add (k * 11)))=A8) (w:World) :
  (execOp a.eval o).run prog w=.ok (.value (.slice A8 (n - k) (c - k))) w:=by
 rw [← hA];exact yG x y ho A n c k hx hy hkn hnc w
theorem rH {o:Oper} {a:Act} {w:World} {ops:Array Oper} {rest:List Oper} {Q:Exit→Act→World→Prop} (hgd:o.guard=none) (x y:Operand) (ho:o.op=.slice 26 x (some y) none none) (A:Option Addr) (n c k:Nat) (hx:a.eval x=.slice A n c) (hy:a.eval y=.int .i64 (k:Int)) (hkn:k≤n) (hnc:n≤c)
  (h:∀ A8,Hid ((if c=k then A else A.map (·.add (k * 11)))=A8)→wpList prog ops Q rest (a.put o.dst (.slice A8 (n - k) (c - k))) w):wpList prog ops Q (o :: rest) a w :=
 dV hgd (yG x y ho A n c k hx hy hkn hnc) (h _ (zh rfl))
theorem yF {o:Oper} {a:Act} (x y:Operand) (ho:o.op=.slice 27 x (some y) none none) (A:Option Addr) (n c k:Nat) (hx:a.eval x=.slice A n c) (hy:a.eval y=.int .i64 (k:Int)) (hkn:k≤n) (hnc:n≤c) (w:World) :
  (execOp a.eval o).run prog w=.ok (.value (.slice (if c=k then A else A.map (·.add (k * 19))) (n - k) (c - k))) w:=by
 exact xj
theorem aDJ {o:Oper} {a:Act} (x y:Operand) (ho:o.op=.slice 27 x (some y) none none) (A:Option Addr) (n c k:Nat) (hx:a.eval x=.slice A n c) (hy:a.eval y=.int .i64 (k:Int)) (hkn:k≤n) (hnc:n≤c) (A8:Option Addr) (hA:(if c=k then A else A.map (·.add (k * 19)))=A8) (w:World) :
  (execOp a.eval o).run prog w=.ok (.value (.slice A8 (n - k) (c - k))) w:=by
 rw [← hA];exact yF x y ho A n c k hx hy hkn hnc w
theorem rG {o:Oper} {a:Act} {w:World} {ops:Array Oper} {rest:List Oper} {Q:Exit→Act→World→Prop} (hgd:o.guard=none) (x y:Operand) (ho:o.op=.slice 27 x (some y) none none) (A:Option Addr) (n c k:Nat) (hx:a.eval x=.slice A n c) (hy:a.eval y=.int .i64 (k:Int)) (hkn:k≤n) (hnc:n≤c)
  (h:∀ A8,Hid ((if c=k then A else A.map (·.add (k * 19)))=A8)→wpList prog ops Q rest (a.put o.dst (.slice A8 (n - k) (c - k))) w):wpList prog ops Q (o :: rest) a w :=
 dV hgd (yF x y ho A n c k hx hy hkn hnc) (h _ (zh rfl))
theorem aFn {o:Oper} {a:Act} (x y:Operand) (ho:o.op=.slice 22 x (some y) none none) (A:Option Addr) (n c k:Nat) (hx:a.eval x=.slice A n c) (hy:a.eval y=.int .i64 (k:Int)) (hkn:k≤n) (hnc:n≤c) (w:World) :
  (execOp a.eval o).run prog w=.ok (.value (.slice (if c=k then A else A.map (·.add (k * 8))) (n - k) (c - k))) w:=by
 exact xj
theorem rF {o:Oper} {a:Act} {w:World} {ops:Array Oper} {rest:List Oper} {Q:Exit→Act→World→Prop} (hgd:o.guard=none) (x y:Operand) (ho:o.op=.slice 22 x (some y) none none) (A:Option Addr) (n c k:Nat) (hx:a.eval x=.slice A n c) (hy:a.eval y=.int .i64 (k:Int)) (hkn:k≤n) (hnc:n≤c)
  (h:∀ A8,Hid ((if c=k then A else A.map (·.add (k * 8)))=A8)→wpList prog ops Q rest (a.put o.dst (.slice A8 (n - k) (c - k))) w):wpList prog ops Q (o :: rest) a w :=
 dV hgd (aFn x y ho A n c k hx hy hkn hnc) (h _ (zh rfl))
theorem Rd.cutG {α:Type} [RowT α] {w:World} {A:Option Addr} {n c k size:Nat} {L:List α} (h:Rd w A (gcs L)) (hsz:RowT.sz α=size) (hl:L.length=n) (hk:k≤n) (hc:n≤c):Rd w (if c=k then A else A.map (·.add (k * size))) (gcs (L.drop k)):=by
 subst hsz
 by_cases e:c=k
 ·have : L.drop k = [] := List.drop_eq_nil_of_le aa
  rw [this,aGn];exact .nil
 have:=h.cut (n:=n) (k:=k) (c:=c) (size:=RowT.sz α) (by rw [aJ,hl]) hk hc
 rw [fB] at this
 rw [if_neg aa] at this
 rw [if_neg e]
 exact this
theorem aFT {α:Type} [RowT α] {P:Program} {t e:TypeId} {z:Value} {size bytes:Nat} (E:Elem P t e z size bytes) (hsz:RowT.sz α=size) {w:World} {base g n c:Nat} {L:List α} {i:Nat} (h:w.ownsRow base e size (.slice (some ⟨g,0,none⟩) n c) n (gcs L)) (hi:i < n) (hn:n≤2305843009213693952) (ad:Addr) (had:(if c=i+1 then ⟨g,0,none⟩ else (⟨g,(i+1) * size,none⟩:Addr))=ad) :
  ∃ W1,(∀ ty,(Builtin.append_ #[t,t] ty #[.slice (some ⟨g,0,none⟩) i c,.slice (some ad) (n - (i+1)) (c - (i+1))]).run P w=.ok (.slice (some ⟨g,0,none⟩) (n - 1) c) W1)∧W1.ownsRow base e size (.slice (some ⟨g,0,none⟩) (n - 1) c) (n - 1) (gcs (L.take i ++ L.drop (i+1)))∧w.grownBy W1 (some g):=by
 subst hsz
 obtain ⟨hle,hcap⟩:=eI h
 have HLEN:L.length=n:=OwnG.len (e:=e) h
 obtain ⟨ti,hti,htz,htsz,htby⟩:=Elem.get E
 have hsrc0:∀ k v,(gcs L)[k]?=some v→w.cell? ⟨g,k,none⟩=some v:=fun k v hv=>by
  exact BT
 have hdl:(gcs (L.drop (i+1))).length=(n - (i+1)) * RowT.sz α:=by rw [aJ,List.length_drop,HLEN]
 have hfit:i * RowT.sz α+(n - (i+1)) * RowT.sz α≤n * RowT.sz α:=fz
 have hxl:(gcs L).length=n * RowT.sz α:=by rw [aJ,HLEN]
 have hnews:∀ j u,(gcs (L.drop (i+1)))[j]?=some u→w.cell? (ad.add j)=some u:=fun j u hu=>by
  have hj:=(List.getElem?_eq_some_iff.1 hu).1
  rw [hdl] at hj
  by_cases hc:c=i+1
  ·have : n - (i + 1) = 0 := aa
   rw [this] at hj;omega
  rw [← had,if_neg hc,Addr.add_mid]
  refine hsrc0 _ u ?_
  rw [← fB,List.getElem?_drop] at hu
  exact hu
 have hrun:=fun ty=>run_append_room_cells (P:=P) (w:=w) t ty e ti (Elem.ut E) hti g 0 i c ad (n - (i+1)) (c - (i+1)) (gcs (L.drop (i+1))) rr hnews (bP _) aa
  (fun j hj=>by rw [htsz,Nat.zero_add,h.cellAt (i * RowT.sz α+j) aa,List.getElem?_eq_getElem aa];rfl) (fun j hj=>by rw [htsz,Nat.zero_add];exact h.frozenAt _)
 rw [htsz,Nat.zero_add,show i+(n - (i+1))=n - 1 by omega] at hrun
 obtain ⟨s1,s2⟩:=lC (gcs (L.drop (i+1))) (i * RowT.sz α) w (gcs L) aa h
 refine ⟨_,hrun,?_,s2⟩
 have:=vQ s1 (i:=n - 1) aa dr
 have hd:=tT L (i:=i) (by rw [HLEN];exact hi)
 rw [HLEN] at hd
 rw [hd] at this
 exact this
theorem sN {α:Type} [RowT α]:∀ {L M:List α},L.length=M.length→(∀ j,j < L.length→aS L j=aS M j)→L=M
 | [],[],_,_=>rfl
 | [],_ :: _,h,_=>by simp at h
 | _ :: _,[],h,_=>by simp at h
 | x :: r,y :: q,h,hj=>by
  have h0:x=y:=hj 0 (by simp)
  rw [h0,sN (L:=r) (M:=q) (by simpa using h) (fun j hl=>hj (j+1) (by simpa using hl))]
theorem nS (A1:Option Addr) (n c1:Nat) (L:List DeR) (A2:Option Addr) (m c2:Nat) (M:List DeR) (w:World) (hL:SlG w A1 n c1 L) (hM:SlG w A2 m c2 M):Calls prog 43 #[.slice A1 n c1,.slice A2 m c2] w fun e w'=>e=.returned (.bool (decide (L=M)))∧Ext w w':=by
 have HS:=zh hL
 have HM:=zh hM
 have hle:=hL.le
 have hcap:=hL.cap
 have hle2:=hM.le
 have hcap2:=hM.cap
 clear hL hM
 by_cases hnm:n=m
 ·subst hnm
  go_enter func43,ntmps43
  go_wp2_with fail
  go_loopw [5] (fun vi wr=>∃ k:Nat,vi=.int .i64 (k:Int)∧k≤n∧Hid (∀ j,j < k→aS L j=aS M j)∧Hid (Ext w wr)) (fun i _=>n - (intOf i).toNat)
  case atStart=>exact ⟨0,rfl,Nat.zero_le _,zh (fun j hj=>absurd hj (Nat.not_lt_zero _)),zh (Ext.refl w)⟩
  case round =>
   obtain ⟨k,rfl,hk,HN,HXW⟩:=hrel
   by_cases hlt:k < n
   ·have i0 : (0 : Int) ≤ (k : Int) := aa
    have i1:(k:Int) < (n:Int):=aa
    obtain ⟨d,hd⟩:=gx (aS L k)
    obtain ⟨d2,hd2⟩:=gx (aS M k)
    have hw1:deW d:=by rw [← hd];exact HS.out.nth hlt
    have hw2:deW d2:=by rw [← hd2];exact HM.out.nth hlt
    obtain ⟨b,o,hab,hrow,-⟩:=HS.out.at aa
    obtain ⟨b2,o2,hab2,hrow2,-⟩:=HM.out.at aa
    subst hab
    subst hab2
    have HR1:=zh (fun (V:World) (e:Ext w V)=>show V.rangeAt b (o+k * 11) (RowT.enc d) from by
     exact B9)
    have HR2:=zh (fun (V:World) (e:Ext w V)=>show V.rangeAt b2 (o2+k * 11) (RowT.enc d2) from by
     exact BC)
    have HNE:=zh (fun W=>aGQ d d2 hw1 hw2 W)
    obtain ⟨ne,hne⟩:=gx (!decide (d=d2))
    rw [hne] at HNE
    have HDK:=zh (show (!decide (aS L k=aS M k))=ne from ml)
    clear hrow hrow2 hd hd2 hne
    go_upto_region 6 with fail
    refine wp_region_held_drew (S:=fun V=>Ext w V) ab (HXW.out.trans ((Ext.refl _).drew')) (fun aA=>?_)
    refine zzr [0,1,2] ?_
    refine zu 3 (v:=.agg (deA d)) aA ?_ (hy:=by exact aG deP dp (.tmp 19) rfl b (o+k * 11) rfl d _ rfl (fun V h=>HR1.out V h))
    refine zzr [4,5,6] ?_
    refine zu 7 (v:=.agg (deA d2)) aA ?_ (hy:=by exact aG deP dp (.tmp 23) rfl b2 (o2+k * 11) rfl d2 _ rfl (fun V h=>HR2.out V h))
    refine zu 8 (v:=.bool ne) aA ?_ (hy:=by exact cK dp (.tmp 20) (.tmp 24) dp (vx:=.agg (deA d)) (vy:=.agg (deA d2)) dp dp (aJg _ _ _ _ _) HNE.out)
    exact u6
   exact AG
 have HF:=zh (show decide (L=M)=false from decide_eq_false (fun e=>hnm ft))
 have i1:((n:Int) != (m:Int))=true:=bne_iff_ne.2 aa
 go_enter func43,ntmps43
 exact CA
theorem wZ (A1:Option Addr) (n c1:Nat) (L:List UInt64) (A2:Option Addr) (m c2:Nat) (M:List UInt64) (w:World) (hL:SlG w A1 n c1 L) (hM:SlG w A2 m c2 M):Calls prog 45 #[.slice A1 n c1,.slice A2 m c2] w fun e w'=>e=.returned (.bool (decide (L=M)))∧Ext w w':=by
 have HS:=zh hL
 have HM:=zh hM
 have hle:=hL.le
 have hcap:=hL.cap
 have hle2:=hM.le
 have hcap2:=hM.cap
 clear hL hM
 by_cases hnm:n=m
 ·subst hnm
  go_enter func45,ntmps45
  go_wp2_with fail
  go_loopw [5] (fun vi wr=>∃ k:Nat,vi=.int .i64 (k:Int)∧k≤n∧Hid (∀ j,j < k→aS L j=aS M j)∧Hid (Ext w wr)) (fun i _=>n - (intOf i).toNat)
  case atStart=>exact ⟨0,rfl,Nat.zero_le _,zh (fun j hj=>absurd hj (Nat.not_lt_zero _)),zh (Ext.refl w)⟩
  case round =>
   obtain ⟨k,rfl,hk,HN,HXW⟩:=hrel
   by_cases hlt:k < n
   ·have i0 : (0 : Int) ≤ (k : Int) := aa
    have i1:(k:Int) < (n:Int):=aa
    obtain ⟨d,hd⟩:=gx (aS L k)
    obtain ⟨d2,hd2⟩:=gx (aS M k)
    obtain ⟨b,o,hab,hrow,-⟩:=HS.out.at aa
    obtain ⟨b2,o2,hab2,hrow2,-⟩:=HM.out.at aa
    subst hab
    subst hab2
    have HR1:=zh (fun (V:World) (e:Ext w V)=>show V.rangeAt b (o+k * 8) (RowT.enc d) from by
     exact B9)
    have HR2:=zh (fun (V:World) (e:Ext w V)=>show V.rangeAt b2 (o2+k * 8) (RowT.enc d2) from by
     exact BC)
    have HNE:=zh (fun W=>rP d d2 W)
    obtain ⟨ne,hne⟩:=gx (!decide (d=d2))
    rw [hne] at HNE
    have HDK:=zh (show (!decide (aS L k=aS M k))=ne from ml)
    clear hrow hrow2 hd hd2 hne
    go_upto_region 6 with fail
    refine wp_region_held_drew (S:=fun V=>Ext w V) ab (HXW.out.trans ((Ext.refl _).drew')) (fun aA=>?_)
    refine zzr [0,1,2] ?_
    refine zu 3 (v:=.agg (nmc d)) aA ?_ (hy:=by exact aG nmP dp (.tmp 19) rfl b (o+k * 8) rfl d _ rfl (fun V h=>HR1.out V h))
    refine zzr [4,5,6] ?_
    refine zu 7 (v:=.agg (nmc d2)) aA ?_ (hy:=by exact aG nmP dp (.tmp 23) rfl b2 (o2+k * 8) rfl d2 _ rfl (fun V h=>HR2.out V h))
    refine zu 8 (v:=.bool ne) aA ?_ (hy:=by exact cK dp (.tmp 20) (.tmp 24) dp (vx:=.agg (nmc d)) (vy:=.agg (nmc d2)) dp dp (fZ _ _ _ _ _) HNE.out)
    exact u6
   exact AG
 have HF:=zh (show decide (L=M)=false from decide_eq_false (fun e=>hnm ft))
 have i1:((n:Int) != (m:Int))=true:=bne_iff_ne.2 aa
 go_enter func45,ntmps45
 exact CA
theorem zW (A1:Option Addr) (n c1:Nat) (L:List Int) (A2:Option Addr) (m c2:Nat) (M:List Int) (w:World) (hL:SlG w A1 n c1 L) (hM:SlG w A2 m c2 M):Calls prog 44 #[.slice A1 n c1,.slice A2 m c2] w fun e w'=>e=.returned (.bool (decide (L=M)))∧Ext w w':=by
 have HS:=zh hL
 have HM:=zh hM
 have hle:=hL.le
 have hcap:=hL.cap
 have hle2:=hM.le
 have hcap2:=hM.cap
 clear hL hM
 by_cases hnm:n=m
 ·subst hnm
  go_enter func44,ntmps44
  go_wp2_with fail
  go_loopw [5] (fun vi wr=>∃ k:Nat,vi=.int .i64 (k:Int)∧k≤n∧Hid (∀ j,j < k→aS L j=aS M j)∧Hid (Ext w wr)) (fun i _=>n - (intOf i).toNat)
  case atStart=>exact ⟨0,rfl,Nat.zero_le _,zh (fun j hj=>absurd hj (Nat.not_lt_zero _)),zh (Ext.refl w)⟩
  case round =>
   obtain ⟨k,rfl,hk,HN,HXW⟩:=hrel
   by_cases hlt:k < n
   ·have i0 : (0 : Int) ≤ (k : Int) := aa
    have i1:(k:Int) < (n:Int):=aa
    obtain ⟨d,hd⟩:=gx (aS L k)
    obtain ⟨d2,hd2⟩:=gx (aS M k)
    obtain ⟨b,o,hab,hrow,-⟩:=HS.out.at aa
    obtain ⟨b2,o2,hab2,hrow2,-⟩:=HM.out.at aa
    subst hab
    subst hab2
    have HR1:=zh (fun (V:World) (e:Ext w V)=>show V.cell? ⟨b,o+k,none⟩=some (.int .i64 d) from by
     rw [← hd]
     obtain ⟨b9,o9,e2,hr2,-⟩:=(HS.out.ext e).at aa
     injection e2 with e3
     injection e3 with e4 e5
     subst e4
     subst e5
     have h5:V.rangeAt _ (_+k * 1) _:=cN (k:=k) hr2 o5
     have h7:=h5 0 _ rfl
     rwa [show ∀ z:Nat,z+k * 1+0=z+k from fun z=>aa] at h7)
    have HR2:=zh (fun (V:World) (e:Ext w V)=>show V.cell? ⟨b2,o2+k,none⟩=some (.int .i64 d2) from by
     rw [← hd2]
     obtain ⟨b9,o9,e2,hr2,-⟩:=(HM.out.ext e).at aa
     injection e2 with e3
     injection e3 with e4 e5
     subst e4
     subst e5
     have h5:V.rangeAt _ (_+k * 1) _:=cN (k:=k) hr2 o6
     have h7:=h5 0 _ rfl
     rwa [show ∀ z:Nat,z+k * 1+0=z+k from fun z=>aa] at h7)
    obtain ⟨ne,hne⟩:∃ ne:Bool,(d != d2)=ne:=⟨_,rfl⟩
    have HDK:=zh (show (aS L k != aS M k)=ne from ml)
    clear hrow hrow2 hd hd2
    go_upto_region 6 with fail
    refine wp_region_held_drew (S:=fun V=>Ext w V) ab (HXW.out.trans ((Ext.refl _).drew')) (fun aA=>?_)
    refine zz0 [0,1,2,3,4,5,6,7,8] ?_;repeat first | refine zz1 ?_ (hy:=by intro W aP;have z1:=HR1.out W aP;have z2:=HR2.out W aP;go_simp <;> with_reducible rfl) | refine zz2 ?_ | refine zz9 ?_
    exact u6
   exact AG
 have HF:=zh (show decide (L=M)=false from decide_eq_false (fun e=>hnm ft))
 have i1:((n:Int) != (m:Int))=true:=bne_iff_ne.2 aa
 go_enter func44,ntmps44
 exact CA
section
variable {P:Program} {t e:TypeId} {z:Value} {size bytes:Nat}
theorem aIx (w:World) (e:TypeId) (size:Nat):(w.alloc (.cells #[] e)).ownsRow w.heap.size e size (.slice (some ⟨w.heap.size,0,none⟩) 0 0) 0 [] :=
 ⟨by simp,.inr ⟨w.heap.size,0,#[],rfl,Nat.le_refl _,heap_alloc_new w _,Nat.le_refl _,Nat.zero_le _,by simp,by simp⟩⟩
theorem aIq (E:Elem P t e z size bytes) (ty:TypeId) (w:World) (base:Nat) (A:Option Addr) (hown:w.ownsRow base e size (.slice A 0 0) 0 [])
  (A2:Option Addr) (m c2:Nat) (ys:List Value) (hr:Rd w A2 ys) (hl:ys.length=m * size) (h1:∀ u ∈ ys,u.oneCell'=true)
  (hb:m * bytes≤140737488355328) (h63:m≤4611686018427387904) (hbase:base≤w.heap.size) :
  ∃ A' c' w',(Builtin.append_ #[t,t] ty #[.slice A 0 0,.slice A2 m c2]).run P w=.ok (.slice A' m c') w'∧w'.ownsRow base e size (.slice A' m c') m ys∧Ext w w':=by
 rcases Nat.eq_zero_or_pos m with rfl | hm
 ·have hy : ys = [] := List.eq_nil_of_length_eq_zero (by rw [hl]; exact Nat.zero_mul _)
  subst hy
  obtain ⟨i,hi,hz,hs,hby⟩:=E.get
  refine ⟨A,0,w,?_,hown,Ext.refl w⟩
  cases A <;> cases A2 <;> simp [Builtin.append_,run_underlying E.ut,sizeOf,typeInfo,hi,Builtin.lenOf,Builtin.firstCells,storeCells,loadCells,loadCellsFrom]
 obtain ⟨A',c',w',h2,h3,h4⟩:=aCS E ty w A 0 [] .nil dr A2 m c2 ys hr hl hm (by simpa using hb) aa
 simp only [Nat.zero_add,List.nil_append] at h2 h3
 exact ⟨A',c',w',h2,bA h3 hbase,h4⟩
variable {ops:Array Oper} {rest:List Oper} {o:Oper} {a:Act} {w:World} {K:Act→World→Prop} {Q:Exit→Act→World→Prop} {X:Prop}
theorem rC (E:Elem P t e z size bytes) (s x:Operand)
  (ho:o.op=.call { callee:=.builtin .append,args:=#[s,x],argTypes:=#[t,t] })
  (base:Nat) (A:Option Addr) (hs:a.eval s=.slice A 0 0) (hown:w.ownsRow base e size (.slice A 0 0) 0 [])
  (A2:Option Addr) (m c2:Nat) (ys:List Value) (hx:a.eval x=.slice A2 m c2) (hr:Rd w A2 ys) (hl:ys.length=m * size) (h1:∀ u ∈ ys,u.oneCell'=true)
  (hb:m * bytes≤140737488355328) (h63:m≤4611686018427387904) (hbase:base≤w.heap.size)
  (h:∀ A' c' w',w'.ownsRow base e size (.slice A' m c') m ys→Ext w w'→K (a.put o.dst (.slice A' m c')) w'):o.wp P a w K Q:=by
 obtain ⟨A',c',w',hrun,h2,h3⟩:=aIq E o.type w base A hown A2 m c2 ys hr hl h1 hb h63 hbase
 exact xi
theorem iH (E:Elem P t e z size bytes) (hgd:o.guard=none) (s x:Operand)
  (ho:o.op=.call { callee:=.builtin .append,args:=#[s,x],argTypes:=#[t,t] })
  (base:Nat) (A:Option Addr) (hs:a.eval s=.slice A 0 0) (hown:w.ownsRow base e size (.slice A 0 0) 0 [])
  (A2:Option Addr) (m c2:Nat) (ys:List Value) (hx:a.eval x=.slice A2 m c2) (hr:Rd w A2 ys) (hl:ys.length=m * size) (h1:∀ u ∈ ys,u.oneCell'=true)
  (hb:m * bytes≤140737488355328) (h63:m≤4611686018427387904) (hbase:base≤w.heap.size)
  (h:∀ A' c' w',w'.ownsRow base e size (.slice A' m c') m ys→Ext w w'→wpList P ops Q rest (a.put o.dst (.slice A' m c')) w'):wpList P ops Q (o :: rest) a w :=
 wpList_plain hgd fun K hK=>rC E s x ho base A hs hown A2 m c2 ys hx hr hl h1 hb h63 hbase fun A' c' w' h2 h3=>hK _ _ (h A' c' w' h2 h3)
theorem wC {ty:TypeId} (ho:o.op=.buildSlice ty 0 #[]) (hr:∀ w,(Instr.buildSlice ty 0 #[]).run P w=.ok (.slice (some ⟨w.heap.size,0,none⟩) 0 0) (w.alloc (.cells #[] e)))
  (h:∀ A W2,Hid (W2.ownsRow w.heap.size e size (.slice A 0 0) 0 []∧Ext w W2)→K (a.put o.dst (.slice A 0 0)) W2):o.wp P a w K Q:=by
 have:=h _ _ (zh ⟨aIx w e size,(Ext.refl w).alloc' _⟩)
 unfold Oper.wp execOp
 simp only [ho,List.map_toArray,List.map_nil,Sem.run_bind,hr,Result.andThen_ok,Sem.run_pure]
 exact this
theorem jH (hgd:o.guard=none) {ty:TypeId} (ho:o.op=.buildSlice ty 0 #[]) (hr:∀ w,(Instr.buildSlice ty 0 #[]).run P w=.ok (.slice (some ⟨w.heap.size,0,none⟩) 0 0) (w.alloc (.cells #[] e)))
  (h:∀ A W2,Hid (W2.ownsRow w.heap.size e size (.slice A 0 0) 0 []∧Ext w W2)→wpList P ops Q rest (a.put o.dst (.slice A 0 0)) W2):wpList P ops Q (o :: rest) a w :=
 wpList_plain hgd fun K hK=>wC ho hr fun A W2 h2=>hK _ _ (h A W2 h2)
end
theorem tC (w:World):(Instr.buildSlice 26 0 #[]).run prog w=.ok (.slice (some ⟨w.heap.size,0,none⟩) 0 0) (w.alloc (.cells #[] 92)):=by kernel_rfl
theorem aGS (w:World):(Instr.buildSlice 23 0 #[]).run prog w=.ok (.slice (some ⟨w.heap.size,0,none⟩) 0 0) (w.alloc (.cells #[] 3)):=by kernel_rfl
theorem tB (w:World):(Instr.buildSlice 27 0 #[]).run prog w=.ok (.slice (some ⟨w.heap.size,0,none⟩) 0 0) (w.alloc (.cells #[] 81)):=by kernel_rfl
theorem sZ (w:World):(Instr.buildSlice 22 0 #[]).run prog w=.ok (.slice (some ⟨w.heap.size,0,none⟩) 0 0) (w.alloc (.cells #[] 50)):=by kernel_rfl
theorem iK (s:StR) (w:World) (h:s.ok w) (hn:s.n1≤1000000∧s.n2≤1000000∧s.n3≤1000000∧s.n4≤1000000):Calls prog 32 #[.agg (ssA s)] w (jB w s.V):=by
 have HP:=zh (show Blk ((w.alloc (.cells (ssA s) 30)).alloc (.cells (ssA ss0) 30)).drew w.heap.size 30 (ssA s) from ((Blk.new w 30 (ssA s)).alloc _).drew)
 have HZ:=zh (show Blk ((w.alloc (.cells (ssA s) 30)).alloc (.cells (ssA ss0) 30)).drew (w.heap.size+1) 30 (ssA ss0) from Blk.drew (Blk.newAt _ _ _ _ dr))
 have HEW:=zh (show Ext w ((w.alloc (.cells (ssA s) 30)).alloc (.cells (ssA ss0) 30)).drew from (((Ext.refl w).alloc' _).alloc' _).drew')
 have HO:=zh h
 have HNN:=zh hn
 clear h hn
 go_enter func32,ntmps32
 go_wp2_with fail
 refine wp_region_held_drew (S:=fun W=>Blk W w.heap.size 30 (ssA s)∧(∃ z,Blk W (w.heap.size+1) 30 (ssA z))∧Ext w W) ab (⟨HP.out,⟨ss0,HZ.out⟩,HEW.out⟩) (fun aA=>?_)
 refine zz0 [1,2,5,6,9,10,13,14,16,17] ?_;repeat first | refine zz1 ?_ (hy:=k8) | refine zz2 ?_ | refine zz9 ?_
 refine zzj (VV 0 (fun v W=>∃ A,v=.slice A 0 0∧W.ownsRow w.heap.size 92 11 (.slice A 0 0) 0 []) (VV 3 (fun v W=>∃ A c,v=.slice A s.n1 c∧W.ownsRow w.heap.size 92 11 (.slice A s.n1 c) s.n1 (gcs s.C)) (VV 4 (fun v W=>∃ A,v=.slice A 0 0∧W.ownsRow w.heap.size 3 1 (.slice A 0 0) 0 []) (VV 7 (fun v W=>∃ A c,v=.slice A s.n2 c∧W.ownsRow w.heap.size 3 1 (.slice A s.n2 c) s.n2 (gcs s.Q)) (VV 8 (fun v W=>∃ A,v=.slice A 0 0∧W.ownsRow w.heap.size 81 19 (.slice A 0 0) 0 []) (VV 11 (fun v W=>∃ A c,v=.slice A s.n3 c∧W.ownsRow w.heap.size 81 19 (.slice A s.n3 c) s.n3 (gcs s.K)) (VV 12 (fun v W=>∃ A,v=.slice A 0 0∧W.ownsRow w.heap.size 50 8 (.slice A 0 0) 0 []) (VV 15 (fun v W=>∃ A c,v=.slice A s.n4 c∧W.ownsRow w.heap.size 50 8 (.slice A s.n4 c) s.n4 (gcs s.P)) VN)))))))) [(0,some 3),(3,some 6),(4,some 7),(7,some 10),(8,some 11),(11,some 14),(12,some 15),(15,some 18)] 2 (fun W W' h e=>⟨h.1.ext e,qd,h.2.2.trans e⟩) (VV.ext (fun v w w' ⟨A,h1,h2⟩ e=>⟨A,h1,bC h2 e⟩) (VV.ext (fun v w w' ⟨A,c,h1,h2⟩ e=>⟨A,c,h1,bC h2 e⟩) (VV.ext (fun v w w' ⟨A,h1,h2⟩ e=>⟨A,h1,bC h2 e⟩) (VV.ext (fun v w w' ⟨A,c,h1,h2⟩ e=>⟨A,c,h1,bC h2 e⟩) (VV.ext (fun v w w' ⟨A,h1,h2⟩ e=>⟨A,h1,bC h2 e⟩) (VV.ext (fun v w w' ⟨A,c,h1,h2⟩ e=>⟨A,c,h1,bC h2 e⟩) (VV.ext (fun v w w' ⟨A,h1,h2⟩ e=>⟨A,h1,bC h2 e⟩) (VV.ext (fun v w w' ⟨A,c,h1,h2⟩ e=>⟨A,c,h1,bC h2 e⟩) VN.ext)))))))) (zzc ?_ (zzc ?_ (zzc ?_ (zzc ?_ (zzc ?_ (zzc ?_ (zzc ?_ (zzc ?_ zzn)))))))) ?_
 ·refine zzp fun W hE hS K hK => ?_
  refine wC (size:=11) rfl tC ?_
  exact Bb
 ·refine zm [(0, some 3)] fun env W hE hS hD K hK => ?_
  obtain ⟨h0,-⟩:=zzV hD
  clear hD
  simp only [aR] at hK ⊢
  generalize env 0=x0 at h0 hK ⊢
  obtain ⟨A7,rfl,ho7⟩:=h0
  have hs7:=(HO.out.ext hS.2.2).s1
  have hl7:(gcs s.C).length=s.n1 * 11:=m9
  refine rC deE (.tmp 3) (.tmp 5) rfl w.heap.size A7 rfl ho7 s.A1 s.n1 s.c1 (gcs s.C) rfl hs7.rd hl7 (bP _) el el hS.2.2.size ?_
  intro A5 c5 w5 ho5 he5
  exact zzK (hK.out (.slice A5 s.n1 c5) _ (he5) (⟨A5,c5,rfl,ho5⟩))
 ·refine zzp fun W hE hS K hK => ?_
  refine wC (size:=1) rfl aGS ?_
  exact Bb
 ·refine zm [(4, some 7)] fun env W hE hS hD K hK => ?_
  obtain ⟨h4,-⟩:=zzV hD
  clear hD
  simp only [aR] at hK ⊢
  generalize env 4=x4 at h4 hK ⊢
  obtain ⟨A7,rfl,ho7⟩:=h4
  have hs7:=(HO.out.ext hS.2.2).s2
  have hl7:(gcs s.Q).length=s.n2 * 1:=m9
  refine rC inE (.tmp 7) (.tmp 9) rfl w.heap.size A7 rfl ho7 s.A2 s.n2 s.c2 (gcs s.Q) rfl hs7.rd hl7 (bP _) el el hS.2.2.size ?_
  intro A5 c5 w5 ho5 he5
  exact zzK (hK.out (.slice A5 s.n2 c5) _ (he5) (⟨A5,c5,rfl,ho5⟩))
 ·refine zzp fun W hE hS K hK => ?_
  refine wC (size:=19) rfl tB ?_
  exact Bb
 ·refine zm [(8, some 11)] fun env W hE hS hD K hK => ?_
  obtain ⟨h8,-⟩:=zzV hD
  clear hD
  simp only [aR] at hK ⊢
  generalize env 8=x8 at h8 hK ⊢
  obtain ⟨A7,rfl,ho7⟩:=h8
  have hs7:=(HO.out.ext hS.2.2).s3
  have hl7:(gcs s.K).length=s.n3 * 19:=m9
  refine rC lkE (.tmp 11) (.tmp 13) rfl w.heap.size A7 rfl ho7 s.A3 s.n3 s.c3 (gcs s.K) rfl hs7.rd hl7 (bP _) el el hS.2.2.size ?_
  intro A5 c5 w5 ho5 he5
  exact zzK (hK.out (.slice A5 s.n3 c5) _ (he5) (⟨A5,c5,rfl,ho5⟩))
 ·refine zzp fun W hE hS K hK => ?_
  refine wC (size:=8) rfl sZ ?_
  exact Bb
 ·refine zm [(12, some 15)] fun env W hE hS hD K hK => ?_
  obtain ⟨h12,-⟩:=zzV hD
  clear hD
  simp only [aR] at hK ⊢
  generalize env 12=x12 at h12 hK ⊢
  obtain ⟨A7,rfl,ho7⟩:=h12
  have hs7:=(HO.out.ext hS.2.2).s4
  have hl7:(gcs s.P).length=s.n4 * 8:=m9
  refine rC cY (.tmp 15) (.tmp 17) rfl w.heap.size A7 rfl ho7 s.A4 s.n4 s.c4 (gcs s.P) rfl hs7.rd hl7 (bP _) el el hS.2.2.size ?_
  intro A5 c5 w5 ho5 he5
  exact zzK (hK.out (.slice A5 s.n4 c5) _ (he5) (⟨A5,c5,rfl,ho5⟩))
 intro env W hE hS hV
 obtain ⟨h0,h3,h4,h7,h8,h11,h12,h15,-⟩:=zzV hV
 clear hV
 simp only [aR]
 generalize env 0=x0 at h0 ⊢
 generalize env 3=x3 at h3 ⊢
 generalize env 4=x4 at h4 ⊢
 generalize env 7=x7 at h7 ⊢
 generalize env 8=x8 at h8 ⊢
 generalize env 11=x11 at h11 ⊢
 generalize env 12=x12 at h12 ⊢
 generalize env 15=x15 at h15 ⊢
 obtain ⟨B1,rfl,-⟩:=h0
 obtain ⟨B2,rfl,-⟩:=h4
 obtain ⟨B3,rfl,-⟩:=h8
 obtain ⟨B4,rfl,-⟩:=h12
 obtain ⟨A1,c1,rfl,k1⟩:=h3
 obtain ⟨A2,c2,rfl,k2⟩:=h7
 obtain ⟨A3,c3,rfl,k3⟩:=h11
 obtain ⟨A4,c4,rfl,k4⟩:=h15
 have HK1:=zh k1
 have HK2:=zh k2
 have HK3:=zh k3
 have HK4:=zh k4
 clear k1 k2 k3 k4
 have aA:=hS
 refine zt 18 aA ?_
 refine za 19 (fun K hK=>?_)
 (obtain ⟨z6,hz6⟩:=aA.2.1;refine bQ rfl (.tmp 2) (.tmp 21) dp (w.heap.size+1) (.agg (ssA ⟨A1,s.n1,c1,s.C,A2,s.n2,c2,s.Q,A3,s.n3,c3,s.K,A4,s.n4,c4,s.P,s.G⟩)) ⟨A1,s.n1,c1,s.C,A2,s.n2,c2,s.Q,A3,s.n3,c3,s.K,A4,s.n4,c4,s.P,s.G⟩ rfl dp dp hz6 ?_;intro W6 h6)
 refine hK.out _ _ (⟨by rw [← h6.out.1];exact aA.1.grown (aB _ _ _ _) (fun e=>dq),⟨_,h6.out.2⟩,by rw [← h6.out.1];exact Below.setCells' aA.2.2 aa _ _⟩) (fun aA=>?_)
 exact uk
end
end Go.Proofs.YtgmnmjeccfnmbaaGreat
