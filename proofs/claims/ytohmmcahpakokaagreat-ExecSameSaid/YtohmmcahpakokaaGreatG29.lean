/- The reference's at, Get, Total. -/
import Derived.Test.YtohmmcahpakokaaGreatG23
import Derived.Test.YtohmmcahpakokaaGreatG28
set_option maxRecDepth 100000
set_option maxHeartbeats 8000000
set_option linter.unusedVariables false
set_option linter.unusedSimpArgs false
namespace Go.Proofs.YtohmmcahpakokaaGreat
section
open Go.RowKit
attribute [local go_sem ↓] Go.wp_at_zero Go.wp_at_succ
def aNh (w:World) (C:List DeR) (c:CeR) (e:Ending) (w':World):Prop:=∃ r,e=.returned (.int .i64 r)∧IxIs (fun d:DeR=>decide (d.c=c)) C r∧Ext w w'
theorem aEP (s:StR) (c:CeR) (w:World) (h:s.ok w) (hc:ceW c):Calls Tryz.prog 70 #[.agg (ssA s),.agg (ceA c)] w (aNh w s.C c):=by
 obtain ⟨W,hW⟩:∃ W,(w.alloc (.cells (ssA s) 44)).alloc (.cells (ceA c) 32)=W:=⟨_,rfl⟩
 have HB:=zh (show Blk W w.heap.size 44 (ssA s) from by rw [← hW];exact (Blk.new w 44 (ssA s)).alloc _)
 have HC:=zh (show Blk W (w.heap.size+1) 32 (ceA c) from by rw [← hW];exact Blk.newAt _ _ _ _ (by simp))
 have HE:=zh (show Ext w W from by rw [← hW];exact ((Ext.refl w).alloc' _).alloc' _)
 have HS:=zh h.s1
 have HCW:=zh hc
 have HLEN:=zh h.s1.len
 have hle:=h.s1.le
 have hcap:=h.s1.cap
 clear h hc
 go_enter Tryz.func70,Tryz.ntmps70
 go_wp2_with fail
 go_loopw [5] (fun vi wr=>∃ k:Nat,vi=.int .i64 (k:Int)∧k≤s.n1∧Hid (∀ j,j < k→decide ((aH s.C j).c=c)=false)∧Hid (Ext W wr)) (fun i _=>s.n1 - (intOf i).toNat)
 case atStart=>exact ⟨0,rfl,Nat.zero_le _,zh (fun j hj=>absurd hj (Nat.not_lt_zero _)),zh (Ext.refl W)⟩
 case round =>
  obtain ⟨k,rfl,hk,HN,HXW⟩:=hrel
  have HB1:=zh (HB.out.ext HXW.out)
  have HC1:=zh (HC.out.ext HXW.out)
  have HX:=zh (HE.out.trans HXW.out)
  have q0:=HB1.out.cell 0
  by_cases hlt:k < s.n1
  ·have i0 : (0 : Int) ≤ (k : Int) := by omega
   have i1:(k:Int) < (s.n1:Int):=by omega
   obtain ⟨d,hd⟩:∃ d,aH s.C k=d:=⟨_,rfl⟩
   obtain ⟨b,o,hab,hrow,-⟩:=HS.out.at (by omega)
   have HAB:=zh hab
   have HDR:=zh (fun (V:World) (e:Ext w V)=>show V.rangeAt b (o+k * 11) (RowT.enc d.c) from by
    rw [← hd]
    obtain ⟨b2,o2,e2,hr2,-⟩:=(HS.out.ext e).at (by omega)
    rw [HAB.out] at e2
    injection e2 with e3
    injection e3 with e4 e5
    subst e4
    subst e5
    have:=aO (k:=10) (cO (k:=k) hr2 (by rw [HLEN.out];exact hlt))
    exact this)
   have hdw:deW d:=by rw [← hd];exact HS.out.nth hlt
   have HEQ:=zh (fun W=>uL d.c c hdw.1 HCW.out W)
   obtain ⟨eq,heq⟩:∃ eq,decide (d.c=c)=eq:=⟨_,rfl⟩
   rw [heq] at HEQ
   have HDK:=zh (show decide ((aH s.C k).c=c)=eq from by rw [hd];exact heq)
   clear hab hrow hd hdw heq
   go_upto_region 4 with fail
   clear q0
   refine wp_region_held_drew (S:=fun V=>Blk V w.heap.size 44 (ssA s)∧Blk V (w.heap.size+1) 32 (ceA c)∧Ext w V) (by kernel_rfl) (⟨HB1.out.drew,HC1.out.drew,HX.out.trans ((Ext.refl _).drew')⟩) (fun aA=>?_)
   refine zz0 [0,1,2,3,4] ?_;repeat first | refine zz1 ?_ (hy:=by intro W aL;have q1:W.cell? ⟨w.heap.size,0,none⟩=some (.slice (some ⟨b,o,none⟩) s.n1 s.c1):=(by rw [← HAB.out];exact aL.1.cell 0);go_simp <;> with_reducible rfl) | refine zz2 ?_ | refine zz9 ?_
   refine zu 5 (v:=.agg (ceA d.c)) aA ?_ (hy:=by exact aF ceP (by rfl) (.tmp 17) rfl b (o+k * 11) rfl d.c _ rfl (fun V h=>HDR.out V h.2.2))
   refine zu 6 (v:=.agg (ceA c)) aA ?_ (hy:=by exact aF ceP (by rfl) (.tmp 3) rfl (w.heap.size+1) 0 rfl c _ rfl (fun V h=>aC h.2.1))
   refine zu 7 (v:=.bool eq) aA ?_ (hy:=by exact cS (by rfl) (.tmp 18) (.tmp 19) (by rfl) (vx:=.agg (ceA d.c)) (vy:=.agg (ceA c)) (by rfl) (by rfl) (kZ _ _ _ _ _) HEQ.out)
   refine wpAnyH_done (by kernel_rfl) ?_ _
   have HXN:=zh (HXW.out.trans ((Ext.refl _).drew'))
   have HXX:=zh (HX.out.trans ((Ext.refl _).drew'))
   clear aA
   cases eq
   ·go_wp2_with fail
    go_roundw
    case rel=>exact ⟨k+1,by go_num,hlt,zh (fun j hj=>by
     rcases (by omega:j < k ∨ j=k) with hj | rfl
     ·exact HN.out j hj
     exact HDK.out),HXN⟩
    case measure=>simp [intOf];omega
   go_wp2_with fail
   go_ret
   exact ⟨_,rfl,.inr ⟨k,rfl,by rw [HLEN.out];exact hlt,HDK.out,HN.out⟩,HXX.out⟩
  obtain rfl:s.n1=k:=by omega
  have i1:¬ (s.n1:Int) < (s.n1:Int):=by omega
  go_wp2_with fail
  go_ret
  exact ⟨_,rfl,.inl ⟨rfl,fun j hj=>HN.out j (by rw [← HLEN.out];exact hj)⟩,HX.out⟩
theorem jO (s:StR) (c:CeR) (w:World) (h:s.ok w) (hc:ceW c):Calls Tryz.prog 30 #[.agg (ssA s),.agg (ceA c)] w fun e w'=>e=.returned (.int .i64 (getC s.C c))∧Ext w w':=by
 obtain ⟨W,hW⟩:∃ W,(w.alloc (.cells (ssA s) 44)).alloc (.cells (ceA c) 32)=W:=⟨_,rfl⟩
 have HB:=zh (show Blk W w.heap.size 44 (ssA s) from by rw [← hW];exact (Blk.new w 44 (ssA s)).alloc _)
 have HC:=zh (show Blk W (w.heap.size+1) 32 (ceA c) from by rw [← hW];exact Blk.newAt _ _ _ _ (by simp))
 have HE:=zh (show Ext w W from by rw [← hW];exact ((Ext.refl w).alloc' _).alloc' _)
 have HS:=zh h
 have HCW:=zh hc
 have hle:=h.s1.le
 have hcap:=h.s1.cap
 have rc:W.rangeAt (w.heap.size+1) 0 (RowT.enc c):=aC HC.out
 obtain ⟨q0,q1,q2,q3,q4⟩:=aE HB.out
 clear h hc
 go_enter Tryz.func30,Tryz.ntmps30
 go_wp2_with (first | (with_reducible refine aB ceP rfl (.tmp 3) rfl (w.heap.size+1) 0 rfl c _ rfl rc ?_) | fail "A")
 refine (aEP s c W (HS.out.ext HE.out) HCW.out).mono ?_
 rintro e w5 ⟨r,rfl,hr,he5⟩
 have HX5:=zh (HE.out.trans he5)
 rcases hr with ⟨rfl,hno⟩ | ⟨k,rfl,hk,h1,h2⟩
 ·have HG := zh (show getC s.C c = 0 from dS (tJ hno))
  clear he5 q0 q1 q2 q3 q4 rc hno
  go_wp2_with fail
  go_ret
  exact ⟨by rw [HG.out];rfl,HX5.out⟩
 have HG:=zh (show getC s.C c=(aH s.C k).a from dS (qH hk h1 h2))
 have hkn:k < s.n1:=by rw [← HS.out.s1.len];exact hk
 have i0:¬ (k:Int) < 0:=by omega
 have i2:(0:Int)≤(k:Int):=by omega
 have i1:(k:Int) < (s.n1:Int):=by omega
 obtain ⟨b,o,hab,hcell⟩:=qF (HS.out.ext HX5.out).s1 hkn
 have p0:w5.cell? ⟨w.heap.size,0,none⟩=some (.slice (some ⟨b,o,none⟩) s.n1 s.c1):=by rw [← hab];exact (HB.out.ext he5).cell 0
 clear he5 q0 q1 q2 q3 q4 rc hk h1 h2 hab
 go_wp2_with fail
 go_ret
 exact ⟨by rw [HG.out];rfl,HX5.out⟩
theorem aAu (A:Option Addr) (n c:Nat) (L:List UInt64) (x:UInt64) (w:World) (h:SlG w A n c L):Calls Tryz.prog 34 #[.slice A n c,.agg (nmc x)] w fun e w'=>e=.returned (.bool (decide (x ∈ L)))∧Ext w w':=by
 obtain ⟨W,hW⟩:∃ W,w.alloc (.cells (nmc x) 30)=W:=⟨_,rfl⟩
 have HC:=zh (show Blk W w.heap.size 30 (nmc x) from by rw [← hW];exact Blk.new w 30 (nmc x))
 have HE:=zh (show Ext w W from by rw [← hW];exact (Ext.refl w).alloc' _)
 have HS:=zh h
 have HLEN:=zh h.len
 have hle:=h.le
 have hcap:=h.cap
 clear h
 go_enter Tryz.func34,Tryz.ntmps34
 go_wp2_with fail
 go_loopw [5] (fun vi wr=>∃ k:Nat,vi=.int .i64 (k:Int)∧k≤n∧Hid (∀ j,j < k→decide (aH L j=x)=false)∧Hid (Ext W wr)) (fun i _=>n - (intOf i).toNat)
 case atStart=>exact ⟨0,rfl,Nat.zero_le _,zh (fun j hj=>absurd hj (Nat.not_lt_zero _)),zh (Ext.refl W)⟩
 case round =>
  obtain ⟨k,rfl,hk,HN,HXW⟩:=hrel
  have HC1:=zh (HC.out.ext HXW.out)
  have HX:=zh (HE.out.trans HXW.out)
  by_cases hlt:k < n
  ·have i0 : (0 : Int) ≤ (k : Int) := by omega
   have i1:(k:Int) < (n:Int):=by omega
   obtain ⟨d,hd⟩:∃ d,aH L k=d:=⟨_,rfl⟩
   obtain ⟨b,o,hab,hrow,-⟩:=HS.out.at (by omega)
   subst hab
   have HDR:=zh (fun (V:World) (e:Ext w V)=>show V.rangeAt b (o+k * 8) (RowT.enc d) from by
    rw [← hd]
    obtain ⟨b2,o2,e2,hr2,-⟩:=(HS.out.ext e).at (by omega)
    injection e2 with e3
    injection e3 with e4 e5
    subst e4
    subst e5
    exact cO (k:=k) hr2 (by rw [HLEN.out];exact hlt))
   have HEQ:=zh (fun W=>bX d x W)
   obtain ⟨eq,heq⟩:∃ eq,decide (d=x)=eq:=⟨_,rfl⟩
   rw [heq] at HEQ
   have HDK:=zh (show decide (aH L k=x)=eq from by rw [hd];exact heq)
   clear hrow hd heq
   go_upto_region 4 with fail
   refine wp_region_held_drew (S:=fun V=>Blk V w.heap.size 30 (nmc x)∧Ext w V) (by kernel_rfl) (⟨HC1.out.drew,HX.out.trans ((Ext.refl _).drew')⟩) (fun aA=>?_)
   refine zzr [0,1,2] ?_
   refine zu 3 (v:=.agg (nmc d)) aA ?_ (hy:=by exact aF nmP (by rfl) (.tmp 14) rfl b (o+k * 8) rfl d _ rfl (fun V h=>HDR.out V h.2))
   refine zu 4 (v:=.agg (nmc x)) aA ?_ (hy:=by exact aF nmP (by rfl) (.tmp 3) rfl w.heap.size 0 rfl x _ rfl (fun V h=>bZ h.1))
   refine zu 5 (v:=.bool eq) aA ?_ (hy:=by exact cS (by rfl) (.tmp 15) (.tmp 16) (by rfl) (vx:=.agg (nmc d)) (vy:=.agg (nmc x)) (by rfl) (by rfl) (iV _ _ _ _ _) HEQ.out)
   refine wpAnyH_done (by kernel_rfl) ?_ _
   have HXN:=zh (HXW.out.trans ((Ext.refl _).drew'))
   have HXX:=zh (HX.out.trans ((Ext.refl _).drew'))
   clear aA
   cases eq
   ·go_wp2_with fail
    go_roundw
    case rel=>exact ⟨k+1,by go_num,hlt,zh (fun j hj=>by
     rcases (by omega:j < k ∨ j=k) with hj | rfl
     ·exact HN.out j hj
     exact HDK.out),HXN⟩
    case measure=>simp [intOf];omega
   have HF:=zh (show decide (x ∈ L)=true from by
    have h1:aH L k=x:=of_decide_eq_true HDK.out
    exact decide_eq_true (by rw [← h1];exact iR (by rw [HLEN.out];exact hlt)))
   go_wp2_with fail
   go_ret
   exact ⟨by rw [HF.out];rfl,HXX.out⟩
  obtain rfl:n=k:=by omega
  have i1:¬ (n:Int) < (n:Int):=by omega
  have HF:=zh (show decide (x ∈ L)=false from decide_eq_false (fun hm=>by
   obtain ⟨j,hj,hx⟩:=List.getElem_of_mem hm
   have:=HN.out j (by rw [← HLEN.out];exact hj)
   rw [← cF hj] at this
   exact (of_decide_eq_false this) hx))
  go_wp2_with fail
  go_ret
  exact ⟨by rw [HF.out];rfl,HX.out⟩
theorem qZ (s t:StR) (w:World) (hs:s.ok w) (ht:t.ok w):Calls Tryz.prog 22 #[.agg (ssA s),.agg (ssA t)] w fun e w'=>e=.returned (.bool (decide (s.V=t.V)))∧Ext w w':=by
 obtain ⟨W,hW⟩:∃ W,(w.alloc (.cells (ssA s) 44)).alloc (.cells (ssA t) 44)=W:=⟨_,rfl⟩
 have HB:=zh (show Blk W w.heap.size 44 (ssA s) from by rw [← hW];exact (Blk.new w 44 (ssA s)).alloc _)
 have HC:=zh (show Blk W (w.heap.size+1) 44 (ssA t) from by rw [← hW];exact Blk.newAt _ _ _ _ (by simp))
 have HE:=zh (show Ext w W from by rw [← hW];exact ((Ext.refl w).alloc' _).alloc' _)
 have HS:=zh hs
 have HT:=zh ht
 have hle:=hs.s3.le
 have hcap:=hs.s3.cap
 have hle2:=ht.s3.le
 have hcap2:=ht.s3.cap
 obtain ⟨q0,q1,q2,q3,q4⟩:=aE HB.out
 obtain ⟨p0,p1,p2,p3,p4⟩:=aE HC.out
 clear hs ht
 by_cases hnm:s.n3=t.n3
 ·have b0 : ((s.n3 : Int) != (t.n3 : Int)) = false := by rw [hnm]; exact bne_self_eq_false _
  have HNM:=zh hnm
  clear hnm
  go_enter Tryz.func22,Tryz.ntmps22
  go_wp2_with fail
  clear b0 q0 q1 q2 q3 q4 p0 p1 p2 p3 p4
  go_loopw [5] (fun vi wr=>∃ k:Nat,vi=.int .i64 (k:Int)∧k≤s.n3∧Hid (∀ j,j < k→aH s.K j=aH t.K j)∧Hid (Ext W wr)) (fun i _=>s.n3 - (intOf i).toNat)
  case atStart=>exact ⟨0,rfl,Nat.zero_le _,zh (fun j hj=>absurd hj (Nat.not_lt_zero _)),zh (Ext.refl W)⟩
  case round =>
   obtain ⟨k,rfl,hk,HN,HXW⟩:=hrel
   have HB1:=zh (HB.out.ext HXW.out)
   have HC1:=zh (HC.out.ext HXW.out)
   have HX:=zh (HE.out.trans HXW.out)
   have q2:wr.cell? ⟨w.heap.size,2,none⟩=some (.slice s.A3 s.n3 s.c3):=HB1.out.cell 2
   by_cases hlt:k < s.n3
   ·have i0 : (0 : Int) ≤ (k : Int) := by omega
    have i1:(k:Int) < (s.n3:Int):=by omega
    have hlt2:k < t.n3:=by have:=HNM.out;omega
    have i2:(k:Int) < (t.n3:Int):=by omega
    obtain ⟨d,hd⟩:∃ d,aH s.K k=d:=⟨_,rfl⟩
    obtain ⟨d2,hd2⟩:∃ d,aH t.K k=d:=⟨_,rfl⟩
    obtain ⟨b,o,hab,-,-⟩:=HS.out.s3.at (by omega)
    obtain ⟨b2,o2,hab2,-,-⟩:=HT.out.s3.at (by omega)
    have HAB:=zh hab
    have HAB2:=zh hab2
    have HR1:=zh (fun (V:World) (e:Ext w V)=>show V.rangeAt b (o+k * 19) (RowT.enc d) from by
     rw [← hd]
     obtain ⟨b9,o9,e2,hr2,-⟩:=(HS.out.ext e).s3.at (by omega)
     rw [HAB.out] at e2
     injection e2 with e3
     injection e3 with e4 e5
     subst e4
     subst e5
     exact cO (k:=k) hr2 (by rw [HS.out.s3.len];omega))
    have HR2:=zh (fun (V:World) (e:Ext w V)=>show V.rangeAt b2 (o2+k * 19) (RowT.enc d2) from by
     rw [← hd2]
     obtain ⟨b9,o9,e2,hr2,-⟩:=(HT.out.ext e).s3.at (by omega)
     rw [HAB2.out] at e2
     injection e2 with e3
     injection e3 with e4 e5
     subst e4
     subst e5
     exact cO (k:=k) hr2 (by rw [HT.out.s3.len];omega))
    have hw1:lkW d:=by rw [← hd];exact HS.out.s3.nth hlt
    have hw2:lkW d2:=by rw [← hd2];exact HT.out.s3.nth hlt2
    have HNE:=zh (fun W=>aFD d d2 hw1 hw2 W)
    obtain ⟨ne,hne⟩:∃ ne,(!decide (d=d2))=ne:=⟨_,rfl⟩
    rw [hne] at HNE
    have HDK:=zh (show (!decide (aH s.K k=aH t.K k))=ne from by rw [hd,hd2];exact hne)
    clear hab hab2 hd hd2 hne hw1 hw2
    go_upto_region 6 with fail
    clear q2
    refine wp_region_held_drew (S:=fun V=>Blk V w.heap.size 44 (ssA s)∧Blk V (w.heap.size+1) 44 (ssA t)∧Ext w V) (by kernel_rfl) (⟨HB1.out.drew,HC1.out.drew,HX.out.trans ((Ext.refl _).drew')⟩) (fun aA=>?_)
    refine zz0 [0,1,2,3] ?_;repeat first | refine zz1 ?_ (hy:=by intro W aL;have q9:W.cell? ⟨w.heap.size,2,none⟩=some (.slice (some ⟨b,o,none⟩) s.n3 s.c3):=(by rw [← HAB.out];exact aL.1.cell 2);have q8:W.cell? ⟨w.heap.size+1,2,none⟩=some (.slice (some ⟨b2,o2,none⟩) t.n3 t.c3):=(by rw [← HAB2.out];exact aL.2.1.cell 2);go_simp <;> with_reducible rfl) | refine zz2 ?_ | refine zz9 ?_
    refine zu 4 (v:=.agg (lkA d)) aA ?_ (hy:=by exact aF lkP (by rfl) (.tmp 23) rfl b (o+k * 19) rfl d _ rfl (fun V h=>HR1.out V h.2.2))
    refine zz0 [5,6,7,8] ?_;repeat first | refine zz1 ?_ (hy:=by intro W aL;have q9:W.cell? ⟨w.heap.size,2,none⟩=some (.slice (some ⟨b,o,none⟩) s.n3 s.c3):=(by rw [← HAB.out];exact aL.1.cell 2);have q8:W.cell? ⟨w.heap.size+1,2,none⟩=some (.slice (some ⟨b2,o2,none⟩) t.n3 t.c3):=(by rw [← HAB2.out];exact aL.2.1.cell 2);go_simp <;> with_reducible rfl) | refine zz2 ?_ | refine zz9 ?_
    refine zu 9 (v:=.agg (lkA d2)) aA ?_ (hy:=by exact aF lkP (by rfl) (.tmp 28) rfl b2 (o2+k * 19) rfl d2 _ rfl (fun V h=>HR2.out V h.2.2))
    refine zu 10 (v:=.bool ne) aA ?_ (hy:=by exact cS (by rfl) (.tmp 24) (.tmp 29) (by rfl) (vx:=.agg (lkA d)) (vy:=.agg (lkA d2)) (by rfl) (by rfl) (aIc _ _ _ _ _) HNE.out)
    refine wpAnyH_done (by kernel_rfl) ?_ _
    have HXN:=zh (HXW.out.trans ((Ext.refl _).drew'))
    have HXX:=zh aA.2.2
    clear aA
    cases ne
    ·go_wp2_with fail
     go_roundw
     case rel=>exact ⟨k+1,by go_num,hlt,zh (fun j hj=>by
      rcases (by omega:j < k ∨ j=k) with hj | rfl
      ·exact HN.out j hj
      have h9:=HDK.out
      simpa using h9),HXN⟩
     case measure=>simp [intOf];omega
    have HF:=zh (show decide (s.V=t.V)=false from decide_eq_false (fun e=>by
     have e1:s.K=t.K:=congrArg StV.K e
     have h9:=HDK.out
     rw [e1] at h9
     simp at h9))
    go_wp2_with fail
    go_ret
    exact ⟨by rw [HF.out];rfl,HXX.out⟩
   obtain rfl:k=s.n3:=by omega
   have i1:¬ (s.n3:Int) < (s.n3:Int):=by omega
   have HEK:=zh (show s.K=t.K from qK (by rw [HS.out.s3.len,HT.out.s3.len];exact HNM.out) (fun j hj=>HN.out j (by rw [← HS.out.s3.len];exact hj)))
   clear q2
   have HXr:=HX
   clear HB HC
   obtain ⟨q0,q1,q2,q3,q4⟩:=aE HB1.out
   obtain ⟨p0,p1,p2,p3,p4⟩:=aE HC1.out
   have HD:=zh (sV s.A1 s.n1 s.c1 s.C t.A1 t.n1 t.c1 t.C wr (HS.out.ext HX.out).s1 (HT.out.ext HX.out).s1)
   cases h1:decide (s.C=t.C) with
   | false =>
    rw [h1] at HD
    have HF:=zh (show decide (s.V=t.V)=false from decide_eq_false (fun e=>(of_decide_eq_false h1) (congrArg StV.C e)))
    clear h1
    go_wp2_with fail
    refine HD.out.mono ?_
    rintro e W2 ⟨rfl,he2⟩
    have HX2:=zh (HX.out.trans he2)
    clear he2 q0 q1 q2 q3 q4 p0 p1 p2 p3 p4
    go_wp2_with fail
    go_ret
    exact ⟨by rw [HF.out];rfl,HX2.out⟩
   | true =>
    rw [h1] at HD
    have HE1:=zh (of_decide_eq_true h1)
    clear h1
    go_wp2_with fail
    refine HD.out.mono ?_
    rintro e W2 ⟨rfl,he2⟩
    have HX2:=zh (HX.out.trans he2)
    have HB2:=zh (HB1.out.ext he2)
    have HC2:=zh (HC1.out.ext he2)
    clear he2 q0 q1 q2 q3 q4 p0 p1 p2 p3 p4 HD HB1 HC1
    obtain ⟨q0,q1,q2,q3,q4⟩:=aE HB2.out
    obtain ⟨p0,p1,p2,p3,p4⟩:=aE HC2.out
    have HD:=zh (xO s.A2 s.n2 s.c2 s.Q t.A2 t.n2 t.c2 t.Q W2 (HS.out.ext HX2.out).s2 (HT.out.ext HX2.out).s2)
    cases h2:decide (s.Q=t.Q) with
    | false =>
     rw [h2] at HD
     have HF:=zh (show decide (s.V=t.V)=false from decide_eq_false (fun e=>(of_decide_eq_false h2) (congrArg StV.Q e)))
     clear h2
     go_wp2_with fail
     refine HD.out.mono ?_
     rintro e W3 ⟨rfl,he3⟩
     have HX3:=zh (HX2.out.trans he3)
     clear he3 q0 q1 q2 q3 q4 p0 p1 p2 p3 p4
     go_wp2_with fail
     go_ret
     exact ⟨by rw [HF.out];rfl,HX3.out⟩
    | true =>
     rw [h2] at HD
     have HE2:=zh (of_decide_eq_true h2)
     clear h2
     go_wp2_with fail
     refine HD.out.mono ?_
     rintro e W3 ⟨rfl,he3⟩
     have HX3:=zh (HX2.out.trans he3)
     have HB3:=zh (HB2.out.ext he3)
     have HC3:=zh (HC2.out.ext he3)
     clear he3 q0 q1 q2 q3 q4 p0 p1 p2 p3 p4 HD HB2 HC2
     obtain ⟨q0,q1,q2,q3,q4⟩:=aE HB3.out
     obtain ⟨p0,p1,p2,p3,p4⟩:=aE HC3.out
     have HD:=zh (uU s.A4 s.n4 s.c4 s.P t.A4 t.n4 t.c4 t.P W3 (HS.out.ext HX3.out).s4 (HT.out.ext HX3.out).s4)
     cases h3:decide (s.P=t.P) with
     | false =>
      rw [h3] at HD
      have HF:=zh (show decide (s.V=t.V)=false from decide_eq_false (fun e=>(of_decide_eq_false h3) (congrArg StV.P e)))
      clear h3
      go_wp2_with fail
      refine HD.out.mono ?_
      rintro e W4 ⟨rfl,he4⟩
      have HX4:=zh (HX3.out.trans he4)
      clear he4 q0 q1 q2 q3 q4 p0 p1 p2 p3 p4
      go_wp2_with fail
      go_ret
      exact ⟨by rw [HF.out];rfl,HX4.out⟩
     | true =>
      rw [h3] at HD
      have HF:=zh (show decide (s.V=t.V)=(s.G == t.G) from by
       have e3:=of_decide_eq_true h3
       rw [Bool.eq_iff_iff,decide_eq_true_eq,beq_iff_eq]
       refine ⟨fun e=>congrArg StV.G e,fun e=>?_⟩
       show (⟨s.C,s.Q,s.K,s.P,s.G⟩:StV)=⟨t.C,t.Q,t.K,t.P,t.G⟩
       rw [HE1.out,HE2.out,HEK.out,e3,e])
      clear h3
      go_wp2_with fail
      refine HD.out.mono ?_
      rintro e W4 ⟨rfl,he4⟩
      have HX4:=zh (HX3.out.trans he4)
      have q4:W4.cell? ⟨w.heap.size,4,none⟩=some (.int .i64 s.G):=(HB3.out.ext he4).cell 4
      have p4:W4.cell? ⟨w.heap.size+1,4,none⟩=some (.int .i64 t.G):=(HC3.out.ext he4).cell 4
      clear he4 q0 q1 q2 q3 p0 p1 p2 p3
      go_wp2_with fail
      go_ret
      exact ⟨by rw [HF.out];rfl,HX4.out⟩
 have HF:=zh (show decide (s.V=t.V)=false from decide_eq_false (fun e=>hnm (by have e1:s.K=t.K:=congrArg StV.K e;have h1:=HS.out.s3.len;have h2:=HT.out.s3.len;rw [e1] at h1;omega)))
 have b0:((s.n3:Int) != (t.n3:Int))=true:=bne_iff_ne.2 (by omega)
 clear hnm
 go_enter Tryz.func22,Tryz.ntmps22
 go_wp2_with fail
 go_ret
 exact ⟨by rw [HF.out];rfl,HE.out⟩
theorem dX (i:Int) (w:World):Calls Tryz.prog 33 #[.int .i64 i] w fun e w'=>e=.returned (.agg (ceA (aY i)))∧Ext w w':=by
 have HB:=zh (Blk.new w 32 ce0)
 have HX:=zh ((Ext.refl w).alloc' (.cells ce0 32))
 have ht:(w.alloc (.cells ce0 32)).there w.heap.size 0 (RowT.sz CeR):=aK HB.out
 have HV:=zh (show Value.agg (ceA (aY i))=.agg #[.int .i64 1,.int .i64 i,.int .u8 0,.int .u8 0,.int .u8 0,.int .u8 0,.int .u8 0,.int .u8 0,.int .u8 0,.int .u8 0] by unfold aY;rw [nK])
 go_enter Tryz.func33,Tryz.ntmps33
 go_wp2_with ((with_reducible refine bT ceP rfl (.tmp 2) (.tmp 4) rfl w.heap.size 0 rfl (aY i) _ HV.out rfl ht ?_))
 have hst:=aQ (ds:=ceA (aY i)) HB.out rfl
 exact bodyPost_ret (gM rfl _ _ w.heap.size _ rfl (run_loadVar_row _ _ _ _ _ (0,0) _ hst Tryz.underlying32 rfl (by kernel_rfl))) rfl ⟨rfl,Below.setCells' HX.out (Nat.le_refl _) _ _⟩
theorem aDQ (i:Int) (w:World):Calls Tryz.prog 49 #[.int .i64 i] w fun e w'=>e=.returned (.agg (ceA (cN i)))∧Ext w w':=by
 have HB:=zh (Blk.new w 32 ce0)
 have HX:=zh ((Ext.refl w).alloc' (.cells ce0 32))
 have ht:(w.alloc (.cells ce0 32)).there w.heap.size 0 (RowT.sz CeR):=aK HB.out
 have HV:=zh (show Value.agg (ceA (cN i))=.agg #[.int .i64 3,.int .i64 i,.int .u8 0,.int .u8 0,.int .u8 0,.int .u8 0,.int .u8 0,.int .u8 0,.int .u8 0,.int .u8 0] by unfold cN;rw [nK])
 go_enter Tryz.func49,Tryz.ntmps49
 go_wp2_with ((with_reducible refine bT ceP rfl (.tmp 2) (.tmp 4) rfl w.heap.size 0 rfl (cN i) _ HV.out rfl ht ?_))
 have hst:=aQ (ds:=ceA (cN i)) HB.out rfl
 exact bodyPost_ret (gM rfl _ _ w.heap.size _ rfl (run_loadVar_row _ _ _ _ _ (0,0) _ hst Tryz.underlying32 rfl (by kernel_rfl))) rfl ⟨rfl,Below.setCells' HX.out (Nat.le_refl _) _ _⟩
theorem rA (w:World):Calls Tryz.prog 31 #[] w fun e w'=>e=.returned (.agg (ceA bW))∧Ext w w':=by
 have HB:=zh (Blk.new w 32 ce0)
 have HX:=zh ((Ext.refl w).alloc' (.cells ce0 32))
 have ht:(w.alloc (.cells ce0 32)).there w.heap.size 0 (RowT.sz CeR):=aK HB.out
 have HV:=zh (show Value.agg (ceA bW)=.agg #[.int .i64 4,.int .i64 0,.int .u8 0,.int .u8 0,.int .u8 0,.int .u8 0,.int .u8 0,.int .u8 0,.int .u8 0,.int .u8 0] by unfold bW;rw [nK])
 go_enter Tryz.func31,Tryz.ntmps31
 go_wp2_with ((with_reducible refine bT ceP rfl (.tmp 0) (.tmp 1) rfl w.heap.size 0 rfl bW _ HV.out rfl ht ?_))
 have hst:=aQ (ds:=ceA bW) HB.out rfl
 exact bodyPost_ret (gM rfl _ _ w.heap.size _ rfl (run_loadVar_row _ _ _ _ _ (0,0) _ hst Tryz.underlying32 rfl (by kernel_rfl))) rfl ⟨rfl,Below.setCells' HX.out (Nat.le_refl _) _ _⟩
theorem nW (x y:Int) (w:World):Calls Tryz.prog 128 #[.int .i64 x,.int .i64 y] w fun e w'=>e=.returned (.int .i64 (gU x y))∧Ext w w':=by
 rcases Int.lt_trichotomy x y with h | h | h
 ·have HC := zh (iL h)
  go_enter Tryz.func128,Tryz.ntmps128
  go_wp2_with fail
  go_ret
  exact ⟨by rw [HC.out];rfl,Ext.refl w⟩
 ·subst h
  have HC:=zh (iN x)
  go_enter Tryz.func128,Tryz.ntmps128
  go_wp2_with fail
  go_ret
  exact ⟨by rw [HC.out];rfl,Ext.refl w⟩
 have HC:=zh (iM h)
 have h':¬ x < y:=by omega
 go_enter Tryz.func128,Tryz.ntmps128
 go_wp2_with fail
 go_ret
 exact ⟨by rw [HC.out];rfl,Ext.refl w⟩
theorem xP (a b:UInt64) (w:World):Calls Tryz.prog 129 #[.agg (nmc a),.agg (nmc b)] w fun e w'=>e=.returned (.int .i64 (jV a b))∧Ext w w':=by
 obtain ⟨W,hW⟩:∃ W,(w.alloc (.cells (nmc a) 30)).alloc (.cells (nmc b) 30)=W:=⟨_,rfl⟩
 have HA:=zh (show Blk W w.heap.size 30 (nmc a) from by rw [← hW];exact (Blk.new w 30 (nmc a)).alloc _)
 have HB:=zh (show Blk W (w.heap.size+1) 30 (nmc b) from by rw [← hW];exact Blk.newAt _ _ _ _ (by simp))
 have HX:=zh (show Ext w W from by rw [← hW];exact ((Ext.refl w).alloc' _).alloc' _)
 have ra:W.rangeAt w.heap.size 0 (RowT.enc a):=bZ HA.out
 have rb:W.rangeAt (w.heap.size+1) 0 (RowT.enc b):=bZ HB.out
 rcases Int.lt_trichotomy (un a) (un b) with h | h | h
 ·have HC := zh (show jV a b = -1 from iL h)
  have HL1:=zh (iB a b W)
  rw [show decide (un a < un b)=true from by simp;omega] at HL1
  go_enter Tryz.func129,Tryz.ntmps129
  go_wp2_with (first | (with_reducible refine aB nmP rfl (.tmp 2) rfl w.heap.size 0 rfl a _ rfl ra ?_) | (with_reducible refine aB nmP rfl (.tmp 3) rfl (w.heap.size+1) 0 rfl b _ rfl rb ?_) | fail "A")
  refine HL1.out.mono ?_
  rintro e w5 ⟨rfl,he5⟩
  have HX5:=zh (HX.out.trans he5)
  clear he5 ra rb
  go_wp2_with fail
  go_ret
  exact ⟨by rw [HC.out];rfl,HX5.out⟩
 ·have HC := zh (show jV a b = 0 from by unfold jV; rw [h]; exact iN _)
  have HL1:=zh (iB a b W)
  rw [show decide (un a < un b)=false from by simp;omega] at HL1
  go_enter Tryz.func129,Tryz.ntmps129
  go_wp2_with (first | (with_reducible refine aB nmP rfl (.tmp 2) rfl w.heap.size 0 rfl a _ rfl ra ?_) | (with_reducible refine aB nmP rfl (.tmp 3) rfl (w.heap.size+1) 0 rfl b _ rfl rb ?_) | fail "A")
  refine HL1.out.mono ?_
  rintro e w5 ⟨rfl,he5⟩
  have HX5:=zh (HX.out.trans he5)
  have HL2:=zh (iB b a w5)
  rw [show decide (un b < un a)=false from by simp;omega] at HL2
  have ra:w5.rangeAt w.heap.size 0 (RowT.enc a):=bZ (HA.out.ext he5)
  have rb:w5.rangeAt (w.heap.size+1) 0 (RowT.enc b):=bZ (HB.out.ext he5)
  clear he5
  go_wp2_with (first | (with_reducible refine aB nmP rfl (.tmp 2) rfl w.heap.size 0 rfl a _ rfl ra ?_) | (with_reducible refine aB nmP rfl (.tmp 3) rfl (w.heap.size+1) 0 rfl b _ rfl rb ?_) | fail "A")
  refine HL2.out.mono ?_
  rintro e w6 ⟨rfl,he6⟩
  have HX6:=zh (HX5.out.trans he6)
  clear he6 ra rb
  go_wp2_with fail
  go_ret
  exact ⟨by rw [HC.out];rfl,HX6.out⟩
 have HC:=zh (show jV a b=1 from iM h)
 have HL1:=zh (iB a b W)
 rw [show decide (un a < un b)=false from by simp;omega] at HL1
 go_enter Tryz.func129,Tryz.ntmps129
 go_wp2_with (first | (with_reducible refine aB nmP rfl (.tmp 2) rfl w.heap.size 0 rfl a _ rfl ra ?_) | (with_reducible refine aB nmP rfl (.tmp 3) rfl (w.heap.size+1) 0 rfl b _ rfl rb ?_) | fail "A")
 refine HL1.out.mono ?_
 rintro e w5 ⟨rfl,he5⟩
 have HX5:=zh (HX.out.trans he5)
 have HL2:=zh (iB b a w5)
 rw [show decide (un b < un a)=true from by simp;omega] at HL2
 have ra:w5.rangeAt w.heap.size 0 (RowT.enc a):=bZ (HA.out.ext he5)
 have rb:w5.rangeAt (w.heap.size+1) 0 (RowT.enc b):=bZ (HB.out.ext he5)
 clear he5
 go_wp2_with (first | (with_reducible refine aB nmP rfl (.tmp 2) rfl w.heap.size 0 rfl a _ rfl ra ?_) | (with_reducible refine aB nmP rfl (.tmp 3) rfl (w.heap.size+1) 0 rfl b _ rfl rb ?_) | fail "A")
 refine HL2.out.mono ?_
 rintro e w6 ⟨rfl,he6⟩
 have HX6:=zh (HX5.out.trans he6)
 clear he6 ra rb
 go_wp2_with fail
 go_ret
 exact ⟨by rw [HC.out];rfl,HX6.out⟩
theorem nX (a b:CeR) (w:World):Calls Tryz.prog 71 #[.agg (ceA a),.agg (ceA b)] w fun e w'=>e=.returned (.int .i64 (jD a b))∧Ext w w':=by
 obtain ⟨W,hW⟩:∃ W,(w.alloc (.cells (ceA a) 32)).alloc (.cells (ceA b) 32)=W:=⟨_,rfl⟩
 have HA:=zh (show Blk W w.heap.size 32 (ceA a) from by rw [← hW];exact (Blk.new w 32 (ceA a)).alloc _)
 have HB:=zh (show Blk W (w.heap.size+1) 32 (ceA b) from by rw [← hW];exact Blk.newAt _ _ _ _ (by simp))
 have HX:=zh (show Ext w W from by rw [← hW];exact ((Ext.refl w).alloc' _).alloc' _)
 have a0:=HA.out.cell 0
 have b0:=HB.out.cell 0
 have HC1:=zh (nW a.k b.k W)
 have HC2:=zh (fun W=>nW a.id b.id W)
 obtain ⟨x1,hx1⟩:∃ x,gU a.k b.k=x:=⟨_,rfl⟩
 obtain ⟨x2,hx2⟩:∃ x,gU a.id b.id=x:=⟨_,rfl⟩
 rw [hx1] at HC1
 rw [hx2] at HC2
 by_cases h1:x1=0
 ·have c1 : (x1 != 0) = false := by rw [h1]; rfl
  by_cases h2:x2=0
  ·have c2 : (x2 != 0) = false := by rw [h2]; rfl
   have HSP:=zh (show jD a b=jV a.lk b.lk from by unfold jD gS;rw [hx1,hx2,if_neg (fun h=>h h1),if_neg (fun h=>h h2)];rfl)
   clear h1 h2 hx1 hx2
   go_enter Tryz.func71,Tryz.ntmps71
   go_wp2_with fail
   refine HC1.out.mono ?_
   rintro e w5 ⟨rfl,he5⟩
   have HX5:=zh (HX.out.trans he5)
   have HA5:=zh (HA.out.ext he5)
   have HB5:=zh (HB.out.ext he5)
   have a1:=HA5.out.cell 1
   have b1:=HB5.out.cell 1
   clear he5 a0 b0
   go_wp2_with fail
   refine (HC2.out w5).mono ?_
   rintro e w6 ⟨rfl,he6⟩
   have HX6:=zh (HX5.out.trans he6)
   have ra:w6.rangeAt w.heap.size 2 (RowT.enc a.lk):=nL (HA5.out.ext he6)
   have rb:w6.rangeAt (w.heap.size+1) 2 (RowT.enc b.lk):=nL (HB5.out.ext he6)
   clear he6 a1 b1
   go_wp2_with (first | (with_reducible refine aB nmP rfl (.tmp 23) rfl w.heap.size 2 rfl a.lk _ rfl ra ?_) | (with_reducible refine aB nmP rfl (.tmp 25) rfl (w.heap.size+1) 2 rfl b.lk _ rfl rb ?_) | fail "A")
   refine (xP a.lk b.lk w6).mono ?_
   rintro e w7 ⟨rfl,he7⟩
   have HX7:=zh (HX6.out.trans he7)
   clear he7 ra rb
   go_wp2_with fail
   go_ret
   exact ⟨by rw [HSP.out];rfl,HX7.out⟩
  have c2:(x2 != 0)=true:=bne_iff_ne.2 h2
  have HSP:=zh (show jD a b=x2 from by unfold jD gS;rw [hx1,hx2,if_neg (fun h=>h h1),if_pos h2])
  clear h1 h2 hx1 hx2
  go_enter Tryz.func71,Tryz.ntmps71
  go_wp2_with fail
  refine HC1.out.mono ?_
  rintro e w5 ⟨rfl,he5⟩
  have HX5:=zh (HX.out.trans he5)
  have HA5:=zh (HA.out.ext he5)
  have HB5:=zh (HB.out.ext he5)
  have a1:=HA5.out.cell 1
  have b1:=HB5.out.cell 1
  clear he5 a0 b0
  go_wp2_with fail
  refine (HC2.out w5).mono ?_
  rintro e w6 ⟨rfl,he6⟩
  have HX6:=zh (HX5.out.trans he6)
  have ra:w6.rangeAt w.heap.size 2 (RowT.enc a.lk):=nL (HA5.out.ext he6)
  have rb:w6.rangeAt (w.heap.size+1) 2 (RowT.enc b.lk):=nL (HB5.out.ext he6)
  clear he6 a1 b1
  clear ra rb
  go_wp2_with fail
  go_ret
  exact ⟨by rw [HSP.out];rfl,HX6.out⟩
 have c1:(x1 != 0)=true:=bne_iff_ne.2 h1
 have HSP:=zh (show jD a b=x1 from by unfold jD gS;rw [hx1,if_pos h1])
 clear h1 hx1 hx2
 go_enter Tryz.func71,Tryz.ntmps71
 go_wp2_with fail
 refine HC1.out.mono ?_
 rintro e w5 ⟨rfl,he5⟩
 have HX5:=zh (HX.out.trans he5)
 have HA5:=zh (HA.out.ext he5)
 have HB5:=zh (HB.out.ext he5)
 have a1:=HA5.out.cell 1
 have b1:=HB5.out.cell 1
 clear he5 a0 b0
 go_wp2_with fail
 go_ret
 exact ⟨by rw [HSP.out];rfl,HX5.out⟩
theorem wE {o:Oper} {a:Act} (x y:Operand) (ho:o.op=.slice 27 x (some y) none none) (A:Option Addr) (n c k:Nat) (hx:a.eval x=.slice A n c) (hy:a.eval y=.int .i64 (k:Int)) (hkn:k≤n) (hnc:n≤c) (w:World) :
  (execOp a.eval o).run Tryz.prog w=.ok (.value (.slice (if c=k then A else A.map (·.add (k * 11))) (n - k) (c - k))) w:=by
 have i0:(0:Int)≤(k:Int):=by omega
 have i1:(k:Int)≤(n:Int):=by omega
 have i2:(n:Int)≤(c:Int):=by omega
 unfold execOp
 simp only [ho,hx,Option.map,hy]
 go_simp
 split <;> (try rfl) <;> (cases A <;> rfl)
theorem aCK {o:Oper} {a:Act} (x y:Operand) (ho:o.op=.slice 27 x (some y) none none) (A:Option Addr) (n c k:Nat) (hx:a.eval x=.slice A n c) (hy:a.eval y=.int .i64 (k:Int)) (hkn:k≤n) (hnc:n≤c) (A8:Option Addr) (hA:(if c=k then A else A.map (·.add (k * 11)))=A8) (w:World) :
  (execOp a.eval o).run Tryz.prog w=.ok (.value (.slice A8 (n - k) (c - k))) w:=by
 rw [← hA];exact wE x y ho A n c k hx hy hkn hnc w
theorem pH {o:Oper} {a:Act} {w:World} {ops:Array Oper} {rest:List Oper} {Q:Exit→Act→World→Prop} (hgd:o.guard=none) (x y:Operand) (ho:o.op=.slice 27 x (some y) none none) (A:Option Addr) (n c k:Nat) (hx:a.eval x=.slice A n c) (hy:a.eval y=.int .i64 (k:Int)) (hkn:k≤n) (hnc:n≤c)
  (h:∀ A8,Hid ((if c=k then A else A.map (·.add (k * 11)))=A8)→wpList Tryz.prog ops Q rest (a.put o.dst (.slice A8 (n - k) (c - k))) w):wpList Tryz.prog ops Q (o :: rest) a w :=
 fW hgd (wE x y ho A n c k hx hy hkn hnc) (h _ (zh rfl))
theorem Rd.cutG {α:Type} [RowT α] {w:World} {A:Option Addr} {n c k size:Nat} {L:List α} (h:Rd w A (gcs L)) (hsz:RowT.sz α=size) (hl:L.length=n) (hk:k≤n) (hc:n≤c):Rd w (if c=k then A else A.map (·.add (k * size))) (gcs (L.drop k)):=by
 subst hsz
 by_cases e:c=k
 ·have : L.drop k = [] := List.drop_eq_nil_of_le (by omega)
  rw [this,aFa];exact .nil
 have:=h.cut (n:=n) (k:=k) (c:=c) (size:=RowT.sz α) (by rw [aI,hl]) hk hc
 rw [eH] at this
 rw [if_neg (by omega)] at this
 rw [if_neg e]
 exact this
theorem aIS {α:Type} [RowT α] {P:Program} {t e:TypeId} {z:Value} {size bytes:Nat} (E:Elem P t e z size bytes) (hsz:RowT.sz α=size) {w:World} {base g n c:Nat} {L:List α} {i:Nat} (h:w.ownsRow base e size (.slice (some ⟨g,0,none⟩) n c) n (gcs L)) (hi:i < n) (hn:n≤2305843009213693952) (ad:Addr) (had:(if c=i+1 then ⟨g,0,none⟩ else (⟨g,(i+1) * size,none⟩:Addr))=ad) :
  ∃ W1,(∀ ty,(Builtin.append_ #[t,t] ty #[.slice (some ⟨g,0,none⟩) i c,.slice (some ad) (n - (i+1)) (c - (i+1))]).run P w=.ok (.slice (some ⟨g,0,none⟩) (n - 1) c) W1)∧W1.ownsRow base e size (.slice (some ⟨g,0,none⟩) (n - 1) c) (n - 1) (gcs (L.take i ++ L.drop (i+1)))∧w.grownBy W1 (some g):=by
 subst hsz
 obtain ⟨hle,hcap⟩:=dY h
 have HLEN:L.length=n:=OwnG.len (e:=e) h
 obtain ⟨ti,hti,htz,htsz,htby⟩:=Elem.get E
 have hsrc0:∀ k v,(gcs L)[k]?=some v→w.cell? ⟨g,k,none⟩=some v:=fun k v hv=>by
  obtain ⟨g',hgg,_,hra⟩:=cY h (by omega)
  obtain rfl:g=g':=by injection hgg with h1;injection h1
  have:=hra k v hv;rwa [Nat.zero_add] at this
 have hdl:(gcs (L.drop (i+1))).length=(n - (i+1)) * RowT.sz α:=by rw [aI,List.length_drop,HLEN]
 have hfit:i * RowT.sz α+(n - (i+1)) * RowT.sz α≤n * RowT.sz α:=by rw [← Nat.add_mul];exact Nat.mul_le_mul_right _ (by omega)
 have hxl:(gcs L).length=n * RowT.sz α:=by rw [aI,HLEN]
 have hnews:∀ j u,(gcs (L.drop (i+1)))[j]?=some u→w.cell? (ad.add j)=some u:=fun j u hu=>by
  have hj:=(List.getElem?_eq_some_iff.1 hu).1
  rw [hdl] at hj
  by_cases hc:c=i+1
  ·have : n - (i + 1) = 0 := by omega
   rw [this] at hj;omega
  rw [← had,if_neg hc,Addr.add_mid]
  refine hsrc0 _ u ?_
  rw [← eH,List.getElem?_drop] at hu
  exact hu
 have hrun:=fun ty=>run_append_room_cells (P:=P) (w:=w) t ty e ti (Elem.ut E) hti g 0 i c ad (n - (i+1)) (c - (i+1)) (gcs (L.drop (i+1))) (by rw [htsz];exact hdl) hnews (cG _) (by omega)
  (fun j hj=>by rw [htsz,Nat.zero_add,h.cellAt (i * RowT.sz α+j) (by omega),List.getElem?_eq_getElem (by omega)];rfl) (fun j hj=>by rw [htsz,Nat.zero_add];exact h.frozenAt _)
 rw [htsz,Nat.zero_add,show i+(n - (i+1))=n - 1 by omega] at hrun
 obtain ⟨s1,s2⟩:=jQ (gcs (L.drop (i+1))) (i * RowT.sz α) w (gcs L) (by omega) h
 refine ⟨_,hrun,?_,s2⟩
 have:=tG s1 (i:=n - 1) (by omega) (by simp)
 have hd:=rN L (i:=i) (by rw [HLEN];exact hi)
 rw [HLEN] at hd
 rw [hd] at this
 exact this
end
section
open Go.RowKit
theorem en2 (w:World) (s:StR) (c:Array Value) (t:TypeId):∃ W,((w.alloc (.cells (ssA s) 44)).alloc (.cells c t)).alloc (.cells #[.slice none 0 0,.slice none 0 0,.slice none 0 0,.slice none 0 0,.int .i64 0] 44)=W∧Hid (Blk W w.heap.size 44 (ssA s))∧Hid (Blk W (w.heap.size+1) t c)∧Hid (Blk W (w.heap.size+2) 44 (ssA ss0))∧Hid (Ext w W) :=
 ⟨_,rfl,zh (((Blk.new w 44 (ssA s)).alloc _).alloc _),zh (Blk.alloc (Blk.newAt _ _ _ _ (by simp)) _),zh (Blk.newAt _ _ _ _ (by simp)),zh ((((Ext.refl w).alloc' _).alloc' _).alloc' _)⟩
theorem bdE {w w1:World} {b X:Nat} {s0 s1:StR} (h0:s0.ok w) (ho:OwnS w1 b s1) (e:s1.V=s0.V) (hn:s0.n1≤X∧s0.n2≤X∧s0.n3≤X∧s0.n4≤X):s1.n1≤X∧s1.n2≤X∧s1.n3≤X∧s1.n4≤X:=by
 have e1:s1.C=s0.C:=congrArg StV.C e
 have e2:s1.Q=s0.Q:=congrArg StV.Q e
 have e3:s1.K=s0.K:=congrArg StV.K e
 have e4:s1.P=s0.P:=congrArg StV.P e
 have m1:=ho.l1;have m2:=ho.l2;have m3:=ho.l3;have m4:=ho.l4
 have l1:=h0.s1.len;have l2:=h0.s2.len;have l3:=h0.s3.len;have l4:=h0.s4.len
 rw [e1] at m1;rw [e2] at m2;rw [e3] at m3;rw [e4] at m4
 omega
theorem cpS {w W w5 W7:World} {s0 s1:StR} (HS0:Hid (s0.ok w)) (hn:s0.n1≤1000000∧s0.n2≤1000000∧s0.n3≤1000000∧s0.n4≤1000000) (HB:Hid (Blk W w.heap.size 44 (ssA s0))) (HE:Hid (Ext w W)) (ho1:OwnS w5 W.heap.size s1) (hv1:s1.V=s0.V) (he5:Ext W w5)
  (h7:Hid (w5.setCells w.heap.size 0 (ssA s1).toList=W7)) :
  Hid (StB w W7 w.heap.size s1)∧(∀ x t c,Blk W x t c→x ≠ w.heap.size→Blk W7 x t c)∧Hid (s1.n1≤1000000∧s1.n2≤1000000∧s1.n3≤1000000∧s1.n4≤1000000):=by
 have ho:=bS ho1 HE.out.size
 refine ⟨zh ?_,fun x t c hx hne=>?_,zh (bdE HS0.out ho hv1 hn)⟩
 ·rw [← h7.out];exact StB.start ho (HB.out.ext he5) (HE.out.trans he5) (Nat.le_refl _)
 rw [← h7.out];exact (hx.ext he5).grown (aD _ _ _ _) (fun e=>hne (by injection e))
theorem rtS {fn:Func} {p:Tmp} {a:Act} {w WF W9:World} {V:StV} {g:Nat} (r:Nat) (s:StR) (HF:StB w WF g s) (HRF:Blk WF r 44 (ssA ss0)) (hr:w.heap.size≤r) (h9:Hid (WF.setCells r 0 (ssA s).toList=W9)) (hV:s.V=V)
  (hres:fn.results=#[.cell p 44]:=by rfl) (hp:a.tmps.getD p undef=.pointer (some ⟨r,0,none⟩):=by rfl) (hd:a.defers=[]:=by rfl):bodyPost Tryz.prog fn (mE w V) .ret a W9:=by
 have hst:Blk W9 r 44 (ssA s):=by rw [← h9.out];exact aQ (ds:=ssA s) HRF rfl
 have how:OwnS W9 w.heap.size s:=by
  rw [← h9.out]
  exact HF.own.kept (aD _ _ _ _) HRF (by decide) (by decide) (by decide) (by decide)
 have hxe:Ext w W9:=by rw [← h9.out];exact Below.setCells' HF.low hr _ _
 exact bodyPost_ret (v:=.agg (ssA s)) (gM hres _ _ r _ hp (run_loadVar_row _ _ _ _ _ (0,0) _ hst Tryz.underlying44 rfl (by kernel_rfl))) hd ⟨s,rfl,how,hV,hxe⟩
end
section
open Go.RowKit
attribute [local go_sem ↓] Go.wp_at_zero Go.wp_at_succ
def aNd (w:World) (s:StR) (e:Ending) (w':World):Prop:=(∃ b,e=.returned (.bool b)∧(b=false→s.n1≤100∧s.n2≤100∧s.n3≤100∧s.n4≤100))∧Ext w w'
theorem sG (s:StR) (w:World) (h:s.ok w):Calls Tryz.prog 19 #[.agg (ssA s)] w (aNd w s):=by
 obtain ⟨W,hW⟩:∃ W,w.alloc (.cells (ssA s) 44)=W:=⟨_,rfl⟩
 have HB:=zh (show Blk W w.heap.size 44 (ssA s) from by rw [← hW];exact Blk.new w 44 (ssA s))
 have HE:=zh (show Ext w W from by rw [← hW];exact (Ext.refl w).alloc' _)
 have a1:=h.s1.le
 have b1:=h.s1.cap
 have a2:=h.s2.le
 have b2:=h.s2.cap
 have a3:=h.s3.le
 have b3:=h.s3.cap
 have a4:=h.s4.le
 have b4:=h.s4.cap
 obtain ⟨q0,q1,q2,q3,q4⟩:=aE HB.out
 clear h
 by_cases h1:100 < s.n1
 ·have d1 : decide ((100 : Int) < (s.n1 : Int)) = true := decide_eq_true (by omega)
  go_enter Tryz.func19,Tryz.ntmps19
  go_wp2_with fail
  go_ret
  exact ⟨⟨true,rfl,fun h=>by cases h⟩,HE.out⟩
 have d1:decide ((100:Int) < (s.n1:Int))=false:=decide_eq_false (by omega)
 by_cases h2:100 < s.n2
 ·have d2 : decide ((100 : Int) < (s.n2 : Int)) = true := decide_eq_true (by omega)
  go_enter Tryz.func19,Tryz.ntmps19
  go_wp2_with fail
  go_ret
  exact ⟨⟨true,rfl,fun h=>by cases h⟩,HE.out⟩
 have d2:decide ((100:Int) < (s.n2:Int))=false:=decide_eq_false (by omega)
 by_cases h3:100 < s.n3
 ·have d3 : decide ((100 : Int) < (s.n3 : Int)) = true := decide_eq_true (by omega)
  go_enter Tryz.func19,Tryz.ntmps19
  go_wp2_with fail
  go_ret
  exact ⟨⟨true,rfl,fun h=>by cases h⟩,HE.out⟩
 have d3:decide ((100:Int) < (s.n3:Int))=false:=decide_eq_false (by omega)
 have HN:=zh (show s.n1≤100∧s.n2≤100∧s.n3≤100 from by omega)
 clear h1 h2 h3
 go_enter Tryz.func19,Tryz.ntmps19
 go_wp2_with fail
 go_ret
 refine ⟨⟨_,rfl,fun h=>?_⟩,HE.out⟩
 have h4:¬ (100:Int) < (s.n4:Int):=of_decide_eq_false h
 have:=HN.out
 omega
end
end Go.Proofs.YtohmmcahpakokaaGreat
