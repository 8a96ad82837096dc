/- state.Lock, state.Add. -/
import Derived.Test.YtohmmcahpakokaaGreatJ28
import Derived.Test.YtohmmcahpakokaaGreatJ30
set_option maxRecDepth 100000
set_option maxHeartbeats 8000000
set_option linter.unusedVariables false
set_option linter.unusedSimpArgs false
namespace Go.Proofs.YtohmmcahpakokaaGreat
section
open Go.RowKit
attribute [local go_sem ↓] Go.wp_at_zero Go.wp_at_succ
theorem aIj {w:World} {A:Option Addr} {n c:Nat} {C:List LkR} (h:SlG w A n c C) {k:Nat} (hk:k < n):∃ b o,A=some ⟨b,o,none⟩∧w.rangeAt b (o+k * 19) (RowT.enc (nthG C k)):=by
 obtain ⟨b,o,rfl,hr,-⟩:=h.at (by omega)
 exact ⟨b,o,rfl,cG hr (by rw [h.len];exact hk)⟩
theorem aCS (s:StR) (x:UInt64) (w:World) (h:s.ok w):Calls Tryz.prog 204 #[.agg (ssA s),.agg (nmc x)] w fun e w'=>e=.returned (.tuple #[.agg (lkA (lkO (fdK s.K x))),.bool (fdK s.K x).isSome])∧Ext w w':=by
 obtain ⟨W,hW⟩:∃ W,(((w.alloc (.cells (ssA s) 44)).alloc (.cells (nmc x) 30)).alloc (.cells (lk0) 94))=W:=⟨_,rfl⟩
 have HB:=zh (show Blk W w.heap.size 44 (ssA s) from by rw [← hW];exact ((Blk.new w 44 (ssA s)).alloc _).alloc _)
 have HC:=zh (show Blk W (w.heap.size+1) 30 (nmc x) from by rw [← hW];exact Blk.alloc (Blk.newAt _ _ _ _ (by simp)) _)
 have HD:=zh (show Blk W (w.heap.size+2) 94 (lk0) from by rw [← hW];exact Blk.newAt _ _ _ _ (by simp))
 have HE:=zh (show Ext w W from by rw [← hW];exact (((Ext.refl w).alloc' _).alloc' _).alloc' _)
 have q0:=HB.out.cell 0
 have q1:=HB.out.cell 1
 have q2:=HB.out.cell 2
 have q3:=HB.out.cell 3
 have q4:=HB.out.cell 4
 have r1:W.rangeAt (w.heap.size+1) 0 (RowT.enc x):=bM HC.out
 have HS:=zh h
 have hle:=h.s3.le
 have hcap:=h.s3.cap
 have hl3:=h.s3.len
 rcases iS (fun l:LkR=>decide (l.nm=x)) s.K with hno | ⟨k,hk,h1,h2⟩
 ·have HF := zh (fE s x W (h.ext HE.out) (-1) (.inl ⟨rfl, hno⟩))
  have HG:=zh (aEs hno)
  clear hno h hl3
  go_enter Tryz.func204,Tryz.ntmps204
  go_wp2_with (first | (with_reducible refine aB nmP rfl (.tmp 3) rfl (w.heap.size+1) 0 rfl x _ rfl r1 ?_) | fail "A")
  refine HF.out.mono ?_
  rintro e w5 ⟨rfl,he5⟩
  have HX:=zh (HE.out.trans he5)
  have HD5:=zh (HD.out.ext he5)
  have ht:w5.there (w.heap.size+2) 0 (RowT.sz LkR):=aT HD5.out
  have hv0:Value.agg (lkA (⟨0,0,0,0,0⟩:LkR))=.agg lk0:=by rw [aIi]
  have HV:=zh hv0
  clear he5 r1 q0 q1 q2 q3 q4 hW hv0
  go_wp2_with ((with_reducible refine bK lkP rfl (.tmp 4) (.tmp 17) rfl (w.heap.size+2) 0 rfl ⟨0,0,0,0,0⟩ (.agg lk0) HV.out rfl ht ?_))
  have hst:=aR (ds:=lkA (⟨0,0,0,0,0⟩:LkR)) HD5.out rfl
  exact bodyPost_ret (xS rfl _ _ (w.heap.size+2) _ _ rfl rfl (run_loadVar_row _ _ _ _ _ (0,0) _ hst Tryz.underlying94 rfl (by kernel_rfl))) rfl ⟨by rw [HG.out];rfl,Below.setCells' HX.out (by omega) _ _⟩
 have HF:=zh (fE s x W (h.ext HE.out) (k:Int) (.inr ⟨k,rfl,hk,h1,h2⟩))
 have HG:=zh (aAn hk h1 h2)
 have hk':k < s.n3:=by omega
 clear h1 h2 h hl3 hk
 go_enter Tryz.func204,Tryz.ntmps204
 go_wp2_with (first | (with_reducible refine aB nmP rfl (.tmp 3) rfl (w.heap.size+1) 0 rfl x _ rfl r1 ?_) | fail "A")
 refine HF.out.mono ?_
 rintro e w5 ⟨rfl,he5⟩
 have HX:=zh (HE.out.trans he5)
 have HD5:=zh (HD.out.ext he5)
 have ht:w5.there (w.heap.size+2) 0 (RowT.sz LkR):=aT HD5.out
 have p2:w5.cell? ⟨w.heap.size,2,none⟩=some (.slice s.A3 s.n3 s.c3):=(HB.out.ext he5).cell 2
 obtain ⟨b,o,hA,hr⟩:=aIj (HS.out.ext HX.out).s3 hk'
 rw [hA] at p2
 have i0:(0:Int)≤(k:Int):=by omega
 have i1:(k:Int) < (s.n3:Int):=by omega
 obtain ⟨l,hl⟩:∃ l,nthG s.K k=l:=⟨_,rfl⟩
 rw [hl] at hr HG
 obtain ⟨v,hv⟩:∃ v,Value.agg (lkA l)=v:=⟨_,rfl⟩
 have HV:=zh hv
 clear he5 r1 q0 q1 q2 q3 q4 hW hA hl hv
 go_wp2_with (first | (with_reducible refine aB lkP rfl (.tmp 15) rfl b (o+k * 19) rfl l v HV.out hr ?_) | (with_reducible refine bK lkP rfl (.tmp 4) (.tmp 16) rfl (w.heap.size+2) 0 rfl l v HV.out rfl ht ?_))
 have hst:=aR (ds:=lkA l) HD5.out rfl
 exact bodyPost_ret (xS rfl _ _ (w.heap.size+2) _ _ rfl rfl (run_loadVar_row _ _ _ _ _ (0,0) _ hst Tryz.underlying94 rfl (by kernel_rfl))) rfl ⟨by rw [HG.out];rfl,Below.setCells' HX.out (by omega) _ _⟩
section
variable {ops:Array Oper} {rest:List Oper} {o:Oper} {a:Act} {w:World} {K:Act→World→Prop} {Q:Exit→Act→World→Prop} {X:Prop}
theorem aK (hgd:o.guard=none) (x y:Operand) (ho:o.op=.store 44 x y) (g:Nat) (s:StR) (hx:a.eval x=.pointer (some ⟨g,0,none⟩)) (hy:a.eval y=.agg (ssA s)) {z:StR} (hb:Blk w g 44 (ssA z))
  (h:∀ W,Hid (w.setCells g 0 (ssA s).toList=W)→wpList Tryz.prog ops Q rest (a.put o.dst undef) W):wpList Tryz.prog ops Q (o :: rest) a w :=
 wpList_store_mid hgd 44 x y ho g 0 (ssA s) hx hy (show w.there g 0 (ssA z).size from aT hb) (by kernel_rfl) (yZ s) (h _ (zh rfl))
theorem qQ {ty:TypeId} (x:Operand) (ho:o.op=.buildSlice ty 1 #[(0,x)]) {vx v:Value} {w2:World} (hx:a.eval x=vx) (hr:(Instr.buildSlice ty 1 #[(0,vx)]).run Tryz.prog w=.ok v w2) (h:K (a.put o.dst v) w2):o.wp Tryz.prog a w K Q:=by
 unfold Oper.wp execOp
 simp only [ho,List.map_toArray,List.map_cons,List.map_nil,hx,Sem.run_bind,hr,Result.andThen_ok,Sem.run_pure]
 exact h
end
theorem mK (d:DeR) (w:World):(Instr.buildSlice 27 1 #[(0,.agg (deA d))]).run Tryz.prog w=.ok (.slice (some ⟨w.heap.size,0,none⟩) 1 1) (w.alloc (.cells (deA d) 34)):=by kernel_rfl
theorem aBk (d:LkR) (w:World):(Instr.buildSlice 41 1 #[(0,.agg (lkA d))]).run Tryz.prog w=.ok (.slice (some ⟨w.heap.size,0,none⟩) 1 1) (w.alloc (.cells (lkA d) 94)):=by kernel_rfl
structure AddS (w wr:World) (g:Nat) (S0:StV) (l:List DeR) (k:Nat) (s:StR):Prop where
 st:StB w wr g s
 res:Blk wr (w.heap.size+1) 44 (ssA ss0)
 v:s.V=⟨addL S0.C (l.take k),S0.Q,S0.K,S0.P,S0.G⟩
theorem AddS.C {w wr:World} {g:Nat} {S0:StV} {l:List DeR} {k:Nat} {s:StR} (h:AddS w wr g S0 l k s):s.C=addL S0.C (l.take k):=congrArg StV.C h.v
theorem AddS.ext {w wr w':World} {g:Nat} {S0:StV} {l:List DeR} {k:Nat} {s:StR} (h:AddS w wr g S0 l k s) (e:Ext wr w'):AddS w w' g S0 l k s:=⟨h.st.ext e,h.res.ext e,h.v⟩
theorem AddS.same {w wr:World} {g:Nat} {S0:StV} {l:List DeR} {k:Nat} {s:StR} (h:AddS w wr g S0 l k s) (hk:k < l.length) (he:dK s.C (nthG l k).c (nthG l k).a=s.C):AddS w wr g S0 l (k+1) s :=
 ⟨h.st,h.res,by rw [yR hk,← h.C,he];have:=h.v;rw [h.C];exact this⟩
theorem AddS.step {w wr w':World} {g:Nat} {S0:StV} {l:List DeR} {k:Nat} {s s':StR} (h:AddS w wr g S0 l k s) (hk:k < l.length) (hs:StB w w' g s') (hr:Blk w' (w.heap.size+1) 44 (ssA ss0)) (hC:s'.C=dK s.C (nthG l k).c (nthG l k).a) (hV:s'.Q=s.Q∧s'.K=s.K∧s'.P=s.P∧s'.G=s.G):AddS w w' g S0 l (k+1) s':=by
 refine ⟨hs,hr,?_⟩
 have h1:=h.v
 unfold StR.V at h1 ⊢
 rw [yR hk,← h.C,hC,hV.1,hV.2.1,hV.2.2.1,hV.2.2.2]
 injection h1 with e1 e2 e3 e4 e5
 rw [e2,e3,e4,e5]
theorem aJg {C:List DeR} {c:CeR} {a z:Int} {x:DeR} (h:fdC C c=some x) (hz:IntKind.i64.wrap (bW C c+a)=z):dK C c a=lF c z C:=by
 unfold dK
 rw [h]
 rw [dV h] at hz
 simp only
 rw [show wr (x.a+a)=z from hz]
theorem aEC {C:List DeR} {c:CeR} {a z:Int} (h:fdC C c=none) (hz:IntKind.i64.wrap (bW C c+a)=z):dK C c a=if z=0 then C else eB (fun y=>eE c y.c) ⟨c,z⟩ C:=by
 unfold dK
 rw [h]
 rw [dV h] at hz
 have e:wr a=z:=by rw [← hz];show wr a=wr (0+a);rw [Int.zero_add]
 simp only
 rw [e]
theorem aHI {a:Int} (h:wfI a):IntKind.i64.wrap a=a:=gT (fH.1 h)
theorem bJ {w:World} {base base':Nat} {s:StR} (h:OwnS w base s) (hb:base'≤base):OwnS w base' s:=h.mono hb
theorem kS (s0:StR) (A:Option Addr) (m c:Nat) (l:List DeR) (w:World) (h:s0.ok w) (hl:SlG w A m c l) (hn:m≤100000∧s0.n1≤1000000∧s0.n2≤1000000∧s0.n3≤1000000∧s0.n4≤1000000):Calls Tryz.prog 54 #[.agg (ssA s0),.slice A m c] w (lZ w ⟨addL s0.C l,s0.Q,s0.K,s0.P,s0.G⟩):=by
 have HS0:=zh h
 have hm:=hl.len
 have hmc:=hl.le
 have hcap:=hl.cap
 have HL:=zh hl
 obtain ⟨W,hW⟩:∃ W,((w.alloc (.cells (ssA s0) 44)).alloc (.cells #[.slice none 0 0,.slice none 0 0,.slice none 0 0,.slice none 0 0,.int .i64 0] 44))=W:=⟨_,rfl⟩
 have HB:=zh (show Blk W w.heap.size 44 (ssA s0) from by rw [← hW];exact (Blk.new w 44 (ssA s0)).alloc _)
 have HD:=zh (show Blk W (w.heap.size+1) 44 (ssA ss0) from by rw [← hW];exact Blk.newAt _ _ _ _ (by simp))
 have HE:=zh (show Ext w W from by rw [← hW];exact ((Ext.refl w).alloc' _).alloc' _)
 have HN:=zh hn
 have HM:=zh hm
 have q0:=HB.out.cell 0
 have q1:=HB.out.cell 1
 have q2:=HB.out.cell 2
 have q3:=HB.out.cell 3
 have q4:=HB.out.cell 4
 clear h hl hm hn
 go_enter Tryz.func54,Tryz.ntmps54
 go_upto_region 2 with (first | (go_at_call 51;refine (cR s0 W (HS0.out.ext HE.out) HN.out.2).mono ?_;rintro e w5 ⟨s1,rfl,ho1,hv1,he1⟩;have HB1:=zh (HB.out.ext he1);have HD1:=zh (HD.out.ext he1);have HO1:=zh (bJ ho1 HE.out.size);have HV1:=zh hv1;have HX1:=zh (HE.out.trans he1);clear ho1 hv1 he1) | ((with_reducible refine aK rfl (.tmp 2) (.tmp 10) rfl w.heap.size s1 rfl rfl HB1.out ?_);intro W2 h2))
 have HA0:=zh (show AddS w W2 w.heap.size s0.V l 0 s1 from by
  rw [← h2.out]
  exact ⟨StB.start HO1.out HB1.out HX1.out (Nat.le_refl _),HD1.out.grown (aC _ _ _ _) (fun e=>by injection e;omega),HV1.out⟩)
 have HX2:=zh (show Ext w W2 from HA0.out.st.low)
 clear h2 HB1 HD1 HO1 HV1 HX1 HB HD q0 q1 q2 q3 q4 hW HE
 go_wp2_with fail
 go_loopw [13] (fun vi wr=>∃ (k:Nat) (s:StR),vi=.int .i64 (k:Int)∧k≤m∧Hid (AddS w wr w.heap.size s0.V l k s)∧Hid (Ext w wr)) (fun i _=>m - (intOf i).toNat)
 case atStart=>exact ⟨0,s1,rfl,Nat.zero_le _,HA0,HX2⟩
 case round =>
  clear HA0 HX2
  obtain ⟨k,s,rfl,hk,HA,HX⟩:=hrel
  by_cases hlt:k < m
  ·have HLT := zh (show k < l.length from by rw [HM.out]; exact hlt)
   have i0:(0:Int)≤(k:Int):=by omega
   have i1:(k:Int) < (m:Int):=by omega
   obtain ⟨b,o,rfl,hrow,-⟩:=(HL.out.ext HX.out).at (by omega)
   obtain ⟨d,hd⟩:∃ d,nthG l k=d:=⟨_,rfl⟩
   have hr:wr.rangeAt b (o+k * 11) (RowT.enc d):=by rw [← hd];exact cG hrow HLT.out
   have HDW:=zh (show deW d from by rw [← hd];exact HL.out.nth hlt)
   have HKD:=zh hd
   obtain ⟨vd,hvd⟩:∃ v,Value.agg (deA d)=v:=⟨_,rfl⟩
   have HVD:=zh hvd
   obtain ⟨X,hX⟩:∃ X,wr.heap.size=X:=⟨_,rfl⟩
   have HXS:=zh hX
   have hq:∃ r,IxIs (fun x:DeR=>decide (x.c=d.c)) s.C r∧((r=-1∧fdC s.C d.c=none) ∨ ∃ j:Nat,r=(j:Int)∧j < s.C.length∧fdC s.C d.c=some (nthG s.C j)∧∀ n,lF d.c n s.C=if n=0 then s.C.take j ++ s.C.drop (j+1) else s.C.set j ⟨(nthG s.C j).c,n⟩):=by
    rcases iS (fun x:DeR=>decide (x.c=d.c)) s.C with hno | ⟨j,hj,h1,h3⟩
    ·exact ⟨-1,.inl ⟨rfl,hno⟩,.inl ⟨rfl,sZ hno⟩⟩
    exact ⟨(j:Int),.inr ⟨j,rfl,hj,h1,h3⟩,.inr ⟨j,rfl,hj,qE hj h1 h3,fun n=>zB n hj h1 h3⟩⟩
   obtain ⟨r,hri,hrc⟩:=hq
   have HRI:=zh hri
   have HRC:=zh hrc
   clear hd hvd hrow hri hrc hX
   go_upto_region 5 with (first | (with_reducible refine aB deP rfl (.tmp 15) rfl b (o+k * 11) rfl d vd HVD.out hr ?_) | ((with_reducible refine aP deP rfl (.tmp 6) (.tmp 16) rfl de0 rfl d vd HVD.out rfl rfl ?_);intro W4 h4))
   have HX4:=zh (show Ext wr W4 from by rw [← h4.out];exact (Ext.refl wr).alloc' _)
   have HD4:=zh (show Blk W4 X 34 (deA d) from by rw [← h4.out,← HXS.out];exact Blk.new wr 34 (deA d))
   have HA4:=zh (HA.out.ext HX4.out)
   obtain ⟨q0,q1,q2,q3,q4⟩:=aE HA4.out.st.blk
   have r4:W4.rangeAt X 0 (RowT.enc d.c):=aCg HD4.out
   obtain ⟨vc,hvc⟩:∃ v,Value.agg (ceA d.c)=v:=⟨_,rfl⟩
   have HVC:=zh hvc
   have HF:=zh (vG s d.c W4 HA4.out.st.own.ok HDW.out.1 r HRI.out)
   rw [hvc] at HF
   clear h4 hr hvc
   rw [HXS.out]
   go_upto_region 6 with (first | (with_reducible refine aB ceP rfl (.tmp 18) rfl X 0 rfl d.c vc HVC.out r4 ?_) | (go_at_call 101;refine HF.out.mono ?_;rintro e w5 ⟨rfl,he5⟩;have HE5:=zh he5;clear he5))
   have HA5:=zh (HA4.out.ext HE5.out)
   have HX5:=zh (HD4.out.ext HE5.out)
   have HXX:=zh (HX.out.trans (HX4.out.trans HE5.out))
   clear HF HVC r4 q0 q1 q2 q3 q4 HA4 HD4 HX4 HE5 HA HVD
   refine wp_region_held_drew (S:=fun V=>Blk V w.heap.size 44 (ssA s)∧Blk V X 34 (deA d)∧s.ok V) (by kernel_rfl) (⟨HA5.out.st.blk.drew,HX5.out.drew,(HA5.out.st.own.ok.ext ((Ext.refl _).drew'))⟩) (fun aA=>?_)
   refine zz0 [0,1] ?_;repeat first | refine zz1 ?_ (hy:=by intro W aM;obtain ⟨q0,q1,q2,q3,q4⟩:=aE aM.1;have r10:=aM.2.1.cell 10;go_simp <;> with_reducible rfl) | refine zz2 ?_ | refine zz9 ?_
   refine zu 2 (v:=.agg (ceA d.c)) aA ?_ (hy:=by exact aF ceP (by rfl) (.tmp 22) rfl X 0 rfl d.c _ rfl (fun V h=>aCg h.2.1))
   refine zz0 [4,5] ?_;repeat first | refine zz1 ?_ (hy:=by intro W aM;obtain ⟨q0,q1,q2,q3,q4⟩:=aE aM.1;have r10:=aM.2.1.cell 10;go_simp <;> with_reducible rfl) | refine zz2 ?_ | refine zz9 ?_
   refine zzj (VE 3 (.int .i64 (bW s.C d.c)) VN) [(3,some 24)] 2 (fun V V' h e=>⟨h.1.ext e,h.2.1.ext e,h.2.2.ext e⟩) (ve VN.ext) (zzc ?_ zzn) ?_
   ·refine zzp fun W hE hS K hK => ?_
    go_simp
    go_at_call 67
    refine (gY s d.c _ hS.2.2 HDW.out.1).mono ?_
    rintro e w5 ⟨rfl,he5⟩
    exact zzK (hK.out (.int .i64 (bW s.C d.c)) _ (he5) (rfl))
   intro env W hE hS hV
   obtain ⟨h3,-⟩:=zzV hV
   clear hV
   simp only [aO,h3]
   clear h3
   have aA:=hS
   refine zu 6 (v:=.int .i64 (IntKind.i64.wrap (bW s.C d.c+d.a))) aA ?_ (hy:=by exact .inl ⟨by rfl,fun V _=>by go_simp <;> rfl⟩)
   refine zt 7 aA ?_
   refine wpAnyH_done (by kernel_rfl) ?_ _
   have HA6:=zh (HA5.out.ext ((Ext.refl _).drew'.trans hE))
   have HX6:=zh (HX5.out.ext ((Ext.refl _).drew'.trans hE))
   have HX7:=zh (HXX.out.trans ((Ext.refl _).drew'.trans hE))
   clear hE hS aA HA5 HX5 HXX
   obtain ⟨W0,hW0⟩:∃ W0,W=W0:=⟨_,rfl⟩
   rw [hW0] at HA6 HX6 HX7 ⊢
   clear hW0
   obtain ⟨z,hz⟩:∃ z,IntKind.i64.wrap (bW s.C d.c+d.a)=z:=⟨_,rfl⟩
   rw [hz]
   have HZ:=zh hz
   clear hz
   have HBD:=zh (show s.n1≤1100000 from by
    have h1:=qP (l.take k) s0.C
    have h2:=HA6.out.st.own.l1
    have h3:=HS0.out.s1.len
    have h4:=HN.out.1
    have h5:=HN.out.2.1
    rw [HA6.out.C] at h2
    rw [List.length_take] at h1
    have h6:s0.V.C=s0.C:=rfl
    rw [h6] at h2
    have h7:=HM.out
    omega)
   rcases HRC.out with ⟨rfl,hfd⟩ | ⟨j,rfl,hj,hfd,hset⟩
   ·have HFD := zh hfd
    clear hfd HRC HRI
    by_cases hz0:z=0
    ·have HSTEP := zh (HA6.out.same HLT.out (by rw [HKD.out, aEC HFD.out HZ.out, if_pos hz0]))
     have e1:(z != 0)=false:=by simp [hz0]
     clear hz0
     go_wp2_with fail
     go_roundw
     case rel=>exact ⟨k+1,s,by go_num,hlt,HSTEP,HX7⟩
     case measure=>simp [intOf];omega
    have HZN:=zh hz0
    have e1:(z != 0)=true:=by simp [hz0]
    clear hz0
    go_upto_region 12 with (fail)
    have HX7:=zh (HX7.out.drew')
    have HA6:=zh (HA6.out.ext ((Ext.refl W0).drew'))
    have HX6:=zh (HX6.out.ext ((Ext.refl W0).drew'))
    refine wp_region_held_drew (S:=fun _=>True) (by kernel_rfl) (trivial) (fun aA=>?_)
    refine zzr [0,2] ?_
    refine cJ (VV 1 (fun v V=>v=.slice s.A1 s.n1 s.c1) (VV 3 (fun v V=>v=.slice s.A1 s.n1 s.c1) (VV 4 (fun v V=>v=.agg (deA d)) (VV 5 (fun v V=>∃ j:Nat,v=.int .i64 (j:Int)∧j≤s.n1∧eB (fun y=>eE d.c y.c) d s.C=s.C.take j ++ d :: s.C.drop j) (VV 6 (fun v V=>v=.agg (deA d)) (VV 7 (fun v V=>∃ gb,v=.slice (some ⟨gb,0,none⟩) 1 1∧Blk V gb 34 (deA d)∧W0.heap.size≤gb) (VN))))))) [(1,some 55),(3,some 57),(4,some 58),(5,some 59),(6,some 60),(7,some 61)] (fuel:=3) (by kernel_rfl) (by kernel_rfl) (fun _ _ h _=>h) (VV.ext (fun v w w' h e=>h) (VV.ext (fun v w w' h e=>h) (VV.ext (fun v w w' h e=>h) (VV.ext (fun v w w' h e=>h) (VV.ext (fun v w w' h e=>h) (VV.ext (fun v w w' ⟨gb,h1,h2,h3⟩ e=>⟨gb,h1,h2.ext e,h3⟩) (VN.ext))))))) aA ?hm2 rfl ?hr2
    case hm2 =>
     refine Members.cons ?mm2_1 (Members.cons ?mm2_3 (Members.cons ?mm2_4 (Members.cons ?mm2_5 (Members.cons ?mm2_6 (Members.cons ?mm2_7 (Members.nil _))))))
     case mm2_1 =>
      refine zm [] (fun env W6 hE hS hD K hK=>?_)
      clear hD
      try simp only [aO]
      obtain ⟨q0,q1,q2,q3,q4⟩:=aE (HA6.out.st.blk.ext hE)
      go_simp
      have hk:=hK.out (.slice s.A1 s.n1 s.c1) _ (Ext.refl _) (rfl)
      try simp only [aO] at hk
      exact hk
     case mm2_3 =>
      refine zm [] (fun env W6 hE hS hD K hK=>?_)
      clear hD
      try simp only [aO]
      obtain ⟨q0,q1,q2,q3,q4⟩:=aE (HA6.out.st.blk.ext hE)
      go_simp
      have hk:=hK.out (.slice s.A1 s.n1 s.c1) _ (Ext.refl _) (rfl)
      try simp only [aO] at hk
      exact hk
     case mm2_4 =>
      refine zm [] (fun env W6 hE hS hD K hK=>?_)
      clear hD
      try simp only [aO]
      refine iN deP (.tmp 6) rfl X 0 rfl d _ rfl (aD (HX6.out.ext hE)) ?_
      have hk:=hK.out (.agg (deA d)) _ (Ext.refl _) (rfl)
      try simp only [aO] at hk
      exact hk
     case mm2_5 =>
      refine zm [(3,some 57),(4,some 58)] (fun env W6 hE hS hD K hK=>?_)
      have h3:(fun v V=>v=.slice s.A1 s.n1 s.c1) (env 3) W6:=hD (3,some 57) (by simp)
      have h4:(fun v V=>v=.agg (deA d)) (env 4) W6:=hD (4,some 58) (by simp)
      clear hD
      try simp only [aO] at hK ⊢
      generalize env 3=x3 at h3 hK ⊢
      generalize env 4=x4 at h4 hK ⊢
      subst h3
      subst h4
      go_simp
      go_at_call 104
      refine (aAL s.A1 s.n1 s.c1 s.C d W6 (HA6.out.st.own.ok.ext hE).s1).mono ?_
      rintro e w5 ⟨j,rfl,hj,hins,he5⟩
      have hk:=hK.out (.int .i64 (j:Int)) _ (he5) (⟨j,rfl,hj,hins⟩)
      try simp only [aO] at hk
      exact hk
     case mm2_6 =>
      refine zm [] (fun env W6 hE hS hD K hK=>?_)
      clear hD
      try simp only [aO]
      refine iN deP (.tmp 6) rfl X 0 rfl d _ rfl (aD (HX6.out.ext hE)) ?_
      have hk:=hK.out (.agg (deA d)) _ (Ext.refl _) (rfl)
      try simp only [aO] at hk
      exact hk
     case mm2_7 =>
      refine zm [(6,some 60)] (fun env W6 hE hS hD K hK=>?_)
      have h6:(fun v V=>v=.agg (deA d)) (env 6) W6:=hD (6,some 60) (by simp)
      clear hD
      try simp only [aO] at hK ⊢
      generalize env 6=x6 at h6 hK ⊢
      subst h6
      refine qQ (.tmp 60) rfl rfl (mK d W6) ?_
      have hk:=hK.out (.slice (some ⟨W6.heap.size,0,none⟩) 1 1) _ ((Ext.refl _).alloc' _) (⟨_,rfl,Blk.new _ _ _,hE.size⟩)
      try simp only [aO] at hk
      exact hk
    case hr2 =>
     intro env W6 hE hS hV
     have h1:(fun v V=>v=.slice s.A1 s.n1 s.c1) (env 1) W6:=hV (1,some 55) (by simp)
     have h3:(fun v V=>v=.slice s.A1 s.n1 s.c1) (env 3) W6:=hV (3,some 57) (by simp)
     have h4:(fun v V=>v=.agg (deA d)) (env 4) W6:=hV (4,some 58) (by simp)
     have h5:(fun v V=>∃ j:Nat,v=.int .i64 (j:Int)∧j≤s.n1∧eB (fun y=>eE d.c y.c) d s.C=s.C.take j ++ d :: s.C.drop j) (env 5) W6:=hV (5,some 59) (by simp)
     have h6:(fun v V=>v=.agg (deA d)) (env 6) W6:=hV (6,some 60) (by simp)
     have h7:(fun v V=>∃ gb,v=.slice (some ⟨gb,0,none⟩) 1 1∧Blk V gb 34 (deA d)∧W0.heap.size≤gb) (env 7) W6:=hV (7,some 61) (by simp)
     clear hV
     try simp only [aO]
     generalize env 1=x1 at h1 ⊢
     generalize env 3=x3 at h3 ⊢
     generalize env 4=x4 at h4 ⊢
     generalize env 5=x5 at h5 ⊢
     generalize env 6=x6 at h6 ⊢
     generalize env 7=x7 at h7 ⊢
     subst h1
     subst h3
     subst h4
     subst h6
     have aA:=hS
     refine za 8 (fun K hK=>?_)
     (obtain ⟨j,rfl,hj,hins⟩:=h5;obtain ⟨gb,rfl,hgb,hgs⟩:=h7;go_simp;go_at_call 103;refine (aFD w.heap.size s.A1 s.n1 s.c1 s.C d j gb W6 (HA6.out.st.own.ext hE).o1 hgb (fun e=>by have h9:gb < W0.heap.size:=(World.ownsRow.lt HA6.out.st.own.o1 _ e).2;omega) (Nat.le_trans HA6.out.st.low.size hE.size) (by have:=HBD.out;omega) hj).mono ?_;rintro e w8 ⟨A8,c8,rfl,ho8,hg8⟩;have HO8:=zh ho8;have HG8:=zh hg8;have HI8:=zh hins;have HA7:=zh (HA6.out.ext hE);clear ho8 hg8 hins)
     refine hK.out _ _ (trivial) (fun aA=>?_)
     clear hK K
     try simp only [aS]
     refine zt 9 aA ?_
     refine za 10 (fun K hK=>?_)
     (have pb:=(HA7.out.st.blk.grown HG8.out (aI HA7.out.st.own.o1 HA7.out.st.blk (by decide)));have pc:=pb.cell 0;have pf:=pb.frozen 0;go_simp)
     refine hK.out _ _ (trivial) (fun aA=>?_)
     clear hK K
     try simp only [aS]
     refine wpAnyH_done (by kernel_rfl) ?_ _
     have HNX:=zh (HA7.out.st.row1 HG8.out HO8.out (by
      rw [← HI8.out]
      intro y hy
      rcases (mR _ _ _ _).1 hy with rfl | hy
      ·exact HDW.out
      exact HA7.out.st.own.k1 y hy))
     have HRES:=zh (show Blk (w8.setCell ⟨w.heap.size,0,none⟩ (.slice A8 (s.n1+1) c8)) (w.heap.size+1) 44 (ssA ss0) from ((HA7.out.res.grown HG8.out (aI HA7.out.st.own.o1 HA7.out.res (by decide))).far (p:=⟨w.heap.size,0,none⟩) (by simp) _))
     have HSTEP:=zh (HA7.out.step HLT.out HNX.out HRES.out (by
      show s.C.take j ++ d :: s.C.drop j=_
      rw [HKD.out,aEC HFD.out HZ.out,if_neg HZN.out,← HI8.out]
      have ez:z=d.a:=by
       have h1:=HZ.out
       rw [dV HFD.out] at h1
       rw [← h1];show IntKind.i64.wrap (0+d.a)=_;rw [Int.zero_add];exact aHI HDW.out.2
      rw [ez]) ⟨rfl,rfl,rfl,rfl⟩)
     have HLOW:=zh (show Ext w (w8.setCell ⟨w.heap.size,0,none⟩ (.slice A8 (s.n1+1) c8)) from HNX.out.low)
     clear HNX HRES HA7 HG8 HO8 HI8 hE hS aA pb pc pf hgb hgs
     obtain ⟨W9,hW9⟩:∃ W9,w8.setCell ⟨w.heap.size,0,none⟩ (.slice A8 (s.n1+1) c8)=W9:=⟨_,rfl⟩
     rw [hW9] at HSTEP HLOW ⊢
     clear hW9
     go_wp2_with fail
     go_roundw
     case rel=>exact ⟨k+1,_,by go_num,hlt,HSTEP,HLOW⟩
     case measure=>simp [intOf];omega
   obtain ⟨bb,hA,-,-⟩:=cF HA6.out.st.own.o1 (by rw [← HA6.out.st.own.l1];omega)
   have hq0:W0.cell? ⟨w.heap.size,0,none⟩=some (.slice (some ⟨bb,0,none⟩) s.n1 s.c1):=by rw [← hA];exact HA6.out.st.blk.cell 0
   have HJ:=zh hj
   have hjn:j < s.n1:=by rw [← HA6.out.st.own.l1];exact hj
   have j0:(0:Int)≤(j:Int):=by omega
   have j1:(j:Int) < (s.n1:Int):=by omega
   have j2:=HBD.out
   have HAD:=zh (aJg hfd HZ.out)
   have HSET:=zh (hset z)
   clear HRC HRI hfd hset hj
   by_cases hz0:z=0
   ·have e1 : (z != 0) = false := by simp [hz0]
    have HZ0:=zh hz0
    have HDEL:=zh (aFL w.heap.size bb s.n1 s.c1 s.C j W0 (by have:=HA6.out.st.own.o1;rwa [hA] at this) (by omega) hjn)
    have HAA:=zh hA
    clear hz0 hA
    go_wp2_with fail
    refine HDEL.out.mono ?_
    rintro e w8 ⟨A8,c8,rfl,ho8,hg8⟩
    have hg9:W0.grownBy w8 (Value.ownBlock (.slice s.A1 s.n1 s.c1)):=by rw [HAA.out];exact hg8
    have HNX:=zh (HA6.out.st.row1 hg9 ho8 (by
     intro y hy
     rcases List.mem_append.1 hy with hy | hy
     ·exact HA6.out.st.own.k1 y (List.mem_of_mem_take hy)
     exact HA6.out.st.own.k1 y (List.mem_of_mem_drop hy)))
    have HRES:=zh (show Blk (w8.setCell ⟨w.heap.size,0,none⟩ (.slice A8 (s.n1 - 1) c8)) (w.heap.size+1) 44 (ssA ss0) from ((HA6.out.res.grown hg9 (aI HA6.out.st.own.o1 HA6.out.res (by decide))).far (p:=⟨w.heap.size,0,none⟩) (by simp) _))
    have HSTEP:=zh (HA6.out.step HLT.out HNX.out HRES.out (by
     show s.C.take j ++ s.C.drop (j+1)=_
     rw [HKD.out,HAD.out,HSET.out,if_pos HZ0.out]) ⟨rfl,rfl,rfl,rfl⟩)
    have HLOW:=zh (show Ext w (w8.setCell ⟨w.heap.size,0,none⟩ (.slice A8 (s.n1 - 1) c8)) from HNX.out.low)
    have pb:=(HA6.out.st.blk.grown hg9 (aI HA6.out.st.own.o1 HA6.out.st.blk (by decide)))
    have pc:=pb.cell 0
    have pf:=pb.frozen 0
    clear pb HNX HRES HDEL ho8 hg8 hg9 hq0 HAD HSET
    go_wp2_with fail
    go_roundw
    case rel=>exact ⟨k+1,_,by go_num,hlt,HSTEP,HLOW⟩
    case measure=>simp [intOf];omega
   have e1:(z != 0)=true:=by simp [hz0]
   have HNX:=zh (HA6.out.st.cell1 hA (j * 11+10) (.int .i64 z) (aAl z HJ.out) (by
    intro y hy
    rcases List.mem_or_eq_of_mem_set hy with hy | rfl
    ·exact HA6.out.st.own.k1 y hy
    exact ⟨(HA6.out.st.own.k1 _ (gE HJ.out)).1,by rw [← HZ.out];exact fH.2 (aAO _)⟩))
   have hob:W0.ownsRow w.heap.size 34 11 (.slice (some ⟨bb,0,none⟩) s.n1 s.c1) s.n1 (gcs s.C):=by have:=HA6.out.st.own.o1;rwa [hA] at this
   have HRES:=zh (show Blk (W0.setCell ⟨bb,j * 11+10,none⟩ (.int .i64 z)) (w.heap.size+1) 44 (ssA ss0) from HA6.out.res.far (p:=⟨bb,j * 11+10,none⟩) (fun e=>aI hob HA6.out.res (by decide) (by rw [e];rfl)) _)
   have HSTEP:=zh (HA6.out.step HLT.out HNX.out HRES.out (by
    show s.C.set j ⟨(nthG s.C j).c,z⟩=_
    rw [HKD.out,HAD.out,HSET.out,if_neg hz0]) ⟨rfl,rfl,rfl,rfl⟩)
   have HLOW:=zh (show Ext w (W0.setCell ⟨bb,j * 11+10,none⟩ (.int .i64 z)) from HNX.out.low)
   have c8:W0.cell? ⟨bb,j * 11+10,none⟩=some (.int .i64 (nthG s.C j).a):=by
    obtain ⟨b2,o2,hA2,hc2⟩:=vB HA6.out.st.own.ok.s1 hjn
    obtain ⟨b3,hA3,-,hr3⟩:=cF HA6.out.st.own.o1 (by omega)
    have h5:W0.rangeAt b3 (0+j * 11) (RowT.enc (nthG s.C j)):=cG hr3 HJ.out
    rw [hA] at hA3
    obtain rfl:bb=b3:=by injection hA3 with h6;injection h6
    have h7:=h5 10 _ rfl
    rwa [Nat.zero_add] at h7
   have f8:W0.frozen? ⟨bb,j * 11+10,none⟩=false:=hob.frozenAt _
   clear HNX HRES hz0 hA hob HAD HSET
   go_wp2_with fail
   go_roundw
   case rel=>exact ⟨k+1,_,by go_num,hlt,HSTEP,HLOW⟩
   case measure=>simp [intOf];omega
  obtain rfl:k=m:=by omega
  have i1:¬ (k:Int) < (k:Int):=by omega
  obtain ⟨q0,q1,q2,q3,q4⟩:=aE HA.out.st.blk
  have HV:=zh (show s.V=⟨addL s0.C l,s0.Q,s0.K,s0.P,s0.G⟩ from by
   have:=HA.out.v
   rw [← HM.out,List.take_length] at this
   exact this)
  go_wp2_with (first | ((with_reducible refine aK rfl (.tmp 4) (.tmp 65) rfl (w.heap.size+1) s rfl rfl HA.out.res ?_);intro W9 h9))
  have hst:Blk W9 (w.heap.size+1) 44 (ssA s):=by rw [← h9.out];exact aR (ds:=ssA s) HA.out.res rfl
  have HOW:=zh (show OwnS W9 w.heap.size s from by
   rw [← h9.out]
   exact HA.out.st.own.kept (aC _ _ _ _) HA.out.res (by decide) (by decide) (by decide) (by decide))
  have HXE:=zh (show Ext w W9 from by rw [← h9.out];exact Below.setCells' HX.out (Nat.le_succ _) _ _)
  clear h9
  exact bodyPost_ret (v:=.agg (ssA s)) (gB rfl _ _ (w.heap.size+1) _ rfl (run_loadVar_row _ _ _ _ _ (0,0) _ hst Tryz.underlying44 rfl (by kernel_rfl))) rfl ⟨s,rfl,HOW.out,HV.out,HXE.out⟩
end
end Go.Proofs.YtohmmcahpakokaaGreat
