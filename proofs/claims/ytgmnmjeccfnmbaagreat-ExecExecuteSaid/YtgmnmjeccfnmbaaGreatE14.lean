import Derived.Test.YtgmnmjeccfnmbaaGreatE13
set_option maxRecDepth 100000
set_option maxHeartbeats 8000000
set_option linter.unusedVariables false
set_option linter.unusedSimpArgs false
namespace Go.Proofs.YtgmnmjeccfnmbaaGreat
open Go.Proofs.Tryz
section
open Go.RowKit
attribute [local go_sem ↓] Go.wp_at_zero Go.wp_at_succ
theorem aKn {w:World} {A:Option Addr} {n c:Nat} {C:List LkR} (h:SlG w A n c C) {k:Nat} (hk:k < n):∃ b o,A=some ⟨b,o,none⟩∧w.rangeAt b (o+k * 19) (RowT.enc (aS C k)):=by
 obtain ⟨b,o,rfl,hr,-⟩:=h.at aa
 exact ⟨b,o,rfl,cN hr (by rw [h.len];exact hk)⟩
theorem aEz (s:StR) (x:UInt64) (w:World) (h:s.ok w):Calls prog 186 #[.agg (ssA s),.agg (nmc x)] w fun e w'=>e=.returned (.tuple #[.agg (lkA (lkO (fdK s.K x))),.bool (fdK s.K x).isSome])∧Ext w w':=by
 obtain ⟨W,hW⟩:=gx (((w.alloc (.cells (ssA s) 30)).alloc (.cells (nmc x) 50)).alloc (.cells (lk0) 81))
 have HB:=zh (show Blk W w.heap.size 30 (ssA s) from nd)
 have HC:=zh (show Blk W (w.heap.size+1) 50 (nmc x) from aw)
 have HD:=zh (show Blk W (w.heap.size+2) 81 (lk0) from ag)
 have HE:=zh (show Ext w W from bc)
 have q0:=HB.out.cell 0
 have q1:=HB.out.cell 1
 have q2:=HB.out.cell 2
 have q3:=HB.out.cell 3
 have q4:=HB.out.cell 4
 have r1:W.rangeAt (w.heap.size+1) 0 (RowT.enc x):=bS HC.out
 have HS:=zh h
 have hle:=h.s3.le
 have hcap:=h.s3.cap
 have hl3:=h.s3.len
 rcases kD (fun l:LkR=>decide (l.nm=x)) s.K with hno | ⟨k,hk,h1,h2⟩
 ·have HF := zh (gL s x W (h.ext HE.out) (-1) (.inl ⟨rfl, hno⟩))
  have HG:=zh (aBL hno)
  clear hno h hl3
  go_enter func186,ntmps186
  go_wp2_with (first | (with_reducible refine aD nmP rfl (.tmp 3) rfl (w.heap.size+1) 0 rfl x _ rfl r1 ?_) | fail "A")
  refine zcl HF.out fun w5 he5=>?_
  have HX:=zh (HE.out.trans he5)
  have HD5:=zh (HD.out.ext he5)
  have ht:w5.there (w.heap.size+2) 0 (RowT.sz LkR):=aI HD5.out
  have hv0:Value.agg (lkA (⟨0,0,0,0,0⟩:LkR))=.agg lk0:=by rw [aGj]
  have HV:=zh hv0
  clear he5 r1 q0 q1 q2 q3 q4 hW hv0
  go_wp2_with ((with_reducible refine bX lkP rfl (.tmp 4) (.tmp 17) rfl (w.heap.size+2) 0 rfl ⟨0,0,0,0,0⟩ (.agg lk0) HV.out rfl ht ?_))
  have hst:=aN (ds:=lkA (⟨0,0,0,0,0⟩:LkR)) HD5.out rfl
  exact xu
 have HF:=zh (gL s x W (h.ext HE.out) (k:Int) (.inr ⟨k,rfl,hk,h1,h2⟩))
 have HG:=zh (vV hk h1 h2)
 have hk':k < s.n3:=aa
 clear h1 h2 h hl3 hk
 go_enter func186,ntmps186
 go_wp2_with (first | (with_reducible refine aD nmP rfl (.tmp 3) rfl (w.heap.size+1) 0 rfl x _ rfl r1 ?_) | fail "A")
 refine zcl HF.out fun w5 he5=>?_
 have HX:=zh (HE.out.trans he5)
 have HD5:=zh (HD.out.ext he5)
 have ht:w5.there (w.heap.size+2) 0 (RowT.sz LkR):=aI HD5.out
 have p2:w5.cell? ⟨w.heap.size,2,none⟩=some (.slice s.A3 s.n3 s.c3):=(HB.out.ext he5).cell 2
 obtain ⟨b,o,hA,hr⟩:=aKn (HS.out.ext HX.out).s3 hk'
 rw [hA] at p2
 have i0:(0:Int)≤(k:Int):=aa
 have i1:(k:Int) < (s.n3:Int):=aa
 obtain ⟨l,hl⟩:=gx (aS s.K k)
 rw [hl] at hr HG
 obtain ⟨v,hv⟩:=gx (Value.agg (lkA l))
 have HV:=zh hv
 clear he5 r1 q0 q1 q2 q3 q4 hW hA hl hv
 go_wp2_with (first | (with_reducible refine aD lkP rfl (.tmp 15) rfl b (o+k * 19) rfl l v HV.out hr ?_) | (with_reducible refine bX lkP rfl (.tmp 4) (.tmp 16) rfl (w.heap.size+2) 0 rfl l v HV.out rfl ht ?_))
 have hst:=aN (ds:=lkA l) HD5.out rfl
 exact xu
section
variable {ops:Array Oper} {rest:List Oper} {o:Oper} {a:Act} {w:World} {K:Act→World→Prop} {Q:Exit→Act→World→Prop} {X:Prop}
theorem aH (hgd:o.guard=none) (x y:Operand) (ho:o.op=.store 30 x y) (g:Nat) (s:StR) (hx:a.eval x=.pointer (some ⟨g,0,none⟩)) (hy:a.eval y=.agg (ssA s)) {z:StR} (hb:Blk w g 30 (ssA z))
  (h:∀ W,Hid (w.setCells g 0 (ssA s).toList=W)→wpList prog ops Q rest (a.put o.dst undef) W):wpList prog ops Q (o :: rest) a w :=
 wpList_store_mid hgd 30 x y ho g 0 (ssA s) hx hy (show w.there g 0 (ssA z).size from aI hb) (by kernel_rfl) (aBd s) (h _ (zh rfl))
theorem sX {ty:TypeId} (x:Operand) (ho:o.op=.buildSlice ty 1 #[(0,x)]) {vx v:Value} {w2:World} (hx:a.eval x=vx) (hr:(Instr.buildSlice ty 1 #[(0,vx)]).run prog w=.ok v w2) (h:K (a.put o.dst v) w2):o.wp prog a w K Q:=by
 unfold Oper.wp execOp
 simp only [ho,List.map_toArray,List.map_cons,List.map_nil,hx,Sem.run_bind,hr,Result.andThen_ok,Sem.run_pure]
 exact h
end
theorem oL (d:DeR) (w:World):(Instr.buildSlice 26 1 #[(0,.agg (deA d))]).run prog w=.ok (.slice (some ⟨w.heap.size,0,none⟩) 1 1) (w.alloc (.cells (deA d) 92)):=by kernel_rfl
theorem oK (d:LkR) (w:World):(Instr.buildSlice 27 1 #[(0,.agg (lkA d))]).run prog w=.ok (.slice (some ⟨w.heap.size,0,none⟩) 1 1) (w.alloc (.cells (lkA d) 81)):=by kernel_rfl
structure AddS (w wr:World) (g:Nat) (S0:StV) (l:List DeR) (k:Nat) (s:StR):Prop where
 st:StB w wr g s
 res:Blk wr (w.heap.size+1) 30 (ssA ss0)
 v:s.V=⟨addL S0.C (l.take k),S0.Q,S0.K,S0.P,S0.G⟩
theorem AddS.C {w wr:World} {g:Nat} {S0:StV} {l:List DeR} {k:Nat} {s:StR} (h:AddS w wr g S0 l k s):s.C=addL S0.C (l.take k):=congrArg StV.C h.v
theorem AddS.ext {w wr w':World} {g:Nat} {S0:StV} {l:List DeR} {k:Nat} {s:StR} (h:AddS w wr g S0 l k s) (e:Ext wr w'):AddS w w' g S0 l k s:=⟨h.st.ext e,h.res.ext e,h.v⟩
theorem AddS.same {w wr:World} {g:Nat} {S0:StV} {l:List DeR} {k:Nat} {s:StR} (h:AddS w wr g S0 l k s) (hk:k < l.length) (he:eB s.C (aS l k).c (aS l k).a=s.C):AddS w wr g S0 l (k+1) s :=
 ⟨h.st,h.res,by rw [uB hk,← h.C,he];have:=h.v;rw [h.C];exact this⟩
theorem AddS.step {w wr w':World} {g:Nat} {S0:StV} {l:List DeR} {k:Nat} {s s':StR} (h:AddS w wr g S0 l k s) (hk:k < l.length) (hs:StB w w' g s') (hr:Blk w' (w.heap.size+1) 30 (ssA ss0)) (hC:s'.C=eB s.C (aS l k).c (aS l k).a) (hV:s'.Q=s.Q∧s'.K=s.K∧s'.P=s.P∧s'.G=s.G):AddS w w' g S0 l (k+1) s':=by
 refine ⟨hs,hr,?_⟩
 have h1:=h.v
 unfold StR.V at h1 ⊢
 rw [uB hk,← h.C,hC,hV.1,hV.2.1,hV.2.2.1,hV.2.2.2]
 injection h1 with e1 e2 e3 e4 e5
 rw [e2,e3,e4,e5]
theorem aLg {C:List DeR} {c:CeR} {a z:Int} {x:DeR} (h:fdC C c=some x) (hz:IntKind.i64.wrap (cX C c+a)=z):eB C c a=yX c z C:=by
 unfold eB
 rw [h]
 rw [kN h] at hz
 simp only
 rw [show wr (x.a+a)=z from hz]
theorem aGA {C:List DeR} {c:CeR} {a z:Int} (h:fdC C c=none) (hz:IntKind.i64.wrap (cX C c+a)=z):eB C c a=if z=0 then C else gW (fun y=>iU c y.c) ⟨c,z⟩ C:=by
 unfold eB
 rw [h]
 rw [kN h] at hz
 have e:wr a=z:=by rw [← hz];show wr a=wr (0+a);rw [Int.zero_add]
 simp only
 rw [e]
theorem aJQ {a:Int} (h:wfI a):IntKind.i64.wrap a=a:=kT (fU.1 h)
theorem bO {w:World} {base base':Nat} {s:StR} (h:OwnS w base s) (hb:base'≤base):OwnS w base' s:=h.mono hb
theorem mK (s0:StR) (A:Option Addr) (m c:Nat) (l:List DeR) (w:World) (h:s0.ok w) (hl:SlG w A m c l) (hn:m≤100000∧s0.n1≤1000000∧s0.n2≤1000000∧s0.n3≤1000000∧s0.n4≤1000000):Calls prog 28 #[.agg (ssA s0),.slice A m c] w (jB w ⟨addL s0.C l,s0.Q,s0.K,s0.P,s0.G⟩):=by
 have HS0:=zh h
 have hm:=hl.len
 have hmc:=hl.le
 have hcap:=hl.cap
 have HL:=zh hl
 obtain ⟨W,hW⟩:=gx ((w.alloc (.cells (ssA s0) 30)).alloc (.cells #[.slice none 0 0,.slice none 0 0,.slice none 0 0,.slice none 0 0,.int .i64 0] 30))
 have HB:=zh (show Blk W w.heap.size 30 (ssA s0) from ge)
 have HD:=zh (show Blk W (w.heap.size+1) 30 (ssA ss0) from ag)
 have HE:=zh (show Ext w W from ai)
 have HN:=zh hn
 have HM:=zh hm
 have q0:=HB.out.cell 0
 have q1:=HB.out.cell 1
 have q2:=HB.out.cell 2
 have q3:=HB.out.cell 3
 have q4:=HB.out.cell 4
 clear h hl hm hn
 go_enter func28,ntmps28
 go_upto_region 2 with (first | (go_at_call 25;refine (dH s0 W (HS0.out.ext HE.out) HN.out.2).mono ?_;rintro e w5 ⟨s1,rfl,ho1,hv1,he1⟩;have HB1:=zh (HB.out.ext he1);have HD1:=zh (HD.out.ext he1);have HO1:=zh (bO ho1 HE.out.size);have HV1:=zh hv1;have HX1:=zh (HE.out.trans he1);clear ho1 hv1 he1) | ((with_reducible refine aH rfl (.tmp 2) (.tmp 10) rfl w.heap.size s1 rfl rfl HB1.out ?_);intro W2 h2))
 have HA0:=zh (show AddS w W2 w.heap.size s0.V l 0 s1 from by
  exact BI)
 have HX2:=zh (show Ext w W2 from HA0.out.st.low)
 clear h2 HB1 HD1 HO1 HV1 HX1 HB HD q0 q1 q2 q3 q4 hW HE
 go_wp2_with fail
 go_loopw [13] (fun vi wr=>∃ (k:Nat) (s:StR),vi=.int .i64 (k:Int)∧k≤m∧Hid (AddS w wr w.heap.size s0.V l k s)∧Hid (Ext w wr)) (fun i _=>m - (intOf i).toNat)
 case atStart=>exact ⟨0,s1,rfl,Nat.zero_le _,HA0,HX2⟩
 case round =>
  clear HA0 HX2
  obtain ⟨k,s,rfl,hk,HA,HX⟩:=hrel
  by_cases hlt:k < m
  ·have HLT := zh (show k < l.length from by rw [HM.out]; exact hlt)
   have i0:(0:Int)≤(k:Int):=aa
   have i1:(k:Int) < (m:Int):=aa
   obtain ⟨b,o,rfl,hrow,-⟩:=(HL.out.ext HX.out).at aa
   obtain ⟨d,hd⟩:=gx (aS l k)
   have hr:wr.rangeAt b (o+k * 11) (RowT.enc d):=by rw [← hd];exact cN hrow HLT.out
   have HDW:=zh (show deW d from by rw [← hd];exact HL.out.nth hlt)
   have HKD:=zh hd
   obtain ⟨vd,hvd⟩:=gx (Value.agg (deA d))
   have HVD:=zh hvd
   obtain ⟨X,hX⟩:=gx (wr.heap.size)
   have HXS:=zh hX
   have hq:∃ r,IxIs (fun x:DeR=>decide (x.c=d.c)) s.C r∧((r=-1∧fdC s.C d.c=none) ∨ ∃ j:Nat,r=(j:Int)∧j < s.C.length∧fdC s.C d.c=some (aS s.C j)∧∀ n,yX d.c n s.C=if n=0 then s.C.take j ++ s.C.drop (j+1) else s.C.set j ⟨(aS s.C j).c,n⟩):=by
    rcases kD (fun x:DeR=>decide (x.c=d.c)) s.C with hno | ⟨j,hj,h1,h3⟩
    ·exact ⟨-1,.inl ⟨rfl,hno⟩,.inl ⟨rfl,vW hno⟩⟩
    exact ⟨(j:Int),.inr ⟨j,rfl,hj,h1,h3⟩,.inr ⟨j,rfl,hj,sJ hj h1 h3,fun n=>aBh n hj h1 h3⟩⟩
   obtain ⟨r,hri,hrc⟩:=hq
   have HRI:=zh hri
   have HRC:=zh hrc
   clear hd hvd hrow hri hrc hX
   go_upto_region 5 with (first | (with_reducible refine aD deP rfl (.tmp 15) rfl b (o+k * 11) rfl d vd HVD.out hr ?_) | ((with_reducible refine aU deP rfl (.tmp 6) (.tmp 16) rfl de0 rfl d vd HVD.out rfl rfl ?_);intro W4 h4))
   have HX4:=zh (show Ext wr W4 from eh)
   have HD4:=zh (show Blk W4 X 92 (deA d) from nz)
   have HA4:=zh (HA.out.ext HX4.out)
   obtain ⟨q0,q1,q2,q3,q4⟩:=aE HA4.out.st.blk
   have r4:W4.rangeAt X 0 (RowT.enc d.c):=aDP HD4.out
   obtain ⟨vc,hvc⟩:=gx (Value.agg (ceA d.c))
   have HVC:=zh hvc
   have HF:=zh (yC s d.c W4 HA4.out.st.own.ok HDW.out.1 r HRI.out)
   rw [hvc] at HF
   clear h4 hr hvc
   rw [HXS.out]
   go_upto_region 6 with (first | (with_reducible refine aD ceP rfl (.tmp 18) rfl X 0 rfl d.c vc HVC.out r4 ?_) | (go_at_call 74;refine HF.out.mono ?_;rintro e w5 ⟨rfl,he5⟩;have HE5:=zh he5;clear he5))
   have HA5:=zh (HA4.out.ext HE5.out)
   have HX5:=zh (HD4.out.ext HE5.out)
   have HXX:=zh (HX.out.trans (HX4.out.trans HE5.out))
   clear HF HVC r4 q0 q1 q2 q3 q4 HA4 HD4 HX4 HE5 HA HVD
   refine wp_region_held_drew (S:=fun V=>Blk V w.heap.size 30 (ssA s)∧Blk V X 92 (deA d)∧s.ok V) ab (⟨HA5.out.st.blk.drew,HX5.out.drew,(HA5.out.st.own.ok.ext ((Ext.refl _).drew'))⟩) (fun aA=>?_)
   refine zz0 [0,1] ?_;repeat first | refine zz1 ?_ (hy:=jo) | refine zz2 ?_ | refine zz9 ?_
   refine zu 2 (v:=.agg (ceA d.c)) aA ?_ (hy:=by exact aG ceP dp (.tmp 22) rfl X 0 rfl d.c _ rfl (fun V h=>aDP h.2.1))
   refine zz0 [4,5] ?_;repeat first | refine zz1 ?_ (hy:=jo) | refine zz2 ?_ | refine zz9 ?_
   refine zzj (VE 3 (.int .i64 (cX s.C d.c)) VN) [(3,some 24)] 2 (fun V V' h e=>⟨h.1.ext e,h.2.1.ext e,h.2.2.ext e⟩) (ve VN.ext) (zzc ?_ zzn) ?_
   ·refine zzp fun W hE hS K hK => ?_
    go_simp
    go_at_call 54
    refine zcl (jJ s d.c _ hS.2.2 HDW.out.1) fun w5 he5=>?_
    exact zzK (hK.out (.int .i64 (cX s.C d.c)) _ (he5) (rfl))
   intro env W hE hS hV
   obtain ⟨h3,-⟩:=zzV hV
   clear hV
   simp only [aR,h3]
   clear h3
   have aA:=hS
   refine zu 6 (v:=.int .i64 (IntKind.i64.wrap (cX s.C d.c+d.a))) aA ?_ (hy:=by exact .inl ⟨dp,fun V _=>by go_simp <;> rfl⟩)
   refine zt 7 aA ?_
   refine wpd ?_
   have HA6:=zh (HA5.out.ext ((Ext.refl _).drew'.trans hE))
   have HX6:=zh (HX5.out.ext ((Ext.refl _).drew'.trans hE))
   have HX7:=zh (HXX.out.trans ((Ext.refl _).drew'.trans hE))
   clear hE hS aA HA5 HX5 HXX
   obtain ⟨W0,hW0⟩:=gx (W)
   rw [hW0] at HA6 HX6 HX7 ⊢
   clear hW0
   obtain ⟨z,hz⟩:=gx (IntKind.i64.wrap (cX s.C d.c+d.a))
   rw [hz]
   have HZ:=zh hz
   clear hz
   have HBD:=zh (show s.n1≤1100000 from by
    have h1:=mW (l.take k) s0.C
    have h2:=HA6.out.st.own.l1
    have h3:=HS0.out.s1.len
    have h4:=HN.out.1
    have h5:=HN.out.2.1
    rw [HA6.out.C] at h2
    rw [List.length_take] at h1
    have h6:s0.V.C=s0.C:=rfl
    rw [h6] at h2
    have h7:=HM.out
    omega)
   rcases HRC.out with ⟨rfl,hfd⟩ | ⟨j,rfl,hj,hfd,hset⟩
   ·have HFD := zh hfd
    clear hfd HRC HRI
    by_cases hz0:z=0
    ·have HSTEP := zh (HA6.out.same HLT.out (by rw [HKD.out, aGA HFD.out HZ.out, if_pos hz0]))
     have e1:(z != 0)=false:=by simp [hz0]
     clear hz0
     go_wp2_with fail
     go_roundw
     case rel=>exact ⟨k+1,s,ar,hlt,HSTEP,HX7⟩
     case measure=>simp [intOf];omega
    have HZN:=zh hz0
    have e1:(z != 0)=true:=by simp [hz0]
    clear hz0
    go_upto_region 12 with (fail)
    have HX7:=zh (HX7.out.drew')
    have HA6:=zh (HA6.out.ext ((Ext.refl W0).drew'))
    have HX6:=zh (HX6.out.ext ((Ext.refl W0).drew'))
    refine wp_region_held_drew (S:=fun _=>True) ab (trivial) (fun aA=>?_)
    refine zzr [0,2] ?_
    refine cC (VV 1 (fun v V=>v=.slice s.A1 s.n1 s.c1) (VV 3 (fun v V=>v=.slice s.A1 s.n1 s.c1) (VV 4 (fun v V=>v=.agg (deA d)) (VV 5 (fun v V=>∃ j:Nat,v=.int .i64 (j:Int)∧j≤s.n1∧gW (fun y=>iU d.c y.c) d s.C=s.C.take j ++ d :: s.C.drop j) (VV 6 (fun v V=>v=.agg (deA d)) (VV 7 (fun v V=>∃ gb,v=.slice (some ⟨gb,0,none⟩) 1 1∧Blk V gb 92 (deA d)∧W0.heap.size≤gb) (VN))))))) [(1,some 55),(3,some 57),(4,some 58),(5,some 59),(6,some 60),(7,some 61)] (fuel:=3) ab ab (fun _ _ h _=>h) (VV.ext (fun v w w' h e=>h) (VV.ext (fun v w w' h e=>h) (VV.ext (fun v w w' h e=>h) (VV.ext (fun v w w' h e=>h) (VV.ext (fun v w w' h e=>h) (VV.ext (fun v w w' ⟨gb,h1,h2,h3⟩ e=>⟨gb,h1,h2.ext e,h3⟩) (VN.ext))))))) aA ?hm2 rfl ?hr2
    case hm2 =>
     refine Members.cons ?mm2_1 (Members.cons ?mm2_3 (Members.cons ?mm2_4 (Members.cons ?mm2_5 (Members.cons ?mm2_6 (Members.cons ?mm2_7 (Members.nil _))))))
     case mm2_1 =>
      exact xa
     case mm2_3 =>
      exact xa
     case mm2_4 =>
      exact AC
     case mm2_5 =>
      refine zm [(3,some 57),(4,some 58)] (fun env W6 hE hS hD K hK=>?_)
      have h3:(fun v V=>v=.slice s.A1 s.n1 s.c1) (env 3) W6:=hD (3,some 57) dr
      have h4:(fun v V=>v=.agg (deA d)) (env 4) W6:=hD (4,some 58) dr
      clear hD
      try simp only [aR] at hK ⊢
      generalize env 3=x3 at h3 hK ⊢
      generalize env 4=x4 at h4 hK ⊢
      subst h3
      subst h4
      go_simp
      go_at_call 77
      refine (aCi s.A1 s.n1 s.c1 s.C d W6 (HA6.out.st.own.ok.ext hE).s1).mono ?_
      rintro e w5 ⟨j,rfl,hj,hins,he5⟩
      have hk:=hK.out (.int .i64 (j:Int)) _ (he5) (⟨j,rfl,hj,hins⟩)
      try simp only [aR] at hk
      exact hk
     case mm2_6 =>
      exact AC
     case mm2_7 =>
      refine zm [(6,some 60)] (fun env W6 hE hS hD K hK=>?_)
      have h6:(fun v V=>v=.agg (deA d)) (env 6) W6:=hD (6,some 60) dr
      clear hD
      try simp only [aR] at hK ⊢
      generalize env 6=x6 at h6 hK ⊢
      subst h6
      refine sX (.tmp 60) rfl rfl (oL d W6) ?_
      have hk:=hK.out (.slice (some ⟨W6.heap.size,0,none⟩) 1 1) _ ((Ext.refl _).alloc' _) (⟨_,rfl,Blk.new _ _ _,hE.size⟩)
      try simp only [aR] at hk
      exact hk
    case hr2 =>
     intro env W6 hE hS hV
     have h1:(fun v V=>v=.slice s.A1 s.n1 s.c1) (env 1) W6:=hV (1,some 55) dr
     have h3:(fun v V=>v=.slice s.A1 s.n1 s.c1) (env 3) W6:=hV (3,some 57) dr
     have h4:(fun v V=>v=.agg (deA d)) (env 4) W6:=hV (4,some 58) dr
     have h5:(fun v V=>∃ j:Nat,v=.int .i64 (j:Int)∧j≤s.n1∧gW (fun y=>iU d.c y.c) d s.C=s.C.take j ++ d :: s.C.drop j) (env 5) W6:=hV (5,some 59) dr
     have h6:(fun v V=>v=.agg (deA d)) (env 6) W6:=hV (6,some 60) dr
     have h7:(fun v V=>∃ gb,v=.slice (some ⟨gb,0,none⟩) 1 1∧Blk V gb 92 (deA d)∧W0.heap.size≤gb) (env 7) W6:=hV (7,some 61) dr
     clear hV
     try simp only [aR]
     generalize env 1=x1 at h1 ⊢
     generalize env 3=x3 at h3 ⊢
     generalize env 4=x4 at h4 ⊢
     generalize env 5=x5 at h5 ⊢
     generalize env 6=x6 at h6 ⊢
     generalize env 7=x7 at h7 ⊢
     subst h1
     subst h3
     subst h4
     subst h6
     have aA:=hS
     refine za 8 (fun K hK=>?_)
     (obtain ⟨j,rfl,hj,hins⟩:=h5;obtain ⟨gb,rfl,hgb,hgs⟩:=h7;go_simp;go_at_call 76;refine (aHt w.heap.size s.A1 s.n1 s.c1 s.C d j gb W6 (HA6.out.st.own.ext hE).o1 hgb (fun e=>by have h9:gb < W0.heap.size:=(World.ownsRow.lt HA6.out.st.own.o1 _ e).2;omega) (Nat.le_trans HA6.out.st.low.size hE.size) fs hj).mono ?_;rintro e w8 ⟨A8,c8,rfl,ho8,hg8⟩;have HO8:=zh ho8;have HG8:=zh hg8;have HI8:=zh hins;have HA7:=zh (HA6.out.ext hE);clear ho8 hg8 hins)
     refine hK.out _ _ (trivial) (fun aA=>?_)
     clear hK K
     try simp only [bB]
     refine zt 9 aA ?_
     refine za 10 (fun K hK=>?_)
     (have pb:=(HA7.out.st.blk.grown HG8.out (aL HA7.out.st.own.o1 HA7.out.st.blk ae));have pc:=pb.cell 0;have pf:=pb.frozen 0;go_simp)
     refine hK.out _ _ (trivial) (fun aA=>?_)
     clear hK K
     try simp only [bB]
     refine wpd ?_
     have HNX:=zh (HA7.out.st.row1 HG8.out HO8.out (by
      rw [← HI8.out]
      intro y hy
      rcases (xQ _ _ _ _).1 hy with rfl | hy
      ·exact HDW.out
      exact HA7.out.st.own.k1 y hy))
     have HRES:=zh (show Blk (w8.setCell ⟨w.heap.size,0,none⟩ (.slice A8 (s.n1+1) c8)) (w.heap.size+1) 30 (ssA ss0) from ((HA7.out.res.grown HG8.out (aL HA7.out.st.own.o1 HA7.out.res ae)).far (p:=⟨w.heap.size,0,none⟩) dr _))
     have HSTEP:=zh (HA7.out.step HLT.out HNX.out HRES.out (by
      show s.C.take j ++ d :: s.C.drop j=_
      rw [HKD.out,aGA HFD.out HZ.out,if_neg HZN.out,← HI8.out]
      have ez:z=d.a:=by
       have h1:=HZ.out
       rw [kN HFD.out] at h1
       rw [← h1];show IntKind.i64.wrap (0+d.a)=_;rw [Int.zero_add];exact aJQ HDW.out.2
      rw [ez]) ⟨rfl,rfl,rfl,rfl⟩)
     have HLOW:=zh (show Ext w (w8.setCell ⟨w.heap.size,0,none⟩ (.slice A8 (s.n1+1) c8)) from HNX.out.low)
     clear HNX HRES HA7 HG8 HO8 HI8 hE hS aA pb pc pf hgb hgs
     obtain ⟨W9,hW9⟩:=gx (w8.setCell ⟨w.heap.size,0,none⟩ (.slice A8 (s.n1+1) c8))
     rw [hW9] at HSTEP HLOW ⊢
     clear hW9
     exact Ci
   obtain ⟨bb,hA,-,-⟩:=cM HA6.out.st.own.o1 (by rw [← HA6.out.st.own.l1];omega)
   have hq0:W0.cell? ⟨w.heap.size,0,none⟩=some (.slice (some ⟨bb,0,none⟩) s.n1 s.c1):=by rw [← hA];exact HA6.out.st.blk.cell 0
   have HJ:=zh hj
   have hjn:j < s.n1:=by rw [← HA6.out.st.own.l1];exact hj
   have j0:(0:Int)≤(j:Int):=aa
   have j1:(j:Int) < (s.n1:Int):=aa
   have j2:=HBD.out
   have HAD:=zh (aLg hfd HZ.out)
   have HSET:=zh (hset z)
   clear HRC HRI hfd hset hj
   by_cases hz0:z=0
   ·have e1 : (z != 0) = false := by simp [hz0]
    have HZ0:=zh hz0
    have HDEL:=zh (aHF w.heap.size bb s.n1 s.c1 s.C j W0 rl aa hjn)
    have HAA:=zh hA
    clear hz0 hA
    go_wp2_with fail
    refine HDEL.out.mono ?_
    rintro e w8 ⟨A8,c8,rfl,ho8,hg8⟩
    have hg9:W0.grownBy w8 (Value.ownBlock (.slice s.A1 s.n1 s.c1)):=by rw [HAA.out];exact hg8
    have HNX:=zh (HA6.out.st.row1 hg9 ho8 (by
     intro y hy
     rcases List.mem_append.1 hy with hy | hy
     ·exact HA6.out.st.own.k1 y (List.mem_of_mem_take hy)
     exact HA6.out.st.own.k1 y (List.mem_of_mem_drop hy)))
    have HRES:=zh (show Blk (w8.setCell ⟨w.heap.size,0,none⟩ (.slice A8 (s.n1 - 1) c8)) (w.heap.size+1) 30 (ssA ss0) from ((HA6.out.res.grown hg9 (aL HA6.out.st.own.o1 HA6.out.res ae)).far (p:=⟨w.heap.size,0,none⟩) dr _))
    have HSTEP:=zh (HA6.out.step HLT.out HNX.out HRES.out (by
     show s.C.take j ++ s.C.drop (j+1)=_
     rw [HKD.out,HAD.out,HSET.out,if_pos HZ0.out]) ⟨rfl,rfl,rfl,rfl⟩)
    have HLOW:=zh (show Ext w (w8.setCell ⟨w.heap.size,0,none⟩ (.slice A8 (s.n1 - 1) c8)) from HNX.out.low)
    have pb:=(HA6.out.st.blk.grown hg9 (aL HA6.out.st.own.o1 HA6.out.st.blk ae))
    have pc:=pb.cell 0
    have pf:=pb.frozen 0
    clear pb HNX HRES HDEL ho8 hg8 hg9 hq0 HAD HSET
    exact Ci
   have e1:(z != 0)=true:=by simp [hz0]
   have HNX:=zh (HA6.out.st.cell1 hA (j * 11+10) (.int .i64 z) (aBJ z HJ.out) (by
    intro y hy
    rcases List.mem_or_eq_of_mem_set hy with hy | rfl
    ·exact HA6.out.st.own.k1 y hy
    exact ⟨(HA6.out.st.own.k1 _ (lF HJ.out)).1,by rw [← HZ.out];exact fU.2 (aFG _)⟩))
   have hob:W0.ownsRow w.heap.size 92 11 (.slice (some ⟨bb,0,none⟩) s.n1 s.c1) s.n1 (gcs s.C):=rl
   have HRES:=zh (show Blk (W0.setCell ⟨bb,j * 11+10,none⟩ (.int .i64 z)) (w.heap.size+1) 30 (ssA ss0) from HA6.out.res.far (p:=⟨bb,j * 11+10,none⟩) (fun e=>aL hob HA6.out.res ae gp) _)
   have HSTEP:=zh (HA6.out.step HLT.out HNX.out HRES.out (by
    show s.C.set j ⟨(aS s.C j).c,z⟩=_
    rw [HKD.out,HAD.out,HSET.out,if_neg hz0]) ⟨rfl,rfl,rfl,rfl⟩)
   have HLOW:=zh (show Ext w (W0.setCell ⟨bb,j * 11+10,none⟩ (.int .i64 z)) from HNX.out.low)
   have c8:W0.cell? ⟨bb,j * 11+10,none⟩=some (.int .i64 (aS s.C j).a):=by
    obtain ⟨b2,o2,hA2,hc2⟩:=xY HA6.out.st.own.ok.s1 hjn
    obtain ⟨b3,hA3,-,hr3⟩:=cM HA6.out.st.own.o1 aa
    have h5:W0.rangeAt b3 (0+j * 11) (RowT.enc (aS s.C j)):=cN hr3 HJ.out
    rw [hA] at hA3
    obtain rfl:bb=b3:=td
    have h7:=h5 10 _ rfl
    rwa [Nat.zero_add] at h7
   have f8:W0.frozen? ⟨bb,j * 11+10,none⟩=false:=hob.frozenAt _
   clear HNX HRES hz0 hA hob HAD HSET
   exact Ci
  obtain rfl:k=m:=aa
  have i1:¬ (k:Int) < (k:Int):=aa
  obtain ⟨q0,q1,q2,q3,q4⟩:=aE HA.out.st.blk
  have HV:=zh (show s.V=⟨addL s0.C l,s0.Q,s0.K,s0.P,s0.G⟩ from by
   have:=HA.out.v
   rw [← HM.out,List.take_length] at this
   exact this)
  go_wp2_with (first | ((with_reducible refine aH rfl (.tmp 4) (.tmp 65) rfl (w.heap.size+1) s rfl rfl HA.out.res ?_);intro W9 h9))
  have hst:Blk W9 (w.heap.size+1) 30 (ssA s):=jm
  have HOW:=zh (show OwnS W9 w.heap.size s from by
   exact CP)
  have HXE:=zh (show Ext w W9 from by rw [← h9.out];exact Below.setCells' HX.out (Nat.le_succ _) _ _)
  clear h9
  exact bodyPost_ret (v:=.agg (ssA s)) (fP rfl _ _ (w.heap.size+1) _ rfl (run_loadVar_row _ _ _ _ _ (0,0) _ hst underlying30 rfl ab)) rfl ⟨s,rfl,HOW.out,HV.out,HXE.out⟩
theorem tY:∀ {K:List LkR} {n:UInt64} {k:Nat},k < K.length→decide ((aS K k).nm=n)=true→(∀ j,j < k→decide ((aS K j).nm=n)=false)→fC n K=K.take k ++ K.drop (k+1)
 | [],n,k,hk,_,_=>by simp at hk
 | d :: r,n,0,_,h1,_=>by unfold fC;rw [if_pos (show d.nm=n from of_decide_eq_true h1)];rfl
 | d :: r,n,k+1,hk,h1,h2=>by
  have h0:=h2 0 (by omega)
  unfold fC
  rw [if_neg (show ¬ d.nm=n from of_decide_eq_false h0),tY (K:=r) (by simpa using hk) h1 (fun j hj=>h2 (j+1) (by omega))]
  rfl
theorem tX:∀ {K:List LkR} {n:UInt64},(∀ j,j < K.length→decide ((aS K j).nm=n)=false)→fC n K=K
 | [],n,_=>rfl
 | d :: r,n,h=>by
  have h0:=h 0 (by simp)
  unfold fC
  rw [if_neg (show ¬ d.nm=n from of_decide_eq_false h0),tX (K:=r) (fun j hj=>h (j+1) (by simpa using hj))]
theorem oJ (d:UInt64) (w:World):(Instr.buildSlice 22 1 #[(0,.agg (nmc d))]).run prog w=.ok (.slice (some ⟨w.heap.size,0,none⟩) 1 1) (w.alloc (.cells (nmc d) 50)):=aCO d w
theorem aMG {s s1:StR} (h:s1.V=s.V):s1.C=s.C∧s1.Q=s.Q∧s1.K=s.K∧s1.P=s.P∧s1.G=s.G:=by
 unfold StR.V at h;injection h with h1 h2 h3 h4 h5;exact ⟨h1,h2,h3,h4,h5⟩
theorem aEy (s0:StR) (d:LkR) (w:World) (h:s0.ok w) (hd:lkW d) (hn:s0.n1≤1000000∧s0.n2≤1000000∧s0.n3≤1000000∧s0.n4≤1000000):Calls prog 71 #[.agg (ssA s0),.agg (lkA d)] w (jB w ⟨s0.C,s0.Q,fL s0.K d,s0.P,s0.G⟩):=by
 have HDW:=zh hd
 clear hd
 obtain ⟨W,hW⟩:=gx (((w.alloc (.cells (ssA s0) 30)).alloc (.cells (lkA d) 81)).alloc (.cells #[.slice none 0 0,.slice none 0 0,.slice none 0 0,.slice none 0 0,.int .i64 0] 30))
 have HB:=zh (show Blk W w.heap.size 30 (ssA s0) from cf)
 have HD:=zh (show Blk W (w.heap.size+1) 81 (lkA d) from aw)
 have HR:=zh (show Blk W (w.heap.size+2) 30 (ssA ss0) from ag)
 have HE:=zh (show Ext w W from bc)
 have HS0:=zh h
 have HN:=zh hn
 obtain ⟨q0,q1,q2,q3,q4⟩:=aE HB.out
 clear h hn
 go_enter func71,ntmps71
 go_upto_region 2 with (first | (go_at_call 25;refine (dH s0 W (HS0.out.ext HE.out) HN.out).mono ?_;rintro e w5 ⟨s1,rfl,ho1,hv1,he1⟩;have HB1:=zh (HB.out.ext he1);have HD1:=zh (HD.out.ext he1);have HR1:=zh (HR.out.ext he1);have HO1:=zh (bO ho1 HE.out.size);have HV1:=zh hv1;have HX1:=zh (HE.out.trans he1);clear ho1 hv1 he1) | ((with_reducible refine aH rfl (.tmp 2) (.tmp 6) rfl w.heap.size s1 rfl rfl HB1.out ?_);intro W2 h2))
 have HST:=zh (show StB w W2 w.heap.size s1 from fc)
 have HD2:=zh (show Blk W2 (w.heap.size+1) 81 (lkA d) from jg)
 have HR2:=zh (show Blk W2 (w.heap.size+2) 30 (ssA ss0) from jf)
 obtain ⟨v1,v2,v3,v4,v5⟩:=aMG HV1.out
 have HVS:=zh (⟨v1,v2,v3,v4,v5⟩:s1.C=s0.C∧s1.Q=s0.Q∧s1.K=s0.K∧s1.P=s0.P∧s1.G=s0.G)
 have HBD:=zh (show s1.n3≤1000000∧s1.n4≤1000000 from by
  exact BD)
 clear v1 v2 v3 v4 v5 h2 q0 q1 q2 q3 q4 HB1 HD1 HR1 HO1 HX1 HV1 hW HB HD HR HE
 obtain ⟨q0,q1,q2,q3,q4⟩:=aE HST.out.blk
 have r4:W2.rangeAt (w.heap.size+1) 0 (RowT.enc d.nm):=aBE HD2.out
 rcases kD (fun l:LkR=>decide (l.nm=d.nm)) s1.K with hno | ⟨k,hk,h1,h3⟩
 ·have HFK := zh (aBL hno)
  have HFI:=zh (gL s1 d.nm W2 HST.out.own.ok (-1) (.inl ⟨rfl,hno⟩))
  clear hno
  go_upto_region 3 with (first | (with_reducible refine aD nmP rfl (.tmp 8) rfl (w.heap.size+1) 0 rfl d.nm _ rfl r4 ?_) | (go_at_call 129;refine HFI.out.mono ?_;rintro e W0 ⟨rfl,hE5⟩))
  clear r4
  have HA6:=zh (HST.out.ext ((hE5:Ext W2 W0).drew'))
  have HX6:=zh (HD2.out.ext (hE5.drew'))
  have HR6:=zh (HR2.out.ext (hE5.drew'))
  clear hE5 q0 q1 q2 q3 q4
  refine wp_region_held_drew (S:=fun _=>True) ab (trivial) (fun aA=>?_)
  refine zzr [0,2] ?_
  refine zzj (VE 1 (.slice s1.A3 s1.n3 s1.c3) (VE 3 (.slice s1.A3 s1.n3 s1.c3) (VE 4 (.agg (lkA d)) (VV 5 (fun v V=>∃ j:Nat,v=.int .i64 (j:Int)∧j≤s1.n3∧gW (fun y=>decide (un d.nm < un y.nm)) d s1.K=s1.K.take j ++ d :: s1.K.drop j) (VE 6 (.agg (lkA d)) (VV 7 (fun v V=>∃ gb,v=.slice (some ⟨gb,0,none⟩) 1 1∧Blk V gb 81 (lkA d)∧W0.heap.size≤gb) VN)))))) [(1,some 13),(3,some 15),(4,some 16),(5,some 17),(6,some 18),(7,some 19)] 3 (fun _ _ h _=>h) (ve (ve (ve (VV.ext (fun v w w' h e=>h) (ve (VV.ext (fun v w w' ⟨gb,h1,h2,h3⟩ e=>⟨gb,h1,h2.ext e,h3⟩) VN.ext)))))) (zzc ?_ (zzc ?_ (zzc ?_ (zzc ?_ (zzc ?_ (zzc ?_ zzn)))))) ?_
  ·exact Ca
  ·exact Ca
  ·exact AP
  ·refine zm [(3, some 15), (4, some 16)] fun env W6 hE hS hD K hK => ?_
   obtain ⟨h3,h4,-⟩:=zzV hD
   clear hD
   simp only [aR,h3,h4] at hK ⊢
   clear h3 h4
   go_simp
   go_at_call 131
   refine (aCh s1.A3 s1.n3 s1.c3 s1.K d W6 (HA6.out.own.ok.ext hE).s3).mono ?_
   exact CE
  ·exact AP
  ·refine zm [(6, some 18)] fun env W6 hE hS hD K hK => ?_
   obtain ⟨h6,-⟩:=zzV hD
   clear hD
   simp only [aR,h6] at hK ⊢
   clear h6
   refine sX (.tmp 18) rfl rfl (oK d W6) ?_
   exact Cr
  intro env W6 hE hS hV
  obtain ⟨h1,h3,h4,h5,h6,h7,-⟩:=zzV hV
  clear hV
  simp only [aR,h1,h3,h4,h6]
  clear h1 h3 h4
  generalize env 5=x5 at h5 ⊢
  clear h6
  generalize env 7=x7 at h7 ⊢
  have aA:=hS
  refine za 8 (fun K hK=>?_)
  (obtain ⟨j,rfl,hj,hins⟩:=h5;obtain ⟨gb,rfl,hgb,hgs⟩:=h7;go_simp;go_at_call 130;refine (aHr w.heap.size s1.A3 s1.n3 s1.c3 s1.K d j gb W6 (HA6.out.own.ext hE).o3 hgb (fun e=>by have h9:gb < W0.heap.size:=(World.ownsRow.lt HA6.out.own.o3 _ e).2;omega) (Nat.le_trans HA6.out.low.size hE.size) fs hj).mono ?_;rintro e w8 ⟨A8,c8,rfl,ho8,hg8⟩;have HO8:=zh ho8;have HG8:=zh hg8;have HI8:=zh hins;have HA7:=zh (HA6.out.ext hE);have HR7:=zh (HR6.out.ext hE);clear ho8 hg8 hins)
  refine hK.out _ _ (trivial) (fun aA=>?_)
  clear hK K
  try simp only [bB]
  refine zt 9 aA ?_
  refine za 10 (fun K hK=>?_)
  (have pb:=(HA7.out.blk.grown HG8.out (aL HA7.out.own.o3 HA7.out.blk ae));have pc:=pb.cell 2;have pf:=pb.frozen 2;go_simp)
  refine hK.out _ _ (trivial) (fun aA=>?_)
  clear hK K
  try simp only [bB]
  refine wpd ?_
  have HNX:=zh (HA7.out.row3 HG8.out HO8.out (by
   rw [← HI8.out]
   intro y hy
   rcases (xQ _ _ _ _).1 hy with rfl | hy
   ·exact HDW.out
   exact HA7.out.own.k3 y hy))
  have HFR:=zh (show Blk (w8.setCell ⟨w.heap.size,2,none⟩ (.slice A8 (s1.n3+1) c8)) (w.heap.size+2) 30 (ssA ss0) from ((HR7.out.grown HG8.out (aL HA7.out.own.o3 HR7.out ae)).far (p:=⟨w.heap.size,2,none⟩) dr _))
  obtain ⟨W8,hW8⟩:=gx (w8.setCell ⟨w.heap.size,2,none⟩ (.slice A8 (s1.n3+1) c8))
  rw [hW8] at HNX HFR ⊢
  obtain ⟨s2,hs2⟩:∃ s2:StR,{ s1 with A3:=A8,n3:=s1.n3+1,c3:=c8,K:=s1.K.take j ++ d :: s1.K.drop j }=s2:=⟨_,rfl⟩
  have HF:=zh (show StB w W8 w.heap.size s2 from od)
  have HFV:=zh (show s2.V=⟨s0.C,s0.Q,fL s0.K d,s0.P,s0.G⟩ from by
   rw [← hs2]
   obtain ⟨v1,v2,v3,v4,v5⟩:=HVS.out
   unfold StR.V
   rw [← HI8.out]
   simp only [v1,v2,v3,v4,v5]
   rw [show fL s0.K d=gW (fun y=>decide (un d.nm < un y.nm)) d s0.K from np])
  clear hW8 hs2 HNX HA7 HR7 HG8 HO8 HI8 hE hS aA pb pc pf hgb hgs HA6 HX6 HR6
  exact uo
 have HFK:=zh (vV hk h1 h3)
 have HFI:=zh (gL s1 d.nm W2 HST.out.own.ok (k:Int) (.inr ⟨k,rfl,hk,h1,h3⟩))
 have k0:¬ (k:Int) < 0:=aa
 clear h1 h3 hk
 go_upto_region 4 with (first | (with_reducible refine aD nmP rfl (.tmp 8) rfl (w.heap.size+1) 0 rfl d.nm _ rfl r4 ?_) | (go_at_call 129;refine HFI.out.mono ?_;rintro e W0 ⟨rfl,hE5⟩))
 clear r4
 have HF:=zh (show StB w W0 w.heap.size s1 from HST.out.ext hE5)
 have HFR:=zh (HR2.out.ext hE5)
 have HFV:=zh (show s1.V=⟨s0.C,s0.Q,fL s0.K d,s0.P,s0.G⟩ from by
  obtain ⟨v1,v2,v3,v4,v5⟩:=HVS.out
  unfold StR.V
  simp only [v1,v2,v3,v4,v5]
  rw [show fL s0.K d=s0.K from np])
 obtain ⟨s2,hs2⟩:=gx (s1)
 rw [hs2] at HF HFV
 clear hs2 hE5 q0 q1 q2 q3 q4
 exact uo
theorem qF (s0:StR) (d:UInt64) (w:World) (h:s0.ok w) (hn:s0.n1≤1000000∧s0.n2≤1000000∧s0.n3≤1000000∧s0.n4≤1000000):Calls prog 30 #[.agg (ssA s0),.agg (nmc d)] w (jB w ⟨s0.C,s0.Q,s0.K,dW s0.P d,s0.G⟩):=by
 obtain ⟨W,hW⟩:=gx (((w.alloc (.cells (ssA s0) 30)).alloc (.cells (nmc d) 50)).alloc (.cells #[.slice none 0 0,.slice none 0 0,.slice none 0 0,.slice none 0 0,.int .i64 0] 30))
 have HB:=zh (show Blk W w.heap.size 30 (ssA s0) from cf)
 have HD:=zh (show Blk W (w.heap.size+1) 50 (nmc d) from aw)
 have HR:=zh (show Blk W (w.heap.size+2) 30 (ssA ss0) from ag)
 have HE:=zh (show Ext w W from bc)
 have HS0:=zh h
 have HN:=zh hn
 obtain ⟨q0,q1,q2,q3,q4⟩:=aE HB.out
 clear h hn
 go_enter func30,ntmps30
 go_upto_region 2 with (first | (go_at_call 25;refine (dH s0 W (HS0.out.ext HE.out) HN.out).mono ?_;rintro e w5 ⟨s1,rfl,ho1,hv1,he1⟩;have HB1:=zh (HB.out.ext he1);have HD1:=zh (HD.out.ext he1);have HR1:=zh (HR.out.ext he1);have HO1:=zh (bO ho1 HE.out.size);have HV1:=zh hv1;have HX1:=zh (HE.out.trans he1);clear ho1 hv1 he1) | ((with_reducible refine aH rfl (.tmp 2) (.tmp 6) rfl w.heap.size s1 rfl rfl HB1.out ?_);intro W2 h2))
 have HST:=zh (show StB w W2 w.heap.size s1 from fc)
 have HD2:=zh (show Blk W2 (w.heap.size+1) 50 (nmc d) from jg)
 have HR2:=zh (show Blk W2 (w.heap.size+2) 30 (ssA ss0) from jf)
 obtain ⟨v1,v2,v3,v4,v5⟩:=aMG HV1.out
 have HVS:=zh (⟨v1,v2,v3,v4,v5⟩:s1.C=s0.C∧s1.Q=s0.Q∧s1.K=s0.K∧s1.P=s0.P∧s1.G=s0.G)
 have HBD:=zh (show s1.n3≤1000000∧s1.n4≤1000000 from by
  exact BD)
 clear v1 v2 v3 v4 v5 h2 q0 q1 q2 q3 q4 HB1 HD1 HR1 HO1 HX1 HV1 hW HB HD HR HE
 obtain ⟨q0,q1,q2,q3,q4⟩:=aE HST.out.blk
 have r4:W2.rangeAt (w.heap.size+1) 0 (RowT.enc d):=bS HD2.out
 by_cases hm:d ∈ s1.P
 ·have HFK := zh hm
  have HFI:=zh (gU s1 d W2 HST.out.own.ok)
  rw [decide_eq_true hm] at HFI
  clear hm
  go_upto_region 4 with (first | (with_reducible refine aD nmP rfl (.tmp 3) rfl (w.heap.size+1) 0 rfl d _ rfl r4 ?_) | (go_at_call 50;refine HFI.out.mono ?_;rintro e W0 ⟨rfl,hE5⟩))
  clear r4
  have HF:=zh (show StB w W0 w.heap.size s1 from HST.out.ext hE5)
  have HFR:=zh (HR2.out.ext hE5)
  have HFV:=zh (show s1.V=⟨s0.C,s0.Q,s0.K,dW s0.P d,s0.G⟩ from by
   obtain ⟨v1,v2,v3,v4,v5⟩:=HVS.out
   unfold StR.V
   simp only [v1,v2,v3,v4,v5]
   rw [show dW s0.P d=s0.P from by have hv:=HVS.out.2.2.2.1;rw [← hv];unfold dW;rw [if_pos HFK.out]])
  obtain ⟨s2,hs2⟩:=gx (s1)
  rw [hs2] at HF HFV
  clear hs2 hE5 q0 q1 q2 q3 q4
  exact up
 have HFK:=zh hm
 have HFI:=zh (gU s1 d W2 HST.out.own.ok)
 rw [decide_eq_false hm] at HFI
 clear hm
 go_upto_region 3 with (first | (with_reducible refine aD nmP rfl (.tmp 3) rfl (w.heap.size+1) 0 rfl d _ rfl r4 ?_) | (go_at_call 50;refine HFI.out.mono ?_;rintro e W0 ⟨rfl,hE5⟩))
 clear r4
 have HA6:=zh (HST.out.ext ((hE5:Ext W2 W0).drew'))
 have HX6:=zh (HD2.out.ext (hE5.drew'))
 have HR6:=zh (HR2.out.ext (hE5.drew'))
 clear hE5 q0 q1 q2 q3 q4
 refine wp_region_held_drew (S:=fun _=>True) ab (trivial) (fun aA=>?_)
 refine zzr [0,2] ?_
 refine zzj (VE 1 (.slice s1.A4 s1.n4 s1.c4) (VE 3 (.slice s1.A4 s1.n4 s1.c4) (VE 4 (.agg (nmc d)) (VV 5 (fun v V=>∃ j:Nat,v=.int .i64 (j:Int)∧j≤s1.n4∧gW (fun y=>decide (un d < un y)) d s1.P=s1.P.take j ++ d :: s1.P.drop j) (VE 6 (.agg (nmc d)) (VV 7 (fun v V=>∃ gb,v=.slice (some ⟨gb,0,none⟩) 1 1∧Blk V gb 50 (nmc d)∧W0.heap.size≤gb) VN)))))) [(1,some 12),(3,some 14),(4,some 15),(5,some 16),(6,some 17),(7,some 18)] 3 (fun _ _ h _=>h) (ve (ve (ve (VV.ext (fun v w w' h e=>h) (ve (VV.ext (fun v w w' ⟨gb,h1,h2,h3⟩ e=>⟨gb,h1,h2.ext e,h3⟩) VN.ext)))))) (zzc ?_ (zzc ?_ (zzc ?_ (zzc ?_ (zzc ?_ (zzc ?_ zzn)))))) ?_
 ·exact Cb
 ·exact Cb
 ·exact AQ
 ·refine zm [(3, some 14), (4, some 15)] fun env W6 hE hS hD K hK => ?_
  obtain ⟨h3,h4,-⟩:=zzV hD
  clear hD
  simp only [aR,h3,h4] at hK ⊢
  clear h3 h4
  go_simp
  go_at_call 82
  refine (aCg s1.A4 s1.n4 s1.c4 s1.P d W6 (HA6.out.own.ok.ext hE).s4).mono ?_
  exact CE
 ·exact AQ
 ·refine zm [(6, some 17)] fun env W6 hE hS hD K hK => ?_
  obtain ⟨h6,-⟩:=zzV hD
  clear hD
  simp only [aR,h6] at hK ⊢
  clear h6
  refine sX (.tmp 17) rfl rfl (oJ d W6) ?_
  exact Cr
 intro env W6 hE hS hV
 obtain ⟨h1,h3,h4,h5,h6,h7,-⟩:=zzV hV
 clear hV
 simp only [aR,h1,h3,h4,h6]
 clear h1 h3 h4
 generalize env 5=x5 at h5 ⊢
 clear h6
 generalize env 7=x7 at h7 ⊢
 have aA:=hS
 refine za 8 (fun K hK=>?_)
 (obtain ⟨j,rfl,hj,hins⟩:=h5;obtain ⟨gb,rfl,hgb,hgs⟩:=h7;go_simp;go_at_call 81;refine (aHp w.heap.size s1.A4 s1.n4 s1.c4 s1.P d j gb W6 (HA6.out.own.ext hE).o4 hgb (fun e=>by have h9:gb < W0.heap.size:=(World.ownsRow.lt HA6.out.own.o4 _ e).2;omega) (Nat.le_trans HA6.out.low.size hE.size) fs hj).mono ?_;rintro e w8 ⟨A8,c8,rfl,ho8,hg8⟩;have HO8:=zh ho8;have HG8:=zh hg8;have HI8:=zh hins;have HA7:=zh (HA6.out.ext hE);have HR7:=zh (HR6.out.ext hE);clear ho8 hg8 hins)
 refine hK.out _ _ (trivial) (fun aA=>?_)
 clear hK K
 try simp only [bB]
 refine zt 9 aA ?_
 refine za 10 (fun K hK=>?_)
 (have pb:=(HA7.out.blk.grown HG8.out (aL HA7.out.own.o4 HA7.out.blk ae));have pc:=pb.cell 3;have pf:=pb.frozen 3;go_simp)
 refine hK.out _ _ (trivial) (fun aA=>?_)
 clear hK K
 try simp only [bB]
 refine wpd ?_
 have HNX:=zh (HA7.out.row4 HG8.out HO8.out)
 have HFR:=zh (show Blk (w8.setCell ⟨w.heap.size,3,none⟩ (.slice A8 (s1.n4+1) c8)) (w.heap.size+2) 30 (ssA ss0) from ((HR7.out.grown HG8.out (aL HA7.out.own.o4 HR7.out ae)).far (p:=⟨w.heap.size,3,none⟩) dr _))
 obtain ⟨W8,hW8⟩:=gx (w8.setCell ⟨w.heap.size,3,none⟩ (.slice A8 (s1.n4+1) c8))
 rw [hW8] at HNX HFR ⊢
 obtain ⟨s2,hs2⟩:∃ s2:StR,{ s1 with A4:=A8,n4:=s1.n4+1,c4:=c8,P:=s1.P.take j ++ d :: s1.P.drop j }=s2:=⟨_,rfl⟩
 have HF:=zh (show StB w W8 w.heap.size s2 from od)
 have HFV:=zh (show s2.V=⟨s0.C,s0.Q,s0.K,dW s0.P d,s0.G⟩ from by
  rw [← hs2]
  obtain ⟨v1,v2,v3,v4,v5⟩:=HVS.out
  unfold StR.V
  rw [← HI8.out]
  simp only [v1,v2,v3,v4,v5]
  rw [show dW s0.P d=gW (fun y=>decide (un d < un y)) d s0.P from by have hv:=HVS.out.2.2.2.1;rw [← hv];unfold dW;rw [if_neg HFK.out]])
 clear hW8 hs2 HNX HA7 HR7 HG8 HO8 HI8 hE hS aA pb pc pf hgb hgs HA6 HX6 HR6
 exact up
theorem uJ (s0:StR) (d:UInt64) (w:World) (h:s0.ok w) (hn:s0.n1≤1000000∧s0.n2≤1000000∧s0.n3≤1000000∧s0.n4≤1000000):Calls prog 73 #[.agg (ssA s0),.agg (nmc d)] w (jB w ⟨s0.C,s0.Q,fC d s0.K,s0.P,s0.G⟩):=by
 obtain ⟨W,hW⟩:=gx (((w.alloc (.cells (ssA s0) 30)).alloc (.cells (nmc d) 50)).alloc (.cells #[.slice none 0 0,.slice none 0 0,.slice none 0 0,.slice none 0 0,.int .i64 0] 30))
 have HB:=zh (show Blk W w.heap.size 30 (ssA s0) from cf)
 have HD:=zh (show Blk W (w.heap.size+1) 50 (nmc d) from aw)
 have HR:=zh (show Blk W (w.heap.size+2) 30 (ssA ss0) from ag)
 have HE:=zh (show Ext w W from bc)
 have HS0:=zh h
 have HN:=zh hn
 obtain ⟨q0,q1,q2,q3,q4⟩:=aE HB.out
 clear h hn
 go_enter func73,ntmps73
 go_upto_region 2 with (first | (go_at_call 25;refine (dH s0 W (HS0.out.ext HE.out) HN.out).mono ?_;rintro e w5 ⟨s1,rfl,ho1,hv1,he1⟩;have HB1:=zh (HB.out.ext he1);have HD1:=zh (HD.out.ext he1);have HR1:=zh (HR.out.ext he1);have HO1:=zh (bO ho1 HE.out.size);have HV1:=zh hv1;have HX1:=zh (HE.out.trans he1);clear ho1 hv1 he1) | ((with_reducible refine aH rfl (.tmp 2) (.tmp 7) rfl w.heap.size s1 rfl rfl HB1.out ?_);intro W2 h2))
 have HST:=zh (show StB w W2 w.heap.size s1 from fc)
 have HD2:=zh (show Blk W2 (w.heap.size+1) 50 (nmc d) from jg)
 have HR2:=zh (show Blk W2 (w.heap.size+2) 30 (ssA ss0) from jf)
 obtain ⟨v1,v2,v3,v4,v5⟩:=aMG HV1.out
 have HVS:=zh (⟨v1,v2,v3,v4,v5⟩:s1.C=s0.C∧s1.Q=s0.Q∧s1.K=s0.K∧s1.P=s0.P∧s1.G=s0.G)
 have HBD:=zh (show s1.n3≤1000000∧s1.n4≤1000000 from by
  exact BD)
 clear v1 v2 v3 v4 v5 h2 q0 q1 q2 q3 q4 HB1 HD1 HR1 HO1 HX1 HV1 hW HB HD HR HE
 obtain ⟨q0,q1,q2,q3,q4⟩:=aE HST.out.blk
 have r4:W2.rangeAt (w.heap.size+1) 0 (RowT.enc d):=bS HD2.out
 rcases kD (fun l:LkR=>decide (l.nm=d)) s1.K with hno | ⟨k,hk,h1,h3⟩
 ·have HFK := zh (tX hno)
  have HFI:=zh (gL s1 d W2 HST.out.own.ok (-1) (.inl ⟨rfl,hno⟩))
  clear hno
  go_upto_region 5 with (first | (with_reducible refine aD nmP rfl (.tmp 3) rfl (w.heap.size+1) 0 rfl d _ rfl r4 ?_) | (go_at_call 129;refine HFI.out.mono ?_;rintro e W0 ⟨rfl,hE5⟩))
  clear r4
  have HF:=zh (show StB w W0 w.heap.size s1 from HST.out.ext hE5)
  have HFR:=zh (HR2.out.ext hE5)
  have HFV:=zh (show s1.V=⟨s0.C,s0.Q,fC d s0.K,s0.P,s0.G⟩ from by
   obtain ⟨v1,v2,v3,v4,v5⟩:=HVS.out
   unfold StR.V
   simp only [v1,v2,v3,v4,v5]
   rw [show fC d s0.K=s0.K from by have hv:=HVS.out.2.2.1;rw [← hv];exact HFK.out])
  obtain ⟨s2,hs2⟩:=gx (s1)
  rw [hs2] at HF HFV
  clear hs2 hE5 q0 q1 q2 q3 q4
  exact uq
 have HFK:=zh (tY hk h1 h3)
 have HFI:=zh (gL s1 d W2 HST.out.own.ok (k:Int) (.inr ⟨k,rfl,hk,h1,h3⟩))
 have k0:(0:Int)≤(k:Int):=aa
 have hkn:k < s1.n3:=by rw [← HST.out.own.l3];exact hk
 have k1:(k:Int) < (s1.n3:Int):=aa
 have k2:=HBD.out.1
 clear h1 h3 hk
 go_upto_region 4 with (first | (with_reducible refine aD nmP rfl (.tmp 3) rfl (w.heap.size+1) 0 rfl d _ rfl r4 ?_) | (go_at_call 129;refine HFI.out.mono ?_;rintro e W0 ⟨rfl,hE5⟩))
 have HA6:=zh (HST.out.ext hE5)
 have HR6:=zh (HR2.out.ext hE5)
 clear hE5 q0 q1 q2 q3 q4 r4
 obtain ⟨bb,hA,-,-⟩:=cM HA6.out.own.o3 aa
 have hq0:W0.cell? ⟨w.heap.size,2,none⟩=some (.slice (some ⟨bb,0,none⟩) s1.n3 s1.c3):=by rw [← hA];exact HA6.out.blk.cell 2
 have HDEL:=zh (aHE w.heap.size bb s1.n3 s1.c3 s1.K k W0 (by have:=HA6.out.own.o3;rwa [hA] at this) aa hkn)
 have HAA:=zh hA
 clear hA
 go_upto_region 5 with (first | (go_at_call 133;refine HDEL.out.mono ?_;rintro e w8 ⟨A8,c8,rfl,ho8,hg8⟩;have hg9:W0.grownBy w8 (Value.ownBlock (.slice s1.A3 s1.n3 s1.c3)):=(by rw [HAA.out];exact hg8);have pb:=(HA6.out.blk.grown hg9 (aL HA6.out.own.o3 HA6.out.blk ae));have pc:=pb.cell 2;have pf:=pb.frozen 2))
 have HNX:=zh (HA6.out.row3 hg9 ho8 (by
  intro y hy
  rcases List.mem_append.1 hy with hy | hy
  ·exact HA6.out.own.k3 y (List.mem_of_mem_take hy)
  exact HA6.out.own.k3 y (List.mem_of_mem_drop hy)))
 have HFR:=zh (show Blk (w8.setCell ⟨w.heap.size,2,none⟩ (.slice A8 (s1.n3 - 1) c8)) (w.heap.size+2) 30 (ssA ss0) from ((HR6.out.grown hg9 (aL HA6.out.own.o3 HR6.out ae)).far (p:=⟨w.heap.size,2,none⟩) dr _))
 obtain ⟨W8,hW8⟩:=gx (w8.setCell ⟨w.heap.size,2,none⟩ (.slice A8 (s1.n3 - 1) c8))
 rw [hW8] at HNX HFR ⊢
 obtain ⟨s2,hs2⟩:∃ s2:StR,{ s1 with A3:=A8,n3:=s1.n3 - 1,c3:=c8,K:=s1.K.take k ++ s1.K.drop (k+1) }=s2:=⟨_,rfl⟩
 have HF:=zh (show StB w W8 w.heap.size s2 from od)
 have HFV:=zh (show s2.V=⟨s0.C,s0.Q,fC d s0.K,s0.P,s0.G⟩ from by
  rw [← hs2]
  obtain ⟨v1,v2,v3,v4,v5⟩:=HVS.out
  unfold StR.V
  rw [← HFK.out]
  simp only [v1,v2,v3,v4,v5])
 clear hW8 hs2 HNX pb pc pf HDEL ho8 hg8 hg9 hq0 HA6 HR6
 exact uq
end
end Go.Proofs.YtgmnmjeccfnmbaaGreat
